/- Collect: the samples of a step, channel by channel. -/
import Derived.Test.YtmlcmnbjioabiaaSn
import Derived.Test.YtmlcmnbjioabiaaSm
namespace Go.Proofs.Ytmlcmnbjioabiaa
open Go.RowKit

theorem pick_st (A : Option Addr) (n c : Nat) (fs : List Fr) (unit step : Int) (g : Nat → Fr) (cf : Bool) (w : World) (hf : RFrames w A n fs) (hn : n ≤ 1000000) (hgood : ∀ f ∈ fs, checkF f = 0) (hp : pickAll unit (countF step 0) fs = (g, cf)) :
    Calls Try.prog 33 #[.slice A n c, .int .i64 unit, .int .i64 step] w fun e w' => ∃ cs, e = .returned (.tuple #[.agg cs, .bool cf]) ∧ Row12 w' g cs ∧ Ext w w' := by
  have h := pick_any A n c fs unit step w hf hn hgood
  unfold PickPost at h
  rw [hp] at h
  exact h

set_option maxRecDepth 100000 in
set_option maxHeartbeats 4000000 in
theorem collect_lost (A : Option Addr) (n c : Nat) (fs : List Fr) (unit step : Int) (g : Nat → Fr) (cf : Bool) (w : World) (hf : RFrames w A n fs) (hn : n ≤ 1000000) (hgood : ∀ f ∈ fs, checkF f = 0) (hp : pickAll unit (countF step 0) fs = (g, cf))
    (hu : btw unit 0 999 = true) (hst : btw step 0 1099511627776 = true) (hlost : ∃ k, k < 12 ∧ (g k).S.length = 0) :
    Calls Try.prog 24 #[.slice A n c, .int .i64 unit, .int .i64 step, .int .i64 3] w fun e w' => e = .returned (.tuple #[.slice none 0 0, .int .i64 18]) ∧ Ext w w' := by
  have HF := Lib.hid hf; have HGD := Lib.hid hgood; have HP := Lib.hid hp; have HU := Lib.hid hu; have HST := Lib.hid hst; have HLO := Lib.hid hlost
  have H3 : Hid (btw 3 1 8 = true) := Lib.hid rfl
  clear hf hgood hp hu hst hlost
  go_enter Try.func24, Try.ntmps24
  go_wp2_with fail
  refine (between_v _ _ _ _ _ HU.out).mono ?_
  rintro e w1 ⟨rfl, rfl⟩
  go_wp2_with fail
  refine (between_v _ _ _ _ _ HST.out).mono ?_
  rintro e w1 ⟨rfl, rfl⟩
  go_wp2_with fail
  refine (between_v _ _ _ _ _ H3.out).mono ?_
  rintro e w1 ⟨rfl, rfl⟩
  go_wp2_with fail
  refine (pick_st A n c fs unit step g cf w HF.out hn HGD.out HP.out).mono ?_
  rintro e w1 ⟨cs, rfl, hrow, hE⟩
  have hsz : (Try.prog.info? 68).map (·.size) = some cs.size := by rw [hrow.1]; kernel_rfl
  have hs60 := hrow.1
  have hall := hrow.all
  have HROW := Lib.hid hrow; clear hrow
  go_wp2_with (refine wpList_store_row rfl 68 _ _ rfl w1.heap.size cs rfl rfl 68 zrow (Blk.new w1 68 zrow) hsz (by rw [hs60]; simp [zrow, zfs, zfr]) hall ?_; rw [World.setRow_alloc_new])
  have bR := Blk.new w1 68 cs
  replace hE := hE.alloc (.cells cs 68)
  have HROW2 := Lib.hid (HROW.out.ext (Ext.new w1 (.cells cs 68)))
  clear HROW hall hsz hs60
  generalize w1.alloc (.cells cs 68) = W at *
  generalize w1.heap.size = gR at *
  go_loop [38] (fun i => ∃ k : Nat, k ≤ 12 ∧ i = .int .i64 k ∧ ∀ j, j < k → (g j).S.length ≠ 0) (fun i => 12 - (intOf i).toNat)
  case atStart => exact ⟨0, by omega, rfl, by omega⟩
  case round =>
    obtain ⟨k, hk, rfl, hj⟩ := hrel
    have HJ := Lib.hid hj; clear hj
    by_cases hlt : k < 12
    · obtain ⟨A', B', n', m', c', d', hr', z0, z1, z2, z3, z4⟩ := HROW2.out.2 k hlt
      have hl' := hr'.hS.len
      have HL' := Lib.hid hl'; clear hr' hl'
      have k3 := (bR.cell (k * 5 + 3)).trans z3
      have p1 : (0 : Int) ≤ (k : Int) := by omega
      have p2 : (k : Int) < 12 := by omega
      have hq0 : decide ((k : Int) < 12) = true := by simp; omega
      clear z0 z1 z2 z3 z4
      by_cases hn0 : n' = 0
      · subst hn0
        go_wp2_with fail
        go_ret2
        exact ⟨rfl, hE⟩
      · have hq : ((n' : Int) == 0) = false := by simp; omega
        go_wp2_with fail
        go_round
        case rel => exact ⟨k + 1, by omega, by go_num, fun j hj => by
          rcases Nat.lt_or_ge j k with h | h
          · exact HJ.out j h
          · obtain rfl : j = k := by omega
            rw [HL'.out]; exact hn0⟩
        case measure => simp [intOf]; omega
    · exfalso
      obtain ⟨k0, h1, h2⟩ := HLO.out
      exact HJ.out k0 (by omega) h2

/-- The samples, channel by channel. -/
def colRow (g : Nat → Fr) (c : Nat) : List Int := (List.range 12).map fun k => (g k).S.getD c 0
def colRows (g : Nat → Fr) : List (List Int) := (List.range 3).map (colRow g)
theorem good_v (f : Fr) (A B : Option Addr) (n m c d : Nat) (w : World) (hf : RFr w f A B n m c d) (h : goodF f = true) :
    Calls Try.prog 34 #[.agg #[.int .i64 f.unit, .int .i64 f.count, .bool f.sy, .slice A n c, .slice B m d]] w fun e w' => e = .returned (.bool true) ∧ Ext w w' := by
  rw [← h]; exact good_any f A B n m c d w hf
def rowCells (bs : List Nat) : Array Value := ((bs.map fun b => Value.slice (some ⟨b, 0, none⟩) 12 12) ++ List.replicate (3 - bs.length) (Value.slice none 0 0)).toArray
theorem rowCells_at {bs : List Nat} {c : Nat} (h : bs.length = c) (hc : c < 3) : (rowCells bs)[c]? = some (.slice none 0 0) := by
  unfold rowCells
  rw [List.getElem?_toArray, List.getElem?_append_right (by simp [h]), List.getElem?_replicate]
  simp [h]; omega
theorem rowCells_old {bs : List Nat} {j b : Nat} (h : bs[j]? = some b) : (rowCells bs)[j]? = some (.slice (some ⟨b, 0, none⟩) 12 12) := by
  unfold rowCells
  have hj := (List.getElem?_eq_some_iff.1 h).1
  rw [List.getElem?_toArray, List.getElem?_append_left (by simpa using hj), List.getElem?_map, h]; rfl
theorem rowCells_set {bs : List Nat} {b : Nat} (h : bs.length < 3) : (rowCells bs).setIfInBounds bs.length (.slice (some ⟨b, 0, none⟩) 12 12) = rowCells (bs ++ [b]) := by
  unfold rowCells
  rw [List.setIfInBounds_toArray]
  congr 1
  rw [List.set_append_right _ _ (by simp)]
  simp only [List.length_map, Nat.sub_self, List.map_append, List.map_cons, List.map_nil, List.append_assoc, List.length_append, List.length_cons, List.length_nil, Nat.zero_add]
  congr 1
  rw [show 3 - bs.length = (3 - (bs.length + 1)) + 1 by omega, List.replicate_succ]
  rfl
/-- A channel's samples while they are laid. -/
def mkRow (g : Nat → Fr) (c k : Nat) : List Int := (List.range 12).map fun q => if q < k then (g q).S.getD c 0 else 0
theorem mkRow_len (g : Nat → Fr) (c k : Nat) : (mkRow g c k).length = 12 := by simp [mkRow]
theorem mkRow_zero (g : Nat → Fr) (c : Nat) : mkRow g c 0 = List.replicate 12 0 := by simp [mkRow]; rfl
theorem mkRow_full (g : Nat → Fr) (c : Nat) : mkRow g c 12 = colRow g c := by
  unfold mkRow colRow
  refine List.map_congr_left fun q hq => ?_
  rw [if_pos (List.mem_range.1 hq)]
theorem mkRow_set {g : Nat → Fr} {c k : Nat} {x : Int} (_hk : k < 12) (hx : (g k).S[c]? = some x) : (mkRow g c k).set k x = mkRow g c (k + 1) := by
  unfold mkRow
  apply List.ext_getElem
  · simp
  · intro i h1 h2
    simp only [List.length_set, List.length_map, List.length_range] at h1
    rw [List.getElem_set]
    simp only [List.getElem_map, List.getElem_range]
    by_cases hik : k = i
    · subst hik
      rw [if_pos rfl, if_pos (by omega), List.getD_eq_getElem?_getD, hx]; rfl
    · rw [if_neg hik]
      by_cases h : i < k
      · rw [if_pos h, if_pos (by omega)]
      · rw [if_neg h, if_neg (by omega)]
theorem hmk12i (W : World) : (Instr.makeSlice 22 (.int .i64 12) (.int .i64 12)).run Try.prog W = .ok (.slice (some ⟨W.heap.size, 0, none⟩) 12 12) (W.alloc (.cells (List.replicate 12 (Value.int .i64 0)).toArray 3)) := by kernel_rfl
theorem hmk3 (W : World) : (Instr.makeSlice 35 (.int .i64 3) (.int .i64 3)).run Try.prog W = .ok (.slice (some ⟨W.heap.size, 0, none⟩) 3 3) (W.alloc (.cells (List.replicate 3 (Value.slice none 0 0)).toArray 22)) := by kernel_rfl

set_option maxRecDepth 100000 in
set_option maxHeartbeats 4000000 in
theorem collect_ok (A : Option Addr) (n c : Nat) (fs : List Fr) (unit step : Int) (g : Nat → Fr) (w : World) (hf : RFrames w A n fs) (hn : n ≤ 1000000) (hgood : ∀ f ∈ fs, checkF f = 0) (hp : pickAll unit (countF step 0) fs = (g, false))
    (hu : btw unit 0 999 = true) (hst : btw step 0 1099511627776 = true) (hlost : ∀ k, k < 12 → (g k).S.length = 3 ∧ goodF (g k) = true) :
    Calls Try.prog 24 #[.slice A n c, .int .i64 unit, .int .i64 step, .int .i64 3] w fun e w' => ∃ D, e = .returned (.tuple #[.slice (some D) 3 3, .int .i64 0]) ∧ RRows w' (some D) 3 (colRows g) ∧ Ext w w' := by
  have HF := Lib.hid hf; have HGD := Lib.hid hgood; have HP := Lib.hid hp; have HU := Lib.hid hu; have HST := Lib.hid hst; have HLO := Lib.hid hlost
  have H3 : Hid (btw 3 1 8 = true) := Lib.hid rfl
  clear hf hgood hp hu hst hlost
  go_enter Try.func24, Try.ntmps24
  go_wp2_with fail
  refine (between_v _ _ _ _ _ HU.out).mono ?_
  rintro e w1 ⟨rfl, rfl⟩
  go_wp2_with fail
  refine (between_v _ _ _ _ _ HST.out).mono ?_
  rintro e w1 ⟨rfl, rfl⟩
  go_wp2_with fail
  refine (between_v _ _ _ _ _ H3.out).mono ?_
  rintro e w1 ⟨rfl, rfl⟩
  go_wp2_with fail
  refine (pick_st A n c fs unit step g false w HF.out hn HGD.out HP.out).mono ?_
  rintro e w1 ⟨cs, rfl, hrow, hE⟩
  have hsz : (Try.prog.info? 68).map (·.size) = some cs.size := by rw [hrow.1]; kernel_rfl
  have hs60 := hrow.1
  have hall := hrow.all
  have HROW := Lib.hid hrow; clear hrow
  go_wp2_with (refine wpList_store_row rfl 68 _ _ rfl w1.heap.size cs rfl rfl 68 zrow (Blk.new w1 68 zrow) hsz (by rw [hs60]; simp [zrow, zfs, zfr]) hall ?_; rw [World.setRow_alloc_new])
  have bR := Blk.new w1 68 cs
  have hgR2 := hE.size
  replace hE := hE.alloc (.cells cs 68)
  have HROW2 := Lib.hid (HROW.out.ext (Ext.new w1 (.cells cs 68)))
  clear HROW hall hsz hs60
  generalize w1.alloc (.cells cs 68) = W at *
  generalize w1.heap.size = gR at *
  go_loop [38] (fun i => ∃ k : Nat, k ≤ 12 ∧ i = .int .i64 k) (fun i => 12 - (intOf i).toNat)
  case atStart => exact ⟨0, by omega, rfl⟩
  case round =>
    obtain ⟨k, hk, rfl⟩ := hrel
    by_cases hlt : k < 12
    · obtain ⟨A', B', n', m', c', d', hr', z0, z1, z2, z3, z4⟩ := HROW2.out.2 k hlt
      have hn3 : n' = 3 := by have := hr'.hS.len; have := (HLO.out k hlt).1; omega
      subst hn3
      have k3 := (bR.cell (k * 5 + 3)).trans z3
      have p1 : (0 : Int) ≤ (k : Int) := by omega
      have p2 : (k : Int) < 12 := by omega
      have hq0 : decide ((k : Int) < 12) = true := by simp; omega
      clear hr' z0 z1 z2 z3 z4
      go_wp2_with fail
      go_round
      case rel => exact ⟨k + 1, by omega, by go_num⟩
      case measure => simp [intOf]; omega
    · obtain rfl : k = 12 := by omega
      go_wp2_with fail
      go_loop [49] (fun i => ∃ k : Nat, k ≤ 12 ∧ i = .int .i64 k) (fun i => 12 - (intOf i).toNat)
      case atStart => exact ⟨0, by omega, rfl⟩
      case round =>
        obtain ⟨k, hk, rfl⟩ := hrel
        by_cases hlt : k < 12
        · obtain ⟨A', B', n', m', c', d', hr', z0, z1, z2, z3, z4⟩ := HROW2.out.2 k hlt
          have hn3 : n' = 3 := by have := hr'.hS.len; have := (HLO.out k hlt).1; omega
          subst hn3
          have k3 := (bR.cell (k * 5 + 3)).trans z3
          have p1 : (0 : Int) ≤ (k : Int) := by omega
          have p2 : (k : Int) < 12 := by omega
          have hq0 : decide ((k : Int) < 12) = true := by simp; omega
          clear hr' z0 z1 z2 z3 z4
          go_wp2_with fail
          go_round
          case rel => exact ⟨k + 1, by omega, by go_num⟩
          case measure => simp [intOf]; omega
        · obtain rfl : k = 12 := by omega
          go_wp2_with fail
          go_loopw [60] (fun i wr => ∃ k : Nat, k ≤ 12 ∧ i = .int .i64 k ∧ Ext W wr) (fun i _ => 12 - (intOf i).toNat)
          case atStart => exact ⟨0, by omega, rfl, Ext.refl _⟩
          case round =>
            obtain ⟨k, hk, rfl, hX⟩ := hrel
            by_cases hlt : k < 12
            · obtain ⟨A', B', n', m', c', d', hr', z0, z1, z2, z3, z4⟩ := HROW2.out.2 k hlt
              have bW := bR.ext hX
              have k0 := (bW.cell (k * 5)).trans z0; have k1 := (bW.cell (k * 5 + 1)).trans z1; have k2 := (bW.cell (k * 5 + 2)).trans z2; have k3 := (bW.cell (k * 5 + 3)).trans z3; have k4 := (bW.cell (k * 5 + 4)).trans z4
              have HG := Lib.hid (HLO.out k hlt).2
              have HR' := Lib.hid (hr'.ext hX)
              have p1 : (0 : Int) ≤ (k : Int) := by omega
              have p2 : (k : Int) < 12 := by omega
              have hq0 : decide ((k : Int) < 12) = true := by simp; omega
              clear hr' z0 z1 z2 z3 z4 bW
              go_wp2_with fail
              refine (good_v _ _ _ _ _ _ _ _ HR'.out HG.out).mono ?_
              rintro e w2 ⟨rfl, hx⟩
              replace hX := hX.trans hx
              clear hx k0 k1 k2 k3 k4
              go_wp2_with fail
              go_roundw
              case rel => exact ⟨k + 1, by omega, by go_num, hX⟩
              case measure => simp [intOf]; omega
            · obtain rfl : k = 12 := by omega
              replace bR := bR.ext hX
              replace hE := hE.trans hX
              have HROW3 := Lib.hid (HROW2.out.ext hX)
              clear hX HROW2
              have hmk := hmk3 wr
              go_wp2_with fail
              clear hmk
              have bL := Blk.new wr 22 (rowCells [])
              have hRL := bR.lt
              replace bR := bR.alloc (.cells (rowCells []) 22)
              have hWw := Ext.new wr (.cells (rowCells []) 22)
              have hgL := hE.size
              replace hE := hE.alloc (.cells (rowCells []) 22)
              have HSM : Hid (∀ k, k < 12 → ∃ A' c', cs[k * 5 + 3]? = some (.slice A' 3 c') ∧ ∀ c, c < 3 → ∃ ad x, A' = some ad ∧ ad.block < wr.heap.size ∧ (g k).S[c]? = some x ∧ (wr.alloc (.cells (rowCells []) 22)).cell? (ad.add c) = some (.int .i64 x)) := Lib.hid (by
                intro k hk
                obtain ⟨A', B', n', m', c', d', hr', z0, z1, z2, z3, z4⟩ := HROW3.out.2 k hk
                have hn3 : n' = 3 := by have := hr'.hS.len; have := (HLO.out k hk).1; omega
                subst hn3
                refine ⟨A', c', z3, fun c hc => ?_⟩
                obtain ⟨ad, x, e1, hb, hx, hcl⟩ := hr'.hS.int_at (k := c) hc
                exact ⟨ad, x, e1, hb, hx, hWw.cell_ hcl⟩)
              clear HROW3 hWw
              generalize hWL : wr.alloc (.cells (rowCells []) 22) = V
              rw [show wr.alloc (.cells (rowCells []) 22) = V from hWL] at bL bR hE HSM
              rw [show wr.alloc (.cells #[.slice none 0 0, .slice none 0 0, .slice none 0 0] 22) = V from hWL]
              have hVsz : V.heap.size = wr.heap.size + 1 := by rw [← hWL]; simp
              clear hWL
              generalize wr.heap.size = gL at *
              have hgW := hRL
              go_loopw [73] (fun i wr => ∃ c : Nat, c ≤ 3 ∧ i = .int .i64 c ∧ ∃ bs : List Nat, bs.length = c ∧ Blk wr gL 22 (rowCells bs) ∧ (∀ j b, bs[j]? = some b → gL < b ∧ Blk wr b 3 ((colRow g j).map (.int .i64)).toArray) ∧ Blk wr gR 68 cs ∧ Ext w wr ∧ V.heap.size ≤ wr.heap.size ∧ (∀ i, i < V.heap.size → i ≠ gL → wr.heap[i]? = V.heap[i]?)) (fun i _ => 3 - (intOf i).toNat)
              case atStart => exact ⟨0, by omega, rfl, [], rfl, bL, by simp, bR, hE, Nat.le_refl _, fun _ _ _ => rfl⟩
              case round =>
                clear bL bR hE
                obtain ⟨c, hc, rfl, bs, hbs, bL, hrows, bR, hE, hsz, hsame⟩ := hrel
                have HROWS := Lib.hid hrows; have HSAME := Lib.hid hsame; have HBS := Lib.hid hbs
                clear hrows hsame hbs
                by_cases hlt : c < 3
                · have q0 : decide ((c : Int) < 3) = true := by simp; omega
                  have p1 : (0 : Int) ≤ (c : Int) := by omega
                  have p2 : (c : Int) < 3 := by omega
                  have hLlt := bL.lt
                  have hRlt := bR.lt
                  have cL : ∀ o, (wr.alloc o).cell? ⟨gL, c, none⟩ = some (.slice none 0 0) := fun o => ((bL.alloc o).cell c).trans (rowCells_at HBS.out hlt)
                  have fL : ∀ o, (wr.alloc o).frozen? ⟨gL, c, none⟩ = false := fun o => (bL.alloc o).frozen c
                  have hmk := hmk12i wr
                  go_wp2_with fail
                  clear cL fL hmk
                  have bN : Blk ((wr.setCell ⟨gL, c, none⟩ (.slice (some ⟨wr.heap.size, 0, none⟩) 12 12)).alloc (.cells ((mkRow g c 0).map (.int .i64)).toArray 3)) wr.heap.size 3 ((mkRow g c 0).map (.int .i64)).toArray := Blk.new' 3 _ (by simp)
                  have bL2 := (bL.set_ c (.slice (some ⟨wr.heap.size, 0, none⟩) 12 12)).alloc (.cells ((mkRow g c 0).map (.int .i64)).toArray 3)
                  rw [← HBS.out, rowCells_set (by rw [HBS.out]; exact hlt), HBS.out] at bL2
                  have HROWS2 : Hid (∀ j b, bs[j]? = some b → gL < b ∧ b < wr.heap.size ∧ Blk ((wr.setCell ⟨gL, c, none⟩ (.slice (some ⟨wr.heap.size, 0, none⟩) 12 12)).alloc (.cells ((mkRow g c 0).map (.int .i64)).toArray 3)) b 3 ((colRow g j).map (.int .i64)).toArray) := Lib.hid fun j b hj => by
                    obtain ⟨h1, h2⟩ := HROWS.out j b hj
                    exact ⟨h1, h2.lt, (h2.far (p := ⟨gL, c, none⟩) (by show b ≠ gL; omega) _).alloc _⟩
                  have bR2 := (bR.far (p := ⟨gL, c, none⟩) (by show gR ≠ gL; omega) (.slice (some ⟨wr.heap.size, 0, none⟩) 12 12)).alloc (.cells ((mkRow g c 0).map (.int .i64)).toArray 3)
                  have hE2 := (hE.setCell (p := ⟨gL, c, none⟩) hgL (.slice (some ⟨wr.heap.size, 0, none⟩) 12 12)).alloc (.cells ((mkRow g c 0).map (.int .i64)).toArray 3)
                  have HSAME2 : Hid (∀ i, i < V.heap.size → i ≠ gL → ((wr.setCell ⟨gL, c, none⟩ (.slice (some ⟨wr.heap.size, 0, none⟩) 12 12)).alloc (.cells ((mkRow g c 0).map (.int .i64)).toArray 3)).heap[i]? = V.heap[i]?) := Lib.hid fun i hi hne => by
                    rw [← HSAME.out i hi hne]
                    exact (Below.heap_alloc _ _ i (by simp; omega)).trans (Below.heap_setCell wr ⟨gL, c, none⟩ _ i hne)
                  have hsz2 : V.heap.size ≤ ((wr.setCell ⟨gL, c, none⟩ (.slice (some ⟨wr.heap.size, 0, none⟩) 12 12)).alloc (.cells ((mkRow g c 0).map (.int .i64)).toArray 3)).heap.size := by simp; omega
                  have hbw : w.heap.size ≤ wr.heap.size := hE.size
                  clear HROWS HSAME bL bR hE
                  generalize hX : (wr.setCell ⟨gL, c, none⟩ (.slice (some ⟨wr.heap.size, 0, none⟩) 12 12)).alloc (.cells ((mkRow g c 0).map (.int .i64)).toArray 3) = X at bN bL2 HROWS2 bR2 hE2 HSAME2 hsz2
                  rw [mkRow_zero] at hX
                  rw [show (wr.setCell ⟨gL, c, none⟩ (.slice (some ⟨wr.heap.size, 0, none⟩) 12 12)).alloc (.cells #[.int .i64 0, .int .i64 0, .int .i64 0, .int .i64 0, .int .i64 0, .int .i64 0, .int .i64 0, .int .i64 0, .int .i64 0, .int .i64 0, .int .i64 0, .int .i64 0] 3) = X from hX]
                  clear hX
                  generalize wr.heap.size = b at *
                  go_loopw [80] (fun i wr => ∃ k : Nat, k ≤ 12 ∧ i = .int .i64 k ∧ Blk wr b 3 ((mkRow g c k).map (.int .i64)).toArray ∧ Blk wr gL 22 (rowCells (bs ++ [b])) ∧ (∀ j b', bs[j]? = some b' → gL < b' ∧ b' < b ∧ Blk wr b' 3 ((colRow g j).map (.int .i64)).toArray) ∧ Blk wr gR 68 cs ∧ Ext w wr ∧ V.heap.size ≤ wr.heap.size ∧ (∀ i, i < V.heap.size → i ≠ gL → wr.heap[i]? = V.heap[i]?)) (fun i _ => 12 - (intOf i).toNat)
                  case atStart => exact ⟨0, by omega, rfl, bN, bL2, HROWS2.out, bR2, hE2, hsz2, HSAME2.out⟩
                  case round =>
                    clear bN bL2 HROWS2 bR2 hE2 HSAME2 hsz2
                    obtain ⟨k, hk, rfl, bN, bL, hrows, bR, hE, hsz2, hsame⟩ := hrel
                    have HROWS := Lib.hid hrows; have HSAME := Lib.hid hsame
                    clear hrows hsame
                    by_cases hlt2 : k < 12
                    · have q0 : decide ((k : Int) < 12) = true := by simp; omega
                      have p3 : (0 : Int) ≤ (k : Int) := by omega
                      have p4 : (k : Int) < 12 := by omega
                      obtain ⟨A', c', z3, hsm⟩ := HSM.out k hlt2
                      obtain ⟨ad, x, rfl, hab, hx, hcl⟩ := hsm c hlt
                      have e1 := (bL.cell c).trans (rowCells_old (j := c) (b := b) (by rw [List.getElem?_append_right (by rw [HBS.out]; exact Nat.le_refl _), HBS.out]; simp))
                      have e2 := (bR.cell (k * 5 + 3)).trans z3
                      have e3 : wr.cell? (ad.add c) = some (.int .i64 x) := (World.cell?_of_block (HSAME.out (ad.add c).block (by rw [block_of_add]; omega) (by rw [block_of_add]; omega))).trans hcl
                      obtain ⟨u0, e4⟩ := bN.cell_some (i := k) (by rw [List.length_map, mkRow_len]; exact hlt2)
                      have e5 := bN.frozen k
                      have HXS := Lib.hid hx
                      clear hx hcl hsm z3
                      obtain ⟨ab, ao, ai⟩ := ad
                      go_wp2_with fail
                      go_region
                      have bN2 := (bN.setL (i := k) (.int .i64 x)).drew
                      rw [← List.map_set, mkRow_set hlt2 HXS.out] at bN2
                      go_wp2_with fail
                      go_roundw
                      case rel =>
                        refine ⟨_, _, _, _, _, _, _, _, _, _, _, _, _, _, _, _, _, _, ?_, rfl⟩
                        refine ⟨k + 1, by omega, by go_num, bN2, (bL.far (p := ⟨b, k, none⟩) (by show gL ≠ b; omega) _).drew, fun j b' hj => ?_, (bR.far (p := ⟨b, k, none⟩) (by show gR ≠ b; omega) _).drew, (hE.setCell (p := ⟨b, k, none⟩) hbw _).drew, by simpa using hsz2, fun i hi hne => ?_⟩
                        · obtain ⟨h1, h2, h3⟩ := HROWS.out j b' hj
                          exact ⟨h1, h2, (h3.far (p := ⟨b, k, none⟩) (by show b' ≠ b; omega) _).drew⟩
                        · rw [← HSAME.out i hi hne]
                          exact Below.heap_setCell wr ⟨b, k, none⟩ _ i (by show i ≠ b; omega)
                      case measure => simp [intOf]; omega
                    · obtain rfl : k = 12 := by omega
                      rw [mkRow_full] at bN
                      go_wp2_with fail
                      go_roundw
                      case rel =>
                        refine ⟨c + 1, by omega, by go_num, bs ++ [b], by simp [HBS.out], bL, fun j b' hj => ?_, bR, hE, hsz2, HSAME.out⟩
                        rcases Nat.lt_or_ge j bs.length with h | h
                        · rw [List.getElem?_append_left h] at hj
                          obtain ⟨h1, h2, h3⟩ := HROWS.out j b' hj
                          exact ⟨h1, h3⟩
                        · have hjc : j = bs.length := by
                            have := (List.getElem?_eq_some_iff.1 hj).1
                            simp at this; omega
                          subst hjc
                          simp at hj
                          subst hj
                          rw [HBS.out]
                          exact ⟨hLlt, bN⟩
                      case measure => simp [intOf]; omega
                · obtain rfl : c = 3 := by omega
                  go_wp2_with fail
                  go_ret2
                  refine ⟨⟨gL, 0, none⟩, rfl, ⟨by simp [colRows], fun _ => ⟨_, rfl, bL.lt, fun j r hr => ?_⟩⟩, hE⟩
                  have hj : j < 3 := by have := (List.getElem?_eq_some_iff.1 hr).1; simpa [colRows] using this
                  have hr' : r = colRow g j := by
                    unfold colRows at hr
                    rw [List.getElem?_map, List.getElem?_range hj] at hr
                    simpa using hr.symm
                  subst hr'
                  have hb := List.getElem?_eq_getElem (l := bs) (i := j) (by rw [HBS.out]; exact hj)
                  obtain ⟨h1, h2⟩ := HROWS.out j _ hb
                  have hc0 := (bL.cell j).trans (rowCells_old hb)
                  have e : Addr.add ⟨gL, 0, none⟩ j = ⟨gL, j, none⟩ := by unfold Addr.add; by_cases hj : j = 0 <;> simp [hj]
                  have hrd := h2.reads (n := 12) (size := 1) (by simp [colRow])
                  exact ⟨_, 12, 12, by rw [e]; exact hc0, by simpa using hrd, by omega⟩
end Go.Proofs.Ytmlcmnbjioabiaa
