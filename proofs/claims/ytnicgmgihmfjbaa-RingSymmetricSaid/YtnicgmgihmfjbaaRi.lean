/- Ring: the order of arrivals as the program has it, and the library's sort by it. -/
import Derived.Shelf.SlSortCmp.WholeK
import Derived.Shelf.SlSortCmp.NoneTotal
import Derived.Test.YtnicgmgihmfjbaaSort
import Derived.Test.YtnicgmgihmfjbaaRg
namespace Go.Proofs.Ytnicgmgihmfjbaa
open Go.RowKit Go.Shelf Go.Sort
open Rg (Arr)

instance : Inhabited Arr := ⟨⟨0, 0, 0, 0⟩⟩
def cmpI (x y : Int) : Int := if x < y then -1 else if y < x then 1 else 0
theorem cmpI_zero {x y : Int} : cmpI x y = 0 ↔ x = y := by unfold cmpI; split <;> (try split) <;> omega
theorem cmpI_neg {x y : Int} : cmpI x y < 0 ↔ x < y := by unfold cmpI; split <;> (try split) <;> omega
theorem cmpI_bd (x y : Int) : -1 ≤ cmpI x y ∧ cmpI x y ≤ 1 := by unfold cmpI; split <;> (try split) <;> omega

theorem ccmp_any (x y : Int) (w : World) : Calls Try.prog 28 #[.int .i64 x, .int .i64 y] w fun e w' => e = .returned (.int .i64 (cmpI x y)) ∧ w = w' := by
  unfold cmpI
  by_cases h : x < y
  · go_enter Try.func28, Try.ntmps28
    go_wp2
    go_ret
    exact ⟨ret_int (by simp), rfl⟩
  · by_cases h2 : y < x
    · go_enter Try.func28, Try.ntmps28
      go_wp2
      go_ret
      exact ⟨ret_int (by simp), rfl⟩
    · go_enter Try.func28, Try.ntmps28
      go_wp2
      go_ret
      exact ⟨ret_int (by simp), rfl⟩

def orI : List Int → Int
  | [] => 0
  | x :: l => if x = 0 then orI l else x
theorem orI_drop0 {l : List Int} {k : Nat} (h : l[k]? = some 0) : orI (l.drop k) = orI (l.drop (k + 1)) := by
  obtain ⟨h1, h2⟩ := List.getElem?_eq_some_iff.1 h
  rw [List.drop_eq_getElem_cons h1, h2]; simp [orI]
theorem orI_drop {l : List Int} {k : Nat} {x : Int} (h : l[k]? = some x) (hx : x ≠ 0) : orI (l.drop k) = x := by
  obtain ⟨h1, h2⟩ := List.getElem?_eq_some_iff.1 h
  rw [List.drop_eq_getElem_cons h1, h2]; simp [orI, hx]

set_option maxHeartbeats 400000 in
theorem cor_any (l : List Int) (n c g : Nat) (w : World) (hB : Blk w g 3 (l.map (.int .i64)).toArray) (hn : l.length = n) (hn' : n ≤ 10) :
    Calls Try.prog 27 #[.slice (some ⟨g, 0, none⟩) n c] w fun e w' => e = .returned (.int .i64 (orI l)) ∧ w = w' := by
  go_enter Try.func27, Try.ntmps27
  go_wp2_with fail
  go_loop [8] (fun i => ∃ k : Nat, k ≤ n ∧ i = .int .i64 k ∧ orI l = orI (l.drop k)) (fun i => n - (intOf i).toNat)
  case atStart => exact ⟨0, Nat.zero_le _, rfl, rfl⟩
  case round =>
    obtain ⟨k, hk, rfl, hch⟩ := hrel
    have HC := Lib.hid hch; clear hch
    by_cases hlt : k < n
    · have hx : l[k]? = some l[k] := List.getElem?_eq_getElem (by omega)
      generalize l[k] = x at hx
      have hc : w.cell? ⟨g, k, none⟩ = some (.int .i64 x) := by rw [hB.cell]; simp [hx]
      have HX := Lib.hid hx; clear hx
      by_cases h0 : x = 0
      · subst h0
        go_wp2_with fail
        go_round
        case rel => exact ⟨k + 1, by omega, by go_num, by rw [HC.out, orI_drop0 HX.out]⟩
        case measure => simp [intOf]; omega
      · have h6 : (x != 0) = true := by simp [h0]
        go_wp2_with fail
        go_ret
        exact ⟨ret_int (by rw [HC.out, orI_drop HX.out h0]), rfl⟩
    · go_wp2_with fail
      go_ret
      exact ⟨ret_int (by rw [HC.out, List.drop_eq_nil_of_le (by omega)]; rfl), rfl⟩

/-- The program's comparison. -/
def cf (x y : Arr) : Int := orI [cmpI x.a y.a, cmpI x.n y.n, cmpI x.f y.f, cmpI x.d y.d]
theorem cf_ltB (x y : Arr) : ltOf cf x y = Rg.lt x y := by
  unfold ltOf cf Rg.lt
  by_cases h1 : x.a = y.a <;> by_cases h2 : x.n = y.n <;> by_cases h3 : x.f = y.f <;> by_cases h4 : x.d = y.d <;> simp [orI, cmpI_zero, cmpI_neg, h1, h2, h3, h4]
theorem swoArr : SWO (ltOf cf) where
  irrefl x := by rw [cf_ltB]; exact Rg.lt_irrefl x
  trans x y z h1 h2 := by rw [cf_ltB] at *; exact Rg.lt_trans h1 h2
  ntrans x y z h1 h2 := by
    rw [cf_ltB] at *
    cases h3 : Rg.lt x z
    · rfl
    · cases h4 : Rg.lt y x
      · obtain rfl := Rg.lt_total h1 h4; rw [h3] at h2; cases h2
      · have := Rg.lt_trans h4 h3; rw [this] at h2; cases h2

/-- An arrival's four cells. -/
def encA (x : Arr) : List Value := [.int .i64 x.f, .int .i64 x.n, .int .i64 x.a, .int .i64 x.d]

set_option maxRecDepth 100000 in
set_option maxHeartbeats 1000000 in
theorem cmp1_any (x y : Arr) (W : World) : Calls Try.prog 26 #[.agg (encA x).toArray, .agg (encA y).toArray] W fun e w' => e = .returned (.int .i64 (cf x y)) ∧ ∃ q os', w' = grow (W.drewN q) os' := by
  unfold encA
  have b2 := (Blk.new W 57 #[.int .i64 x.f, .int .i64 x.n, .int .i64 x.a, .int .i64 x.d]).alloc (.cells #[.int .i64 y.f, .int .i64 y.n, .int .i64 y.a, .int .i64 y.d] 57)
  have b3 := Blk.new (W.alloc (.cells #[.int .i64 x.f, .int .i64 x.n, .int .i64 x.a, .int .i64 x.d] 57)) 57 #[.int .i64 y.f, .int .i64 y.n, .int .i64 y.a, .int .i64 y.d]
  simp only [World.size_alloc] at b3
  have Y2 := ExtOf.blk b2
  have Y3 := ExtOf.blk b3
  clear b2 b3
  go_enter Try.func26, Try.ntmps26
  go_wp2_with fail
  generalize hW : (W.alloc (.cells #[.int .i64 x.f, .int .i64 x.n, .int .i64 x.a, .int .i64 x.d] 57)).alloc (.cells #[.int .i64 y.f, .int .i64 y.n, .int .i64 y.a, .int .i64 y.d] 57) = W2 at *
  have HW := Lib.hid hW; clear hW
  refine wp_region_ordE 22 [(true, 0), (true, 1), (true, 2), (true, 3), (true, 5), (true, 6), (true, 7), (true, 8), (true, 10), (true, 11), (true, 12), (true, 13), (true, 15), (true, 16), (true, 17), (true, 18), (false, 4), (false, 9), (false, 14), (false, 19), (false, 20), (false, 21)] (by kernel_rfl) (by kernel_rfl) ?_
  refine wpOrdT_quiet [0, 1, 2, 3, 5, 6, 7, 8, 10, 11, 12, 13, 15, 16, 17, 18] [(false, 4), (false, 9), (false, 14), (false, 19), (false, 20), (false, 21)] _ (by kernel_rfl) ?_
  simp only [nthOps, nthOp, List.cons_append, List.nil_append]
  repeat (go_big_quiet_step (fail))
  refine wpQuiet_nil ?_
  have E0 : Ext W2 W2.drew := (Ext.refl _).drew
  have hB : Blk (W2.drew.alloc (.cells #[.int .i64 (cmpI x.a y.a), .int .i64 (cmpI x.n y.n), .int .i64 (cmpI x.f y.f), .int .i64 (cmpI x.d y.d)] 3)) W2.heap.size 3 ([cmpI x.a y.a, cmpI x.n y.n, cmpI x.f y.f, cmpI x.d y.d].map (.int .i64)).toArray := Blk.new _ _ _
  have HB := Lib.hid hB; clear hB
  refine wpOrdT_act 4 [(false, 9), (false, 14), (false, 19), (false, 20), (false, 21)] (by kernel_rfl) ?_
  intro K hK
  simp only [nthOp]
  go_wp2_with fail
  refine (ccmp_any _ _ _).mono ?_
  rintro e w1 ⟨rfl, rfl⟩
  go_wp2
  refine hK _ _ ⟨⟨_, E0⟩, rfl⟩ ?_
  clear hK K
  refine wpOrdT_act 9 [(false, 14), (false, 19), (false, 20), (false, 21)] (by kernel_rfl) ?_
  intro K hK
  simp only [nthOp]
  go_wp2_with fail
  refine (ccmp_any _ _ _).mono ?_
  rintro e w1 ⟨rfl, rfl⟩
  go_wp2
  refine hK _ _ ⟨⟨_, E0⟩, rfl⟩ ?_
  clear hK K
  refine wpOrdT_act 14 [(false, 19), (false, 20), (false, 21)] (by kernel_rfl) ?_
  intro K hK
  simp only [nthOp]
  go_wp2_with fail
  refine (ccmp_any _ _ _).mono ?_
  rintro e w1 ⟨rfl, rfl⟩
  go_wp2
  refine hK _ _ ⟨⟨_, E0⟩, rfl⟩ ?_
  clear hK K
  refine wpOrdT_act 19 [(false, 20), (false, 21)] (by kernel_rfl) ?_
  intro K hK
  simp only [nthOp]
  go_wp2_with fail
  refine (ccmp_any _ _ _).mono ?_
  rintro e w1 ⟨rfl, rfl⟩
  go_wp2
  refine hK _ _ ⟨⟨_, E0⟩, rfl⟩ ?_
  clear hK K
  refine wpOrdT_act 20 [(false, 21)] (by kernel_rfl) ?_
  intro K hK
  simp only [nthOp]
  go_wp2_with fail
  refine hK _ _ ⟨⟨_, E0.alloc _⟩, rfl⟩ ?_
  clear hK K
  refine wpOrdT_act 21 [] (by kernel_rfl) ?_
  intro K hK
  simp only [nthOp]
  go_wp2_with fail
  refine (cor_any _ 4 4 _ _ HB.out rfl (by omega)).mono ?_
  rintro e w1 ⟨rfl, rfl⟩
  go_wp2
  refine hK _ _ ⟨⟨_, E0.alloc _⟩, rfl⟩ ?_
  clear hK K
  simp only [wpOrdT, List.drop_succ_cons, List.drop_zero]
  go_wp2_with fail
  go_ret
  refine ⟨rfl, 1, #[.cells #[.int .i64 x.f, .int .i64 x.n, .int .i64 x.a, .int .i64 x.d] 57, .cells #[.int .i64 y.f, .int .i64 y.n, .int .i64 y.a, .int .i64 y.d] 57, .cells #[.int .i64 (cmpI x.a y.a), .int .i64 (cmpI x.n y.n), .int .i64 (cmpI x.f y.f), .int .i64 (cmpI x.d y.d)] 3], ?_⟩
  rw [← HW.out, show ∀ U : World, U.drew = U.drewN 1 from fun _ => rfl]
  rw [alloc_eq_grow, alloc_eq_grow, alloc_eq_grow, grow_grow]
  show grow (grow (W.drewN 1) _) _ = _
  rw [grow_grow]
  rfl

theorem cmp1_lays (blk off size : Nat) (w : World) : CmpLays Try.prog 26 #[] encA 4 cf blk off size w := fun _ _ _ _ x y => cmp1_any x y _

/-- slices.SortFunc by the program's comparison. -/
theorem sort_any (blk cap : Nat) (d : Array Arr) (w : World) (hH : HoldsK encA 4 w blk 0 d) (hblk : blk < w.heap.size) (hsz : d.size < 4611686018427387904) :
    Calls Try.prog 25 #[.slice (some ⟨blk, 0, none⟩) d.size cap, .func (.func 26) #[] #[]] w fun e w' => e = .returned (.tuple #[]) ∧ ∃ d' n os, PermIn 0 d.size d d' ∧ SortedIn (ltOf cf) 0 d.size d' ∧ w' = sortWorldK encA 4 w blk 0 n d' os :=
  AnyQ.slices_SortFunc Try.sortArr 4 Try.isAgg57 Try.sizeOf57 encA (fun _ => rfl) (fun x v hv => by simp [encA] at hv; rcases hv with rfl | rfl | rfl | rfl <;> rfl) cf swoArr 26 #[] blk 0 cap d w (enters_of Try.func26 (by kernel_rfl) rfl) (cmp1_lays blk 0 d.size w) hH hblk hsz
theorem sort_none (p : Option Addr) (cap : Nat) (w : World) : Calls Try.prog 25 #[.slice p 0 cap, .func (.func 26) #[] #[]] w fun e w' => e = .returned (.tuple #[]) ∧ w' = w :=
  AnyF.slices_SortFunc_none { Try.sortArr with } p cap _ w
end Go.Proofs.Ytnicgmgihmfjbaa
