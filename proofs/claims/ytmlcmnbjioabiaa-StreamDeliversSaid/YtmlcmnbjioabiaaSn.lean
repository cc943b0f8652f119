/- pick: the first frame of each sample of a step. -/
import Derived.Test.YtmlcmnbjioabiaaSl
import Derived.Deep.WholeRow
import Derived.Laws.ResultCell
import Derived.Laws.Tables
namespace Go.Proofs.Ytmlcmnbjioabiaa
open Go.RowKit

def putF (g : Nat → Fr) (k : Nat) (f : Fr) : Nat → Fr := fun j => if j = k then f else g j
/-- One frame, where all frames are valid. -/
def pickStep (unit first : Int) (st : (Nat → Fr) × Bool) (f : Fr) : (Nat → Fr) × Bool :=
  if f.unit ≠ unit ∨ btw (f.count - first) 0 11 = false then st
  else if (st.1 (f.count - first).toNat).S.length = 0 then (putF st.1 (f.count - first).toNat f, st.2)
  else (st.1, st.2 || !sameF (st.1 (f.count - first).toNat) f)
def pickAll (unit first : Int) (fs : List Fr) : (Nat → Fr) × Bool := fs.foldl (pickStep unit first) (fun _ => zeroFr, false)
theorem pickAll_on {unit first : Int} {fs : List Fr} {i : Nat} {f : Fr} (h : fs[i]? = some f) : pickAll unit first (fs.take (i + 1)) = pickStep unit first (pickAll unit first (fs.take i)) f := by
  obtain ⟨h1, rfl⟩ := List.getElem?_eq_some_iff.1 h
  unfold pickAll
  rw [List.take_succ_eq_append_getElem h1, List.foldl_append]; rfl

/-- Twelve frames in a row of 60 cells. -/
def Row12 (w : World) (g : Nat → Fr) (cs : Array Value) : Prop := cs.size = 60 ∧ ∀ j, j < 12 → ∃ A B n m c d, RFr w (g j) A B n m c d ∧ cs[j * 5]? = some (.int .i64 (g j).unit) ∧ cs[j * 5 + 1]? = some (.int .i64 (g j).count) ∧ cs[j * 5 + 2]? = some (.bool (g j).sy) ∧ cs[j * 5 + 3]? = some (.slice A n c) ∧ cs[j * 5 + 4]? = some (.slice B m d)
theorem Row12.ext {w w' : World} {g : Nat → Fr} {cs : Array Value} (h : Row12 w g cs) (e : Ext w w') : Row12 w' g cs :=
  ⟨h.1, fun j hj => by obtain ⟨A, B, n, m, c, d, h1, h2⟩ := h.2 j hj; exact ⟨A, B, n, m, c, d, h1.ext e, h2⟩⟩
def set5 (cs : Array Value) (k : Nat) (a b c d e : Value) : Array Value := ((((cs.setIfInBounds (k * 5) a).setIfInBounds (k * 5 + 1) b).setIfInBounds (k * 5 + 2) c).setIfInBounds (k * 5 + 3) d).setIfInBounds (k * 5 + 4) e
theorem Row12.put {w : World} {g : Nat → Fr} {cs : Array Value} {k : Nat} {f : Fr} {A B : Option Addr} {n m c d : Nat} (h : Row12 w g cs) (hk : k < 12) (hr : RFr w f A B n m c d) :
    Row12 w (putF g k f) (set5 cs k (.int .i64 f.unit) (.int .i64 f.count) (.bool f.sy) (.slice A n c) (.slice B m d)) := by
  obtain ⟨hs, h⟩ := h
  refine ⟨by unfold set5; simpa using hs, fun j hj => ?_⟩
  by_cases hjk : j = k
  · subst hjk
    refine ⟨A, B, n, m, c, d, by simpa [putF] using hr, ?_⟩
    simp only [putF, if_true]
    unfold set5
    refine ⟨?_, ?_, ?_, ?_, ?_⟩ <;> simp [Array.getElem?_setIfInBounds, hs] <;> omega
  · obtain ⟨A', B', n', m', c', d', h1, h2, h3, h4, h5, h6⟩ := h j hj
    refine ⟨A', B', n', m', c', d', by simpa [putF, hjk] using h1, ?_⟩
    simp only [putF, hjk, if_false]
    unfold set5
    refine ⟨?_, ?_, ?_, ?_, ?_⟩
    · rw [← h2]; simp only [Array.getElem?_setIfInBounds]; repeat (rw [if_neg (by omega)])
    · rw [← h3]; simp only [Array.getElem?_setIfInBounds]; repeat (rw [if_neg (by omega)])
    · rw [← h4]; simp only [Array.getElem?_setIfInBounds]; repeat (rw [if_neg (by omega)])
    · rw [← h5]; simp only [Array.getElem?_setIfInBounds]; repeat (rw [if_neg (by omega)])
    · rw [← h6]; simp only [Array.getElem?_setIfInBounds]; repeat (rw [if_neg (by omega)])

theorem Row12.all {w : World} {g : Nat → Fr} {cs : Array Value} (h : Row12 w g cs) : cs.all (·.oneCell') = true := by
  rw [Array.all_eq_true_iff_forall_mem]
  intro v hv
  obtain ⟨p, hp, e⟩ := Array.mem_iff_getElem.1 hv
  have hp' : cs[p]? = some v := by rw [Array.getElem?_eq_getElem hp, e]
  have hs := h.1
  obtain ⟨A, B, n, m, c, d, _, h0, h1, h2, h3, h4⟩ := h.2 (p / 5) (by omega)
  have : p = p / 5 * 5 ∨ p = p / 5 * 5 + 1 ∨ p = p / 5 * 5 + 2 ∨ p = p / 5 * 5 + 3 ∨ p = p / 5 * 5 + 4 := by omega
  rcases this with e | e | e | e | e <;> rw [e] at hp'
  · rw [h0] at hp'; injection hp' with hp'; subst hp'; rfl
  · rw [h1] at hp'; injection hp' with hp'; subst hp'; rfl
  · rw [h2] at hp'; injection hp' with hp'; subst hp'; rfl
  · rw [h3] at hp'; injection hp' with hp'; subst hp'; rfl
  · rw [h4] at hp'; injection hp' with hp'; subst hp'; rfl
def zrow : Array Value := (zfs 12).toArray
theorem zrow_row (w : World) : Row12 w (fun _ => zeroFr) zrow := by
  refine ⟨by simp [zrow, zfs, zfr], fun j hj => ⟨none, none, 0, 0, 0, 0, ⟨Reads.none_, Reads.none_, by omega, by omega⟩, ?_⟩⟩
  have : j = 0 ∨ j = 1 ∨ j = 2 ∨ j = 3 ∨ j = 4 ∨ j = 5 ∨ j = 6 ∨ j = 7 ∨ j = 8 ∨ j = 9 ∨ j = 10 ∨ j = 11 := by omega
  rcases this with rfl | rfl | rfl | rfl | rfl | rfl | rfl | rfl | rfl | rfl | rfl | rfl <;> exact ⟨rfl, rfl, rfl, rfl, rfl⟩

def PickPost (unit first : Int) (fs : List Fr) (w : World) (e : Ending) (w' : World) : Prop :=
  ∃ cs, e = .returned (.tuple #[.agg cs, .bool (pickAll unit first fs).2]) ∧ Row12 w' (pickAll unit first fs).1 cs ∧ Ext w w'

theorem check_z (f : Fr) (A B : Option Addr) (n m c d : Nat) (w : World) (hf : RFr w f A B n m c d) (h : checkF f = 0) :
    Calls Try.prog 9 #[.agg #[.int .i64 f.unit, .int .i64 f.count, .bool f.sy, .slice A n c, .slice B m d]] w fun e w' => e = .returned (.int .i64 0) ∧ Ext w w' := by
  rw [← h]; exact check_any f A B n m c d w hf
theorem between_v (x lo hi : Int) (v : Bool) (w : World) (h : btw x lo hi = v) : Calls Try.prog 26 #[.int .i64 x, .int .i64 lo, .int .i64 hi] w fun e w' => e = .returned (.bool v) ∧ w = w' := by
  rw [← h]; exact between_any x lo hi w
theorem same_v (f g : Fr) (A B A' B' : Option Addr) (n m c d n' m' c' d' : Nat) (v : Bool) (w : World) (hf : RFr w f A B n m c d) (hg : RFr w g A' B' n' m' c' d') (h : sameF f g = v) :
    Calls Try.prog 12 #[.agg #[.int .i64 f.unit, .int .i64 f.count, .bool f.sy, .slice A n c, .slice B m d], .agg #[.int .i64 g.unit, .int .i64 g.count, .bool g.sy, .slice A' n' c', .slice B' m' d']] w fun e w' => e = .returned (.bool v) ∧ Ext w w' := by
  rw [← h]; exact same_any f g A B A' B' n m c d n' m' c' d' w hf hg
theorem countF_bd (s k : Int) : 0 ≤ countF s k ∧ countF s k ≤ 599 := by
  unfold countF; split
  · omega
  · omega

set_option maxRecDepth 100000 in
set_option maxHeartbeats 4000000 in
theorem pick_any (A : Option Addr) (n c : Nat) (fs : List Fr) (unit step : Int) (w : World) (hf : RFrames w A n fs) (hn : n ≤ 1000000) (hgood : ∀ f ∈ fs, checkF f = 0) :
    Calls Try.prog 33 #[.slice A n c, .int .i64 unit, .int .i64 step] w (PickPost unit (countF step 0) fs w) := by
  have HF := Lib.hid hf; clear hf
  have HGD := Lib.hid hgood; clear hgood
  go_enter Try.func33, Try.ntmps33
  go_wp2_with (go_at_call 14; refine (count_any _ _ _).mono ?_; rintro e w' ⟨rfl, rfl⟩)
  obtain ⟨hfi0, hfi1⟩ := countF_bd step 0
  generalize countF step 0 = first at *
  go_loopw [7, 16] (fun q i wr => ∃ k : Nat, k ≤ n ∧ i = .int .i64 k ∧ ∃ st, pickAll unit first (fs.take k) = st ∧ q = .bool st.2 ∧ ∃ cs, Blk wr w.heap.size 68 cs ∧ Row12 w st.1 cs ∧ Ext w wr) (fun _ i _ => n - (intOf i).toNat)
  case atStart => exact ⟨0, Nat.zero_le _, rfl, _, rfl, rfl, zrow, Blk.new _ _ _, zrow_row _, Ext.new _ _⟩
  case round =>
    obtain ⟨k, hk, rfl, st, hst, rfl, cs, hB, hrow, hex⟩ := hrel
    have HST := Lib.hid hst; clear hst
    have HROW := Lib.hid hrow; clear hrow
    by_cases hlt : k < n
    · obtain ⟨g, f, A1, B1, n1, m1, c1, d1, rfl, hg, hf, hr, y0, y1, y2, y3, y4⟩ := HF.out.at_ hlt
      replace y0 := hex.cell_ y0; replace y1 := hex.cell_ y1; replace y2 := hex.cell_ y2; replace y3 := hex.cell_ y3; replace y4 := hex.cell_ y4
      have hz := checkF_zero (HGD.out f (List.mem_of_getElem? hf))
      have HC0 := Lib.hid (HGD.out f (List.mem_of_getElem? hf))
      have HON := Lib.hid (pickAll_on (unit := unit) (first := first) hf)
      rw [HST.out] at HON
      clear hf
      have hcnt : 0 ≤ f.count ∧ f.count ≤ 599 := ⟨hz.2.2.2.2.1, hz.2.2.2.2.2.1⟩
      obtain ⟨hcn0, hcn1⟩ := hcnt
      clear hz
      have HR := Lib.hid hr; clear hr
      have q1 : (0 : Int) ≤ (k : Int) := by omega
      have q2 : (k : Int) < (n : Int) := by omega
      have bX := Blk.new wr 24 #[.int .i64 f.unit, .int .i64 f.count, .bool f.sy, .slice A1 n1 c1, .slice B1 m1 d1]
      have hex2 := hex.alloc (.cells #[.int .i64 f.unit, .int .i64 f.count, .bool f.sy, .slice A1 n1 c1, .slice B1 m1 d1] 24)
      have hB2 := hB.alloc (.cells #[.int .i64 f.unit, .int .i64 f.count, .bool f.sy, .slice A1 n1 c1, .slice B1 m1 d1] 24)
      have hlow := hB.lt
      have x0 := bX.cell 0; have x1 := bX.cell 1; have x2 := bX.cell 2; have x3 := bX.cell 3; have x4 := bX.cell 4
      by_cases hu : f.unit = unit
      · have hd : (f.unit != unit) = false := by simp [hu]
        have HU := Lib.hid hu; clear hu
        cases hb : btw (f.count - first) 0 11 with
        | false =>
          have HSK : Hid (pickStep unit first st f = st) := Lib.hid (by unfold pickStep; rw [if_pos (.inr hb)])
          have HB := Lib.hid hb; clear hb
          go_wp2_with fail
          clear x0 x1 x2 x3 x4 y0 y1 y2 y3 y4 hd
          generalize wr.alloc (.cells #[.int .i64 f.unit, .int .i64 f.count, .bool f.sy, .slice A1 n1 c1, .slice B1 m1 d1] 24) = W at *
          refine (check_z f A1 B1 n1 m1 c1 d1 W (HR.out.ext hex2) HC0.out).mono ?_
          rintro e W2 ⟨rfl, hx⟩
          replace hB2 := hB2.ext hx; replace hex2 := hex2.trans hx
          clear hx bX hB hex
          go_wp2_with fail
          refine (between_v _ _ _ _ _ HB.out).mono ?_
          rintro e W3 ⟨rfl, rfl⟩
          go_wp2_with fail
          go_roundw
          case rel => exact ⟨k + 1, hlt, by go_num, st, by rw [HON.out, HSK.out], rfl, cs, hB2, HROW.out, hex2⟩
          case measure => simp [intOf]; omega
        | true =>
          have hb2 := btw_iff.1 hb
          obtain ⟨kk, hkk⟩ : ∃ kk : Nat, f.count - first = (kk : Int) := ⟨(f.count - first).toNat, by omega⟩
          have hkk12 : kk < 12 := by omega
          rw [hkk] at hb
          have HB := Lib.hid hb; clear hb hb2
          have HPS : Hid (pickStep unit first st f = if (st.1 kk).S.length = 0 then (putF st.1 kk f, st.2) else (st.1, st.2 || !sameF (st.1 kk) f)) := Lib.hid (by
            unfold pickStep
            rw [if_neg (by rintro (h | h); exact h HU.out; rw [hkk, HB.out] at h; cases h), hkk, Int.toNat_natCast])
          go_wp2_with fail
          clear x0 x1 x2 x3 x4 y0 y1 y2 y3 y4 hd
          generalize wr.alloc (.cells #[.int .i64 f.unit, .int .i64 f.count, .bool f.sy, .slice A1 n1 c1, .slice B1 m1 d1] 24) = W at *
          generalize hgw : wr.heap.size = xb at *
          clear hgw
          refine (check_z f A1 B1 n1 m1 c1 d1 W (HR.out.ext hex2) HC0.out).mono ?_
          rintro e W2 ⟨rfl, hx⟩
          replace hB2 := hB2.ext hx; replace hex2 := hex2.trans hx; replace bX := bX.ext hx
          clear hx hB hex
          obtain ⟨A', B', n', m', c', d', hr', z0, z1, z2, z3, z4⟩ := HROW.out.2 kk hkk12
          have hl' := hr'.hS.len
          have HR' := Lib.hid hr'; have HL' := Lib.hid hl'; clear hr' hl'
          have k3 := (hB2.cell (kk * 5 + 3)).trans z3
          have p1 : (0 : Int) ≤ (kk : Int) := by omega
          have p2 : (kk : Int) < 12 := by omega
          by_cases hn0 : n' = 0
          · subst hn0
            have x0 := bX.cell 0; have x1 := bX.cell 1; have x2 := bX.cell 2; have x3 := bX.cell 3; have x4 := bX.cell 4
            have k0 := (hB2.cell (kk * 5)).trans z0; have k1 := (hB2.cell (kk * 5 + 1)).trans z1; have k2 := (hB2.cell (kk * 5 + 2)).trans z2; have k4 := (hB2.cell (kk * 5 + 4)).trans z4
            have g0 := hB2.frozen (kk * 5); have g1 := hB2.frozen (kk * 5 + 1); have g2 := hB2.frozen (kk * 5 + 2); have g3 := hB2.frozen (kk * 5 + 3); have g4 := hB2.frozen (kk * 5 + 4)
            clear z0 z1 z2 z3 z4
            go_wp2_with fail
            refine (between_v _ _ _ _ _ HB.out).mono ?_
            rintro e W3 ⟨rfl, rfl⟩
            go_wp2_with fail
            go_roundw
            case rel =>
              refine ⟨k + 1, hlt, by go_num, (putF st.1 kk f, st.2), by rw [HON.out, HPS.out, if_pos HL'.out], rfl, set5 cs kk (.int .i64 f.unit) (.int .i64 f.count) (.bool f.sy) (.slice A1 n1 c1) (.slice B1 m1 d1), ?_, ?_, ?_⟩
              · exact ((((hB2.set_ (kk * 5) _).set_ (kk * 5 + 1) _).set_ (kk * 5 + 2) _).set_ (kk * 5 + 3) _).set_ (kk * 5 + 4) _
              · exact HROW.out.put hkk12 HR.out
              · exact ((((hex2.setCell (p := ⟨w.heap.size, kk * 5, none⟩) (Nat.le_refl _) _).setCell (p := ⟨w.heap.size, kk * 5 + 1, none⟩) (Nat.le_refl _) _).setCell (p := ⟨w.heap.size, kk * 5 + 2, none⟩) (Nat.le_refl _) _).setCell (p := ⟨w.heap.size, kk * 5 + 3, none⟩) (Nat.le_refl _) _).setCell (p := ⟨w.heap.size, kk * 5 + 4, none⟩) (Nat.le_refl _) _
            case measure => simp [intOf]; omega
          · have hq : ((n' : Int) == 0) = false := by simp; omega
            obtain ⟨vv, hvv⟩ : ∃ vv, sameF (st.1 kk) f = vv := ⟨_, rfl⟩
            have HV := Lib.hid hvv; clear hvv
            have x0 := ExtOf.cell (bX.cell 0); have x1 := ExtOf.cell (bX.cell 1); have x2 := ExtOf.cell (bX.cell 2); have x3 := ExtOf.cell (bX.cell 3); have x4 := ExtOf.cell (bX.cell 4)
            have k0 := ExtOf.cell ((hB2.cell (kk * 5)).trans z0); have k1 := ExtOf.cell ((hB2.cell (kk * 5 + 1)).trans z1); have k2 := ExtOf.cell ((hB2.cell (kk * 5 + 2)).trans z2); have k3' := ExtOf.cell k3; have k4 := ExtOf.cell ((hB2.cell (kk * 5 + 4)).trans z4)
            clear z0 z1 z2 z3 z4
            go_wp2_with fail
            refine (between_v _ _ _ _ _ HB.out).mono ?_
            rintro e W3 ⟨rfl, rfl⟩
            go_wp2_with fail
            refine wp_region_ext_lit (by kernel_rfl) (by kernel_rfl) ?_
            repeat (go_big_quiet_step (first | (go_at_call 12; exact Calls.ext_of (same_v _ _ _ _ _ _ _ _ _ _ _ _ _ _ vv _ (HR'.out.ext (hex2.trans (ExtOf.ext _))) (HR.out.ext (hex2.trans (ExtOf.ext _))) HV.out))))
            refine wpQuiet_nil ?_
            intro W3 hW
            obtain ⟨xe, rfl⟩ := hW
            replace hB2 := hB2.ext xe.ext; replace hex2 := hex2.trans xe.ext
            have HL0 := Lib.hid (show ¬ (st.1 kk).S.length = 0 by rw [HL'.out]; exact hn0)
            clear x0 x1 x2 x3 x4 k0 k1 k2 k3' k4 k3
            cases vv
            · go_wp2_with fail
              go_roundw
              case rel => exact ⟨k + 1, hlt, by go_num, (st.1, true), by rw [HON.out, HPS.out, if_neg HL0.out, HV.out]; simp, rfl, cs, hB2, HROW.out, hex2⟩
              case measure => simp [intOf]; omega
            · go_wp2_with fail
              go_roundw
              case rel => exact ⟨k + 1, hlt, by go_num, st, by rw [HON.out, HPS.out, if_neg HL0.out, HV.out]; simp, rfl, cs, hB2, HROW.out, hex2⟩
              case measure => simp [intOf]; omega
      · have hd : (f.unit != unit) = true := by simp [hu]
        have HSK : Hid (pickStep unit first st f = st) := Lib.hid (by unfold pickStep; rw [if_pos (.inl hu)])
        clear hu
        go_wp2_with fail
        go_roundw
        case rel => exact ⟨k + 1, hlt, by go_num, st, by rw [HON.out, HSK.out], rfl, cs, hB2, HROW.out, hex2⟩
        case measure => simp [intOf]; omega
    · obtain rfl : k = n := by omega
      have hsz : (Try.prog.info? 68).map (·.size) = some cs.size := by rw [HROW.out.1]; kernel_rfl
      have hall := HROW.out.all
      have hfl := HF.out.1
      rw [List.take_of_length_le (by omega)] at HST
      go_wp2_with (first | (refine wpList_load_row rfl 68 _ rfl w.heap.size rfl 68 cs _ _ hB Try.underlying68 rfl hsz ?_) | (refine wpList_store_row rfl 68 _ _ rfl w.heap.size cs rfl rfl 68 cs hB hsz rfl hall ?_; rw [setRow_self wr w.heap.size cs 68 (0, 0) hB]))
      refine bodyPost_ret (v := .tuple #[.agg cs, .bool st.2]) (by rw [results_cell_tmp rfl]; simp [asAddr, Result.andThen, run_loadVar_row wr w.heap.size 68 68 cs (0, 0) _ hB Try.underlying68 rfl hsz]) rfl ⟨cs, ?_, ?_, hex⟩
      · rw [HST.out]
      · rw [HST.out]; exact HROW.out.ext hex
end Go.Proofs.Ytmlcmnbjioabiaa
