/- Ring: Arrivals, same, count, within, known. -/
import Derived.Test.YtnicgmgihmfjbaaRm
import Derived.Test.YtnicgmgihmfjbaaRh
namespace Go.Proofs.Ytnicgmgihmfjbaa
open Go.RowKit Go.Shelf
open Rg (nodeAt link wl way Arr)

theorem tmod_emod {n m : Int} (hm : 0 < m) : n.tmod m < 0 → n.tmod m + m = n % m := by
  intro h
  rw [Int.tmod_eq_emod] at *
  have h1 := Int.emod_nonneg n (show m ≠ 0 by omega)
  have h2 := Int.emod_lt_of_pos n hm
  have h3 : (m.natAbs : Int) = m := by omega
  split at h <;> split <;> simp_all <;> omega
theorem tmod_emod' {n m : Int} (hm : 0 < m) : ¬ n.tmod m < 0 → n.tmod m = n % m := by
  intro h
  rw [Int.tmod_eq_emod] at *
  have h1 := Int.emod_nonneg n (show m ≠ 0 by omega)
  have h2 := Int.emod_lt_of_pos n hm
  have h3 : (m.natAbs : Int) = m := by omega
  split at h <;> split <;> simp_all <;> omega

set_option maxHeartbeats 400000 in
theorem within_any (n m : Int) (w : World) (hm : 0 < m) (hm' : m ≤ 9223372036854775807) :
    Calls Try.prog 13 #[.int .i64 n, .int .i64 m] w fun e w' => e = .returned (.int .i64 (n % m)) ∧ w = w' := by
  have m0 : m ≠ 0 := by omega
  have hA : n.tmod m < 0 → n.tmod m + m = n % m := tmod_emod hm
  have hB : ¬ n.tmod m < 0 → n.tmod m = n % m := tmod_emod' hm
  have h1 := Int.emod_nonneg n m0
  have h2 := Int.emod_lt_of_pos n hm
  by_cases h : n.tmod m < 0
  · have ht := hA h
    clear hA hB
    have lo : -9223372036854775808 ≤ n.tmod m := by omega
    have hi : n.tmod m ≤ 9223372036854775807 := by omega
    go_enter Try.func13, Try.ntmps13
    go_wp2_with fail
    go_ret
    exact ⟨ret_int rfl, rfl⟩
  · have ht := hB h
    clear hA hB
    have lo : -9223372036854775808 ≤ n.tmod m := by omega
    have hi : n.tmod m ≤ 9223372036854775807 := by omega
    go_enter Try.func13, Try.ntmps13
    go_wp2_with fail
    go_ret
    exact ⟨ret_int rfl, rfl⟩


theorem RArr.ext {w w' : World} {v : Value} {l : List Arr} (h : RArr w v l) (e : Ext w w') : RArr w' v l := by
  obtain ⟨A, c, e1, hr⟩ := h
  exact ⟨A, c, e1, hr.ext e⟩
theorem spot_none {w : World} {ad : Addr} {v : Value} (h : w.cell? ad = some v) : ∃ b o, ad = ⟨b, o, none⟩ := by
  have hs : ad.spot = none := by
    unfold World.cell? at h
    split at h
    · split at h
      · cases h
      · rename_i hsp; simpa using hsp
    · cases h
  obtain ⟨b, o, sp⟩ := ad
  simp only at hs; subst hs
  exact ⟨b, o, rfl⟩
theorem RArr.form {w : World} {v : Value} {l : List Arr} (h : RArr w v l) : ∃ A c, v = .slice A l.length c ∧ (0 < l.length → ∃ b o, A = some ⟨b, o, none⟩ ∧ ∀ k x, l[k]? = some x → w.cell? ⟨b, o + k * 4, none⟩ = some (.int .i64 x.f) ∧ w.cell? ⟨b, o + k * 4 + 1, none⟩ = some (.int .i64 x.n) ∧ w.cell? ⟨b, o + k * 4 + 2, none⟩ = some (.int .i64 x.a) ∧ w.cell? ⟨b, o + k * 4 + 3, none⟩ = some (.int .i64 x.d)) := by
  obtain ⟨A, c, e, hr⟩ := h
  refine ⟨A, c, e, fun hn => ?_⟩
  obtain ⟨ad, rfl, _, hc⟩ := hr.2 hn
  have hl := flatA_len l
  obtain ⟨b, o, rfl⟩ := spot_none (hc 0 _ (List.getElem?_eq_getElem (by omega)))
  refine ⟨b, o, rfl, fun k x hx => ?_⟩
  have hk : k < l.length := (List.getElem?_eq_some_iff.1 hx).1
  have key : ∀ i, i < 4 → (flatA l)[k * 4 + i]? = (encA x)[i]? := by
    intro i hi
    have hs : l = l.take k ++ x :: l.drop (k + 1) := by
      obtain ⟨h1, h2⟩ := List.getElem?_eq_some_iff.1 hx
      rw [← h2, ← List.drop_eq_getElem_cons h1, List.take_append_drop]
    have hlt : (flatA (l.take k)).length = k * 4 := by rw [flatA_len, List.length_take]; omega
    have e : flatA l = flatA (l.take k) ++ (encA x ++ flatA (l.drop (k + 1))) := by
      conv => lhs; rw [hs]
      simp [flatA]
    rw [e, List.getElem?_append_right (by omega), hlt, List.getElem?_append_left (by show _ < 4; omega), show k * 4 + i - k * 4 = i by omega]
  have c0 := hc (k * 4) _ (key 0 (by omega)); have c1 := hc (k * 4 + 1) _ (key 1 (by omega)); have c2 := hc (k * 4 + 2) _ (key 2 (by omega)); have c3 := hc (k * 4 + 3) _ (key 3 (by omega))
  rw [add_plain] at c0 c1 c2 c3
  exact ⟨c0, by rw [Nat.add_assoc]; exact c1, by rw [Nat.add_assoc]; exact c2, by rw [Nat.add_assoc]; exact c3⟩

theorem to_any (A : Option Addr) (n c : Nat) (w : World) : Calls Try.prog 12 #[.agg #[.slice A n c]] w fun e w' => e = .returned (.agg #[.slice A n c]) ∧ Ext w w' := by
  go_enter Try.func12, Try.ntmps12
  go_wp2_with fail
  exact bodyPost_ret (v := .agg #[.slice A n c]) (by simp [results, Try.results12, go_sem]) rfl ⟨rfl, (Ext.new _ _).alloc _⟩

set_option maxRecDepth 100000 in
set_option maxHeartbeats 1000000 in
theorem arrivals_any (A : Option Addr) (c : Nat) (f : Int) (cut : List Bool) (w : World) (hn : cut.length ≤ 140737488351232) (hR : Reads w w.heap.size 1 A cut.length (cut.map .bool)) :
    Calls Try.prog 14 #[.agg #[.slice A cut.length c], .int .i64 f] w (RunPost cut [(f, 0)] w) := by
  have hE := (Ext.new w (.cells #[.slice A cut.length c] 24)).alloc (.cells #[.int .i64 f, .int .i64 0] 29)
  have bX := Blk.new (w.alloc (.cells #[.slice A cut.length c] 24)) 29 #[.int .i64 f, .int .i64 0]
  simp only [World.size_alloc] at bX
  go_enter Try.func14, Try.ntmps14
  go_wp2_with fail
  generalize (w.alloc (.cells #[.slice A cut.length c] 24)).alloc (.cells #[.int .i64 f, .int .i64 0] 29) = W at *
  have hF : RFs W (some ⟨w.heap.size + 1, 0, none⟩) 1 [(f, 0)] := ⟨rfl, fun _ => ⟨_, _, rfl, bX.lt, fun k x hx => by
    have hk : k = 0 := by have := (List.getElem?_eq_some_iff.1 hx).1; simp at this; exact this
    subst hk
    simp at hx; subst hx
    exact ⟨bX.cell 0, bX.cell 1⟩⟩⟩
  refine (runRing_any A c cut _ 1 1 _ W hn (by omega) (by omega) (hR.ext hE) hF).mono ?_
  rintro e w1 ⟨v, rfl, hr, hx⟩
  have HR := Lib.hid hr; have HX := Lib.hid (hE.trans hx)
  clear hr hx hE bX hF
  go_wp2_with fail
  go_ret
  exact ⟨_, rfl, HR.out, HX.out⟩
set_option maxRecDepth 100000 in
set_option maxHeartbeats 1000000 in
theorem rarrivals_any (A : Option Addr) (c : Nat) (f : Int) (cut : List Bool) (w : World) (hn : cut.length ≤ 140737488351232) (hR : Reads w w.heap.size 1 A cut.length (cut.map .bool)) :
    Calls Try.prog 21 #[.agg #[.slice A cut.length c], .int .i64 f] w (RunPost cut [(f, 0)] w) := by
  have hE := (Ext.new w (.cells #[.slice A cut.length c] 36)).alloc (.cells #[.int .i64 f, .int .i64 0] 30)
  have bX := Blk.new (w.alloc (.cells #[.slice A cut.length c] 36)) 30 #[.int .i64 f, .int .i64 0]
  simp only [World.size_alloc] at bX
  go_enter Try.func21, Try.ntmps21
  go_wp2_with fail
  generalize (w.alloc (.cells #[.slice A cut.length c] 36)).alloc (.cells #[.int .i64 f, .int .i64 0] 30) = W at *
  have hF : RFs W (some ⟨w.heap.size + 1, 0, none⟩) 1 [(f, 0)] := ⟨rfl, fun _ => ⟨_, _, rfl, bX.lt, fun k x hx => by
    have hk : k = 0 := by have := (List.getElem?_eq_some_iff.1 hx).1; simp at this; exact this
    subst hk
    simp at hx; subst hx
    exact ⟨bX.cell 0, bX.cell 1⟩⟩⟩
  refine (rrun_any A c cut _ 1 1 _ W hn (by omega) (hR.ext hE) hF).mono ?_
  rintro e w1 ⟨v, rfl, hr, hx⟩
  have HR := Lib.hid hr; have HX := Lib.hid (hE.trans hx)
  clear hr hx hE bX hF
  go_wp2_with fail
  go_ret
  exact ⟨_, rfl, HR.out, HX.out⟩

set_option maxRecDepth 100000 in
set_option maxHeartbeats 4000000 in
theorem same_self (v1 v2 : Value) (l : List Arr) (w : World) (h1 : RArr w v1 l) (h2 : RArr w v2 l) (hl : l.length ≤ 100000) :
    Calls Try.prog 9 #[v1, v2] w fun e w' => e = .returned (.bool true) ∧ Ext w w' := by
  obtain ⟨A, c, rfl, ha⟩ := h1.form
  obtain ⟨B, d, rfl, hb⟩ := h2.form
  have HA := Lib.hid ha; have HB := Lib.hid hb
  clear ha hb h1 h2
  generalize hn : l.length = n at *
  have HN := Lib.hid hn; clear hn
  go_enter Try.func9, Try.ntmps9
  go_wp2_with fail
  go_loopw [5] (fun i wr => ∃ k : Nat, k ≤ n ∧ i = .int .i64 k ∧ Ext w wr) (fun i _ => n - (intOf i).toNat)
  case atStart => exact ⟨0, Nat.zero_le _, rfl, Ext.refl _⟩
  case round =>
    obtain ⟨k, hk, rfl, hX⟩ := hrel
    by_cases hlt : k < n
    · obtain ⟨b, o, rfl, hc⟩ := HA.out (by omega)
      obtain ⟨b', o', rfl, hc'⟩ := HB.out (by omega)
      obtain ⟨x, hx⟩ : ∃ x, l[k]? = some x := ⟨_, List.getElem?_eq_getElem (by rw [HN.out]; exact hlt)⟩
      obtain ⟨x0, x1, x2, x3⟩ := hc k x hx
      obtain ⟨y0, y1, y2, y3⟩ := hc' k x hx
      have X0 := ExtOf.cell (hX.cell_ x0); have X1 := ExtOf.cell (hX.cell_ x1); have X2 := ExtOf.cell (hX.cell_ x2); have X3 := ExtOf.cell (hX.cell_ x3)
      have Y0 := ExtOf.cell (hX.cell_ y0); have Y1 := ExtOf.cell (hX.cell_ y1); have Y2 := ExtOf.cell (hX.cell_ y2); have Y3 := ExtOf.cell (hX.cell_ y3)
      clear hc hc' hx x0 x1 x2 x3 y0 y1 y2 y3
      have q1 : (0 : Int) ≤ (k : Int) := by omega
      have q2 : (k : Int) < (n : Int) := by omega
      go_wp2_with fail
      refine wp_region_ext_lit (by kernel_rfl) (by kernel_rfl) ?_
      repeat (go_big_quiet_step (fail))
      refine wpQuiet_nil ?_
      intro W hW
      obtain ⟨xe, rfl⟩ := hW
      clear X0 X1 X2 X3 Y0 Y1 Y2 Y3
      go_wp2_with fail
      go_roundw
      case rel => exact ⟨k + 1, by omega, by go_num, hX.trans xe.ext⟩
      case measure => simp [intOf]; omega
    · go_wp2_with fail
      go_ret
      exact ⟨rfl, hX⟩

/-- How many arrivals there are at a node, and the latest. -/
def cntL (l : List Arr) (t : Int) : Nat := (l.filter fun y => decide (y.n = t)).length
def lstL (l : List Arr) (t : Int) : Int := (l.filter fun y => decide (y.n = t)).foldl (fun m y => max m y.a) 0
theorem cntL_snoc (l : List Arr) (x : Arr) (t : Int) : cntL (l ++ [x]) t = cntL l t + if x.n = t then 1 else 0 := by
  unfold cntL; rw [List.filter_append, List.length_append]
  by_cases h : x.n = t <;> simp [h]
theorem lstL_snoc (l : List Arr) (x : Arr) (t : Int) : lstL (l ++ [x]) t = if x.n = t then max (lstL l t) x.a else lstL l t := by
  unfold lstL; rw [List.filter_append, List.foldl_append]
  by_cases h : x.n = t <;> simp [h]
theorem cntL_le (l : List Arr) (t : Int) : cntL l t ≤ l.length := List.length_filter_le _ _
theorem take_snocA {l : List Arr} {k : Nat} {x : Arr} (h : l[k]? = some x) : l.take (k + 1) = l.take k ++ [x] := by
  obtain ⟨h1, h2⟩ := List.getElem?_eq_some_iff.1 h
  rw [List.take_succ_eq_append_getElem h1, h2]

set_option maxRecDepth 100000 in
set_option maxHeartbeats 4000000 in
theorem count_any (v1 : Value) (l : List Arr) (t : Int) (w : World) (h1 : RArr w v1 l) (hl : l.length ≤ 100000) :
    Calls Try.prog 15 #[v1, .int .i64 t] w fun e w' => e = .returned (.tuple #[.int .i64 (cntL l t : Nat), .int .i64 (lstL l t)]) ∧ Ext w w' := by
  obtain ⟨A, c, rfl, ha⟩ := h1.form
  have HA := Lib.hid ha
  clear ha h1
  generalize hn : l.length = n at *
  have HN := Lib.hid hn; clear hn
  go_enter Try.func15, Try.ntmps15
  go_wp2_with fail
  go_loopw [6, 7, 8] (fun q m i wr => ∃ k : Nat, k ≤ n ∧ i = .int .i64 k ∧ (∃ c' : Nat, c' ≤ k ∧ q = .int .i64 c' ∧ cntL (l.take k) t = c') ∧ (∃ m' : Int, m = .int .i64 m' ∧ lstL (l.take k) t = m') ∧ Ext w wr) (fun _ _ i _ => n - (intOf i).toNat)
  case atStart => exact ⟨0, Nat.zero_le _, rfl, ⟨0, Nat.le_refl _, rfl, rfl⟩, ⟨0, rfl, rfl⟩, Ext.refl _⟩
  case round =>
    obtain ⟨k, hk, rfl, ⟨c', hc', rfl, e1⟩, ⟨m', rfl, e2⟩, hX⟩ := hrel
    have E1 := Lib.hid e1; have E2 := Lib.hid e2
    clear e1 e2
    by_cases hlt : k < n
    · obtain ⟨b, o, rfl, hc⟩ := HA.out (by omega)
      obtain ⟨x, hx⟩ : ∃ x, l[k]? = some x := ⟨_, List.getElem?_eq_getElem (by rw [HN.out]; exact hlt)⟩
      obtain ⟨x0, x1, x2, x3⟩ := hc k x hx
      replace x1 := hX.cell_ x1; replace x2 := hX.cell_ x2
      have HT := Lib.hid (take_snocA hx)
      clear hc hx x0 x3
      have q1 : (0 : Int) ≤ (k : Int) := by omega
      have q2 : (k : Int) < (n : Int) := by omega
      by_cases hxt : x.n = t
      · have hd : (x.n == t) = true := by simpa using hxt
        have HC := Lib.hid (cntL_snoc (l.take k) x t); have HL := Lib.hid (lstL_snoc (l.take k) x t)
        have HXT := Lib.hid hxt; clear hxt
        have q3 : (c' : Int) ≤ 100000 := by omega
        have q4 : (0 : Int) ≤ (c' : Int) := by omega
        go_wp2_with fail
        go_region
        go_wp2_with fail
        go_roundw
        case rel => exact ⟨k + 1, by omega, by go_num, ⟨c' + 1, by omega, by go_num, by rw [HT.out, HC.out, if_pos HXT.out, E1.out]⟩, ⟨_, rfl, by rw [HT.out, HL.out, if_pos HXT.out, E2.out]⟩, hX.trans (Ext.refl _).drew⟩
        case measure => simp [intOf]; omega
      · have hd : (x.n == t) = false := by simpa using hxt
        have HC := Lib.hid (cntL_snoc (l.take k) x t); have HL := Lib.hid (lstL_snoc (l.take k) x t)
        have HXT := Lib.hid hxt; clear hxt
        go_wp2_with fail
        go_roundw
        case rel => exact ⟨k + 1, by omega, by go_num, ⟨c', by omega, rfl, by rw [HT.out, HC.out, if_neg HXT.out, E1.out]; rfl⟩, ⟨_, rfl, by rw [HT.out, HL.out, if_neg HXT.out, E2.out]⟩, hX⟩
        case measure => simp [intOf]; omega
    · obtain rfl : k = n := by omega
      rw [List.take_of_length_le (by rw [HN.out]; exact Nat.le_refl _)] at E1 E2
      go_wp2_with fail
      go_ret2
      exact ⟨by rw [E1.out, E2.out]; rfl, hX⟩

/-- The example ring. -/
theorem known_run : Rg.run (List.replicate 3 false) [(0, 0)] = [⟨0, 1, 1, 0⟩, ⟨0, 2, 1, 1⟩, ⟨0, 1, 2, 1⟩, ⟨0, 2, 2, 0⟩] := by decide +kernel
set_option maxRecDepth 100000 in
set_option maxHeartbeats 2000000 in
theorem known_any (w : World) : Calls Try.prog 8 #[] w fun e w' => e = .returned (.bool true) ∧ Ext w w' := by
  have hmk : (Instr.makeSlice 22 (.int .i64 3) (.int .i64 3)).run Try.prog w = .ok (.slice (some ⟨w.heap.size, 0, none⟩) 3 3) (w.alloc (.cells ((List.replicate 3 false).map .bool).toArray 4)) := hmkB 3 w (by omega)
  have bB := Blk.new w 4 ((List.replicate 3 false).map .bool).toArray
  have hE := Ext.new w (.cells ((List.replicate 3 false).map .bool).toArray 4)
  have hR : Reads (w.alloc (.cells ((List.replicate 3 false).map .bool).toArray 4)) (w.alloc (.cells ((List.replicate 3 false).map .bool).toArray 4)).heap.size 1 (some ⟨w.heap.size, 0, none⟩) 3 ((List.replicate 3 false).map .bool) := bB.reads (by simp)
  have HR := Lib.hid hR; clear hR bB
  go_enter Try.func8, Try.ntmps8
  go_wp2_with fail
  refine (arrivals_any (some ⟨w.heap.size, 0, none⟩) 3 0 (List.replicate 3 false) _ (by simp) HR.out).mono ?_
  rintro e w1 ⟨v, rfl, hr, hx⟩
  rw [known_run] at hr
  replace hE := Ext.trans hE hx
  obtain ⟨A, c, rfl, hc⟩ := hr.form
  obtain ⟨b, o, rfl, hk⟩ := hc (by simp)
  have a0 := hk 0 _ rfl; have a1 := hk 1 _ rfl; have a3 := hk 3 _ rfl
  simp only [Nat.zero_mul, Nat.one_mul, Nat.add_zero, Nat.reduceMul, Nat.add_assoc, Nat.reduceAdd] at a0 a1 a3
  obtain ⟨p0, p1, p2, p3⟩ := a0
  obtain ⟨r0, r1, r2, r3⟩ := a1
  obtain ⟨_, _, s2, _⟩ := a3
  clear hc hk hr hx HR hmk
  simp only [List.length_cons, List.length_nil, Nat.zero_add, Nat.reduceAdd]
  go_wp2_with fail
  go_ret
  exact ⟨rfl, hE⟩
end Go.Proofs.Ytnicgmgihmfjbaa
