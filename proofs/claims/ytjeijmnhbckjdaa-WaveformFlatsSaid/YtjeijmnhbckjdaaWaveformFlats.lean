/- WaveformFlats returns true for every input: Flat reports whether a sample has the limit as its magnitude, and the samples of a channel never exceed its limit. No conditions. -/
import Derived.Test.YtjeijmnhbckjdaaCi
import Derived.Test.YtjeijmnhbckjdaaRowV
namespace Go.Proofs.Ytjeijmnhbckjdaa
open Go.RowKit Go.ChangeShapes Go.WideShapes Go.ChangeAt Go.Joins Go.Deep
set_option linter.unusedVariables false

theorem row12_zero : row12 (fun _ => 0) = #[.int .i64 0, .int .i64 0, .int .i64 0, .int .i64 0, .int .i64 0, .int .i64 0, .int .i64 0, .int .i64 0, .int .i64 0, .int .i64 0, .int .i64 0, .int .i64 0] := by kernel_rfl
theorem channel_z12 {v : Value} {r L : Int} {w : World} (h : Calls Try.prog 9 #[v, .int .i64 r, .int .i64 L] w fun e w' => e = .returned (.tuple #[.agg #[.int .i64 0, .int .i64 0, .int .i64 0, .int .i64 0, .int .i64 0, .int .i64 0, .int .i64 0, .int .i64 0, .int .i64 0, .int .i64 0, .int .i64 0, .int .i64 0], .int .i64 1]) ∧ Ext w w') :
    Calls Try.prog 9 #[v, .int .i64 r, .int .i64 L] w fun e w' => e = .returned (.tuple #[.agg (row12 fun _ => 0), .int .i64 1]) ∧ Ext w w' := by rw [row12_zero]; exact h
theorem lm_in {L x : Int} (h : 1 ≤ L) : -L ≤ lm L x ∧ lm L x ≤ L := by unfold lm; omega
theorem flats_any {s1 : Bool} {A1 : Option Addr} {n1 c1 : Nat} {l1 : List Nat} {s2 : Bool} {A2 : Option Addr} {n2 c2 : Nat} {l2 : List Nat} {s3 : Bool} {A3 : Option Addr} {n3 c3 : Nat} {l3 : List Nat} {s4 : Bool} {A4 : Option Addr} {n4 c4 : Nat} {l4 : List Nat} {s5 : Bool} {A5 : Option Addr} {n5 c5 : Nat} {l5 : List Nat} {s6 : Bool} {A6 : Option Addr} {n6 c6 : Nat} {l6 : List Nat} (g : Nat → Int) (L : Int) (w : World) (r0 : RawG w s1 A1 n1 c1 l1 s2 A2 n2 c2 l2 s3 A3 n3 c3 l3) (r1 : RawG w s4 A4 n4 c4 l4 s5 A5 n5 c5 l5 s6 A6 n6 c6 l6) (a1 : -9223372036854775808 ≤ L) (a2 : L ≤ 9223372036854775807) :
    Calls Try.prog 6 #[.agg (row12 g), pv s1 A1 n1 c1 s2 A2 n2 c2 s3 A3 n3 c3 s4 A4 n4 c4 s5 A5 n5 c5 s6 A6 n6 c6, .int .i64 L] w fun e w' => e = .returned (.bool true) ∧ Ext w w' := by
  cases hs : ((decide (n1 ≤ 6) && decide (n2 ≤ 6) && decide (n3 ≤ 6)) && (decide (n4 ≤ 6) && decide (n5 ≤ 6) && decide (n6 ≤ 6)))
  · exact flats_large _ _ _ _ _ _ _ _ _ _ _ _ _ _ _ _ _ _ _ _ _ _ _ _ g L w hs a1 a2
  have hs' : ((n1 ≤ 6 ∧ n2 ≤ 6) ∧ n3 ≤ 6) ∧ (n4 ≤ 6 ∧ n5 ≤ 6) ∧ n6 ≤ 6 := by simpa using hs
  obtain ⟨⟨⟨k1, k2⟩, k3⟩, ⟨k4, k5⟩, k6⟩ := hs'
  obtain ⟨bv, hbv⟩ := r1.vb k4 k5 k6 (by omega)
  rcases r0.cases k1 k2 k3 (by omega) with ⟨qu, h0⟩ | hb
  · rcases r1.cases k4 k5 k6 (by omega) with ⟨qv, h1⟩ | hb
    · have hX := PV.of h0 h1
      by_cases hl1 : L < 1
      · exact flats_bad _ _ _ _ _ _ _ _ _ _ _ _ _ _ _ _ _ _ _ _ _ _ _ _ g _ L w hs a1 a2 (fun w' x => channel_z12 (channel_badc _ _ _ _ _ _ _ _ _ _ _ _ _ _ _ _ _ _ _ _ _ _ _ _ true 1 L w' ((h0.vb (by omega)).ext x) ((h1.vb (by omega)).ext x) (by omega) (by omega) hl1))
      by_cases hl2 : 16383 < L
      · exact flats_bad _ _ _ _ _ _ _ _ _ _ _ _ _ _ _ _ _ _ _ _ _ _ _ _ g _ L w hs a1 a2 (fun w' x => channel_z12 (channel_badd _ _ _ _ _ _ _ _ _ _ _ _ _ _ _ _ _ _ _ _ _ _ _ _ true 1 L w' ((h0.vb (by omega)).ext x) ((h1.vb (by omega)).ext x) (by omega) (by omega) hl2))
      obtain ⟨f, hf⟩ : ∃ f : Nat → Int, ∀ k, Rd ((⟨qu, qv⟩ : PQ) * PQ.zp k) 1 (f k) := Classical.axiomOfChoice (fun k => Rd.ex ((⟨qu, qv⟩ : PQ) * PQ.zp k) (by omega))
      exact flats_ok _ _ _ _ _ _ _ _ _ _ _ _ _ _ _ _ _ _ _ _ _ _ _ _ g _ L w hs a1 a2 (fun w' x => channel_row _ ⟨qu, qv⟩ 192 1 L f w' (hX.ext x) (by omega) (by omega) (by omega) (by omega) (by omega) (fun k _ => hf k)) (fun j _ => lm_in (by omega)) (Lib.hid (by omega))
    · exact flats_bad _ _ _ _ _ _ _ _ _ _ _ _ _ _ _ _ _ _ _ _ _ _ _ _ g _ L w hs a1 a2 (fun w' x => channel_z12 (channel_badv _ _ _ _ _ _ _ _ _ _ _ _ _ _ _ _ _ _ _ _ _ _ _ _ true 1 L w' ((h0.vb (by omega)).ext x) (hb.ext x)))
  · exact flats_bad _ _ _ _ _ _ _ _ _ _ _ _ _ _ _ _ _ _ _ _ _ _ _ _ g _ L w hs a1 a2 (fun w' x => channel_z12 (channel_badu _ _ _ _ _ _ _ _ _ _ _ _ _ _ _ _ _ _ _ _ _ _ _ _ bv 1 L w' (hb.ext x) (hbv.ext x)))

set_option maxRecDepth 100000 in
theorem waveformFlats_lifted (os : Os) (started : os.Started) (H : Type) (enc : TypeId × Value → H) :
    ReturnsInHanded {} Try.checked os 6 .any (Rows.waveformFlatsSpec.pre6 enc Try.prog Try.f6 Rows.waveformFlatsRow.domain false) (Rows.waveformFlatsSpec.post enc Try.prog Try.f6 false true false false) := by
  refine returnsInHanded_of_change (C := Try.checked) Try.own started (by kernel_rfl) Try.func6
    (ChangeSpec.witness6 (enc := enc) (C := Try.checked) false ⟨#[], #[.agg #[.int .i64 0, .int .i64 0, .int .i64 0, .int .i64 0, .int .i64 0, .int .i64 0, .int .i64 0, .int .i64 0, .int .i64 0, .int .i64 0, .int .i64 0, .int .i64 0], .agg #[.bool false, .slice none 0 0, .bool false, .slice none 0 0, .bool false, .slice none 0 0, .bool false, .slice none 0 0, .bool false, .slice none 0 0, .bool false, .slice none 0 0], .int .i64 0], []⟩ 8 (by kernel_rfl) (by kernel_rfl) (by kernel_rfl) (by kernel_rfl)) ?_
  intro W base args ds gs before hval0 hW hcnd _
  have hval : ∀ (j : Nat) t v, Try.f6.params[j]? = some t → args[j]? = some v → Value.okWide Try.prog W .any base t v := hval0
  have hW' := hW
  obtain ⟨p, q, hA0, hV, rfl, hfz, hnd⟩ := hW
  obtain ⟨rfl, rfl⟩ := trodVars_none hV
  have hA : DataW.TrodAll enc Try.prog W 0 (fun _ => true) true Try.f6.params.toList args.toList ds p := hA0
  have hA1 := hA
  simp only [List.append_nil] at hW'
  rw [Try.params6] at hA hval
  obtain ⟨v0, v1, v2, d0, d1, d2, p0, p1, p2, rfl, rfl, rfl, h0, h1, h2⟩ := trodAll_three hA
  obtain ⟨g, rfl⟩ := open_row12 (hval 0 31 v0 rfl rfl) h0
  obtain ⟨s1, A1, n1, c1, l1, s2, A2, n2, c2, l2, s3, A3, n3, c3, l3, s4, A4, n4, c4, l4, s5, A5, n5, c5, l5, s6, A6, n6, c6, l6, rfl, r0, r1⟩ := open_phasor_ (hval 1 28 v1 rfl rfl) h1
  obtain ⟨x2, rfl, rfl, rfl, w2⟩ := open_int Try.underlying3 (hval 2 3 v2 rfl rfl) h2
  refine (flats_any g x2 W r0 r1 (int_bounds w2).1 (int_bounds w2).2).mono fun e W' ⟨he, hb⟩ => ?_
  subst he
  exact ⟨_, rfl, post_law Try.laidOut rfl rfl Try.underlying4 (by rw [Try.params6]; intro t ht; simp at ht; rcases ht with rfl | rfl | rfl <;> exact ⟨by kernel_rfl, of_decide_eq_true (by kernel_rfl)⟩) hW' hA1 rfl rfl rfl hb⟩

theorem waveformFlats_holds : Rows.WaveformFlatsSaid :=
  OpenClaim.holds_of_wide 6 Try.f6 rfl rfl rfl rfl rfl rfl rfl ⟨rfl, rfl, rfl, rfl, rfl⟩ rfl rfl rfl rfl rfl (by kernel_rfl) Try.func6 (by kernel_rfl)
    (of_decide_eq_true (by kernel_rfl)) (by unfold Func.isWrapper; first | (rw [if_pos (by decide +kernel)]; kernel_rfl) | (rw [if_neg (by decide +kernel)]; exact ⟨rfl, rfl⟩))
    (fun os started H enc _ => waveformFlats_lifted os started H enc)
#print axioms waveformFlats_holds
end Go.Proofs.Ytjeijmnhbckjdaa
