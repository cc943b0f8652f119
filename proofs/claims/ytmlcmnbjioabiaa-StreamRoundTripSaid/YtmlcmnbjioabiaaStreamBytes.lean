/- StreamBytes returns true for every input: Encode and Decode return the specified bytes, frame or error for any frame and any bytes. No conditions. -/
import Derived.Test.YtmlcmnbjioabiaaSj
import Derived.Test.YtmlcmnbjioabiaaStreamChecks
namespace Go.Proofs.Ytmlcmnbjioabiaa
open Go.RowKit Go.ChangeShapes Go.WideShapes Go.ChangeAt Go.Joins Go.Deep

def encB (f : Fr) : List Int := if checkF f = 0 then encF f else []
def EncPost (f : Fr) (w : World) (e : Ending) (w' : World) : Prop :=
  ∃ D n c, e = .returned (.tuple #[.slice D n c, .int .i64 (checkF f)]) ∧ Reads w' w'.heap.size 1 D n ((encB f).map (.int .u8)) ∧ Ext w w' ∧ n ≤ c ∧ c ≤ 9223372036854775807

theorem encode_any (unit count : Int) (sy : Bool) (S Q : List Int) (A B : Option Addr) (n m c d : Nat) (w : World) (hf : RFr w ⟨unit, count, sy, S, Q⟩ A B n m c d) :
    Calls Try.prog 18 #[.agg #[.int .i64 unit, .int .i64 count, .bool sy, .slice A n c, .slice B m d]] w (EncPost ⟨unit, count, sy, S, Q⟩ w) := by
  by_cases h0 : checkF ⟨unit, count, sy, S, Q⟩ = 0
  · have hn8 : n ≤ 8 := by have := (checkF_zero h0).1; have h2 := hf.hS.len; dsimp only at this h2; omega
    cases sy
    · refine (encode_false unit count S Q A B n m c d w hf h0).mono fun e w' ⟨D, he, hx, hr⟩ => ⟨D, 8 + 3 * n, 8 + 3 * n, ?_, ?_, hx, Nat.le_refl _, by omega⟩
      · rw [h0]; exact he
      · unfold encB; rw [if_pos h0]; exact hr
    · refine (encode_true unit count S Q A B n m c d w hf h0).mono fun e w' ⟨D, he, hx, hr⟩ => ⟨D, 8 + 3 * n, 8 + 3 * n, ?_, ?_, hx, Nat.le_refl _, by omega⟩
      · rw [h0]; exact he
      · unfold encB; rw [if_pos h0]; exact hr
  · refine (encode_err unit count sy S Q A B n m c d w hf h0).mono fun e w' ⟨he, hx⟩ => ⟨none, 0, 0, he, ?_, hx, Nat.le_refl _, by omega⟩
    unfold encB; rw [if_neg h0]; exact Reads.none_

def REncPost (f : Fr) (w : World) (e : Ending) (w' : World) : Prop :=
  ∃ D n c, e = .returned (.tuple #[.slice D n c, .int .i64 (checkF f)]) ∧ Reads w' w'.heap.size 1 D n ((encB f).map (.int .u8)) ∧ Ext w w'
theorem rencode_any (unit count : Int) (sy : Bool) (S Q : List Int) (A B : Option Addr) (n m c d : Nat) (w : World) (hf : RFr w ⟨unit, count, sy, S, Q⟩ A B n m c d) :
    Calls Try.prog 19 #[.agg #[.int .i64 unit, .int .i64 count, .bool sy, .slice A n c, .slice B m d]] w (REncPost ⟨unit, count, sy, S, Q⟩ w) := by
  by_cases h0 : checkF ⟨unit, count, sy, S, Q⟩ = 0
  · cases sy
    · refine (rencode_false unit count S Q A B n m c d w hf h0).mono fun e w' ⟨D, k, he, hx, hr⟩ => ⟨D, 8 + 3 * n, k, ?_, ?_, hx⟩
      · rw [h0]; exact he
      · unfold encB; rw [if_pos h0]; exact hr
    · refine (rencode_true unit count S Q A B n m c d w hf h0).mono fun e w' ⟨D, k, he, hx, hr⟩ => ⟨D, 8 + 3 * n, k, ?_, ?_, hx⟩
      · rw [h0]; exact he
      · unfold encB; rw [if_pos h0]; exact hr
  · refine (rencode_err unit count sy S Q A B n m c d w hf h0).mono fun e w' ⟨he, hx⟩ => ⟨none, 0, 0, he, ?_, hx⟩
    unfold encB; rw [if_neg h0]; exact Reads.none_

set_option maxHeartbeats 1000000 in
theorem bytes_any (unit count : Int) (sy : Bool) (S Q : List Int) (A B : Option Addr) (n m c d : Nat) (D : Option Addr) (nb cb : Nat) (l : List Int) (w : World) (hf : RFr w ⟨unit, count, sy, S, Q⟩ A B n m c d)
    (hl : Reads w w.heap.size 1 D nb (l.map (.int .u8))) (hb : ∀ x ∈ l, 0 ≤ x ∧ x ≤ 255) (hn : nb ≤ cb) (hc : cb ≤ 9223372036854775807) :
    Calls Try.prog 5 #[.agg #[.int .i64 unit, .int .i64 count, .bool sy, .slice A n c, .slice B m d], .slice D nb cb] w fun e w' => e = .returned (.bool true) ∧ Ext w w' := by
  have HF := Lib.hid hf; clear hf
  have HL := Lib.hid hl; clear hl
  have HB := Lib.hid hb; clear hb
  go_enter Try.func5, Try.ntmps5
  go_wp2_with fail
  refine (known_any _).mono ?_
  rintro e w1 ⟨rfl, x1⟩
  have bb1 := (Blk.new w 24 _).ext x1
  have c1 := bb1.cell
  have e1 : Ext w w1 := (Ext.new _ _).trans x1
  go_wp2_with fail
  refine (encode_any unit count sy S Q A B n m c d _ (HF.out.ext e1)).mono ?_
  rintro e w2 ⟨D2, n2, k2, rfl, r2, x2, _, _⟩
  generalize hCk : checkF ⟨unit, count, sy, S, Q⟩ = Ck
  have HCK := Lib.hid hCk; clear hCk
  have R2 := Lib.hid r2; clear r2 c1
  have c2 := (bb1.ext x2).cell
  go_wp2_with fail
  refine (to_raw unit count sy A B n m c d _).mono ?_
  rintro e w3 ⟨rfl, x3⟩
  go_wp2_with fail
  refine (rencode_any unit count sy S Q A B n m c d _ (HF.out.ext (e1.trans (x2.trans x3)))).mono ?_
  rintro e w4 ⟨D4, n4, k4, rfl, r4, x4⟩
  rw [HCK.out]
  have R4 := Lib.hid r4; clear r4 c2
  go_wp2_with fail
  refine (decode_any D nb cb l _ (HL.out.ext (e1.trans (x2.trans (x3.trans x4)))) HB.out hn hc).mono ?_
  rintro e w5 ⟨A5, B5, n5, m5, c5, d5, rfl, r5, x5⟩
  have R5 := Lib.hid r5; clear r5
  go_wp2_with fail
  refine (rdecode_any D nb cb l _ (HL.out.ext ((e1.trans (x2.trans (x3.trans (x4.trans x5)))).alloc _)) HB.out hn hc).mono ?_
  rintro e w6 ⟨A6, B6, n6, m6, c6, d6, rfl, r6, x6⟩
  have R6 := Lib.hid r6; clear r6
  have bb6 := (Blk.new w5 24 _).ext x6
  generalize hFR : decFr l = F at *
  obtain ⟨u, ct, s, SS, QQ⟩ := F
  have HFR := Lib.hid hFR; clear hFR
  go_wp2_with fail
  have P5 := ExtOf.blk (bb6.alloc (.cells #[.int .i64 u, .int .i64 ct, .bool s, .slice A6 n6 c6, .slice B6 m6 d6] 29))
  have P6 := ExtOf.blk (Blk.new w6 29 #[.int .i64 u, .int .i64 ct, .bool s, .slice A6 n6 c6, .slice B6 m6 d6])
  have e47 : Ext w4 (w6.alloc (.cells #[.int .i64 u, .int .i64 ct, .bool s, .slice A6 n6 c6, .slice B6 m6 d6] 29)) := (x5.trans ((Ext.new _ _).trans x6)).alloc _
  have S2 := fun (x : ExtOf (w6.alloc (.cells #[.int .i64 u, .int .i64 ct, .bool s, .slice A6 n6 c6, .slice B6 m6 d6] 29))) => ((R2.out.ext ((x3.trans x4).trans e47)).ext x.ext).run_string (P := Try.prog) (c := k2) (src := 43) (dst := 9) Try.underlying43 Try.underlying5 Try.underlying9
  have S4 := fun (x : ExtOf (w6.alloc (.cells #[.int .i64 u, .int .i64 ct, .bool s, .slice A6 n6 c6, .slice B6 m6 d6] 29))) => ((R4.out.ext e47).ext x.ext).run_string (P := Try.prog) (c := k4) (src := 43) (dst := 9) Try.underlying43 Try.underlying5 Try.underlying9
  have hself := sameF_self ⟨u, ct, s, SS, QQ⟩
  refine wp_region_ext_lit (by kernel_rfl) (by kernel_rfl) ?_
  repeat (go_big_quiet_step (first
    | (go_at_call 11; exact Calls.ext_of (to_raw _ _ _ _ _ _ _ _ _ _))
    | (go_at_call 13; exact Calls.ext_of (rsame_raw _ _ _ _ _ _ _ _ _ _ _ _ _ _ _ _ _ _ _ _ _ _ _ ((R5.out.ext (((Ext.new _ _).trans x6).alloc _)).ext (ExtOf.ext _)) ((R6.out.ext (Ext.new _ _)).ext (ExtOf.ext _))))))
  refine wpQuiet_nil ?_
  intro W hW
  obtain ⟨x, rfl⟩ := hW
  go_wp2_with fail
  go_ret
  exact ⟨rfl, ((e1.trans (x2.trans (x3.trans x4))).trans e47).trans x.ext⟩

theorem byte_bounds {x : Int} (h : (Lit.int .u8 x).wf = true) : 0 ≤ x ∧ x ≤ 255 := by
  simp [Lit.wf, IntKind.min, IntKind.max, IntKind.signed, IntKind.bits] at h
  exact ⟨by omega, by omega⟩
theorem Try.cells5 : Try.prog.cellsOf 5 = 1 := by kernel_rfl

set_option maxRecDepth 100000 in
theorem streamBytes_lifted (os : Os) (started : os.Started) (H : Type) (enc : TypeId × Value → H) :
    ReturnsInHanded {} Try.checked os 5 .any (Rows.streamBytesSpec.pre6 enc Try.prog Try.f5 Rows.streamBytesRow.domain false) (Rows.streamBytesSpec.post enc Try.prog Try.f5 false true false false) := by
  refine returnsInHanded_of_change (C := Try.checked) Try.own started (by kernel_rfl) Try.func5
    (ChangeSpec.witness6 (enc := enc) (C := Try.checked) false ⟨#[], #[.agg #[.int .i64 0, .int .i64 0, .bool false, .slice none 0 0, .slice none 0 0], .slice none 0 0], []⟩ 8 (by kernel_rfl) (by kernel_rfl) (by kernel_rfl) (by kernel_rfl)) ?_
  intro W base args ds gs before hval0 hW hcnd _
  have hval : ∀ (j : Nat) t v, Try.f5.params[j]? = some t → args[j]? = some v → Value.okWide Try.prog W .any base t v := hval0
  have hW' := hW
  obtain ⟨p, q, hA0, hV, rfl, hfz, hnd⟩ := hW
  obtain ⟨rfl, rfl⟩ := trodVars_none hV
  have hA : DataW.TrodAll enc Try.prog W 0 (fun _ => true) true Try.f5.params.toList args.toList ds p := hA0
  have hA1 := hA
  simp only [List.append_nil] at hW'
  rw [Try.params5] at hA hval
  obtain ⟨v0, v1, d0, d1, p0, p1, rfl, rfl, rfl, h0, h1⟩ := trodAll_two hA
  obtain ⟨unit, count, sy, S, Q, A, B, n, m, c, d, rfl, hf⟩ := open_frame rfl (by kernel_rfl) (hval 0 24 v0 rfl rfl) h0
  obtain ⟨a0, len0, cap0, rfl⟩ := okWide_slice Try.underlying43 (hval 1 43 v1 rfl rfl)
  obtain ⟨fuel, hfu⟩ := h1
  obtain ⟨D, nb, cb, l, hv, hr, hnc, hcm, hwf⟩ := open_reads Try.underlying43 Try.underlying5 Try.cells5 hfu
  rw [hv]
  unfold maxLen at hcm
  refine (bytes_any unit count sy S Q A B n m c d D nb cb l W hf hr (fun x hx => byte_bounds (hwf x hx)) hnc hcm).mono fun e W' ⟨he, hb⟩ => ?_
  subst he
  rw [← hv]
  exact ⟨_, rfl, post_law Try.laidOut rfl rfl Try.underlying4 (by rw [Try.params5]; intro t ht; simp at ht; rcases ht with rfl | rfl <;> exact ⟨by kernel_rfl, of_decide_eq_true (by kernel_rfl)⟩) hW' hA1 rfl rfl rfl hb⟩

theorem streamBytes_holds : Rows.StreamBytesSaid :=
  OpenClaim.holds_of_wide 5 Try.f5 rfl rfl rfl rfl rfl rfl rfl ⟨rfl, rfl, rfl, rfl, rfl⟩ rfl rfl rfl rfl rfl (by kernel_rfl) Try.func5 (by kernel_rfl)
    (of_decide_eq_true (by kernel_rfl)) (by unfold Func.isWrapper; first | (rw [if_pos (by decide +kernel)]; kernel_rfl) | (rw [if_neg (by decide +kernel)]; exact ⟨rfl, rfl⟩))
    (fun os started H enc _ => streamBytes_lifted os started H enc)
#print axioms streamBytes_holds
end Go.Proofs.Ytmlcmnbjioabiaa
