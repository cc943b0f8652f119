/- StreamRoundTrip returns true for every input: Decode inverts Encode and Encode inverts Decode. No conditions. -/
import Derived.Test.YtmlcmnbjioabiaaSk
import Derived.Test.YtmlcmnbjioabiaaStreamBytes
namespace Go.Proofs.Ytmlcmnbjioabiaa
open Go.RowKit Go.ChangeShapes Go.WideShapes Go.ChangeAt Go.Joins Go.Deep

theorem encBody_bytes : ∀ (S Q : List Int), ∀ x ∈ encBody S Q, 0 ≤ x ∧ x ≤ 255
  | [], _, x, h => by simp [encBody] at h
  | _ :: _, [], x, h => by simp [encBody] at h
  | a :: S, b :: Q, x, h => by
    simp only [encBody, b2, List.cons_append, List.nil_append, List.mem_cons] at h
    rcases h with rfl | rfl | rfl | h
    · omega
    · omega
    · omega
    · exact encBody_bytes S Q x h
theorem encF_bytes {f : Fr} (h : checkF f = 0) : ∀ x ∈ encF f, 0 ≤ x ∧ x ≤ 255 := by
  intro x hx
  have hz := checkF_zero h
  rcases List.mem_append.mp hx with h1 | h1
  · simp only [encHead, b2, List.cons_append, List.nil_append, List.mem_cons, List.not_mem_nil, or_false] at h1
    rcases h1 with rfl | rfl | rfl | rfl | rfl | rfl | rfl | rfl <;> first | omega | (split <;> omega)
  · exact encBody_bytes _ _ x h1

set_option maxHeartbeats 1000000 in
theorem round_any (unit count : Int) (sy : Bool) (S Q : List Int) (A B : Option Addr) (n m c d : Nat) (D : Option Addr) (nb cb : Nat) (l : List Int) (w : World) (hf : RFr w ⟨unit, count, sy, S, Q⟩ A B n m c d)
    (hl : Reads w w.heap.size 1 D nb (l.map (.int .u8))) (hb : ∀ x ∈ l, 0 ≤ x ∧ x ≤ 255) (hn : nb ≤ cb) (hc : cb ≤ 9223372036854775807) :
    Calls Try.prog 6 #[.agg #[.int .i64 unit, .int .i64 count, .bool sy, .slice A n c, .slice B m d], .slice D nb cb] w fun e w' => e = .returned (.bool true) ∧ Ext w w' := by
  have HF := Lib.hid hf; clear hf
  have HL := Lib.hid hl; clear hl
  have HB := Lib.hid hb; clear hb
  have HN := Lib.hid (And.intro hn hc); clear hn hc
  go_enter Try.func6, Try.ntmps6
  go_wp2_with fail
  refine (known_any _).mono ?_
  rintro e w1 ⟨rfl, x1⟩
  have bb1 := (Blk.new w 24 _).ext x1
  have c1 := bb1.cell
  have e1 : Ext w w1 := (Ext.new _ _).trans x1
  go_wp2_with fail
  refine (encode_any unit count sy S Q A B n m c d _ (HF.out.ext e1)).mono ?_
  rintro e w2 ⟨D2, n2, k2, rfl, r2, x2, hn2, hc2⟩
  have R2 := Lib.hid r2; clear r2 c1
  have HN2 := Lib.hid (And.intro hn2 hc2); clear hn2 hc2
  have bb2 := bb1.ext x2
  by_cases hck : checkF ⟨unit, count, sy, S, Q⟩ = 0
  case neg =>
    generalize checkF ⟨unit, count, sy, S, Q⟩ = Ck at *
    have hck' : (Ck == 0) = false := by simp [hck]
    have ew : Ext w w2 := e1.trans x2
    go_wp2_with fail
    refine (decode_any D nb cb l _ (HL.out.ext ew) HB.out HN.out.1 HN.out.2).mono ?_
    rintro e w8 ⟨A8, B8, n8, m8, c8, d8, rfl, r8, x8⟩
    have R8 := Lib.hid r8; clear r8
    by_cases hE : decE l = 0
    case neg =>
      have hz : decFr l = zeroFr := by unfold decFr; rw [if_neg hE]
      have hn8 : n8 = 0 := by have := R8.out.hS.len; rw [hz] at this; simpa [zeroFr] using this.symm
      rw [hz]
      subst hn8
      simp only [zeroFr]
      generalize decE l = E at *
      have hE' : (E != 0) = true := by simp [hE]
      go_wp2_with fail
      go_ret
      exact ⟨rfl, (ew.trans x8).alloc _⟩
    case pos =>
      have ED := enc_dec HB.out hE
      rw [hE]
      generalize hFR : decFr l = F at *
      obtain ⟨u, ct, s, SS, QQ⟩ := F
      have HED := Lib.hid ED; clear ED hE hFR
      dsimp only
      go_wp2_with fail
      refine (encode_any u ct s SS QQ A8 B8 n8 m8 c8 d8 _ (R8.out.ext (Ext.new _ _))).mono ?_
      rintro e w9 ⟨D9, n9, k9, rfl, r9, x9, _, _⟩
      rw [HED.out.1]
      unfold encB at r9
      rw [if_pos HED.out.1, HED.out.2] at r9
      have e9 : Ext w w9 := (ew.trans x8).trans ((Ext.new _ _).trans x9)
      have S1 := r9.run_string (P := Try.prog) (c := k9) (src := 43) (dst := 9) Try.underlying43 Try.underlying5 Try.underlying9
      have S2 := (HL.out.ext e9).run_string (P := Try.prog) (c := cb) (src := 43) (dst := 9) Try.underlying43 Try.underlying5 Try.underlying9
      go_wp2_with fail
      go_ret
      exact ⟨rfl, e9⟩
  case pos =>
    have DE := dec_enc hck
    have EB := Lib.hid (encF_bytes hck)
    have r2' := R2.out
    unfold encB at r2'
    rw [if_pos hck] at r2'
    rw [hck]
    clear R2
    have R2 := Lib.hid r2'; clear r2'
    have HCK := Lib.hid hck; clear hck
    have HDE := Lib.hid DE; clear DE
    go_wp2_with fail
    refine (decode_any D2 n2 k2 _ _ R2.out EB.out HN2.out.1 HN2.out.2).mono ?_
    rintro e w5 ⟨A5, B5, n5, m5, c5, d5, rfl, r5, x5⟩
    rw [HDE.out.1]
    rw [HDE.out.2] at *
    have R5 := Lib.hid r5; clear r5
    dsimp only
    have bb5 := bb2.ext x5
    go_wp2_with fail
    have P5 := ExtOf.blk (bb5.alloc (.cells #[.int .i64 unit, .int .i64 count, .bool sy, .slice A5 n5 c5, .slice B5 m5 d5] 24))
    have P6 := ExtOf.blk (Blk.new w5 24 #[.int .i64 unit, .int .i64 count, .bool sy, .slice A5 n5 c5, .slice B5 m5 d5])
    have e5 : Ext w (w5.alloc (.cells #[.int .i64 unit, .int .i64 count, .bool sy, .slice A5 n5 c5, .slice B5 m5 d5] 24)) := (e1.trans (x2.trans x5)).alloc _
    have hself := sameF_self ⟨unit, count, sy, S, Q⟩
    refine wp_region_ext_lit (by kernel_rfl) (by kernel_rfl) ?_
    repeat (go_big_quiet_step (first
      | (go_at_call 11; exact Calls.ext_of (to_raw _ _ _ _ _ _ _ _ _ _))
      | (go_at_call 13; exact Calls.ext_of (rsame_raw _ _ _ _ _ _ _ _ _ _ _ _ _ _ _ _ _ _ _ _ _ _ _ ((R5.out.ext (Ext.new _ _)).ext (ExtOf.ext _)) ((HF.out.ext e5).ext (ExtOf.ext _))))))
    refine wpQuiet_nil ?_
    intro W hW
    obtain ⟨x, rfl⟩ := hW
    have ew : Ext w x.val := e5.trans x.ext
    go_wp2_with fail
    refine (decode_any D nb cb l _ (HL.out.ext ew) HB.out HN.out.1 HN.out.2).mono ?_
    rintro e w8 ⟨A8, B8, n8, m8, c8, d8, rfl, r8, x8⟩
    have R8 := Lib.hid r8; clear r8
    by_cases hE : decE l = 0
    case neg =>
      have hz : decFr l = zeroFr := by unfold decFr; rw [if_neg hE]
      have hn8 : n8 = 0 := by have := R8.out.hS.len; rw [hz] at this; simpa [zeroFr] using this.symm
      rw [hz]
      subst hn8
      simp only [zeroFr]
      generalize decE l = E at *
      have hE' : (E != 0) = true := by simp [hE]
      go_wp2_with fail
      go_ret
      exact ⟨rfl, (ew.trans x8).alloc _⟩
    case pos =>
      have ED := enc_dec HB.out hE
      rw [hE]
      generalize hFR : decFr l = F at *
      obtain ⟨u, ct, s, SS, QQ⟩ := F
      have HED := Lib.hid ED; clear ED hE hFR
      dsimp only
      go_wp2_with fail
      refine (encode_any u ct s SS QQ A8 B8 n8 m8 c8 d8 _ (R8.out.ext (Ext.new _ _))).mono ?_
      rintro e w9 ⟨D9, n9, k9, rfl, r9, x9, _, _⟩
      rw [HED.out.1]
      unfold encB at r9
      rw [if_pos HED.out.1, HED.out.2] at r9
      have e9 : Ext w w9 := (ew.trans x8).trans ((Ext.new _ _).trans x9)
      have S1 := r9.run_string (P := Try.prog) (c := k9) (src := 43) (dst := 9) Try.underlying43 Try.underlying5 Try.underlying9
      have S2 := (HL.out.ext e9).run_string (P := Try.prog) (c := cb) (src := 43) (dst := 9) Try.underlying43 Try.underlying5 Try.underlying9
      go_wp2_with fail
      go_ret
      exact ⟨rfl, e9⟩

set_option maxRecDepth 100000 in
theorem streamRoundTrip_lifted (os : Os) (started : os.Started) (H : Type) (enc : TypeId × Value → H) :
    ReturnsInHanded {} Try.checked os 6 .any (Rows.streamRoundTripSpec.pre6 enc Try.prog Try.f6 Rows.streamRoundTripRow.domain false) (Rows.streamRoundTripSpec.post enc Try.prog Try.f6 false true false false) := by
  refine returnsInHanded_of_change (C := Try.checked) Try.own started (by kernel_rfl) Try.func6
    (ChangeSpec.witness6 (enc := enc) (C := Try.checked) false ⟨#[], #[.agg #[.int .i64 0, .int .i64 0, .bool false, .slice none 0 0, .slice none 0 0], .slice none 0 0], []⟩ 8 (by kernel_rfl) (by kernel_rfl) (by kernel_rfl) (by kernel_rfl)) ?_
  intro W base args ds gs before hval0 hW hcnd _
  have hval : ∀ (j : Nat) t v, Try.f6.params[j]? = some t → args[j]? = some v → Value.okWide Try.prog W .any base t v := hval0
  have hW' := hW
  obtain ⟨p, q, hA0, hV, rfl, hfz, hnd⟩ := hW
  obtain ⟨rfl, rfl⟩ := trodVars_none hV
  have hA : DataW.TrodAll enc Try.prog W 0 (fun _ => true) true Try.f6.params.toList args.toList ds p := hA0
  have hA1 := hA
  simp only [List.append_nil] at hW'
  rw [Try.params6] at hA hval
  obtain ⟨v0, v1, d0, d1, p0, p1, rfl, rfl, rfl, h0, h1⟩ := trodAll_two hA
  obtain ⟨unit, count, sy, S, Q, A, B, n, m, c, d, rfl, hf⟩ := open_frame rfl (by kernel_rfl) (hval 0 24 v0 rfl rfl) h0
  obtain ⟨a0, len0, cap0, rfl⟩ := okWide_slice Try.underlying43 (hval 1 43 v1 rfl rfl)
  obtain ⟨fuel, hfu⟩ := h1
  obtain ⟨D, nb, cb, l, hv, hr, hnc, hcm, hwf⟩ := open_reads Try.underlying43 Try.underlying5 Try.cells5 hfu
  rw [hv]
  unfold maxLen at hcm
  refine (round_any unit count sy S Q A B n m c d D nb cb l W hf hr (fun x hx => byte_bounds (hwf x hx)) hnc hcm).mono fun e W' ⟨he, hb⟩ => ?_
  subst he
  rw [← hv]
  exact ⟨_, rfl, post_law Try.laidOut rfl rfl Try.underlying4 (by rw [Try.params6]; intro t ht; simp at ht; rcases ht with rfl | rfl <;> exact ⟨by kernel_rfl, of_decide_eq_true (by kernel_rfl)⟩) hW' hA1 rfl rfl rfl hb⟩

theorem streamRoundTrip_holds : Rows.StreamRoundTripSaid :=
  OpenClaim.holds_of_wide 6 Try.f6 rfl rfl rfl rfl rfl rfl rfl ⟨rfl, rfl, rfl, rfl, rfl⟩ rfl rfl rfl rfl rfl (by kernel_rfl) Try.func6 (by kernel_rfl)
    (of_decide_eq_true (by kernel_rfl)) (by unfold Func.isWrapper; first | (rw [if_pos (by decide +kernel)]; kernel_rfl) | (rw [if_neg (by decide +kernel)]; exact ⟨rfl, rfl⟩))
    (fun os started H enc _ => streamRoundTrip_lifted os started H enc)
#print axioms streamRoundTrip_holds
end Go.Proofs.Ytmlcmnbjioabiaa
