/- The plain laws of the round trip: Decode of Encode, and Encode of Decode. -/
import Derived.Test.YtmlcmnbjioabiaaSh
namespace Go.Proofs.Ytmlcmnbjioabiaa

theorem encHead_len (f : Fr) : (encHead f).length = 8 := by simp [encHead, b2]

theorem encBody_at {S Q : List Int} {k : Nat} {x q : Int} (hx : S[k]? = some x) (hq : Q[k]? = some q) :
    (encBody S Q)[3 * k]? = some (x / 256 % 256) ∧ (encBody S Q)[3 * k + 1]? = some (x % 256) ∧ (encBody S Q)[3 * k + 2]? = some (q % 256) := by
  induction k generalizing S Q with
  | zero =>
    cases S with
    | nil => simp at hx
    | cons a r =>
      cases Q with
      | nil => simp at hq
      | cons b t => simp at hx hq; subst hx hq; simp [encBody, b2]
  | succ k ih =>
    cases S with
    | nil => simp at hx
    | cons a r =>
      cases Q with
      | nil => simp at hq
      | cons b t =>
        simp only [List.getElem?_cons_succ] at hx hq
        have := ih hx hq
        simp only [encBody, b2, List.cons_append, List.nil_append]
        rw [show 3 * (k + 1) = 3 * k + 3 by omega]
        exact this

theorem byt_enc {f : Fr} {k : Nat} {x q : Int} (hx : f.S[k]? = some x) (hq : f.Q[k]? = some q) :
    byt (encF f) (8 + 3 * k) = x / 256 % 256 ∧ byt (encF f) (8 + 3 * k + 1) = x % 256 ∧ byt (encF f) (8 + 3 * k + 2) = q % 256 := by
  obtain ⟨h1, h2, h3⟩ := encBody_at hx hq
  have hl := encHead_len f
  unfold byt encF
  refine ⟨?_, ?_, ?_⟩ <;> rw [List.getD, List.getElem?_append_right (by omega), hl]
  · rw [show 8 + 3 * k - 8 = 3 * k by omega, h1]; rfl
  · rw [show 8 + 3 * k + 1 - 8 = 3 * k + 1 by omega, h2]; rfl
  · rw [show 8 + 3 * k + 2 - 8 = 3 * k + 2 by omega, h3]; rfl

theorem s16_back {x : Int} (h : -16383 ≤ x) (h' : x ≤ 16383) : s16 (x / 256 % 256 * 256 + x % 256) = x := by
  unfold s16
  split <;> omega

/-- Decode of Encode. -/
theorem dec_enc {f : Fr} (h : checkF f = 0) : decE (encF f) = 0 ∧ decFr (encF f) = f := by
  have hz := checkF_zero h
  have hb := checkF_bounds h
  obtain ⟨unit, count, sy, S, Q⟩ := f
  dsimp only at hz hb
  have hlen : (encF ⟨unit, count, sy, S, Q⟩).length = 8 + 3 * S.length := by
    unfold encF; rw [List.length_append, encHead_len, encBody_len (by simpa using hz.2.1)]
  have y0 : byt (encF ⟨unit, count, sy, S, Q⟩) 0 = 136 := by simp [byt, encF, encHead]
  have y1 : byt (encF ⟨unit, count, sy, S, Q⟩) 1 = 186 := by simp [byt, encF, encHead]
  have y2 : byt (encF ⟨unit, count, sy, S, Q⟩) 2 = unit / 256 % 256 := by simp [byt, encF, encHead, b2]
  have y3 : byt (encF ⟨unit, count, sy, S, Q⟩) 3 = unit % 256 := by simp [byt, encF, encHead, b2]
  have y4 : byt (encF ⟨unit, count, sy, S, Q⟩) 4 = count / 256 % 256 := by simp [byt, encF, encHead, b2]
  have y5 : byt (encF ⟨unit, count, sy, S, Q⟩) 5 = count % 256 := by simp [byt, encF, encHead, b2]
  have y6 : byt (encF ⟨unit, count, sy, S, Q⟩) 6 = if sy then 1 else 0 := by simp [byt, encF, encHead, b2]
  have y7 : byt (encF ⟨unit, count, sy, S, Q⟩) 7 = (S.length : Int) := by simp [byt, encF, encHead, b2]
  have hraw : decRaw (encF ⟨unit, count, sy, S, Q⟩) = ⟨unit, count, sy, S, Q⟩ := by
    unfold decRaw
    rw [y2, y3, y4, y5, y6, y7]
    have e1 : unit / 256 % 256 * 256 + unit % 256 = unit := by omega
    have e2 : count / 256 % 256 * 256 + count % 256 = count := by omega
    have e3 : ((if sy then (1 : Int) else 0) == 1) = sy := by cases sy <;> rfl
    have e4 : decS (encF ⟨unit, count, sy, S, Q⟩) S.length = S := by
      apply List.ext_getElem
      · simp [decS]
      · intro k h1 h2
        have hk : k < Q.length := by omega
        obtain ⟨z0, z1, _⟩ := byt_enc (f := ⟨unit, count, sy, S, Q⟩) (List.getElem?_eq_getElem h2) (List.getElem?_eq_getElem hk)
        have bb := hb k _ _ (List.getElem?_eq_getElem h2) (List.getElem?_eq_getElem hk)
        simp only [decS, List.getElem_map, List.getElem_range]
        rw [z0, z1]
        exact s16_back bb.1.1 bb.1.2
    have e5 : decQ (encF ⟨unit, count, sy, S, Q⟩) S.length = Q := by
      apply List.ext_getElem
      · simp [decQ]; omega
      · intro k h1 h2
        have hk : k < S.length := by omega
        obtain ⟨_, _, z2⟩ := byt_enc (f := ⟨unit, count, sy, S, Q⟩) (List.getElem?_eq_getElem hk) (List.getElem?_eq_getElem h2)
        have bb := hb k _ _ (List.getElem?_eq_getElem hk) (List.getElem?_eq_getElem h2)
        simp only [decQ, List.getElem_map, List.getElem_range]
        rw [z2]
        omega
    rw [e1, e2, e3, Int.toNat_natCast, e4, e5]
  have hE : decE (encF ⟨unit, count, sy, S, Q⟩) = 0 := by
    unfold decE
    rw [if_neg (by omega), if_neg (by rw [y0, y1]; simp), if_neg (by rw [y6]; split <;> omega), if_neg (by rw [y7, hlen]; omega), if_neg (by rw [y7, hlen]; omega), hraw]
    exact h
  exact ⟨hE, by unfold decFr; rw [if_pos hE, hraw]⟩

theorem s16_enc {a b : Int} (ha : 0 ≤ a ∧ a ≤ 255) (hb : 0 ≤ b ∧ b ≤ 255) : s16 (a * 256 + b) / 256 % 256 = a ∧ s16 (a * 256 + b) % 256 = b := by
  unfold s16
  split <;> omega

theorem byt_get {l : List Int} {k : Nat} (h : k < l.length) : l[k]? = some (byt l k) := by
  unfold byt; rw [List.getD, List.getElem?_eq_getElem h]; rfl

/-- Encode of Decode. -/
theorem enc_dec {l : List Int} (hb : ∀ x ∈ l, 0 ≤ x ∧ x ≤ 255) (h : decE l = 0) : checkF (decFr l) = 0 ∧ encF (decFr l) = l := by
  have hfr : decFr l = decRaw l := by unfold decFr; rw [if_pos h]
  unfold decE at h
  split at h
  · cases h
  rename_i h8
  split at h
  · cases h
  rename_i h01
  split at h
  · cases h
  rename_i h6
  split at h
  · cases h
  rename_i h7
  split at h
  · cases h
  rename_i h7'
  have bnd : ∀ k, k < l.length → 0 ≤ byt l k ∧ byt l k ≤ 255 := fun k hk => hb _ (List.mem_of_getElem? (byt_get hk))
  have b2' := bnd 2 (by omega)
  have b3' := bnd 3 (by omega)
  have b4' := bnd 4 (by omega)
  have b5' := bnd 5 (by omega)
  have b6' := bnd 6 (by omega)
  have b7' := bnd 7 (by omega)
  rw [hfr]
  refine ⟨h, ?_⟩
  obtain ⟨m, hm⟩ : ∃ m : Nat, byt l 7 = m := ⟨(byt l 7).toNat, by omega⟩
  have hl : l.length = 8 + 3 * m := by omega
  have h0 : byt l 0 = 136 := by omega
  have h1 : byt l 1 = 186 := by omega
  have hbody : ∀ n, 8 + 3 * n ≤ l.length → encBody (decS l n) (decQ l n) = (l.drop 8).take (3 * n) := by
    intro n
    induction n with
    | zero => intro _; simp [decS, decQ, encBody]
    | succ n ih =>
      intro hn
      have hi := ih (by omega)
      have eS : decS l (n + 1) = decS l n ++ [s16 (byt l (8 + 3 * n) * 256 + byt l (8 + 3 * n + 1))] := by simp only [decS, List.range_succ, List.map_append, List.map_cons, List.map_nil]
      have eQ : decQ l (n + 1) = decQ l n ++ [byt l (8 + 3 * n + 2)] := by simp only [decQ, List.range_succ, List.map_append, List.map_cons, List.map_nil]
      have lS : (decS l n).length = n := by simp [decS]
      have lQ : (decQ l n).length = n := by simp [decQ]
      have key := encBody_snoc (S := decS l (n + 1)) (Q := decQ l (n + 1)) (k := n) (x := s16 (byt l (8 + 3 * n) * 256 + byt l (8 + 3 * n + 1))) (q := byt l (8 + 3 * n + 2)) (by rw [eS, List.getElem?_append_right (by omega), lS]; simp) (by rw [eQ, List.getElem?_append_right (by omega), lQ]; simp)
      rw [List.take_of_length_le (by rw [eS]; simp [lS]), List.take_of_length_le (by rw [eQ]; simp [lQ])] at key
      rw [key]
      have tS : (decS l (n + 1)).take n = decS l n := by rw [eS, List.take_append_of_le_length (by omega), List.take_of_length_le (by omega)]
      have tQ : (decQ l (n + 1)).take n = decQ l n := by rw [eQ, List.take_append_of_le_length (by omega), List.take_of_length_le (by omega)]
      rw [tS, tQ, hi]
      obtain ⟨s1, s2⟩ := s16_enc (bnd (8 + 3 * n) (by omega)) (bnd (8 + 3 * n + 1) (by omega))
      have b9 := bnd (8 + 3 * n + 2) (by omega)
      rw [s1, s2, Int.emod_eq_of_lt b9.1 (by omega)]
      have g : ∀ j, j < 3 → (l.drop 8)[3 * n + j]? = some (byt l (8 + 3 * n + j)) := fun j hj => by rw [List.getElem?_drop, show 8 + (3 * n + j) = 8 + 3 * n + j by omega]; exact byt_get (by omega)
      have g0 := g 0 (by omega)
      have g1 := g 1 (by omega)
      have g2 := g 2 (by omega)
      simp only [Nat.add_zero] at g0
      rw [show 3 * (n + 1) = 3 * n + 1 + 1 + 1 by omega]
      obtain ⟨q0, r0⟩ := List.getElem?_eq_some_iff.1 g0
      obtain ⟨q1, r1⟩ := List.getElem?_eq_some_iff.1 g1
      obtain ⟨q2, r2⟩ := List.getElem?_eq_some_iff.1 g2
      rw [List.take_succ_eq_append_getElem (i := 3 * n + 1 + 1) (by omega), List.take_succ_eq_append_getElem (i := 3 * n + 1) (by omega), List.take_succ_eq_append_getElem (i := 3 * n) (by omega), r0, r1, r2]
      simp
  unfold encF
  have hhead : encHead (decRaw l) = l.take 8 := by
    have g : ∀ j, j < 8 → l[j]? = some (byt l j) := fun j hj => byt_get (by omega)
    have e6 : (if (byt l 6 == 1) = true then (1 : Int) else 0) = byt l 6 := by
      by_cases hq : byt l 6 = 1
      · simp [hq]
      · have : byt l 6 = 0 := by omega
        simp [this]
    have e2 : (byt l 2 * 256 + byt l 3) / 256 % 256 = byt l 2 ∧ (byt l 2 * 256 + byt l 3) % 256 = byt l 3 := by omega
    have e4 : (byt l 4 * 256 + byt l 5) / 256 % 256 = byt l 4 ∧ (byt l 4 * 256 + byt l 5) % 256 = byt l 5 := by omega
    have lS : (decS l m).length = m := by simp [decS]
    simp only [encHead, decRaw, b2, e2.1, e2.2, e4.1, e4.2, e6, hm, Int.toNat_natCast, lS]
    match l, h8 with
    | x0 :: x1 :: x2 :: x3 :: x4 :: x5 :: x6 :: x7 :: r, _ =>
      simp only [byt, List.getD] at *
      simp at h0 h1 hm
      simp [h0, h1, hm]
    | [], h => simp at h
    | [_], h => simp at h
    | [_, _], h => simp at h
    | [_, _, _], h => simp at h
    | [_, _, _, _], h => simp at h
    | [_, _, _, _, _], h => simp at h
    | [_, _, _, _, _, _], h => simp at h
    | [_, _, _, _, _, _, _], h => simp at h
  rw [hhead]
  have hb2 := hbody m (by omega)
  have e7 : (byt l 7).toNat = m := by omega
  simp only [decRaw, e7]
  rw [hb2]
  rw [show (l.drop 8).take (3*m) = l.drop 8 from List.take_of_length_le (by rw [List.length_drop]; omega), List.take_append_drop]
end Go.Proofs.Ytmlcmnbjioabiaa
