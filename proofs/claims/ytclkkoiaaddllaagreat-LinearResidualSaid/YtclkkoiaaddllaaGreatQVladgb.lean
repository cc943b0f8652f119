/- Linear: determinants of two and three rows. -/
import Derived.Test.YtclkkoiaaddllaaGreatQVbchjb
import Derived.Test.YtclkkoiaaddllaaGreatQRoweglb
import Derived.Test.YtclkkoiaaddllaaGreatQYaioof
import Derived.Test.YtclkkoiaaddllaaGreatQYocmaf
import Derived.Deep.AppendSrc
namespace Go.Proofs.YtclkkoiaaddllaaGreat
set_option linter.unusedVariables false
set_option linter.unusedSimpArgs false

namespace GQ
end GQ
def D2 (X : Nat → Nat → GQ) : GQ := X 0 0 * X 1 1 - X 0 1 * X 1 0
def D3 (X : Nat → Nat → GQ) : GQ := X 0 0 * (X 1 1 * X 2 2 - X 1 2 * X 2 1) - X 0 1 * (X 1 0 * X 2 2 - X 1 2 * X 2 0) + X 0 2 * (X 1 0 * X 2 1 - X 1 1 * X 2 0)
def d3 (a b c d e f g h i : GQ) : GQ := a * (e * i - f * h) - b * (d * i - f * g) + c * (d * h - e * g)
theorem ech_low (m : Nat) (X : Nat → Nat → GQ) : ∀ c, (ech m X c).r = c → ∀ i j, i < m → j < i → j < c → (ech m X c).X i j = GQ.i 0 0
  | 0, _, i, j, _, _, h => by omega
  | c + 1, h, i, j, hi, hji, hjc => by
    have hle := ech_le m X c
    by_cases hic : c + 1 ≤ i
    · obtain ⟨o, P, hI⟩ := ech_inv m X (c + 1)
      exact hI.z i j (by omega) hi hjc
    have e : ech m X (c + 1) = estep m c (ech m X c) := rfl
    rw [e] at h ⊢
    cases hf : fp (ech m X c).X c (m - (ech m X c).r) (ech m X c).r with
    | none => rw [estep_none hf] at h; omega
    | some k =>
      rw [estep_some hf] at h ⊢
      have hr : (ech m X c).r = c := by have h' : (ech m X c).r + 1 = c + 1 := h; omega
      obtain ⟨h1, h2, h3, h4⟩ := of_fp_some hf
      show clr (fun i => (ech m X c).X (swp k (ech m X c).r i)) (ech m X c).r c i j = _
      rw [hr] at h1 ⊢
      unfold clr
      rw [if_neg (by omega)]
      show (ech m X c).X (swp k c i) j = _
      by_cases e2 : i = c
      · subst e2
        rw [swp_r]
        obtain ⟨o, P, hI⟩ := ech_inv m X i
        exact hI.z k j (by omega) (by omega) (by omega)
      · rw [swp_ne (by omega) e2]; exact ech_low m X c hr i j hi hji (by omega)
/-- The sizes of all rows: row i has the size of its pivots' number. -/
theorem ech_bd {m W b : Nat} {X : Nat → Nat → GQ} {F : Nat → Nat} (hb : ∀ i j, i < m → j < W → Bd (X i j) b) (hF : ∀ k, k < m → room b k < 2 ^ F k) : ∀ c, c ≤ W → ∀ i j, i < m → j < W → Bd ((ech m X c).X i j) (F (min i (ech m X c).r))
  | 0, _, i, j, hi, hj => by
    obtain ⟨o, P, hI⟩ := ech_inv m X 0
    have h0 : (ech m X 0).r = 0 := rfl
    rw [h0, Nat.min_zero]
    exact hI.bd hb (by omega) (by rw [h0]; exact hF 0 (by omega)) i j (by omega) hi hj
  | c + 1, hc, i, j, hi, hj => by
    by_cases hic : (ech m X (c + 1)).r ≤ i
    · obtain ⟨o, P, hI⟩ := ech_inv m X (c + 1)
      rw [Nat.min_eq_right hic]
      exact hI.bd hb hc (hF _ (by omega)) i j hic hi hj
    have ih := ech_bd hb hF c (by omega)
    have e : ech m X (c + 1) = estep m c (ech m X c) := rfl
    rw [e] at hic ⊢
    cases hf : fp (ech m X c).X c (m - (ech m X c).r) (ech m X c).r with
    | none => rw [estep_none hf]; exact ih i j hi hj
    | some k =>
      rw [estep_some hf] at hic ⊢
      obtain ⟨h1, h2, h3, h4⟩ := of_fp_some hf
      have hic' : ¬ (ech m X c).r + 1 ≤ i := hic
      show Bd (clr (fun i => (ech m X c).X (swp k (ech m X c).r i)) (ech m X c).r c i j) (F (min i ((ech m X c).r + 1)))
      unfold clr
      rw [if_neg (by omega), show min i ((ech m X c).r + 1) = i by omega]
      by_cases e2 : i = (ech m X c).r
      · have := ih k j (by omega) hj
        rw [show min k (ech m X c).r = i by omega] at this
        subst e2; show Bd ((ech m X c).X (swp k (ech m X c).r (ech m X c).r) j) _
        rw [swp_r]; exact this
      · have := ih i j hi hj
        rw [show min i (ech m X c).r = i by omega] at this
        show Bd ((ech m X c).X (swp k (ech m X c).r i) j) _
        rw [swp_ne (by omega) e2]; exact this
theorem ech_dg {m b : Nat} {X : Nat → Nat → GQ} {F : Nat → Nat} (hb : ∀ i j, i < m → j < m → Bd (X i j) b) (hF : ∀ k, k < m → room b k < 2 ^ F k) (hmono : ∀ i j, i ≤ j → F i ≤ F j) : ∀ i j, i < m → j < m → Bd ((ech m X m).X i j) (F i) := fun i j hi hj =>
  (ech_bd hb hF m (Nat.le_refl _) i j hi hj).mono (hmono _ _ (Nat.min_le_left _ _))
end Go.Proofs.YtclkkoiaaddllaaGreat

namespace Go.Proofs.YtclkkoiaaddllaaGreat
open Go.RowKit Go.ChangeShapes Go.WideShapes Go.ChangeAt Go.Joins Go.Deep
set_option linter.unusedVariables false

theorem spot_none {w : World} {ad : Addr} {v : Value} (h : w.cell? ad = some v) : ∃ b o, ad = ⟨b, o, none⟩ := by
  have hs : ad.spot = none := by
    unfold World.cell? at h
    split at h
    · split at h
      · cases h
      · rename_i hsp; simpa using hsp
    · cases h
  obtain ⟨b, o, sp⟩ := ad
  simp only at hs; subst hs
  exact ⟨b, o, rfl⟩
theorem add_zero_addr (ad : Addr) : ad.add 0 = ad := by
  unfold Addr.add
  split <;> simp_all
theorem u32_bounds {x : Int} (h : (Lit.int .u32 x).wf = true) : 0 ≤ x ∧ x < 4294967296 := by
  simp [Lit.wf, IntKind.min, IntKind.max, IntKind.signed, IntKind.bits] at h
  exact ⟨h.1, by omega⟩
theorem Tryz.cells4 : Tryz.prog.cellsOf 4 = 1 := by kernel_rfl
theorem Tryz.cellsU32 : Tryz.prog.cellsOf 103 = 1 := by kernel_rfl
theorem Tryz.cellsU32s : Tryz.prog.cellsOf 28 = 1 := by kernel_rfl
theorem Tryz.cellsInt : Tryz.prog.cellsOf 30 = 2 := by kernel_rfl
theorem Tryz.cellsGauss : Tryz.prog.cellsOf 32 = 6 := by kernel_rfl
/-- Three integers of whatever digits, at most these lengths. -/
structure RawG (w : World) (s1 : Bool) (A1 : Option Addr) (n1 c1 : Nat) (l1 : List Nat) (s2 : Bool) (A2 : Option Addr) (n2 c2 : Nat) (l2 : List Nat) (s3 : Bool) (A3 : Option Addr) (n3 c3 : Nat) (l3 : List Nat) : Prop where
  r1 : RX w (iv s1 A1 n1 c1) s1 l1
  r2 : RX w (iv s2 A2 n2 c2) s2 l2
  r3 : RX w (iv s3 A3 n3 c3) s3 l3
theorem RX.n_eq {w : World} {s : Bool} {A : Option Addr} {n c : Nat} {l : List Nat} (h : RX w (iv s A n c) s l) : l.length = n := by
  obtain ⟨A', n', c', e, h'⟩ := h
  simp [iv] at e
  obtain ⟨_, rfl, _⟩ := e
  exact h'.len
section
variable {w : World} {s1 : Bool} {A1 : Option Addr} {n1 c1 : Nat} {l1 : List Nat} {s2 : Bool} {A2 : Option Addr} {n2 c2 : Nat} {l2 : List Nat} {s3 : Bool} {A3 : Option Addr} {n3 c3 : Nat} {l3 : List Nat} {k : Nat}
theorem RawG.cases (h : RawG w s1 A1 n1 c1 l1 s2 A2 n2 c2 l2 s3 A3 n3 c3 l3) (h1 : n1 ≤ k) (h2 : n2 ≤ k) (h3 : n3 ≤ k) (hk : k ≤ 400) : (∃ q, GV w (gv s1 A1 n1 c1 s2 A2 n2 c2 s3 A3 n3 c3) q (32 * k)) ∨ VB w (gv s1 A1 n1 c1 s2 A2 n2 c2 s3 A3 n3 c3) false :=
  gauss_cases h.r1 h.r2 h.r3 (by rw [h.r1.n_eq]; exact h1) (by rw [h.r2.n_eq]; exact h2) (by rw [h.r3.n_eq]; exact h3) hk
end
section
variable {H : Type} {enc : TypeId × Value → H} {w : World} {base : Nat} {spare : Nat → Bool} {held : Bool}
set_option maxRecDepth 100000 in
theorem open_int_cells {fuel : Nat} {c0 c1 : Value} {x : DataW H × List MemPlace} (h : DataW.trod enc Tryz.prog w base spare held fuel 30 [c0, c1] = some x) :
    ∃ s A n c l, c0 = .bool s ∧ c1 = .slice A n c ∧ RX w (iv s A n c) s l := by
  obtain ⟨xs, n, _, hx, _, hlen, hg⟩ := DataW.trod_struct Tryz.underlying30 h
  match xs, hlen with
  | [y0, y1], _ =>
    have g0 : DataW.trod enc Tryz.prog w base spare held n 4 [c0] = some y0 := by simpa [Tryz.cells4] using hg 0 _ rfl
    have g1 : DataW.trod enc Tryz.prog w base spare held n 28 [c1] = some y1 := by simpa [Tryz.cells4, Tryz.cellsU32s] using hg 1 _ rfl
    obtain ⟨s, e0, _⟩ := DataW.trod_bool Tryz.underlying4 g0
    obtain ⟨A, n1, k1, S, e1, hS, h1, h1', hwf⟩ := open_reads Tryz.underlying28 Tryz.underlying103 Tryz.cellsU32 g1
    simp at e0
    subst e0 e1
    unfold maxLen at h1'
    have hm : mg (S.map Int.toNat) = S.map (.int .u32) := by
      unfold mg
      rw [List.map_map]
      apply List.map_congr_left
      intro z hz
      have := u32_bounds (hwf z hz)
      simp; omega
    refine ⟨s, A, n1, k1, S.map Int.toNat, rfl, rfl, A, n1, k1, rfl, ⟨by rw [hm]; exact hS, ?_, h1, by omega⟩⟩
    intro z hz
    obtain ⟨x, hx, rfl⟩ := List.mem_map.1 hz
    have := u32_bounds (hwf x hx)
    omega
set_option maxRecDepth 100000 in
theorem open_gauss_cells {fuel : Nat} {c0 c1 c2 c3 c4 c5 : Value} {x : DataW H × List MemPlace} (h : DataW.trod enc Tryz.prog w base spare held fuel 32 [c0, c1, c2, c3, c4, c5] = some x) :
    ∃ s1 A1 n1 k1 l1 s2 A2 n2 k2 l2 s3 A3 n3 k3 l3, Value.agg #[c0, c1, c2, c3, c4, c5] = gv s1 A1 n1 k1 s2 A2 n2 k2 s3 A3 n3 k3 ∧ RawG w s1 A1 n1 k1 l1 s2 A2 n2 k2 l2 s3 A3 n3 k3 l3 := by
  obtain ⟨xs, n, _, hx, _, hlen, hg⟩ := DataW.trod_struct Tryz.underlying32 h
  match xs, hlen with
  | [y0, y1, y2], _ =>
    have g0 : DataW.trod enc Tryz.prog w base spare held n 30 [c0, c1] = some y0 := by simpa [Tryz.cellsInt] using hg 0 _ rfl
    have g1 : DataW.trod enc Tryz.prog w base spare held n 30 [c2, c3] = some y1 := by simpa [Tryz.cellsInt] using hg 1 _ rfl
    have g2 : DataW.trod enc Tryz.prog w base spare held n 30 [c4, c5] = some y2 := by simpa [Tryz.cellsInt] using hg 2 _ rfl
    obtain ⟨s1, A1, n1, k1, l1, rfl, rfl, r1⟩ := open_int_cells g0
    obtain ⟨s2, A2, n2, k2, l2, rfl, rfl, r2⟩ := open_int_cells g1
    obtain ⟨s3, A3, n3, k3, l3, rfl, rfl, r3⟩ := open_int_cells g2
    exact ⟨s1, A1, n1, k1, l1, s2, A2, n2, k2, l2, s3, A3, n3, k3, l3, rfl, ⟨r1, r2, r3⟩⟩
end
theorem Tryz.cellsRow : Tryz.prog.cellsOf 37 = 1 := by kernel_rfl
/-- A complex number of whatever digits. -/
def RawE (w : World) (e : En) : Prop := ∃ l1 l2 l3, RawG w e.s1 e.A1 e.n1 e.c1 l1 e.s2 e.A2 e.n2 e.c2 l2 e.s3 e.A3 e.n3 e.c3 l3
instance : Inhabited En := ⟨zEn⟩
instance : Inhabited Rw := ⟨nilRw⟩
theorem mem_z (w : World) (A : Option Addr) (R : Nat → Rw) (E : Nat → Nat → En) : Mem w A 0 0 0 R E := ⟨fun h => absurd h (by omega), fun i hi => absurd hi (by omega), fun i hi => absurd hi (by omega), fun i j hi => absurd hi (by omega), by omega, fun i hi => absurd hi (by omega)⟩
section
variable {H : Type} {enc : TypeId × Value → H} {w : World} {base : Nat} {spare : Nat → Bool} {held : Bool}
set_option maxRecDepth 100000 in
theorem open_gauss_en {fuel : Nat} {cs : List Value} {x : DataW H × List MemPlace} (hl : cs.length = 6) (h : DataW.trod enc Tryz.prog w base spare held fuel 32 cs = some x) : ∃ e : En, cs = e.cells ∧ RawE w e := by
  match cs, hl with
  | [c0, c1, c2, c3, c4, c5], _ =>
    obtain ⟨s1, A1, n1, k1, l1, s2, A2, n2, k2, l2, s3, A3, n3, k3, l3, e, h⟩ := open_gauss_cells h
    unfold gv at e
    injection e with e
    injection e with e
    exact ⟨⟨s1, A1, n1, k1, s2, A2, n2, k2, s3, A3, n3, k3⟩, e, l1, l2, l3, h⟩
set_option maxRecDepth 100000 in
theorem open_row {fuel : Nat} {v : Value} {x : DataW H × List MemPlace} (h : DataW.trod enc Tryz.prog w base spare held fuel 37 [v] = some x) :
    ∃ (r : Rw) (e : Nat → En), v = r.v ∧ (0 < r.n → r.A = some ⟨r.b, r.o, none⟩) ∧ r.n ≤ 9223372036854775807 ∧ ∀ j, j < r.n → (∀ t u, (e j).cells[t]? = some u → w.cell? ⟨r.b, r.o + (j * 6 + t), none⟩ = some u) ∧ RawE w (e j) := by
  rcases open_slice Tryz.underlying37 h with ⟨hcs, _⟩ | ⟨a, len, cap, m, nf, D, Pl, hcs, _, hl, hm, hmm, _, hi⟩
  · injection hcs with hcs
    exact ⟨nilRw, fun _ => zEn, hcs, fun h => absurd h (by decide), by decide, fun j hj => absurd hj (by show ¬ j < 0; omega)⟩
  · injection hcs with hcs
    have hml : len ≤ m := by rw [hmm]; split <;> omega
    unfold maxLen at hm
    rw [Tryz.cellsGauss] at hi
    obtain ⟨e, he⟩ := choose_lt (α := En) (n := len) (p := fun i e => (∀ t u, e.cells[t]? = some u → w.cell? ((a.add (i * 6)).add t) = some u) ∧ RawE w e) (fun i hlt => by
      obtain ⟨cs', h1, h2⟩ := hi i (by omega)
      obtain ⟨_, hlen, hc⟩ := World.cells?_some h1
      obtain ⟨e, rfl, hr⟩ := open_gauss_en hlen h2
      refine ⟨e, fun t u hu => ?_, hr⟩
      have ht : t < 6 := (List.getElem?_eq_some_iff.1 hu).1
      rw [hc t ht]; exact hu)
    by_cases h0 : len = 0
    · subst h0
      exact ⟨⟨some a, 0, 0, 0, cap⟩, e, hcs, fun h => absurd h (by show ¬ 0 < 0; omega), by show 0 ≤ _; omega, fun j hj => absurd hj (by show ¬ j < 0; omega)⟩
    obtain ⟨b, o, hbo⟩ := spot_none (w := w) (ad := a) ((he 0 (by omega)).1 0 _ rfl |> fun h => by rw [Nat.zero_mul, add_zero_addr, add_zero_addr] at h; exact h)
    subst hbo
    refine ⟨⟨some ⟨b, o, none⟩, b, o, len, cap⟩, e, hcs, fun _ => rfl, by show len ≤ _; omega, fun j hj => ⟨fun t u hu => ?_, (he j hj).2⟩⟩
    have := (he j hj).1 t u hu
    rw [add_plain, add_plain] at this
    rw [← Nat.add_assoc]; exact this
set_option maxRecDepth 100000 in
theorem open_matrix {fuel : Nat} {v : Value} {x : DataW H × List MemPlace} (h : DataW.trod enc Tryz.prog w base spare held fuel 22 [v] = some x) :
    ∃ A B O m c R E, v = .slice A m c ∧ Mem w A B O m R E ∧ ∀ i j, i < m → j < (R i).n → RawE w (E i j) := by
  rcases open_slice1 Tryz.underlying22 Tryz.cellsRow h with ⟨hcs, _⟩ | ⟨a, len, cap, m, nf, V, D, Pl, hcs, _, hl, hm, hmm, _, hi⟩
  · injection hcs with hcs
    exact ⟨none, 0, 0, 0, 0, fun _ => nilRw, fun _ _ => zEn, hcs, mem0 w none, fun i j hi => absurd hi (by omega)⟩
  · injection hcs with hcs
    have hml : len ≤ m := by rw [hmm]; split <;> omega
    unfold maxLen at hm
    obtain ⟨R, hR⟩ := choose_lt (α := Rw) (n := len) (p := fun i r => ∃ e : Nat → En, V i = r.v ∧ (0 < r.n → r.A = some ⟨r.b, r.o, none⟩) ∧ r.n ≤ 9223372036854775807 ∧ ∀ j, j < r.n → (∀ t u, (e j).cells[t]? = some u → w.cell? ⟨r.b, r.o + (j * 6 + t), none⟩ = some u) ∧ RawE w (e j)) (fun i hlt => open_row (hi i (by omega)).2)
    obtain ⟨E, hE⟩ := choose_lt (α := Nat → En) (n := len) (p := fun i e => V i = (R i).v ∧ (0 < (R i).n → (R i).A = some ⟨(R i).b, (R i).o, none⟩) ∧ (R i).n ≤ 9223372036854775807 ∧ ∀ j, j < (R i).n → (∀ t u, (e j).cells[t]? = some u → w.cell? ⟨(R i).b, (R i).o + (j * 6 + t), none⟩ = some u) ∧ RawE w (e j)) hR
    by_cases h0 : len = 0
    · subst h0
      exact ⟨some a, 0, 0, 0, cap, R, E, hcs, mem_z w (some a) R E, fun i j hi => absurd hi (by omega)⟩
    obtain ⟨b, o, hbo⟩ := spot_none (w := w) (ad := a) ((hi 0 (by omega)).1 |> fun h => by rw [add_zero_addr] at h; exact h)
    subst hbo
    refine ⟨some ⟨b, o, none⟩, b, o, len, cap, R, E, hcs, ⟨fun _ => rfl, fun i hi' => ?_, fun i hi' hn => (hE i hi').2.1 hn, fun i j hi' hj => ((hE i hi').2.2.2 j hj).1, by omega, fun i hi' => (hE i hi').2.2.1⟩, fun i j hi' hj => ((hE i hi').2.2.2 j hj).2⟩
    have := (hi i (by omega)).1
    rw [add_plain, (hE i hi').1] at this
    exact this
end
end Go.Proofs.YtclkkoiaaddllaaGreat

namespace Go.Proofs.YtclkkoiaaddllaaGreat
open Go.RowKit
set_option linter.unusedVariables false

theorem raw_vb {w : World} {m : Nat} {R : Nat → Rw} {E : Nat → Nat → En} (hr : ∀ i j, i < m → j < (R i).n → RawE w (E i j)) (hs : Sml m R E) :
    ∃ (vb : Nat → Nat → Bool) (X : Nat → Nat → GQ), ∀ i j, i < m → j < (R i).n → VB w (E i j).v (vb i j) ∧ (vb i j = true → GV w (E i j).v (X i j) 32) := by
  have h : ∀ i j, ∃ x : Bool × GQ, i < m → j < (R i).n → VB w (E i j).v x.1 ∧ (x.1 = true → GV w (E i j).v x.2 32) := fun i j => by
    by_cases hi : i < m
    · by_cases hj : j < (R i).n
      · obtain ⟨l1, l2, l3, hg⟩ := hr i j hi hj
        obtain ⟨k1, k2, k3⟩ := hs.2.2 i j hi hj
        rcases hg.cases (k := 1) k1 k2 k3 (by omega) with ⟨q, hq⟩ | hv
        · exact ⟨(true, q), fun _ _ => ⟨hq.vb (by omega), fun _ => hq⟩⟩
        · exact ⟨(false, GQ.i 0 0), fun _ _ => ⟨hv, fun h => by cases h⟩⟩
      · exact ⟨(false, GQ.i 0 0), fun _ h => absurd h hj⟩
    · exact ⟨(false, GQ.i 0 0), fun h => absurd h hi⟩
  obtain ⟨f, hf⟩ := Classical.axiomOfChoice (fun i => Classical.axiomOfChoice (h i))
  exact ⟨fun i j => (f i j).1, fun i j => (f i j).2, hf⟩
theorem small2 {w : World} {g : Nat} {A1 A2 : Option Addr} {B1 O1 m1 c1 B2 O2 m2 c2 : Nat} {R1 R2 : Nat → Rw} {E1 E2 : Nat → Nat → En} (h1 : Mem w A1 B1 O1 m1 R1 E1) (h2 : Mem w A2 B2 O2 m2 R2 E2) (hg : Blk w g 22 #[.slice A1 m1 c1, .slice A2 m2 c2])
    (b : Bool) (hb : b = true ↔ Sml m1 R1 E1 ∧ Sml m2 R2 E2) : Calls Tryz.prog 8 #[.slice (some ⟨g, 0, none⟩) 2 2] w fun e w' => e = .returned (.bool b) ∧ Ext w w' := by
  refine small_any (fA := fun k => if k = 0 then A1 else A2) (fB := fun k => if k = 0 then B1 else B2) (fO := fun k => if k = 0 then O1 else O2) (fm := fun k => if k = 0 then m1 else m2) (fc := fun k => if k = 0 then c1 else c2) (fR := fun k => if k = 0 then R1 else R2) (fE := fun k => if k = 0 then E1 else E2) ?_ ?_ (by omega) b ?_
  · intro k hk
    match k, hk with
    | 0, _ => exact h1
    | 1, _ => exact h2
  · intro k hk
    match k, hk with
    | 0, _ => rw [hg.cell]; rfl
    | 1, _ => rw [hg.cell]; rfl
  · rw [hb]
    constructor
    · rintro ⟨x, y⟩ k hk
      match k, hk with
      | 0, _ => exact x
      | 1, _ => exact y
    · intro h
      exact ⟨h 0 (by omega), h 1 (by omega)⟩
theorem GV.bd {w : World} {v : Value} {q : GQ} {n : Nat} (h : GV w v q n) : Bd q n := by
  obtain ⟨a, b, d, _, h2, h3⟩ := h
  exact ⟨a, b, d, h2, h3⟩
theorem Mem.reads {w : World} {A : Option Addr} {B O m : Nat} {R : Nat → Rw} {E : Nat → Nat → En} (h : Mem w A B O m R E) : Reads w w.heap.size 1 A m (mxc m R) := by
  refine ⟨by rw [mxc_len]; omega, fun hm => ⟨⟨B, O, none⟩, h.at0 hm, lt_of_cell (h.row 0 hm), fun j u hu => ?_⟩⟩
  have hj : j < m := by have := (List.getElem?_eq_some_iff.1 hu).1; rwa [mxc_len] at this
  have := mxc_at (R := R) hj
  rw [List.getElem?_toArray] at this
  rw [this] at hu
  injection hu with hu
  subst hu
  rw [add_plain]; exact h.row j hj
end Go.Proofs.YtclkkoiaaddllaaGreat

namespace Go.Proofs.YtclkkoiaaddllaaGreat
open Go.RowKit
set_option linter.unusedVariables false
set_option linter.unusedSimpArgs false

/-- A row with room behind it. -/
def RowC (w : World) (g n : Nat) (x : Nat → GQ) : Prop := ∃ (cap : Nat) (f : Nat → En), n ≤ cap ∧ Blk w g 32 (rowc cap f).toArray ∧ ∀ j, j < n → GV w (f j).v (x j) 12800
theorem RowC.ext {w w' : World} {g n : Nat} {x : Nat → GQ} (h : RowC w g n x) (e : Ext w w') : RowC w' g n x := by
  obtain ⟨c, f, h0, h1, h2⟩ := h
  exact ⟨c, f, h0, h1.ext e, fun j hj => (h2 j hj).ext e⟩
theorem RowC.mod {S : Nat → Prop} {w w' : World} {g n : Nat} {x : Nat → GQ} (h : RowC w g n x) (m : Mod S w w') (hS : Far S w) (hg : ¬ S g) : RowC w' g n x := by
  obtain ⟨c, f, h0, h1, h2⟩ := h
  exact ⟨c, f, h0, h1.mod m hg, fun j hj => (h2 j hj).mod m hS⟩
theorem RowC.congr {w : World} {g n : Nat} {x y : Nat → GQ} (h : RowC w g n x) (e : ∀ j, j < n → x j = y j) : RowC w g n y := by
  obtain ⟨c, f, h0, h1, h2⟩ := h
  exact ⟨c, f, h0, h1, fun j hj => e j hj ▸ h2 j hj⟩
theorem RowC.blk {w : World} {g n : Nat} {x : Nat → GQ} (h : RowC w g n x) : ∃ cs, Blk w g 32 cs := by obtain ⟨c, f, _, hb, _⟩ := h; exact ⟨_, hb⟩
theorem RowC.lt {w : World} {g n : Nat} {x : Nat → GQ} (h : RowC w g n x) : g < w.heap.size := by obtain ⟨cs, h⟩ := h.blk; exact h.lt
theorem RowC.far {w : World} {g n : Nat} {x : Nat → GQ} (h : RowC w g n x) : Far (fun k => k = g) w := by
  obtain ⟨c, f, _, h1, _⟩ := h
  intro k hk _
  subst hk
  exact ⟨_, _, h1, rowc_noint _ _⟩
theorem RowC.put {w : World} {g n j cap : Nat} {f : Nat → En} {x : Nat → GQ} {e : En} {q : GQ} (hb : Blk w g 32 (rowc cap f).toArray) (hc : n ≤ cap) (hx : ∀ j, j < n → GV w (f j).v (x j) 12800) (hj : j < n) (he : GV w e.v q 12800) :
    RowC (puts w g (j * 6) e.cells) g n (upd x j q) ∧ Mod (fun k => k = g) w (puts w g (j * 6) e.cells) := by
  have hm : Mod (fun k => k = g) w (puts w g (j * 6) e.cells) := Mod.only (puts_only _ _ _ _) rfl
  have hS : Far (fun k => k = g) w := fun k hk _ => by subst hk; exact ⟨_, _, hb, rowc_noint _ _⟩
  refine ⟨⟨cap, upd f j e, hc, ?_, fun i hi => ?_⟩, hm⟩
  · rw [← rowc_set e (show j < cap by omega)]
    exact puts_blk _ _ hb
  · by_cases h : i = j
    · subst h; rw [upd_same, upd_same]; exact he.mod hm hS
    · rw [upd_ne h, upd_ne h]; exact (hx i hi).mod hm hS
/-- A slice of rows of one's own, with room behind it. -/
def OwnR (w : World) (B0 : Nat) (v : Value) (k : Nat) (R : Nat → Rw) : Prop :=
  (v = .slice none 0 0 ∧ k = 0) ∨ ∃ (g cap : Nat) (R' : Nat → Rw), v = .slice (some ⟨g, 0, none⟩) k cap ∧ B0 ≤ g ∧ k ≤ cap ∧ Blk w g 37 (mxc cap R').toArray ∧ ∀ i, i < k → R' i = R i
theorem OwnR.ext {w w' : World} {B0 : Nat} {v : Value} {k : Nat} {R : Nat → Rw} (h : OwnR w B0 v k R) (e : Ext w w') : OwnR w' B0 v k R := by
  rcases h with h | ⟨g, cap, R', h1, h2, h3, h4, h5⟩
  · exact .inl h
  · exact .inr ⟨g, cap, R', h1, h2, h3, h4.ext e, h5⟩
end Go.Proofs.YtclkkoiaaddllaaGreat

namespace Go.Proofs.YtclkkoiaaddllaaGreat
open Go.RowKit
set_option linter.unusedVariables false
set_option linter.unusedSimpArgs false

/-- A matrix with room behind its rows. -/
structure MxC (W : World) (G m n : Nat) (P : Nat → Prop) (R : Nat → Rw) (X : Nat → Nat → GQ) : Prop where
  out : 0 < m → ∃ cap R', m ≤ cap ∧ Blk W G 37 (mxc cap R').toArray ∧ ∀ i, i < m → R' i = R i
  len : ∀ i, i < m → (R i).n = n
  row : ∀ i, i < m → 0 < n → (R i).A = some ⟨(R i).b, 0, none⟩ ∧ RowC W (R i).b n (X i)
  inj : ∀ i j, i < m → j < m → 0 < n → (R i).b = (R j).b → i = j
  mem : ∀ i, i < m → 0 < n → P (R i).b
section
variable {W W' : World} {G m n : Nat} {P : Nat → Prop} {R : Nat → Rw} {X Y : Nat → Nat → GQ}
theorem MxC.ext (h : MxC W G m n P R X) (x : Ext W W') : MxC W' G m n P R X :=
  ⟨fun hm => by obtain ⟨c, R', h1, h2, h3⟩ := h.out hm; exact ⟨c, R', h1, h2.ext x, h3⟩, h.len, fun i hi hn => ⟨(h.row i hi hn).1, (h.row i hi hn).2.ext x⟩, h.inj, h.mem⟩
theorem MxC.congr (h : MxC W G m n P R X) (e : ∀ i j, i < m → j < n → X i j = Y i j) : MxC W G m n P R Y :=
  ⟨h.out, h.len, fun i hi hn => ⟨(h.row i hi hn).1, (h.row i hi hn).2.congr fun j hj => e i j hi hj⟩, h.inj, h.mem⟩
theorem MxC.v (h : MxC W G m n P R X) {i : Nat} (hi : i < m) : (R i).v = .slice (R i).A n (R i).c := by
  unfold Rw.v; rw [h.len i hi]
theorem MxC.cell (h : MxC W G m n P R X) {i : Nat} (hi : i < m) : W.cell? ⟨G, i, none⟩ = some (.slice (R i).A n (R i).c) := by
  obtain ⟨c, R', h1, h2, h3⟩ := h.out (by omega)
  rw [h2.cell, mxc_at (by omega), h3 i hi, h.v hi]
theorem MxC.mono {Q : Nat → Prop} (h : MxC W G m n P R X) (e : ∀ g, P g → Q g) : MxC W G m n Q R X := ⟨h.out, h.len, h.row, h.inj, fun i hi hn => e _ (h.mem i hi hn)⟩
end
/-- The rows copied so far. -/
structure CpR (w : World) (B0 k n : Nat) (R : Nat → Rw) (X : Nat → Nat → GQ) : Prop where
  len : ∀ i, i < k → (R i).n = n
  row : ∀ i, i < k → 0 < n → (R i).A = some ⟨(R i).b, 0, none⟩ ∧ B0 ≤ (R i).b ∧ RowC w (R i).b n (X i)
  inj : ∀ i j, i < k → j < k → 0 < n → (R i).b = (R j).b → i = j
theorem CpR.ext {w w' : World} {B0 k n : Nat} {R : Nat → Rw} {X : Nat → Nat → GQ} (h : CpR w B0 k n R X) (x : Ext w w') : CpR w' B0 k n R X :=
  ⟨h.len, fun i hi hn => ⟨(h.row i hi hn).1, (h.row i hi hn).2.1, (h.row i hi hn).2.2.ext x⟩, h.inj⟩
theorem OwnR.ne {w : World} {B0 k : Nat} {v : Value} {R : Nat → Rw} (h : OwnR w B0 v k R) {g : Nat} {cs : Array Value} (hb : Blk w g 32 cs) : v.ownBlock ≠ some g := by
  rcases h with ⟨rfl, _⟩ | ⟨g', cap, R', rfl, _, _, h4, _⟩
  · simp [Value.ownBlock]
  · simp only [Value.ownBlock, ne_eq, Option.some.injEq]
    exact h4.ne_t hb (by decide)
theorem OwnR.far {w : World} {B0 k : Nat} {v : Value} {R : Nat → Rw} (h : OwnR w B0 v k R) : Far (fun g => v.ownBlock = some g) w := by
  intro g hg _
  rcases h with ⟨rfl, _⟩ | ⟨g', cap, R', rfl, _, _, h4, _⟩
  · simp [Value.ownBlock] at hg
  · simp only [Value.ownBlock, Option.some.injEq] at hg
    subst hg
    exact ⟨_, _, h4, noInt_slices _ _⟩
theorem OwnR.ge {w : World} {B0 k : Nat} {v : Value} {R : Nat → Rw} (h : OwnR w B0 v k R) {g : Nat} (hg : v.ownBlock = some g) : B0 ≤ g := by
  rcases h with ⟨rfl, _⟩ | ⟨g', cap, R', rfl, h2, _, h4, _⟩
  · simp [Value.ownBlock] at hg
  · simp only [Value.ownBlock, Option.some.injEq] at hg
    omega
end Go.Proofs.YtclkkoiaaddllaaGreat

namespace Go.Proofs.YtclkkoiaaddllaaGreat
set_option linter.unusedVariables false
set_option linter.unusedSimpArgs false

theorem GQ.div_as (x y : GQ) : x / y = GQ.i 1 0 / y * x := by
  ext <;> simp only [GQ.div_re, GQ.div_im, GQ.mul_re, GQ.mul_im, GQ.i_re, GQ.i_im] <;> grind
theorem GQ.mul_div' (a b c : GQ) : a * (b / c) = a / c * b := by
  rw [GQ.div_as b, GQ.div_as a, ← GQ.mul_assoc', GQ.mul_comm' a, GQ.mul_assoc']
theorem GQ.div_self' {x : GQ} (h : x ≠ GQ.i 0 0) : x / x = GQ.i 1 0 := by
  have := GQ.div_mul (x := GQ.i 1 0) h
  rw [GQ.one_mul'] at this; exact this
theorem GQ.neg_zero' : -(GQ.i 0 0) = GQ.i 0 0 := by (ext <;> simp only [GQ.add_re, GQ.add_im, GQ.sub_re, GQ.sub_im, GQ.mul_re, GQ.mul_im, GQ.neg_re, GQ.neg_im, GQ.i_re, GQ.i_im] <;> grind)
theorem GQ.neg_neg' (x : GQ) : - -x = x := by (ext <;> simp only [GQ.add_re, GQ.add_im, GQ.sub_re, GQ.sub_im, GQ.mul_re, GQ.mul_im, GQ.neg_re, GQ.neg_im, GQ.i_re, GQ.i_im] <;> grind)
theorem GQ.eq_of_sub {x y : GQ} (h : x - y = GQ.i 0 0) : x = y := by
  have a := congrArg GQ.re h; have b := congrArg GQ.im h
  simp only [GQ.sub_re, GQ.sub_im, GQ.i_re, GQ.i_im] at a b
  ext <;> grind

/-- A row that the rows P span. -/
def Spn (v : Nat → GQ) (P : List (Nat → GQ)) : Prop := ∀ cs, det (v :: P) cs = GQ.i 0 0
theorem Spn.more {v b : Nat → GQ} {P : List (Nat → GQ)} (h : Spn v P) : Spn v (b :: P) := by
  intro cs
  rw [det_swap]
  have : det (v :: P) = fun _ => GQ.i 0 0 := funext h
  show -dsum b (det (v :: P)) cs = _
  rw [this, dsum_none, GQ.neg_zero']
theorem Spn.of_says {y a : Nat → GQ} {P : List (Nat → GQ)} (h : Says y a P) : Spn y (a :: P) := fun cs => by
  rw [h.more cs, det_same a (a :: P) cs (List.mem_cons_self)]
theorem Spn.comb {x y : Nat → GQ} {P : List (Nat → GQ)} (hx : Spn x P) (hy : Spn y P) (f : GQ) : Spn (fun c => x c - f * y c) P := fun cs => by
  have h1 : det ((fun c => x c - f * y c) :: P) cs = det (x :: P) cs - f * det (y :: P) cs := dsum_row x y f cs (det P)
  rw [h1, hx cs, hy cs, GQ.mul_zero', GQ.sub_zero']
theorem Spn.quot {x : Nat → GQ} {P : List (Nat → GQ)} (hx : Spn x P) (f : GQ) : Spn (fun c => x c / f) P := fun cs => by
  have e : (fun c => x c / f) = fun c => GQ.i 1 0 / f * x c := funext fun c => GQ.div_as _ _
  rw [e]
  have h1 : det ((fun c => GQ.i 1 0 / f * x c) :: P) cs = GQ.i 1 0 / f * det (x :: P) cs := dsum_scale _ _ _
  rw [h1, hx cs, GQ.mul_zero']
/-- Expansion along a row that has a single one. -/
theorem dsum_pick {v : Nat → GQ} : ∀ (cs : List Nat) (k : Nat) (D : List Nat → GQ), k < cs.length → (∀ t d, cs[t]? = some d → v d = if t = k then GQ.i 1 0 else GQ.i 0 0) → dsum v D cs = D (cs.eraseIdx k) ∨ dsum v D cs = -D (cs.eraseIdx k)
  | [], k, D, hk, _ => by simp at hk
  | c :: cs, 0, D, _, h => by
    left
    show v c * D cs - dsum v (fun l => D (c :: l)) cs = D cs
    rw [h 0 c rfl, if_pos rfl, GQ.one_mul', dsum_only cs _ (fun d hd => by
      obtain ⟨t, ht⟩ := List.getElem?_of_mem hd
      rw [h (t + 1) d ht, if_neg (by omega)]), GQ.sub_zero']
  | c :: cs, k + 1, D, hk, h => by
    have hv : v c = GQ.i 0 0 := by rw [h 0 c rfl, if_neg (by omega)]
    have ih := dsum_pick (v := v) cs k (fun l => D (c :: l)) (by simpa using hk) (fun t d ht => by
      rw [h (t + 1) d ht]
      by_cases e : t = k
      · rw [if_pos (by omega), if_pos e]
      · rw [if_neg (by omega), if_neg e])
    have e : dsum v D (c :: cs) = -dsum v (fun l => D (c :: l)) cs := by
      show v c * D cs - dsum v (fun l => D (c :: l)) cs = _
      rw [hv, GQ.zero_mul', GQ.zero_sub']
    rw [e]
    rcases ih with ih | ih
    · right; rw [ih]; rfl
    · left; rw [ih, GQ.neg_neg']; rfl
theorem Spn.entry {v : Nat → GQ} {P : List (Nat → GQ)} {q : List Nat} {k : Nat} (h : Spn v P) (hk : k < q.length) (hq : ∀ t d, q[t]? = some d → v d = if t = k then GQ.i 1 0 else GQ.i 0 0) (j : Nat) :
    v j * det P q = det P (j :: q.eraseIdx k) ∨ v j * det P q = -det P (j :: q.eraseIdx k) := by
  have e : v j * det P q = dsum v (fun l => det P (j :: l)) q := GQ.eq_of_sub (h (j :: q))
  rw [e]
  exact dsum_pick q k _ hk hq
theorem Wh.neg {x : GQ} {B : Nat} (h : Wh x B) : Wh (-x) B := by
  obtain ⟨a, b, rfl, hab⟩ := h
  exact ⟨-a, -b, by (ext <;> simp only [GQ.add_re, GQ.add_im, GQ.sub_re, GQ.sub_im, GQ.mul_re, GQ.mul_im, GQ.neg_re, GQ.neg_im, GQ.i_re, GQ.i_im] <;> grind), by omega⟩
/-- How large an entry of a reduced row is. -/
def roomp (b k : Nat) : Nat := (fct k * (2 ^ (b * (k + 1) + 1)) ^ k) * (fct k * (2 ^ (b * (k + 1) + 1)) ^ k)
theorem red_bd {v : Nat → GQ} {P : List (Nat → GQ)} {q : List Nat} {j t b k n : Nat} (hP : P.length = k) (hq : q.length = k) (hb : ∀ r ∈ P, ∀ c ∈ j :: q, Bd (r c) b) (h0 : det P q ≠ GQ.i 0 0) (ht : t < k)
    (hx : v j * det P q = det P (j :: q.eraseIdx t) ∨ v j * det P q = -det P (j :: q.eraseIdx t)) (hn : roomp b k < 2 ^ n) : Bd (v j) n := by
  obtain ⟨R, E, hE, hl, hd, hw⟩ := rows_whole b (j :: q) P hb
  simp only [List.length_cons, hq] at hw
  have hlen : (j :: q.eraseIdx t).length = k := by
    rw [List.length_cons, List.length_eraseIdx, if_pos (by omega)]; omega
  have hN := det_wh (B := 2 ^ (b * (k + 1) + 1)) R (j :: q.eraseIdx t) (by rw [hlen, hl, hP]) (fun r hr c hc => hw r hr c (by
    rcases List.mem_cons.1 hc with rfl | hc
    · exact List.mem_cons_self
    · exact List.mem_cons_of_mem _ (List.mem_of_mem_eraseIdx hc)))
  have hM := det_wh (B := 2 ^ (b * (k + 1) + 1)) R q (by simp [hl, hP, hq]) (fun r hr c hc => hw r hr c (List.mem_cons_of_mem _ hc))
  rw [hlen] at hN
  rw [hq] at hM
  have hne : det R q ≠ GQ.i 0 0 := by rw [hd]; exact GQ.mul_ne (i_ne hE) h0
  have e : v j * det R q = det R (j :: q.eraseIdx t) ∨ v j * det R q = -det R (j :: q.eraseIdx t) := by
    rw [hd, hd, ← GQ.mul_assoc', GQ.mul_comm' (v j), GQ.mul_assoc']
    rcases hx with hx | hx
    · left; rw [hx]
    · right; rw [hx]; (ext <;> simp only [GQ.add_re, GQ.add_im, GQ.sub_re, GQ.sub_im, GQ.mul_re, GQ.mul_im, GQ.neg_re, GQ.neg_im, GQ.i_re, GQ.i_im] <;> grind)
  have hW : Wh (v j * det R q) (fct k * (2 ^ (b * (k + 1) + 1)) ^ k) := by
    rcases e with e | e
    · rw [e]; exact hN
    · rw [e]; exact hN.neg
  exact quot_bd hW hM hne rfl hn hn
/-- Rows times whole numbers, and how large these are together. -/
theorem rows_wholeE (b : Nat) (cs : List Nat) : ∀ (R : List (Nat → GQ)), (∀ r ∈ R, ∀ c ∈ cs, Bd (r c) b) → ∃ (R' : List (Nat → GQ)) (E : Int), E ≠ 0 ∧ E.natAbs ≤ (2 ^ (b * cs.length)) ^ R.length ∧ R'.length = R.length ∧ (∀ l, det R' l = GQ.i E 0 * det R l) ∧ ∀ r ∈ R', ∀ c ∈ cs, Wh (r c) (2 ^ (b * cs.length + 1))
  | [], _ => ⟨[], 1, by omega, by simp, rfl, fun l => (GQ.one_mul' _).symm, by simp⟩
  | v :: R, h => by
    obtain ⟨R', E, h0, hs, hl, hd, hw⟩ := rows_wholeE b cs R (fun r hr => h r (List.mem_cons_of_mem _ hr))
    obtain ⟨D, d0, d1, d2⟩ := row_whole v b cs (h v (List.mem_cons_self))
    refine ⟨(fun c => GQ.i D 0 * v c) :: R', D * E, Int.mul_ne_zero d0 h0, ?_, by simp [hl], fun l => ?_, ?_⟩
    · rw [Int.natAbs_mul, List.length_cons, Nat.pow_succ, Nat.mul_comm]
      exact Nat.mul_le_mul hs d1
    · have e : det R' = fun l => GQ.i E 0 * det R l := funext hd
      show dsum (fun c => GQ.i D 0 * v c) (det R') l = GQ.i (D * E) 0 * dsum v (det R) l
      rw [dsum_scale, e, dsum_scaleD, ← GQ.mul_assoc', i_mul]
      congr 2 <;> simp
    · intro r hr
      rcases List.mem_cons.1 hr with rfl | hr
      · exact d2
      · exact hw r hr
/-- How large a determinant is. -/
def roomd (b k : Nat) : Nat := (fct k * (2 ^ (b * k + 1)) ^ k) * (2 ^ (b * k)) ^ k
theorem det_bd {P : List (Nat → GQ)} {q : List Nat} {b k n : Nat} (hP : P.length = k) (hq : q.length = k) (hb : ∀ r ∈ P, ∀ c ∈ q, Bd (r c) b) (hn : roomd b k < 2 ^ n) : Bd (det P q) n := by
  obtain ⟨R, E, hE, hs, hl, hd, hw⟩ := rows_wholeE b q P hb
  rw [hq] at hs hw
  rw [hP] at hs
  have hN := det_wh (B := 2 ^ (b * k + 1)) R q (by rw [hl, hP, hq]) hw
  rw [hq] at hN
  refine quot_bd hN (wh_real hs) (i_ne hE) (by rw [GQ.mul_comm']; exact (hd q).symm) hn (Nat.lt_of_le_of_lt ?_ hn)
  unfold roomd
  refine Nat.mul_le_mul ?_ (Nat.le_refl _)
  refine Nat.le_trans (Nat.pow_le_pow_left (Nat.pow_le_pow_right (by omega) (by omega : b * k ≤ b * k + 1)) k) ?_
  exact Nat.le_mul_of_pos_left _ (fct_pos k)

/-- The pivot row divided by the pivot; its multiples subtracted from all other rows. -/
def red (Y : Nat → Nat → GQ) (r c : Nat) : Nat → Nat → GQ := fun i j => if i = r then Y r j / Y r c else Y i j - Y i c * (Y r j / Y r c)
structure Rc where
  r : Nat
  X : Nat → Nat → GQ
  d : GQ
def rstep (m c : Nat) (s : Rc) : Rc :=
  match fp s.X c (m - s.r) s.r with
  | none => s
  | some k => ⟨s.r + 1, red (fun i => s.X (swp k s.r i)) s.r c, (if k = s.r then s.d else s.d * GQ.i (-1) 0) * s.X k c⟩
/-- Reduced elimination, the first c columns. -/
def rech (m : Nat) (X : Nat → Nat → GQ) : Nat → Rc
  | 0 => ⟨0, X, GQ.i 1 0⟩
  | c + 1 => rstep m c (rech m X c)
theorem rstep_none {m c : Nat} {s : Rc} (h : fp s.X c (m - s.r) s.r = none) : rstep m c s = s := by unfold rstep; rw [h]
theorem rstep_some {m c k : Nat} {s : Rc} (h : fp s.X c (m - s.r) s.r = some k) : rstep m c s = ⟨s.r + 1, red (fun i => s.X (swp k s.r i)) s.r c, (if k = s.r then s.d else s.d * GQ.i (-1) 0) * s.X k c⟩ := by unfold rstep; rw [h]
theorem ech_le' (m : Nat) (Z : Nat → Nat → GQ) : ∀ c, (ech m Z c).r ≤ c
  | 0 => Nat.le_refl _
  | c + 1 => by
    have ih := ech_le' m Z c
    show (estep m c (ech m Z c)).r ≤ c + 1
    cases hf : fp (ech m Z c).X c (m - (ech m Z c).r) (ech m Z c).r with
    | none => rw [estep_none hf]; omega
    | some k => rw [estep_some hf]; show (ech m Z c).r + 1 ≤ c + 1; omega
theorem pprod_congr {X Y : Nat → Nat → GQ} : ∀ {k : Nat}, (∀ i, i < k → X i i = Y i i) → pprod X k = pprod Y k
  | 0, _ => rfl
  | k + 1, h => by
    show pprod X k * X k k = pprod Y k * Y k k
    rw [pprod_congr (fun i hi => h i (by omega)), h k (by omega)]
structure RInv (m : Nat) (X0 : Nat → Nat → GQ) (c : Nat) (s : Ec) (t : Rc) (o : Nat → Nat) (P : List (Nat → GQ)) : Prop where
  inv : Inv m X0 c s o P
  re : t.r = s.r
  lo : ∀ i, s.r ≤ i → i < m → t.X i = s.X i
  sp : ∀ i, i < s.r → Spn (t.X i) P
  un : ∀ i, i < s.r → ∀ k d, s.q[k]? = some d → t.X i d = if k + i + 1 = s.r then GQ.i 1 0 else GQ.i 0 0
  dd : t.d = if s.odd then -det P s.q else det P s.q
  pp : s.r = c → pprod s.X c = det P s.q
theorem RInv.start (m : Nat) (X0 : Nat → Nat → GQ) : RInv m X0 0 (ech m X0 0) (rech m X0 0) (fun i => i) [] :=
  ⟨Inv.start m X0, rfl, fun _ _ _ => rfl, fun i hi => absurd hi (Nat.not_lt_zero i), fun i hi => absurd hi (Nat.not_lt_zero i), rfl, fun _ => rfl⟩
theorem RInv.step {m c : Nat} {X0 : Nat → Nat → GQ} {s : Ec} {t : Rc} {o : Nat → Nat} {P : List (Nat → GQ)} (h : RInv m X0 c s t o P) (hle : s.r ≤ c) : (fp s.X c (m - s.r) s.r = none ∧ RInv m X0 (c + 1) (estep m c s) (rstep m c t) o P) ∨ ∃ k, fp s.X c (m - s.r) s.r = some k ∧ RInv m X0 (c + 1) (estep m c s) (rstep m c t) (fun i => o (swp k s.r i)) (X0 (o k) :: P) := by
  have hrm := h.inv.rm
  cases hf : fp s.X c (m - s.r) s.r with
  | none =>
    have hf' : fp t.X c (m - t.r) t.r = none := by
      rw [h.re]
      refine fp_none fun i h1 h2 => ?_
      rw [h.lo i h1 (by omega)]; exact of_fp_none hf i h1 h2
    have hI : Inv m X0 (c + 1) s o P := ⟨h.inv.rm, h.inv.pl, h.inv.ql, h.inv.ne, fun d hd => Nat.lt_succ_of_lt (h.inv.qc d hd), h.inv.pm, h.inv.om, h.inv.sy, fun i j h1 h2 h3 => by
      by_cases e : j = c
      · subst e; exact of_fp_none hf i h1 (by omega)
      · exact h.inv.z i j h1 h2 (by omega)⟩
    rw [estep_none hf, rstep_none hf']
    exact .inl ⟨rfl, hI, h.re, h.lo, h.sp, h.un, h.dd, fun e => by omega⟩
  | some k =>
    obtain ⟨k1, k2, k3, k4⟩ := of_fp_some hf
    have hkm : k < m := by omega
    have tk : ∀ i, s.r ≤ i → i < m → t.X i = s.X i := h.lo
    have hf' : fp t.X c (m - t.r) t.r = some k := by
      rw [h.re]
      refine fp_some k1 (by omega) (fun i h1 h2 => ?_) ?_
      · rw [tk i h1 (by omega)]; exact k4 i h1 h2
      · rw [tk k k1 hkm]; exact k3
    have hen := (h.inv.sy k k1 (by omega)).entry (fun d hd => h.inv.z k d k1 (by omega) (h.inv.qc d hd)) c
    have hsp : Spn (s.X k) (X0 (o k) :: P) := Spn.of_says (h.inv.sy k k1 (by omega))
    have hzk : ∀ d ∈ s.q, s.X k d = GQ.i 0 0 := fun d hd => h.inv.z k d k1 hkm (h.inv.qc d hd)
    have hks : swp k s.r s.r = k := swp_r _ _
    have hswl : ∀ i, i < s.r → swp k s.r i = i := fun i hi => swp_ne (by omega) (by omega)
    have hswg : ∀ i, s.r < i → i < m → s.r ≤ swp k s.r i ∧ swp k s.r i < m := fun i h1 h2 => ⟨by unfold swp; split <;> (try split) <;> omega, swp_lt hkm (by omega) h2⟩
    have hI : Inv m X0 (c + 1) (estep m c s) (fun i => o (swp k s.r i)) (X0 (o k) :: P) := by
      rw [estep_some hf]
      refine ⟨by show s.r + 1 ≤ m; omega, by simp [h.inv.pl], by simp [h.inv.ql], ?_, ?_, ?_, ?_, ?_, ?_⟩
      · show det (X0 (o k) :: P) (c :: s.q) ≠ _
        rw [hen]; exact GQ.mul_ne k3 h.inv.ne
      · intro d hd
        rcases List.mem_cons.1 hd with rfl | hd
        · omega
        · exact Nat.lt_succ_of_lt (h.inv.qc d hd)
      · intro p hp
        rcases List.mem_cons.1 hp with rfl | hp
        · exact ⟨o k, h.inv.om k (by omega), rfl⟩
        · exact h.inv.pm p hp
      · intro i hi
        exact h.inv.om _ (swp_lt (by omega) (by omega) hi)
      · intro i h1 h2
        have h1' : s.r < i := h1
        have e : (clr (fun i => s.X (swp k s.r i)) s.r c) i = fun j => s.X (swp k s.r i) j - (s.X (swp k s.r i) c / s.X k c) * s.X k j := by
          funext j; unfold clr; rw [if_pos h1']; simp only [hks]
        show Says ((clr (fun i => s.X (swp k s.r i)) s.r c) i) _ _
        rw [e]
        exact Says.step (h.inv.sy _ (hswg i h1' h2).1 (hswg i h1' h2).2) (h.inv.sy k k1 (by omega)) _
      · intro i j h1 h2 h3
        have h1' : s.r < i := h1
        show (clr (fun i => s.X (swp k s.r i)) s.r c) i j = _
        unfold clr; rw [if_pos h1']; simp only [hks]
        by_cases e : j = c
        · subst e; rw [GQ.div_cancel' k3, GQ.sub_self']
        · rw [h.inv.z _ j (hswg i h1' h2).1 (hswg i h1' h2).2 (by omega), h.inv.z k j k1 (by omega) (by omega), GQ.mul_zero', GQ.sub_zero']
    rw [rstep_some hf']
    refine .inr ⟨k, rfl, hI, ?_, ?_, ?_, ?_, ?_, ?_⟩
    · rw [estep_some hf]; show t.r + 1 = s.r + 1; rw [h.re]
    · rw [estep_some hf]
      intro i h1 h2
      have h1' : s.r < i := h1
      funext j
      show red (fun i => t.X (swp k t.r i)) t.r c i j = clr (fun i => s.X (swp k s.r i)) s.r c i j
      rw [h.re]
      unfold red clr
      rw [if_neg (by omega), if_pos h1']
      simp only [hks]
      rw [tk _ (hswg i h1' h2).1 (hswg i h1' h2).2, tk k k1 hkm, GQ.mul_div']
    · rw [estep_some hf]
      intro i hi
      have hi' : i < s.r + 1 := hi
      show Spn (red (fun i => t.X (swp k t.r i)) t.r c i) _
      rw [h.re]
      by_cases e : i = s.r
      · subst e
        have e2 : red (fun i => t.X (swp k s.r i)) s.r c s.r = fun j => s.X k j / s.X k c := by
          funext j; unfold red; rw [if_pos rfl]; simp only [hks]; rw [tk k k1 hkm]
        rw [e2]; exact hsp.quot _
      · have e2 : red (fun i => t.X (swp k s.r i)) s.r c i = fun j => t.X i j - t.X i c * (s.X k j / s.X k c) := by
          funext j; unfold red; rw [if_neg e]; simp only [hks]; rw [tk k k1 hkm, hswl i (by omega)]
        rw [e2]; exact (h.sp i (by omega)).more.comb (hsp.quot _) _
    · rw [estep_some hf]
      intro i hi n d hd
      have hi' : i < s.r + 1 := hi
      show red (fun i => t.X (swp k t.r i)) t.r c i d = if n + i + 1 = s.r + 1 then _ else _
      rw [h.re]
      by_cases e : i = s.r
      · subst e
        have e2 : red (fun i => t.X (swp k s.r i)) s.r c s.r d = s.X k d / s.X k c := by
          unfold red; rw [if_pos rfl]; simp only [hks]; rw [tk k k1 hkm]
        rw [e2]
        match n, hd with
        | 0, hd =>
          obtain rfl : c = d := by simpa using hd
          rw [if_pos (by omega), GQ.div_self' k3]
        | n + 1, hd =>
          have hd' : s.q[n]? = some d := by simpa using hd
          rw [if_neg (by omega), hzk d (List.mem_of_getElem? hd'), GQ.zero_div']
      · have e2 : red (fun i => t.X (swp k s.r i)) s.r c i d = t.X i d - t.X i c * (s.X k d / s.X k c) := by
          unfold red; rw [if_neg e]; simp only [hks]; rw [tk k k1 hkm, hswl i (by omega)]
        rw [e2]
        match n, hd with
        | 0, hd =>
          obtain rfl : c = d := by simpa using hd
          rw [if_neg (by omega), GQ.div_self' k3, GQ.mul_one', GQ.sub_self']
        | n + 1, hd =>
          have hd' : s.q[n]? = some d := by simpa using hd
          rw [hzk d (List.mem_of_getElem? hd'), GQ.zero_div', GQ.mul_zero', GQ.sub_zero', h.un i (by omega) n d hd']
          by_cases e3 : n + i + 1 = s.r
          · rw [if_pos e3, if_pos (by omega)]
          · rw [if_neg e3, if_neg (by omega)]
    · rw [estep_some hf]
      show (if k = t.r then t.d else t.d * GQ.i (-1) 0) * t.X k c = if (s.odd ^^ decide (k ≠ s.r)) then -det (X0 (o k) :: P) (c :: s.q) else det (X0 (o k) :: P) (c :: s.q)
      rw [hen, tk k k1 hkm, h.re, h.dd]
      generalize s.X k c = x; generalize det P s.q = y
      by_cases e : k = s.r
      · have hx : (s.odd ^^ decide (k ≠ s.r)) = s.odd := by simp [e]
        rw [if_pos e, hx]
        cases s.odd
        · show y * x = x * y
          exact GQ.mul_comm' _ _
        · show -y * x = -(x * y)
          (ext <;> simp only [GQ.add_re, GQ.add_im, GQ.sub_re, GQ.sub_im, GQ.mul_re, GQ.mul_im, GQ.neg_re, GQ.neg_im, GQ.i_re, GQ.i_im] <;> grind)
      · have hx : (s.odd ^^ decide (k ≠ s.r)) = !s.odd := by simp [e]
        rw [if_neg e, hx]
        cases s.odd
        · show y * GQ.i (-1) 0 * x = -(x * y)
          (ext <;> simp only [GQ.add_re, GQ.add_im, GQ.sub_re, GQ.sub_im, GQ.mul_re, GQ.mul_im, GQ.neg_re, GQ.neg_im, GQ.i_re, GQ.i_im] <;> grind)
        · show -y * GQ.i (-1) 0 * x = x * y
          (ext <;> simp only [GQ.add_re, GQ.add_im, GQ.sub_re, GQ.sub_im, GQ.mul_re, GQ.mul_im, GQ.neg_re, GQ.neg_im, GQ.i_re, GQ.i_im] <;> grind)
    · rw [estep_some hf]
      intro e
      have e' : s.r = c := by have : s.r + 1 = c + 1 := e; omega
      show pprod (clr (fun i => s.X (swp k s.r i)) s.r c) c * clr (fun i => s.X (swp k s.r i)) s.r c c c = det (X0 (o k) :: P) (c :: s.q)
      rw [hen, ← h.pp e']
      have a1 : clr (fun i => s.X (swp k s.r i)) s.r c c c = s.X k c := by
        unfold clr; rw [if_neg (by omega)]; simp only []; rw [← e', hks]
      have a2 : pprod (clr (fun i => s.X (swp k s.r i)) s.r c) c = pprod s.X c := pprod_congr fun i hi => by
        unfold clr; rw [if_neg (by omega)]; simp only []; rw [hswl i (by omega)]
      rw [a1, a2, GQ.mul_comm']
theorem rech_inv (m : Nat) (X0 : Nat → Nat → GQ) : ∀ c, ∃ o P, RInv m X0 c (ech m X0 c) (rech m X0 c) o P
  | 0 => ⟨_, _, RInv.start m X0⟩
  | c + 1 => by
    obtain ⟨o, P, h⟩ := rech_inv m X0 c
    rcases h.step (ech_le' m X0 c) with ⟨_, h⟩ | ⟨k, _, h⟩
    · exact ⟨_, _, h⟩
    · exact ⟨_, _, h⟩
/-- The sizes of reduced elimination's entries. -/
theorem RInv.bd {m c b N W : Nat} {X0 : Nat → Nat → GQ} {s : Ec} {t : Rc} {o : Nat → Nat} {P : List (Nat → GQ)} (h : RInv m X0 c s t o P) (hb : ∀ i j, i < m → j < W → Bd (X0 i j) b) (hc : c ≤ W)
    (hN : s.r < m → room b s.r < 2 ^ N) (hN2 : roomp b s.r < 2 ^ N) : ∀ i j, i < m → j < W → Bd (t.X i j) N := by
  intro i j hi hj
  by_cases hir : s.r ≤ i
  · rw [h.lo i hir hi]; exact h.inv.bd hb hc (hN (by omega)) i j hir hi hj
  · have hlen : s.r - 1 - i < s.q.length := by rw [h.inv.ql]; omega
    refine red_bd (v := t.X i) h.inv.pl h.inv.ql ?_ h.inv.ne (t := s.r - 1 - i) (by omega) ((h.sp i (by omega)).entry hlen (fun n d hd => ?_) j) hN2
    · intro r hr d hd
      obtain ⟨k, hk, rfl⟩ := h.inv.pm r hr
      refine hb _ _ hk ?_
      rcases List.mem_cons.1 hd with rfl | hd
      · exact hj
      · have := h.inv.qc d hd; omega
    · rw [h.un i (by omega) n d hd]
      by_cases e : n = s.r - 1 - i
      · rw [if_pos e, if_pos (by omega)]
      · rw [if_neg e]
        have : n < s.q.length := (List.getElem?_eq_some_iff.1 hd).1
        rw [if_neg (by omega)]
theorem RInv.bd_det {m c b N W : Nat} {X0 : Nat → Nat → GQ} {s : Ec} {t : Rc} {o : Nat → Nat} {P : List (Nat → GQ)} (h : RInv m X0 c s t o P) (hb : ∀ i j, i < m → j < W → Bd (X0 i j) b) (hc : c ≤ W) (hN : roomd b s.r < 2 ^ N) : Bd (det P s.q) N := by
  refine det_bd h.inv.pl h.inv.ql (fun r hr d hd => ?_) hN
  obtain ⟨k, hk, rfl⟩ := h.inv.pm r hr
  exact hb _ _ hk (by have := h.inv.qc d hd; omega)
theorem Bd.neg {x : GQ} {n : Nat} (h : Bd x n) : Bd (-x) n := by
  obtain ⟨a, b, d, h1, h2⟩ := h
  have hd := h1.dne
  refine Bd.of (a := -a) (b := -b) (d := d) hd ?_ ?_ ⟨by rw [Int.natAbs_neg]; exact h2.a, by rw [Int.natAbs_neg]; exact h2.b, h2.d⟩
  · have := h1.re
    simp only [GQ.neg_re, this, Rat.intCast_neg]; grind
  · have := h1.im
    simp only [GQ.neg_im, this, Rat.intCast_neg]; grind
end Go.Proofs.YtclkkoiaaddllaaGreat

namespace Go.Proofs.YtclkkoiaaddllaaGreat
open Go.RowKit
set_option linter.unusedVariables false
set_option linter.unusedSimpArgs false

section
variable {W W' : World} {G m n : Nat} {P : Nat → Prop} {R : Nat → Rw} {X Y : Nat → Nat → GQ}
theorem MxC.mod {S : Nat → Prop} (h : MxC W G m n P R X) (hm : Mod S W W') (hS : Far S W) (hG : ¬ S G) (ho : ∀ j, j < m → 0 < n → ¬ S (R j).b) : MxC W' G m n P R X := by
  refine ⟨fun h0 => ?_, h.len, fun j hj hn => ⟨(h.row j hj hn).1, (h.row j hj hn).2.mod hm hS (ho j hj hn)⟩, h.inj, h.mem⟩
  obtain ⟨c, R', h1, h2, h3⟩ := h.out h0
  exact ⟨c, R', h1, h2.mod hm hG, h3⟩
theorem MxC.upd {S : Nat → Prop} {x : Nat → GQ} {i : Nat} (h : MxC W G m n P R X) (hm : Mod S W W') (hS : Far S W) (hG : ¬ S G) (ho : ∀ j, j < m → j ≠ i → 0 < n → ¬ S (R j).b) (hi : 0 < n → RowC W' (R i).b n x) : MxC W' G m n P R (upd X i x) := by
  refine ⟨fun h0 => ?_, h.len, fun j hj hn => ⟨(h.row j hj hn).1, ?_⟩, h.inj, h.mem⟩
  · obtain ⟨c, R', h1, h2, h3⟩ := h.out h0
    exact ⟨c, R', h1, h2.mod hm hG, h3⟩
  · by_cases e : j = i
    · subst e; rw [upd_same]; exact hi hn
    · rw [upd_ne e]; exact (h.row j hj hn).2.mod hm hS (ho j hj e hn)
theorem MxC.swap {k r : Nat} (h : MxC W G m n P R X) (hk : k < m) (hr : r < m) :
    MxC ((W.setCell ⟨G, k, none⟩ (.slice (R r).A n (R r).c)).setCell ⟨G, r, none⟩ (.slice (R k).A n (R k).c)) G m n P (fun i => R (swp k r i)) (fun i => X (swp k r i)) ∧
      Mod (fun g => g = G) W ((W.setCell ⟨G, k, none⟩ (.slice (R r).A n (R r).c)).setCell ⟨G, r, none⟩ (.slice (R k).A n (R k).c)) := by
  obtain ⟨c, R', h1, h2, h3⟩ := h.out (by omega)
  have hm : Mod (fun g => g = G) W ((W.setCell ⟨G, k, none⟩ (.slice (R r).A n (R r).c)).setCell ⟨G, r, none⟩ (.slice (R k).A n (R k).c)) := Mod.only ((Only.set _ _ _ _).trans (Only.set _ _ _ _)) rfl
  have hS : Far (fun g => g = G) W := fun g hg _ => by subst hg; exact ⟨_, _, h2, noInt_slices _ _⟩
  refine ⟨⟨fun _ => ⟨c, fun i => R' (swp k r i), h1, ?_, fun i hi => h3 _ (swp_lt hk hr hi)⟩, fun i hi => h.len _ (swp_lt hk hr hi), fun i hi hn => ?_, fun i j hi hj hn e => ?_, fun i hi hn => h.mem _ (swp_lt hk hr hi) hn⟩, hm⟩
  · have := (h2.set_ k (R' r).v).set_ r (R' k).v
    rw [mxc_swap (by omega) (by omega), h3 r hr, h3 k hk, h.v hk, h.v hr] at this
    exact this
  · obtain ⟨h1, h4⟩ := h.row _ (swp_lt hk hr hi) hn
    refine ⟨h1, h4.mod hm hS ?_⟩
    obtain ⟨cs, hb⟩ := h4.blk
    exact fun e => h2.ne_t hb (by decide) e.symm
  · have := h.inj _ _ (swp_lt hk hr hi) (swp_lt hk hr hj) hn e
    rw [← swp_inv k r i, this, swp_inv]
theorem MxC.blk (h : MxC W G m n P R X) (hm : 0 < m) : ∃ cs, Blk W G 37 cs ∧ noIntB cs = true := by
  obtain ⟨c, R', _, h2, _⟩ := h.out hm
  exact ⟨_, h2, noInt_slices _ _⟩
theorem MxC.ne (h : MxC W G m n P R X) {i g : Nat} {t : TypeId} {cs : Array Value} (hi : i < m) (hn : 0 < n) (hb : Blk W g t cs) (ht : t ≠ 32) : (R i).b ≠ g := by
  obtain ⟨cs', hc⟩ := (h.row i hi hn).2.blk
  exact hc.ne_t hb (fun e => ht e.symm)
/-- A number stored. -/
theorem mxc_put {i j cap : Nat} {f : Nat → En} {e : En} {q : GQ} (h : MxC W G m n P R X) (hi : i < m) (hj : j < n) (hcap : n ≤ cap) (hf : Blk W (R i).b 32 (rowc cap f).toArray) (hv : ∀ j, j < n → GV W (f j).v (X i j) 12800) (he : GV W e.v q 12800) :
    MxC (puts W (R i).b (j * 6) e.cells) G m n P R (upd X i (upd (X i) j q)) ∧ Mod (fun g => g = (R i).b) W (puts W (R i).b (j * 6) e.cells) := by
  obtain ⟨h1, h2⟩ := RowC.put hf hcap hv hj he
  have hfar : Far (fun g => g = (R i).b) W := (h.row i hi (by omega)).2.far
  refine ⟨h.upd h2 hfar ?_ (fun j' hj' hne hn e' => ?_) (fun _ => h1), h2⟩
  · intro e'
    obtain ⟨cs, hb, _⟩ := h.blk (by omega)
    exact h.ne hi (by omega) hb (by decide) e'.symm
  · exact hne (h.inj _ _ hj' hi hn e')
/-- Where a row's number lies. -/
theorem MxC.at_ {i j : Nat} (h : MxC W G m n P R X) (hi : i < m) (hj : j < n) : ∃ (cap : Nat) (f : Nat → En), (R i).A = some ⟨(R i).b, 0, none⟩ ∧ n ≤ cap ∧ Blk W (R i).b 32 (rowc cap f).toArray ∧ ∀ j, j < n → GV W (f j).v (X i j) 12800 := by
  obtain ⟨h1, c, f, h2, h3, h4⟩ := h.row i hi (by omega)
  exact ⟨c, f, h1, h2, h3, h4⟩
end
/-- The determinant's place, the matrix and the empty matrix beside it. -/
structure RS (W : World) (gd Ga Gb m n B0 ND : Nat) (X : Nat → Nat → GQ) (d : GQ) : Prop where
  det : ∃ e : En, Blk W gd 32 e.cells.toArray ∧ GV W e.v d ND
  a : ∃ R, MxC W Ga m n (fun g => B0 ≤ g ∧ g < gd) R X
  b : ∃ R, MxC W Gb m 0 (fun g => B0 ≤ g ∧ g < gd) R X
theorem MxC.to0 {W : World} {G m : Nat} {P Q : Nat → Prop} {R : Nat → Rw} {X Y : Nat → Nat → GQ} (h : MxC W G m 0 P R X) : MxC W G m 0 Q R Y :=
  ⟨h.out, h.len, fun i hi hn => absurd hn (Nat.lt_irrefl 0), fun i j hi hj hn => absurd hn (Nat.lt_irrefl 0), fun i hi hn => absurd hn (Nat.lt_irrefl 0)⟩
theorem RS.ext {W W' : World} {gd Ga Gb m n B0 ND : Nat} {X : Nat → Nat → GQ} {d : GQ} (h : RS W gd Ga Gb m n B0 ND X d) (x : Ext W W') : RS W' gd Ga Gb m n B0 ND X d := by
  obtain ⟨⟨e, h1, h2⟩, ⟨R, h3⟩, ⟨S, h4⟩⟩ := h
  exact ⟨⟨e, h1.ext x, h2.ext x⟩, ⟨R, h3.ext x⟩, ⟨S, h4.ext x⟩⟩
theorem RS.congr {W : World} {gd Ga Gb m n B0 ND : Nat} {X Y : Nat → Nat → GQ} {d : GQ} (h : RS W gd Ga Gb m n B0 ND X d) (e : ∀ i j, i < m → j < n → X i j = Y i j) : RS W gd Ga Gb m n B0 ND Y d := by
  obtain ⟨h1, ⟨R, h3⟩, ⟨S, h4⟩⟩ := h
  exact ⟨h1, ⟨R, h3.congr e⟩, ⟨S, h4.to0⟩⟩
/-- A number of the matrix stored. -/
theorem RS.put {W : World} {gd Ga Gb m n B0 ND i j cap : Nat} {X : Nat → Nat → GQ} {d q : GQ} {e : En} {f : Nat → En} {R : Nat → Rw} (h : RS W gd Ga Gb m n B0 ND X d) (hR : MxC W Ga m n (fun g => B0 ≤ g ∧ g < gd) R X) (hi : i < m) (hj : j < n) (hcap : n ≤ cap) (hf : Blk W (R i).b 32 (rowc cap f).toArray) (hv : ∀ j, j < n → GV W (f j).v (X i j) 12800) (he : GV W e.v q 12800) :
    RS (puts W (R i).b (j * 6) e.cells) gd Ga Gb m n B0 ND (upd X i (upd (X i) j q)) d ∧ Mod (fun g => g = (R i).b) W (puts W (R i).b (j * 6) e.cells) := by
  obtain ⟨⟨e0, h1, h2⟩, _, ⟨S, h4⟩⟩ := h
  obtain ⟨h5, h6⟩ := mxc_put hR hi hj hcap hf hv he
  have hfar : Far (fun g => g = (R i).b) W := (hR.row i hi (by omega)).2.far
  have hlt := (hR.mem i hi (by omega)).2
  obtain ⟨csb, hb, _⟩ := h4.blk (by omega)
  refine ⟨⟨⟨e0, h1.mod h6 (by show ¬ gd = (R i).b; omega), h2.mod h6 hfar⟩, ⟨R, h5⟩, ⟨S, (h4.mod h6 hfar (fun e' => hR.ne hi (by omega) hb (by decide) e'.symm) fun j hj hn => absurd hn (Nat.lt_irrefl 0)).to0⟩⟩, h6⟩
end Go.Proofs.YtclkkoiaaddllaaGreat

namespace Go.Proofs.YtclkkoiaaddllaaGreat
set_option linter.unusedVariables false
set_option linter.unusedSimpArgs false

theorem small_room : ∀ k, k ≤ 6 → roomp 32 k < 2 ^ 2720 ∧ roomd 32 k < 2 ^ 2320 := by
  intro k hk
  match k, hk with
  | 0, _ => exact ⟨by decide +kernel, by decide +kernel⟩
  | 1, _ => exact ⟨by decide +kernel, by decide +kernel⟩
  | 2, _ => exact ⟨by decide +kernel, by decide +kernel⟩
  | 3, _ => exact ⟨by decide +kernel, by decide +kernel⟩
  | 4, _ => exact ⟨by decide +kernel, by decide +kernel⟩
  | 5, _ => exact ⟨by decide +kernel, by decide +kernel⟩
  | 6, _ => exact ⟨by decide +kernel, by decide +kernel⟩
theorem small_room5 : ∀ k, k < 6 → room 32 k < 2 ^ 2340 := by
  intro k hk
  match k, hk with
  | 0, _ => decide +kernel
  | 1, _ => decide +kernel
  | 2, _ => decide +kernel
  | 3, _ => decide +kernel
  | 4, _ => decide +kernel
  | 5, _ => decide +kernel
theorem small_roomf : ∀ k, k < 5 → roomf 32 k < 2 ^ 2340 := by
  intro k hk
  match k, hk with
  | 0, _ => decide +kernel
  | 1, _ => decide +kernel
  | 2, _ => decide +kernel
  | 3, _ => decide +kernel
  | 4, _ => decide +kernel
theorem room6 {m n : Nat} {X : Nat → Nat → GQ} (hm : m ≤ 6) (hb : ∀ i j, i < m → j < n → Bd (X i j) 32) : Room 2340 m n 0 X :=
  room_of (b := 32) (by simpa using hb) fun k hk => ⟨small_room5 k (by omega), small_roomf k (by omega)⟩
theorem ech_keep (m : Nat) (X : Nat → Nat → GQ) (c : Nat) : ∀ d, c ≤ d → ∀ i, i < (ech m X c).r → (ech m X d).X i = (ech m X c).X i ∧ (ech m X c).r ≤ (ech m X d).r
  | 0, hd, i, hi => by rw [show c = 0 by omega] at hi ⊢; exact ⟨rfl, Nat.le_refl _⟩
  | d + 1, hd, i, hi => by
    by_cases e : c = d + 1
    · rw [e]; exact ⟨rfl, Nat.le_refl _⟩
    · obtain ⟨h1, h2⟩ := ech_keep m X c d (by omega) i hi
      have es : ech m X (d + 1) = estep m d (ech m X d) := rfl
      rw [es, ← h1]
      cases hf : fp (ech m X d).X d (m - (ech m X d).r) (ech m X d).r with
      | none => rw [estep_none hf]; exact ⟨rfl, h2⟩
      | some k =>
        obtain ⟨k1, k2, k3, k4⟩ := of_fp_some hf
        rw [estep_some hf]
        refine ⟨?_, by show (ech m X c).r ≤ (ech m X d).r + 1; omega⟩
        funext j
        show clr (fun i => (ech m X d).X (swp k (ech m X d).r i)) (ech m X d).r d i j = _
        unfold clr
        rw [if_neg (by omega)]
        show (ech m X d).X (swp k (ech m X d).r i) j = _
        rw [swp_ne (by omega) (by omega)]
theorem ech_up (m : Nat) (X : Nat → Nat → GQ) (c : Nat) : ∀ e, (ech m X (c + e)).r ≤ (ech m X c).r + e
  | 0 => Nat.le_refl _
  | e + 1 => by
    have ih := ech_up m X c e
    show (estep m (c + e) (ech m X (c + e))).r ≤ _
    cases hf : fp (ech m X (c + e)).X (c + e) (m - (ech m X (c + e)).r) (ech m X (c + e)).r with
    | none => rw [estep_none hf]; omega
    | some k => rw [estep_some hf]; show (ech m X (c + e)).r + 1 ≤ _; omega
theorem ech_full_at {m : Nat} {X : Nat → Nat → GQ} (h : ¬ (ech m X m).r < m) {k : Nat} (hk : k ≤ m) : (ech m X k).r = k := by
  have h1 := ech_le' m X k
  have h2 := ech_up m X k (m - k)
  rw [show k + (m - k) = m by omega] at h2
  omega
/-- The product of the pivots so far is a determinant. -/
theorem pprod_det {m : Nat} {X : Nat → Nat → GQ} (h : ¬ (ech m X m).r < m) {k : Nat} (hk : k ≤ m) : ∃ o P, RInv m X k (ech m X k) (rech m X k) o P ∧ pprod (ech m X m).X k = det P (ech m X k).q := by
  obtain ⟨o, P, hI⟩ := rech_inv m X k
  have hr := ech_full_at h hk
  refine ⟨o, P, hI, ?_⟩
  rw [← hI.pp hr]
  exact pprod_congr fun i hi => by rw [(ech_keep m X k m hk i (by omega)).1]
theorem pp6 {m : Nat} {X : Nat → Nat → GQ} (hm : m ≤ 6) (hb : ∀ i j, i < m → j < m → Bd (X i j) 32) (h : ¬ (ech m X m).r < m) (k : Nat) (hk : k ≤ m) : Bd (pprod (ech m X m).X k) 2340 := by
  obtain ⟨o, P, hI, he⟩ := pprod_det h hk
  have hrm := hI.inv.rm
  rw [he]
  exact (hI.bd_det hb hk (small_room _ (by omega)).2).mono (by omega)
theorem dg6 {m : Nat} {X : Nat → Nat → GQ} (hm : m ≤ 6) (hb : ∀ i j, i < m → j < m → Bd (X i j) 32) (i : Nat) (hi : i < m) : Bd ((ech m X m).X i i) 2340 :=
  ech_dg (F := fun _ => 2340) hb (fun k hk => small_room5 k (by omega)) (fun _ _ _ => Nat.le_refl _) i i hi hi
end Go.Proofs.YtclkkoiaaddllaaGreat

