/- The rows of this seat: arguments that are matrices of complex numbers. -/
import Derived.Test.YtclkkoiaaddllaaGreatQRoweglb
import Derived.Test.YtclkkoiaaddllaaGreatQGafcpo
import Derived.Test.YtclkkoiaaddllaaGreatQVcffan
namespace Go.Proofs.YtclkkoiaaddllaaGreat
open Go.RowKit Go.ChangeShapes Go.WideShapes Go.ChangeAt Go.Joins Go.Deep
set_option linter.unusedVariables false

theorem spot_none {w : World} {ad : Addr} {v : Value} (h : w.cell? ad = some v) : ∃ b o, ad = ⟨b, o, none⟩ := by
  have hs : ad.spot = none := by
    unfold World.cell? at h
    split at h
    · split at h
      · cases h
      · rename_i hsp; simpa using hsp
    · cases h
  obtain ⟨b, o, sp⟩ := ad
  simp only at hs; subst hs
  exact ⟨b, o, rfl⟩
theorem add_zero_addr (ad : Addr) : ad.add 0 = ad := by
  unfold Addr.add
  split <;> simp_all
theorem u32_bounds {x : Int} (h : (Lit.int .u32 x).wf = true) : 0 ≤ x ∧ x < 4294967296 := by
  simp [Lit.wf, IntKind.min, IntKind.max, IntKind.signed, IntKind.bits] at h
  exact ⟨h.1, by omega⟩
theorem Tryz.cells4 : Tryz.prog.cellsOf 4 = 1 := by kernel_rfl
theorem Tryz.cellsU32 : Tryz.prog.cellsOf 103 = 1 := by kernel_rfl
theorem Tryz.cellsU32s : Tryz.prog.cellsOf 28 = 1 := by kernel_rfl
theorem Tryz.cellsInt : Tryz.prog.cellsOf 30 = 2 := by kernel_rfl
theorem Tryz.cellsGauss : Tryz.prog.cellsOf 32 = 6 := by kernel_rfl
/-- Three integers of whatever digits, at most these lengths. -/
structure RawG (w : World) (s1 : Bool) (A1 : Option Addr) (n1 c1 : Nat) (l1 : List Nat) (s2 : Bool) (A2 : Option Addr) (n2 c2 : Nat) (l2 : List Nat) (s3 : Bool) (A3 : Option Addr) (n3 c3 : Nat) (l3 : List Nat) : Prop where
  r1 : RX w (iv s1 A1 n1 c1) s1 l1
  r2 : RX w (iv s2 A2 n2 c2) s2 l2
  r3 : RX w (iv s3 A3 n3 c3) s3 l3
theorem RX.n_eq {w : World} {s : Bool} {A : Option Addr} {n c : Nat} {l : List Nat} (h : RX w (iv s A n c) s l) : l.length = n := by
  obtain ⟨A', n', c', e, h'⟩ := h
  simp [iv] at e
  obtain ⟨_, rfl, _⟩ := e
  exact h'.len
section
variable {w : World} {s1 : Bool} {A1 : Option Addr} {n1 c1 : Nat} {l1 : List Nat} {s2 : Bool} {A2 : Option Addr} {n2 c2 : Nat} {l2 : List Nat} {s3 : Bool} {A3 : Option Addr} {n3 c3 : Nat} {l3 : List Nat} {k : Nat}
theorem RawG.cases (h : RawG w s1 A1 n1 c1 l1 s2 A2 n2 c2 l2 s3 A3 n3 c3 l3) (h1 : n1 ≤ k) (h2 : n2 ≤ k) (h3 : n3 ≤ k) (hk : k ≤ 400) : (∃ q, GV w (gv s1 A1 n1 c1 s2 A2 n2 c2 s3 A3 n3 c3) q (32 * k)) ∨ VB w (gv s1 A1 n1 c1 s2 A2 n2 c2 s3 A3 n3 c3) false :=
  gauss_cases h.r1 h.r2 h.r3 (by rw [h.r1.n_eq]; exact h1) (by rw [h.r2.n_eq]; exact h2) (by rw [h.r3.n_eq]; exact h3) hk
end
section
variable {H : Type} {enc : TypeId × Value → H} {w : World} {base : Nat} {spare : Nat → Bool} {held : Bool}
set_option maxRecDepth 100000 in
theorem open_int_cells {fuel : Nat} {c0 c1 : Value} {x : DataW H × List MemPlace} (h : DataW.trod enc Tryz.prog w base spare held fuel 30 [c0, c1] = some x) :
    ∃ s A n c l, c0 = .bool s ∧ c1 = .slice A n c ∧ RX w (iv s A n c) s l := by
  obtain ⟨xs, n, _, hx, _, hlen, hg⟩ := DataW.trod_struct Tryz.underlying30 h
  match xs, hlen with
  | [y0, y1], _ =>
    have g0 : DataW.trod enc Tryz.prog w base spare held n 4 [c0] = some y0 := by simpa [Tryz.cells4] using hg 0 _ rfl
    have g1 : DataW.trod enc Tryz.prog w base spare held n 28 [c1] = some y1 := by simpa [Tryz.cells4, Tryz.cellsU32s] using hg 1 _ rfl
    obtain ⟨s, e0, _⟩ := DataW.trod_bool Tryz.underlying4 g0
    obtain ⟨A, n1, k1, S, e1, hS, h1, h1', hwf⟩ := open_reads Tryz.underlying28 Tryz.underlying103 Tryz.cellsU32 g1
    simp at e0
    subst e0 e1
    unfold maxLen at h1'
    have hm : mg (S.map Int.toNat) = S.map (.int .u32) := by
      unfold mg
      rw [List.map_map]
      apply List.map_congr_left
      intro z hz
      have := u32_bounds (hwf z hz)
      simp; omega
    refine ⟨s, A, n1, k1, S.map Int.toNat, rfl, rfl, A, n1, k1, rfl, ⟨by rw [hm]; exact hS, ?_, h1, by omega⟩⟩
    intro z hz
    obtain ⟨x, hx, rfl⟩ := List.mem_map.1 hz
    have := u32_bounds (hwf x hx)
    omega
set_option maxRecDepth 100000 in
theorem open_gauss_cells {fuel : Nat} {c0 c1 c2 c3 c4 c5 : Value} {x : DataW H × List MemPlace} (h : DataW.trod enc Tryz.prog w base spare held fuel 32 [c0, c1, c2, c3, c4, c5] = some x) :
    ∃ s1 A1 n1 k1 l1 s2 A2 n2 k2 l2 s3 A3 n3 k3 l3, Value.agg #[c0, c1, c2, c3, c4, c5] = gv s1 A1 n1 k1 s2 A2 n2 k2 s3 A3 n3 k3 ∧ RawG w s1 A1 n1 k1 l1 s2 A2 n2 k2 l2 s3 A3 n3 k3 l3 := by
  obtain ⟨xs, n, _, hx, _, hlen, hg⟩ := DataW.trod_struct Tryz.underlying32 h
  match xs, hlen with
  | [y0, y1, y2], _ =>
    have g0 : DataW.trod enc Tryz.prog w base spare held n 30 [c0, c1] = some y0 := by simpa [Tryz.cellsInt] using hg 0 _ rfl
    have g1 : DataW.trod enc Tryz.prog w base spare held n 30 [c2, c3] = some y1 := by simpa [Tryz.cellsInt] using hg 1 _ rfl
    have g2 : DataW.trod enc Tryz.prog w base spare held n 30 [c4, c5] = some y2 := by simpa [Tryz.cellsInt] using hg 2 _ rfl
    obtain ⟨s1, A1, n1, k1, l1, rfl, rfl, r1⟩ := open_int_cells g0
    obtain ⟨s2, A2, n2, k2, l2, rfl, rfl, r2⟩ := open_int_cells g1
    obtain ⟨s3, A3, n3, k3, l3, rfl, rfl, r3⟩ := open_int_cells g2
    exact ⟨s1, A1, n1, k1, l1, s2, A2, n2, k2, l2, s3, A3, n3, k3, l3, rfl, ⟨r1, r2, r3⟩⟩
end
theorem Tryz.cellsRow : Tryz.prog.cellsOf 37 = 1 := by kernel_rfl
/-- A complex number of whatever digits. -/
def RawE (w : World) (e : En) : Prop := ∃ l1 l2 l3, RawG w e.s1 e.A1 e.n1 e.c1 l1 e.s2 e.A2 e.n2 e.c2 l2 e.s3 e.A3 e.n3 e.c3 l3
instance : Inhabited En := ⟨zEn⟩
instance : Inhabited Rw := ⟨nilRw⟩
theorem mem_z (w : World) (A : Option Addr) (R : Nat → Rw) (E : Nat → Nat → En) : Mem w A 0 0 0 R E := ⟨fun h => absurd h (by omega), fun i hi => absurd hi (by omega), fun i hi => absurd hi (by omega), fun i j hi => absurd hi (by omega), by omega, fun i hi => absurd hi (by omega)⟩
section
variable {H : Type} {enc : TypeId × Value → H} {w : World} {base : Nat} {spare : Nat → Bool} {held : Bool}
set_option maxRecDepth 100000 in
theorem open_gauss_en {fuel : Nat} {cs : List Value} {x : DataW H × List MemPlace} (hl : cs.length = 6) (h : DataW.trod enc Tryz.prog w base spare held fuel 32 cs = some x) : ∃ e : En, cs = e.cells ∧ RawE w e := by
  match cs, hl with
  | [c0, c1, c2, c3, c4, c5], _ =>
    obtain ⟨s1, A1, n1, k1, l1, s2, A2, n2, k2, l2, s3, A3, n3, k3, l3, e, h⟩ := open_gauss_cells h
    unfold gv at e
    injection e with e
    injection e with e
    exact ⟨⟨s1, A1, n1, k1, s2, A2, n2, k2, s3, A3, n3, k3⟩, e, l1, l2, l3, h⟩
set_option maxRecDepth 100000 in
theorem open_row {fuel : Nat} {v : Value} {x : DataW H × List MemPlace} (h : DataW.trod enc Tryz.prog w base spare held fuel 37 [v] = some x) :
    ∃ (r : Rw) (e : Nat → En), v = r.v ∧ (0 < r.n → r.A = some ⟨r.b, r.o, none⟩) ∧ r.n ≤ 9223372036854775807 ∧ ∀ j, j < r.n → (∀ t u, (e j).cells[t]? = some u → w.cell? ⟨r.b, r.o + (j * 6 + t), none⟩ = some u) ∧ RawE w (e j) := by
  rcases open_slice Tryz.underlying37 h with ⟨hcs, _⟩ | ⟨a, len, cap, m, nf, D, Pl, hcs, _, hl, hm, hmm, _, hi⟩
  · injection hcs with hcs
    exact ⟨nilRw, fun _ => zEn, hcs, fun h => absurd h (by decide), by decide, fun j hj => absurd hj (by show ¬ j < 0; omega)⟩
  · injection hcs with hcs
    have hml : len ≤ m := by rw [hmm]; split <;> omega
    unfold maxLen at hm
    rw [Tryz.cellsGauss] at hi
    obtain ⟨e, he⟩ := choose_lt (α := En) (n := len) (p := fun i e => (∀ t u, e.cells[t]? = some u → w.cell? ((a.add (i * 6)).add t) = some u) ∧ RawE w e) (fun i hlt => by
      obtain ⟨cs', h1, h2⟩ := hi i (by omega)
      obtain ⟨_, hlen, hc⟩ := World.cells?_some h1
      obtain ⟨e, rfl, hr⟩ := open_gauss_en hlen h2
      refine ⟨e, fun t u hu => ?_, hr⟩
      have ht : t < 6 := (List.getElem?_eq_some_iff.1 hu).1
      rw [hc t ht]; exact hu)
    by_cases h0 : len = 0
    · subst h0
      exact ⟨⟨some a, 0, 0, 0, cap⟩, e, hcs, fun h => absurd h (by show ¬ 0 < 0; omega), by show 0 ≤ _; omega, fun j hj => absurd hj (by show ¬ j < 0; omega)⟩
    obtain ⟨b, o, hbo⟩ := spot_none (w := w) (ad := a) ((he 0 (by omega)).1 0 _ rfl |> fun h => by rw [Nat.zero_mul, add_zero_addr, add_zero_addr] at h; exact h)
    subst hbo
    refine ⟨⟨some ⟨b, o, none⟩, b, o, len, cap⟩, e, hcs, fun _ => rfl, by show len ≤ _; omega, fun j hj => ⟨fun t u hu => ?_, (he j hj).2⟩⟩
    have := (he j hj).1 t u hu
    rw [add_plain, add_plain] at this
    rw [← Nat.add_assoc]; exact this
set_option maxRecDepth 100000 in
theorem open_matrix {fuel : Nat} {v : Value} {x : DataW H × List MemPlace} (h : DataW.trod enc Tryz.prog w base spare held fuel 22 [v] = some x) :
    ∃ A B O m c R E, v = .slice A m c ∧ Mem w A B O m R E ∧ ∀ i j, i < m → j < (R i).n → RawE w (E i j) := by
  rcases open_slice1 Tryz.underlying22 Tryz.cellsRow h with ⟨hcs, _⟩ | ⟨a, len, cap, m, nf, V, D, Pl, hcs, _, hl, hm, hmm, _, hi⟩
  · injection hcs with hcs
    exact ⟨none, 0, 0, 0, 0, fun _ => nilRw, fun _ _ => zEn, hcs, mem0 w none, fun i j hi => absurd hi (by omega)⟩
  · injection hcs with hcs
    have hml : len ≤ m := by rw [hmm]; split <;> omega
    unfold maxLen at hm
    obtain ⟨R, hR⟩ := choose_lt (α := Rw) (n := len) (p := fun i r => ∃ e : Nat → En, V i = r.v ∧ (0 < r.n → r.A = some ⟨r.b, r.o, none⟩) ∧ r.n ≤ 9223372036854775807 ∧ ∀ j, j < r.n → (∀ t u, (e j).cells[t]? = some u → w.cell? ⟨r.b, r.o + (j * 6 + t), none⟩ = some u) ∧ RawE w (e j)) (fun i hlt => open_row (hi i (by omega)).2)
    obtain ⟨E, hE⟩ := choose_lt (α := Nat → En) (n := len) (p := fun i e => V i = (R i).v ∧ (0 < (R i).n → (R i).A = some ⟨(R i).b, (R i).o, none⟩) ∧ (R i).n ≤ 9223372036854775807 ∧ ∀ j, j < (R i).n → (∀ t u, (e j).cells[t]? = some u → w.cell? ⟨(R i).b, (R i).o + (j * 6 + t), none⟩ = some u) ∧ RawE w (e j)) hR
    by_cases h0 : len = 0
    · subst h0
      exact ⟨some a, 0, 0, 0, cap, R, E, hcs, mem_z w (some a) R E, fun i j hi => absurd hi (by omega)⟩
    obtain ⟨b, o, hbo⟩ := spot_none (w := w) (ad := a) ((hi 0 (by omega)).1 |> fun h => by rw [add_zero_addr] at h; exact h)
    subst hbo
    refine ⟨some ⟨b, o, none⟩, b, o, len, cap, R, E, hcs, ⟨fun _ => rfl, fun i hi' => ?_, fun i hi' hn => (hE i hi').2.1 hn, fun i j hi' hj => ((hE i hi').2.2.2 j hj).1, by omega, fun i hi' => (hE i hi').2.2.1⟩, fun i j hi' hj => ((hE i hi').2.2.2 j hj).2⟩
    have := (hi i (by omega)).1
    rw [add_plain, (hE i hi').1] at this
    exact this
end
end Go.Proofs.YtclkkoiaaddllaaGreat
