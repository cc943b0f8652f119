/- The rows of this seat: arguments that are complex numbers and phasors. -/
import Derived.Test.YtjeijmnhbckjdaaGreatDoorQRowDkkjb
import Derived.Test.YtjeijmnhbckjdaaGreatDoorQGamolh
namespace Go.Proofs.YtjeijmnhbckjdaaGreatDoor
open Go.RowKit Go.ChangeShapes Go.WideShapes Go.ChangeAt Go.Joins Go.Deep

theorem Tryz.cellsInt : Tryz.prog.cellsOf 24 = 2 := by kernel_rfl
theorem Tryz.cellsGauss : Tryz.prog.cellsOf 26 = 6 := by kernel_rfl
/-- Three integers of whatever digits, at most these lengths. -/
structure RawG (w : World) (s1 : Bool) (A1 : Option Addr) (n1 c1 : Nat) (l1 : List Nat) (s2 : Bool) (A2 : Option Addr) (n2 c2 : Nat) (l2 : List Nat) (s3 : Bool) (A3 : Option Addr) (n3 c3 : Nat) (l3 : List Nat) : Prop where
  r1 : RX w (iv s1 A1 n1 c1) s1 l1
  r2 : RX w (iv s2 A2 n2 c2) s2 l2
  r3 : RX w (iv s3 A3 n3 c3) s3 l3
theorem RI.low {w : World} {s : Bool} {A : Option Addr} {n c m k : Nat} {z : Int} (h : RI w (iv s A n c) z) (hz : z.natAbs < 2 ^ m) (hm : m ≤ 32 * k) : n ≤ k := RI.le h (lt_up hz hm)
theorem RX.n_eq {w : World} {s : Bool} {A : Option Addr} {n c : Nat} {l : List Nat} (h : RX w (iv s A n c) s l) : l.length = n := by
  obtain ⟨A', n', c', e, h'⟩ := h
  simp [iv] at e
  obtain ⟨_, rfl, _⟩ := e
  exact h'.len
section
variable {w : World} {s1 : Bool} {A1 : Option Addr} {n1 c1 : Nat} {l1 : List Nat} {s2 : Bool} {A2 : Option Addr} {n2 c2 : Nat} {l2 : List Nat} {s3 : Bool} {A3 : Option Addr} {n3 c3 : Nat} {l3 : List Nat} {k : Nat}
theorem RawG.cases (h : RawG w s1 A1 n1 c1 l1 s2 A2 n2 c2 l2 s3 A3 n3 c3 l3) (h1 : n1 ≤ k) (h2 : n2 ≤ k) (h3 : n3 ≤ k) (hk : k ≤ 400) : (∃ q, GV w (gv s1 A1 n1 c1 s2 A2 n2 c2 s3 A3 n3 c3) q (32 * k)) ∨ VB w (gv s1 A1 n1 c1 s2 A2 n2 c2 s3 A3 n3 c3) false :=
  gauss_cases h.r1 h.r2 h.r3 (by rw [h.r1.n_eq]; exact h1) (by rw [h.r2.n_eq]; exact h2) (by rw [h.r3.n_eq]; exact h3) hk
theorem RawG.vb (h : RawG w s1 A1 n1 c1 l1 s2 A2 n2 c2 l2 s3 A3 n3 c3 l3) (h1 : n1 ≤ k) (h2 : n2 ≤ k) (h3 : n3 ≤ k) (hk : k ≤ 400) : ∃ b, VB w (gv s1 A1 n1 c1 s2 A2 n2 c2 s3 A3 n3 c3) b := by
  rcases h.cases h1 h2 h3 hk with ⟨q, hq⟩ | h
  · exact ⟨true, hq.vb (by omega)⟩
  · exact ⟨false, h⟩
theorem PV.of {q p : GQ} {n : Nat} {s4 : Bool} {A4 : Option Addr} {n4 c4 : Nat} {s5 : Bool} {A5 : Option Addr} {n5 c5 : Nat} {s6 : Bool} {A6 : Option Addr} {n6 c6 : Nat} (h : GV w (gv s1 A1 n1 c1 s2 A2 n2 c2 s3 A3 n3 c3) q n) (h' : GV w (gv s4 A4 n4 c4 s5 A5 n5 c5 s6 A6 n6 c6) p n) :
    PV w (pv s1 A1 n1 c1 s2 A2 n2 c2 s3 A3 n3 c3 s4 A4 n4 c4 s5 A5 n5 c5 s6 A6 n6 c6) ⟨q, p⟩ n := by
  obtain ⟨a, b, d, r, i, s⟩ := h
  obtain ⟨a', b', d', r', i', s'⟩ := h'
  obtain ⟨e1, e2, e3⟩ := RG.inj r
  obtain ⟨f1, f2, f3⟩ := RG.inj r'
  exact ⟨a, b, d, a', b', d', RP.mk e1 e2 e3 f1 f2 f3, i, s, i', s'⟩
end
section
variable {H : Type} {enc : TypeId × Value → H} {w : World} {base : Nat} {spare : Nat → Bool} {held : Bool}
set_option maxRecDepth 100000 in
theorem open_int_cells {fuel : Nat} {c0 c1 : Value} {x : DataW H × List MemPlace} (h : DataW.trod enc Tryz.prog w base spare held fuel 24 [c0, c1] = some x) :
    ∃ s A n c l, c0 = .bool s ∧ c1 = .slice A n c ∧ RX w (iv s A n c) s l := by
  obtain ⟨xs, n, _, hx, _, hlen, hg⟩ := DataW.trod_struct Tryz.underlying24 h
  match xs, hlen with
  | [y0, y1], _ =>
    have g0 : DataW.trod enc Tryz.prog w base spare held n 4 [c0] = some y0 := by simpa [Tryz.cells4] using hg 0 _ rfl
    have g1 : DataW.trod enc Tryz.prog w base spare held n 22 [c1] = some y1 := by simpa [Tryz.cells4, Tryz.cellsU32s] using hg 1 _ rfl
    obtain ⟨s, e0, _⟩ := DataW.trod_bool Tryz.underlying4 g0
    obtain ⟨A, n1, k1, S, e1, hS, h1, h1', hwf⟩ := open_reads Tryz.underlying22 Tryz.underlying90 Tryz.cellsU32 g1
    simp at e0
    subst e0 e1
    unfold maxLen at h1'
    have hm : mg (S.map Int.toNat) = S.map (.int .u32) := by
      unfold mg
      rw [List.map_map]
      apply List.map_congr_left
      intro z hz
      have := u32_bounds (hwf z hz)
      simp; omega
    refine ⟨s, A, n1, k1, S.map Int.toNat, rfl, rfl, A, n1, k1, rfl, ⟨by rw [hm]; exact hS, ?_, h1, by omega⟩⟩
    intro z hz
    obtain ⟨x, hx, rfl⟩ := List.mem_map.1 hz
    have := u32_bounds (hwf x hx)
    omega
set_option maxRecDepth 100000 in
theorem open_gauss_cells {fuel : Nat} {c0 c1 c2 c3 c4 c5 : Value} {x : DataW H × List MemPlace} (h : DataW.trod enc Tryz.prog w base spare held fuel 26 [c0, c1, c2, c3, c4, c5] = some x) :
    ∃ s1 A1 n1 k1 l1 s2 A2 n2 k2 l2 s3 A3 n3 k3 l3, Value.agg #[c0, c1, c2, c3, c4, c5] = gv s1 A1 n1 k1 s2 A2 n2 k2 s3 A3 n3 k3 ∧ RawG w s1 A1 n1 k1 l1 s2 A2 n2 k2 l2 s3 A3 n3 k3 l3 := by
  obtain ⟨xs, n, _, hx, _, hlen, hg⟩ := DataW.trod_struct Tryz.underlying26 h
  match xs, hlen with
  | [y0, y1, y2], _ =>
    have g0 : DataW.trod enc Tryz.prog w base spare held n 24 [c0, c1] = some y0 := by simpa [Tryz.cellsInt] using hg 0 _ rfl
    have g1 : DataW.trod enc Tryz.prog w base spare held n 24 [c2, c3] = some y1 := by simpa [Tryz.cellsInt] using hg 1 _ rfl
    have g2 : DataW.trod enc Tryz.prog w base spare held n 24 [c4, c5] = some y2 := by simpa [Tryz.cellsInt] using hg 2 _ rfl
    obtain ⟨s1, A1, n1, k1, l1, rfl, rfl, r1⟩ := open_int_cells g0
    obtain ⟨s2, A2, n2, k2, l2, rfl, rfl, r2⟩ := open_int_cells g1
    obtain ⟨s3, A3, n3, k3, l3, rfl, rfl, r3⟩ := open_int_cells g2
    exact ⟨s1, A1, n1, k1, l1, s2, A2, n2, k2, l2, s3, A3, n3, k3, l3, rfl, ⟨r1, r2, r3⟩⟩
set_option maxRecDepth 100000 in
/-- An argument that is a complex number. -/
theorem open_gauss_ {r : Reach} {b0 : Nat} {v : Value} {d : DataW H} {p : List MemPlace} (hv : Value.okWide Tryz.prog w r b0 26 v) (h : DataW.Trod enc Tryz.prog w base spare held 26 v d p) :
    ∃ s1 A1 n1 k1 l1 s2 A2 n2 k2 l2 s3 A3 n3 k3 l3, v = gv s1 A1 n1 k1 s2 A2 n2 k2 s3 A3 n3 k3 ∧ RawG w s1 A1 n1 k1 l1 s2 A2 n2 k2 l2 s3 A3 n3 k3 l3 := by
  obtain ⟨cs, rfl, hsz⟩ := okWide_struct Tryz.underlying26 hv
  obtain ⟨l⟩ := cs
  rw [Tryz.cellsGauss] at hsz
  obtain ⟨fuel, hf⟩ := h
  match l, hsz with
  | [c0, c1, c2, c3, c4, c5], _ => exact open_gauss_cells hf
end
end Go.Proofs.YtjeijmnhbckjdaaGreatDoor
