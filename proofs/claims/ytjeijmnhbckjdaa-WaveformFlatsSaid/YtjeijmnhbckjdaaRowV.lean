/- The rows of this seat: arguments that are numbers and phasors (no tables). -/
import Derived.Test.YtjeijmnhbckjdaaRow
import Derived.Test.YtjeijmnhbckjdaaGa
import Derived.Test.YtjeijmnhbckjdaaCc
import Derived.OpenShut
namespace Go.Proofs.Ytjeijmnhbckjdaa
open Go.RowKit Go.ChangeShapes Go.WideShapes Go.ChangeAt Go.Joins Go.Deep
set_option linter.unusedVariables false

theorem int_bounds {x : Int} (h : (Lit.int .i64 x).wf = true) : -9223372036854775808 ≤ x ∧ x ≤ 9223372036854775807 := by
  simp [Lit.wf, IntKind.min, IntKind.max, IntKind.signed, IntKind.bits] at h
  exact ⟨by omega, by omega⟩
theorem u32_bounds {x : Int} (h : (Lit.int .u32 x).wf = true) : 0 ≤ x ∧ x < 4294967296 := by
  simp [Lit.wf, IntKind.min, IntKind.max, IntKind.signed, IntKind.bits] at h
  exact ⟨h.1, by omega⟩
theorem Try.cells4 : Try.prog.cellsOf 4 = 1 := by kernel_rfl
theorem Try.cellsU32 : Try.prog.cellsOf 69 = 1 := by kernel_rfl
theorem Try.cellsU32s : Try.prog.cellsOf 22 = 1 := by kernel_rfl
section
variable {H : Type} {enc : TypeId × Value → H} {w : World} {base : Nat} {spare : Nat → Bool} {held : Bool}
set_option maxRecDepth 100000 in
/-- An argument that is an integer. -/
theorem open_int_ {r : Reach} {b0 : Nat} {t : TypeId} {v : Value} {d : DataW H} {p : List MemPlace} (hs : Try.prog.underlying t = Try.prog.underlying 24) (hone : Try.prog.cellsOf t = 2)
    (hv : Value.okWide Try.prog w r b0 t v) (h : DataW.Trod enc Try.prog w base spare held t v d p) : ∃ s l, RX w v s l := by
  have hu := hs.trans Try.underlying24
  obtain ⟨cs, rfl, hsz⟩ := okWide_struct hu hv
  obtain ⟨l⟩ := cs
  rw [hone] at hsz
  obtain ⟨fuel, hf⟩ := h
  obtain ⟨xs, n, _, hx, _, hlen, hg⟩ := DataW.trod_struct hu hf
  match l, hsz with
  | [c0, c1], _ =>
    match xs, hlen with
    | [y0, y1], _ =>
      have g0 : DataW.trod enc Try.prog w base spare held n 4 [c0] = some y0 := by simpa [Value.cells, Try.cells4] using hg 0 _ rfl
      have g1 : DataW.trod enc Try.prog w base spare held n 22 [c1] = some y1 := by simpa [Value.cells, Try.cellsU32s] using hg 1 _ rfl
      obtain ⟨s, e0, _⟩ := DataW.trod_bool Try.underlying4 g0
      obtain ⟨A, n1, k1, S, e1, hS, h1, h1', hwf⟩ := open_reads Try.underlying22 Try.underlying69 Try.cellsU32 g1
      simp at e0
      subst e0 e1
      unfold maxLen at h1'
      have hm : mg (S.map Int.toNat) = S.map (.int .u32) := by
        unfold mg
        rw [List.map_map]
        apply List.map_congr_left
        intro z hz
        have := u32_bounds (hwf z hz)
        simp; omega
      refine ⟨s, S.map Int.toNat, A, n1, k1, rfl, ⟨by rw [hm]; exact hS, ?_, h1, by omega⟩⟩
      intro z hz
      obtain ⟨x, hx, rfl⟩ := List.mem_map.1 hz
      have := u32_bounds (hwf x hx)
      omega
end

theorem Try.cellsInt : Try.prog.cellsOf 24 = 2 := by kernel_rfl
theorem Try.cellsGauss : Try.prog.cellsOf 26 = 6 := by kernel_rfl
/-- Three integers of whatever digits, at most these lengths. -/
structure RawG (w : World) (s1 : Bool) (A1 : Option Addr) (n1 c1 : Nat) (l1 : List Nat) (s2 : Bool) (A2 : Option Addr) (n2 c2 : Nat) (l2 : List Nat) (s3 : Bool) (A3 : Option Addr) (n3 c3 : Nat) (l3 : List Nat) : Prop where
  r1 : RX w (iv s1 A1 n1 c1) s1 l1
  r2 : RX w (iv s2 A2 n2 c2) s2 l2
  r3 : RX w (iv s3 A3 n3 c3) s3 l3
theorem RI.low {w : World} {s : Bool} {A : Option Addr} {n c m k : Nat} {z : Int} (h : RI w (iv s A n c) z) (hz : z.natAbs < 2 ^ m) (hm : m ≤ 32 * k) : n ≤ k := RI.le h (lt_up hz hm)
theorem RX.n_eq {w : World} {s : Bool} {A : Option Addr} {n c : Nat} {l : List Nat} (h : RX w (iv s A n c) s l) : l.length = n := by
  obtain ⟨A', n', c', e, h'⟩ := h
  simp [iv] at e
  obtain ⟨_, rfl, _⟩ := e
  exact h'.len
section
variable {w : World} {s1 : Bool} {A1 : Option Addr} {n1 c1 : Nat} {l1 : List Nat} {s2 : Bool} {A2 : Option Addr} {n2 c2 : Nat} {l2 : List Nat} {s3 : Bool} {A3 : Option Addr} {n3 c3 : Nat} {l3 : List Nat} {k : Nat}
theorem RawG.cases (h : RawG w s1 A1 n1 c1 l1 s2 A2 n2 c2 l2 s3 A3 n3 c3 l3) (h1 : n1 ≤ k) (h2 : n2 ≤ k) (h3 : n3 ≤ k) (hk : k ≤ 400) : (∃ q, GV w (gv s1 A1 n1 c1 s2 A2 n2 c2 s3 A3 n3 c3) q (32 * k)) ∨ VB w (gv s1 A1 n1 c1 s2 A2 n2 c2 s3 A3 n3 c3) false :=
  gauss_cases h.r1 h.r2 h.r3 (by rw [h.r1.n_eq]; exact h1) (by rw [h.r2.n_eq]; exact h2) (by rw [h.r3.n_eq]; exact h3) hk
theorem RawG.vb (h : RawG w s1 A1 n1 c1 l1 s2 A2 n2 c2 l2 s3 A3 n3 c3 l3) (h1 : n1 ≤ k) (h2 : n2 ≤ k) (h3 : n3 ≤ k) (hk : k ≤ 400) : ∃ b, VB w (gv s1 A1 n1 c1 s2 A2 n2 c2 s3 A3 n3 c3) b := by
  rcases h.cases h1 h2 h3 hk with ⟨q, hq⟩ | h
  · exact ⟨true, hq.vb (by omega)⟩
  · exact ⟨false, h⟩
theorem PV.of {q p : GQ} {n : Nat} {s4 : Bool} {A4 : Option Addr} {n4 c4 : Nat} {s5 : Bool} {A5 : Option Addr} {n5 c5 : Nat} {s6 : Bool} {A6 : Option Addr} {n6 c6 : Nat} (h : GV w (gv s1 A1 n1 c1 s2 A2 n2 c2 s3 A3 n3 c3) q n) (h' : GV w (gv s4 A4 n4 c4 s5 A5 n5 c5 s6 A6 n6 c6) p n) :
    PV w (pv s1 A1 n1 c1 s2 A2 n2 c2 s3 A3 n3 c3 s4 A4 n4 c4 s5 A5 n5 c5 s6 A6 n6 c6) ⟨q, p⟩ n := by
  obtain ⟨a, b, d, r, i, s⟩ := h
  obtain ⟨a', b', d', r', i', s'⟩ := h'
  obtain ⟨e1, e2, e3⟩ := RG.inj r
  obtain ⟨f1, f2, f3⟩ := RG.inj r'
  exact ⟨a, b, d, a', b', d', RP.mk e1 e2 e3 f1 f2 f3, i, s, i', s'⟩
end
section
variable {H : Type} {enc : TypeId × Value → H} {w : World} {base : Nat} {spare : Nat → Bool} {held : Bool}
set_option maxRecDepth 100000 in
theorem open_int_cells {fuel : Nat} {c0 c1 : Value} {x : DataW H × List MemPlace} (h : DataW.trod enc Try.prog w base spare held fuel 24 [c0, c1] = some x) :
    ∃ s A n c l, c0 = .bool s ∧ c1 = .slice A n c ∧ RX w (iv s A n c) s l := by
  obtain ⟨xs, n, _, hx, _, hlen, hg⟩ := DataW.trod_struct Try.underlying24 h
  match xs, hlen with
  | [y0, y1], _ =>
    have g0 : DataW.trod enc Try.prog w base spare held n 4 [c0] = some y0 := by simpa [Try.cells4] using hg 0 _ rfl
    have g1 : DataW.trod enc Try.prog w base spare held n 22 [c1] = some y1 := by simpa [Try.cells4, Try.cellsU32s] using hg 1 _ rfl
    obtain ⟨s, e0, _⟩ := DataW.trod_bool Try.underlying4 g0
    obtain ⟨A, n1, k1, S, e1, hS, h1, h1', hwf⟩ := open_reads Try.underlying22 Try.underlying69 Try.cellsU32 g1
    simp at e0
    subst e0 e1
    unfold maxLen at h1'
    have hm : mg (S.map Int.toNat) = S.map (.int .u32) := by
      unfold mg
      rw [List.map_map]
      apply List.map_congr_left
      intro z hz
      have := u32_bounds (hwf z hz)
      simp; omega
    refine ⟨s, A, n1, k1, S.map Int.toNat, rfl, rfl, A, n1, k1, rfl, ⟨by rw [hm]; exact hS, ?_, h1, by omega⟩⟩
    intro z hz
    obtain ⟨x, hx, rfl⟩ := List.mem_map.1 hz
    have := u32_bounds (hwf x hx)
    omega
set_option maxRecDepth 100000 in
theorem open_gauss_cells {fuel : Nat} {c0 c1 c2 c3 c4 c5 : Value} {x : DataW H × List MemPlace} (h : DataW.trod enc Try.prog w base spare held fuel 26 [c0, c1, c2, c3, c4, c5] = some x) :
    ∃ s1 A1 n1 k1 l1 s2 A2 n2 k2 l2 s3 A3 n3 k3 l3, Value.agg #[c0, c1, c2, c3, c4, c5] = gv s1 A1 n1 k1 s2 A2 n2 k2 s3 A3 n3 k3 ∧ RawG w s1 A1 n1 k1 l1 s2 A2 n2 k2 l2 s3 A3 n3 k3 l3 := by
  obtain ⟨xs, n, _, hx, _, hlen, hg⟩ := DataW.trod_struct Try.underlying26 h
  match xs, hlen with
  | [y0, y1, y2], _ =>
    have g0 : DataW.trod enc Try.prog w base spare held n 24 [c0, c1] = some y0 := by simpa [Try.cellsInt] using hg 0 _ rfl
    have g1 : DataW.trod enc Try.prog w base spare held n 24 [c2, c3] = some y1 := by simpa [Try.cellsInt] using hg 1 _ rfl
    have g2 : DataW.trod enc Try.prog w base spare held n 24 [c4, c5] = some y2 := by simpa [Try.cellsInt] using hg 2 _ rfl
    obtain ⟨s1, A1, n1, k1, l1, rfl, rfl, r1⟩ := open_int_cells g0
    obtain ⟨s2, A2, n2, k2, l2, rfl, rfl, r2⟩ := open_int_cells g1
    obtain ⟨s3, A3, n3, k3, l3, rfl, rfl, r3⟩ := open_int_cells g2
    exact ⟨s1, A1, n1, k1, l1, s2, A2, n2, k2, l2, s3, A3, n3, k3, l3, rfl, ⟨r1, r2, r3⟩⟩
set_option maxRecDepth 100000 in
/-- An argument that is a complex number. -/
theorem open_gauss_ {r : Reach} {b0 : Nat} {v : Value} {d : DataW H} {p : List MemPlace} (hv : Value.okWide Try.prog w r b0 26 v) (h : DataW.Trod enc Try.prog w base spare held 26 v d p) :
    ∃ s1 A1 n1 k1 l1 s2 A2 n2 k2 l2 s3 A3 n3 k3 l3, v = gv s1 A1 n1 k1 s2 A2 n2 k2 s3 A3 n3 k3 ∧ RawG w s1 A1 n1 k1 l1 s2 A2 n2 k2 l2 s3 A3 n3 k3 l3 := by
  obtain ⟨cs, rfl, hsz⟩ := okWide_struct Try.underlying26 hv
  obtain ⟨l⟩ := cs
  rw [Try.cellsGauss] at hsz
  obtain ⟨fuel, hf⟩ := h
  match l, hsz with
  | [c0, c1, c2, c3, c4, c5], _ => exact open_gauss_cells hf
set_option maxRecDepth 100000 in
/-- An argument that is a phasor. -/
theorem open_phasor_ {r : Reach} {b0 : Nat} {v : Value} {d : DataW H} {p : List MemPlace} (hv : Value.okWide Try.prog w r b0 28 v) (h : DataW.Trod enc Try.prog w base spare held 28 v d p) :
    ∃ s1 A1 n1 k1 l1 s2 A2 n2 k2 l2 s3 A3 n3 k3 l3 s4 A4 n4 k4 l4 s5 A5 n5 k5 l5 s6 A6 n6 k6 l6, v = pv s1 A1 n1 k1 s2 A2 n2 k2 s3 A3 n3 k3 s4 A4 n4 k4 s5 A5 n5 k5 s6 A6 n6 k6 ∧ RawG w s1 A1 n1 k1 l1 s2 A2 n2 k2 l2 s3 A3 n3 k3 l3 ∧ RawG w s4 A4 n4 k4 l4 s5 A5 n5 k5 l5 s6 A6 n6 k6 l6 := by
  obtain ⟨cs, rfl, hsz⟩ := okWide_struct Try.underlying28 hv
  obtain ⟨l⟩ := cs
  rw [show Try.prog.cellsOf 28 = 12 by kernel_rfl] at hsz
  obtain ⟨fuel, hf⟩ := h
  match l, hsz with
  | [c0, c1, c2, c3, c4, c5, d0, d1, d2, d3, d4, d5], _ =>
    obtain ⟨xs, n, _, hx, _, hlen, hg⟩ := DataW.trod_struct Try.underlying28 hf
    match xs, hlen with
    | [y0, y1], _ =>
      have g0 : DataW.trod enc Try.prog w base spare held n 26 [c0, c1, c2, c3, c4, c5] = some y0 := by simpa [Value.cells, Try.cellsGauss] using hg 0 _ rfl
      have g1 : DataW.trod enc Try.prog w base spare held n 26 [d0, d1, d2, d3, d4, d5] = some y1 := by simpa [Value.cells, Try.cellsGauss] using hg 1 _ rfl
      obtain ⟨s1, A1, n1, k1, l1, s2, A2, n2, k2, l2, s3, A3, n3, k3, l3, e1, r1⟩ := open_gauss_cells g0
      obtain ⟨s4, A4, n4, k4, l4, s5, A5, n5, k5, l5, s6, A6, n6, k6, l6, e2, r2⟩ := open_gauss_cells g1
      simp [gv] at e1 e2
      obtain ⟨rfl, rfl, rfl, rfl, rfl, rfl⟩ := e1
      obtain ⟨rfl, rfl, rfl, rfl, rfl, rfl⟩ := e2
      exact ⟨s1, A1, n1, k1, l1, s2, A2, n2, k2, l2, s3, A3, n3, k3, l3, s4, A4, n4, k4, l4, s5, A5, n5, k5, l5, s6, A6, n6, k6, l6, rfl, r1, r2⟩
end

theorem okWide_row {P : Program} {w : World} {r : Reach} {base : Nat} {t e : TypeId} {n : Nat} {v : Value} (ht : P.underlying t = some (.array n e)) (h : Value.okWide P w r base t v) : ∃ cs, v = .agg cs ∧ cs.size = P.cellsOf t := by
  unfold Value.okWide at h
  simp only [ht] at h
  obtain ⟨cs, e, hs, _⟩ := h
  exact ⟨cs, e, hs⟩
/-- An argument that is a row of twelve integers. -/
theorem open_row12 {H : Type} {enc : TypeId × Value → H} {w : World} {base : Nat} {spare : Nat → Bool} {held : Bool} {r : Reach} {b0 : Nat} {v : Value} {d : DataW H} {p : List MemPlace} (hv : Value.okWide Try.prog w r b0 31 v) (h : DataW.Trod enc Try.prog w base spare held 31 v d p) :
    ∃ g : Nat → Int, v = .agg (row12 g) := by
  obtain ⟨cs, rfl, hsz⟩ := okWide_row Try.underlying31 hv
  rw [show Try.prog.cellsOf 31 = 12 by kernel_rfl] at hsz
  obtain ⟨fuel, hf⟩ := h
  obtain ⟨qs, m, _, _, _, hql, hcell⟩ := DataW.trod_array Try.underlying31 hf
  have hz : ∀ k, k < 12 → ∃ z, cs[k]? = some (.int .i64 z) := by
    intro k hk
    have hc := hcell k hk
    rw [show Try.prog.cellsOf 3 = 1 by kernel_rfl, List.getElem?_eq_getElem (by omega)] at hc
    obtain ⟨z, e, _, _⟩ := DataW.trod_int Try.underlying3 hc
    have h1 := congrArg (fun l => l[0]?) e
    simp only [List.getElem?_take, List.getElem?_drop, List.getElem?_cons_zero] at h1
    rw [if_pos (by omega)] at h1
    refine ⟨z, ?_⟩
    rw [← h1, ← Array.getElem?_toList]
    congr 1
    omega
  refine ⟨fun k => match cs[k]? with | some (.int _ z) => z | _ => 0, ?_⟩
  congr 1
  apply Array.ext_getElem?
  intro k
  by_cases hk : k < 12
  · obtain ⟨z, e⟩ := hz k hk
    rw [row12_at hk, e]
  · rw [Array.getElem?_eq_none (by omega), Array.getElem?_eq_none (by rw [row12_size]; omega)]
end Go.Proofs.Ytjeijmnhbckjdaa
