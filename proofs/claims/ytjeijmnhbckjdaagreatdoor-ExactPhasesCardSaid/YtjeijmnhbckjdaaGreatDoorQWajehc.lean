/- Phases: the program. -/
import Derived.Test.YtjeijmnhbckjdaaGreatDoorQAncjbo
import Derived.Test.YtjeijmnhbckjdaaGreatDoorQGcmnbp
import Derived.Test.YtjeijmnhbckjdaaGreatDoorQGhmhlf
import Derived.Deep.WholeRow
import Derived.Laws.Rows
namespace Go.Proofs.YtjeijmnhbckjdaaGreatDoor
open Go.RowKit
set_option linter.unusedVariables false

def pick18 {α : Type} (y1 y2 y3 y4 y5 y6 y7 y8 y9 y10 y11 y12 y13 y14 y15 y16 y17 y18 : α) : Nat → α
  | 1 => y1
  | 2 => y2
  | 3 => y3
  | 4 => y4
  | 5 => y5
  | 6 => y6
  | 7 => y7
  | 8 => y8
  | 9 => y9
  | 10 => y10
  | 11 => y11
  | 12 => y12
  | 13 => y13
  | 14 => y14
  | 15 => y15
  | 16 => y16
  | 17 => y17
  | _ => y18
/-- The value holds three phasors: 18 integers. -/
def RA (w : World) (v : Value) (z1 z2 z3 z4 z5 z6 z7 z8 z9 z10 z11 z12 z13 z14 z15 z16 z17 z18 : Int) : Prop :=
  ∃ (S : Nat → Bool) (A : Nat → Option Addr) (N C : Nat → Nat), v = .agg #[.bool (S 1), .slice (A 1) (N 1) (C 1), .bool (S 2), .slice (A 2) (N 2) (C 2), .bool (S 3), .slice (A 3) (N 3) (C 3), .bool (S 4), .slice (A 4) (N 4) (C 4), .bool (S 5), .slice (A 5) (N 5) (C 5), .bool (S 6), .slice (A 6) (N 6) (C 6), .bool (S 7), .slice (A 7) (N 7) (C 7), .bool (S 8), .slice (A 8) (N 8) (C 8), .bool (S 9), .slice (A 9) (N 9) (C 9), .bool (S 10), .slice (A 10) (N 10) (C 10), .bool (S 11), .slice (A 11) (N 11) (C 11), .bool (S 12), .slice (A 12) (N 12) (C 12), .bool (S 13), .slice (A 13) (N 13) (C 13), .bool (S 14), .slice (A 14) (N 14) (C 14), .bool (S 15), .slice (A 15) (N 15) (C 15), .bool (S 16), .slice (A 16) (N 16) (C 16), .bool (S 17), .slice (A 17) (N 17) (C 17), .bool (S 18), .slice (A 18) (N 18) (C 18)] ∧ RI w (iv (S 1) (A 1) (N 1) (C 1)) z1 ∧ RI w (iv (S 2) (A 2) (N 2) (C 2)) z2 ∧ RI w (iv (S 3) (A 3) (N 3) (C 3)) z3 ∧ RI w (iv (S 4) (A 4) (N 4) (C 4)) z4 ∧ RI w (iv (S 5) (A 5) (N 5) (C 5)) z5 ∧ RI w (iv (S 6) (A 6) (N 6) (C 6)) z6 ∧ RI w (iv (S 7) (A 7) (N 7) (C 7)) z7 ∧ RI w (iv (S 8) (A 8) (N 8) (C 8)) z8 ∧ RI w (iv (S 9) (A 9) (N 9) (C 9)) z9 ∧ RI w (iv (S 10) (A 10) (N 10) (C 10)) z10 ∧ RI w (iv (S 11) (A 11) (N 11) (C 11)) z11 ∧ RI w (iv (S 12) (A 12) (N 12) (C 12)) z12 ∧ RI w (iv (S 13) (A 13) (N 13) (C 13)) z13 ∧ RI w (iv (S 14) (A 14) (N 14) (C 14)) z14 ∧ RI w (iv (S 15) (A 15) (N 15) (C 15)) z15 ∧ RI w (iv (S 16) (A 16) (N 16) (C 16)) z16 ∧ RI w (iv (S 17) (A 17) (N 17) (C 17)) z17 ∧ RI w (iv (S 18) (A 18) (N 18) (C 18)) z18
theorem RA.mk {w : World} {s1 : Bool} {A1 : Option Addr} {n1 c1 : Nat} {s2 : Bool} {A2 : Option Addr} {n2 c2 : Nat} {s3 : Bool} {A3 : Option Addr} {n3 c3 : Nat} {s4 : Bool} {A4 : Option Addr} {n4 c4 : Nat} {s5 : Bool} {A5 : Option Addr} {n5 c5 : Nat} {s6 : Bool} {A6 : Option Addr} {n6 c6 : Nat} {s7 : Bool} {A7 : Option Addr} {n7 c7 : Nat} {s8 : Bool} {A8 : Option Addr} {n8 c8 : Nat} {s9 : Bool} {A9 : Option Addr} {n9 c9 : Nat} {s10 : Bool} {A10 : Option Addr} {n10 c10 : Nat} {s11 : Bool} {A11 : Option Addr} {n11 c11 : Nat} {s12 : Bool} {A12 : Option Addr} {n12 c12 : Nat} {s13 : Bool} {A13 : Option Addr} {n13 c13 : Nat} {s14 : Bool} {A14 : Option Addr} {n14 c14 : Nat} {s15 : Bool} {A15 : Option Addr} {n15 c15 : Nat} {s16 : Bool} {A16 : Option Addr} {n16 c16 : Nat} {s17 : Bool} {A17 : Option Addr} {n17 c17 : Nat} {s18 : Bool} {A18 : Option Addr} {n18 c18 : Nat} {z1 z2 z3 z4 z5 z6 z7 z8 z9 z10 z11 z12 z13 z14 z15 z16 z17 z18 : Int} (h1 : RI w (iv s1 A1 n1 c1) z1) (h2 : RI w (iv s2 A2 n2 c2) z2) (h3 : RI w (iv s3 A3 n3 c3) z3) (h4 : RI w (iv s4 A4 n4 c4) z4) (h5 : RI w (iv s5 A5 n5 c5) z5) (h6 : RI w (iv s6 A6 n6 c6) z6) (h7 : RI w (iv s7 A7 n7 c7) z7) (h8 : RI w (iv s8 A8 n8 c8) z8) (h9 : RI w (iv s9 A9 n9 c9) z9) (h10 : RI w (iv s10 A10 n10 c10) z10) (h11 : RI w (iv s11 A11 n11 c11) z11) (h12 : RI w (iv s12 A12 n12 c12) z12) (h13 : RI w (iv s13 A13 n13 c13) z13) (h14 : RI w (iv s14 A14 n14 c14) z14) (h15 : RI w (iv s15 A15 n15 c15) z15) (h16 : RI w (iv s16 A16 n16 c16) z16) (h17 : RI w (iv s17 A17 n17 c17) z17) (h18 : RI w (iv s18 A18 n18 c18) z18) : RA w (.agg #[.bool s1, .slice A1 n1 c1, .bool s2, .slice A2 n2 c2, .bool s3, .slice A3 n3 c3, .bool s4, .slice A4 n4 c4, .bool s5, .slice A5 n5 c5, .bool s6, .slice A6 n6 c6, .bool s7, .slice A7 n7 c7, .bool s8, .slice A8 n8 c8, .bool s9, .slice A9 n9 c9, .bool s10, .slice A10 n10 c10, .bool s11, .slice A11 n11 c11, .bool s12, .slice A12 n12 c12, .bool s13, .slice A13 n13 c13, .bool s14, .slice A14 n14 c14, .bool s15, .slice A15 n15 c15, .bool s16, .slice A16 n16 c16, .bool s17, .slice A17 n17 c17, .bool s18, .slice A18 n18 c18]) z1 z2 z3 z4 z5 z6 z7 z8 z9 z10 z11 z12 z13 z14 z15 z16 z17 z18 :=
  ⟨pick18 s1 s2 s3 s4 s5 s6 s7 s8 s9 s10 s11 s12 s13 s14 s15 s16 s17 s18, pick18 A1 A2 A3 A4 A5 A6 A7 A8 A9 A10 A11 A12 A13 A14 A15 A16 A17 A18, pick18 n1 n2 n3 n4 n5 n6 n7 n8 n9 n10 n11 n12 n13 n14 n15 n16 n17 n18, pick18 c1 c2 c3 c4 c5 c6 c7 c8 c9 c10 c11 c12 c13 c14 c15 c16 c17 c18, rfl, h1, h2, h3, h4, h5, h6, h7, h8, h9, h10, h11, h12, h13, h14, h15, h16, h17, h18⟩
theorem a3_sz {cs : Array Value} (h : cs.size = 36) : (Tryz.prog.info? 52).map (·.size) = some cs.size := by rw [h]; kernel_rfl
theorem bp_a31 {fn : Func} {R : Ending → World → Prop} {a : Act} {w : World} {t g : Nat} {cs : Array Value} (hr : fn.results = #[.cell t 52]) (hd : a.defers = []) (hp : a.tmps[t]?.getD undef = .pointer (some ⟨g, 0, none⟩)) (hb : Blk w g 52 cs)
    (hR : R (.returned (.agg cs)) w) (hs : cs.size = 36 := by rfl) : bodyPost Tryz.prog fn R .ret a w :=
  bodyPost_ret (results_cell_row hr _ _ g 52 cs (0, 0) _ (by simpa using hp) hb Tryz.underlying52 rfl (a3_sz hs)) hd hR
theorem bp_a32 {fn : Func} {R : Ending → World → Prop} {a : Act} {w : World} {t u g : Nat} {cs : Array Value} (hr : fn.results = #[.cell t 52, .tmp u]) (hd : a.defers = []) (hp : a.tmps[t]?.getD undef = .pointer (some ⟨g, 0, none⟩)) (hb : Blk w g 52 cs)
    (hR : R (.returned (.tuple #[.agg cs, a.tmps.getD u undef])) w) (hs : cs.size = 36 := by rfl) : bodyPost Tryz.prog fn R .ret a w :=
  bodyPost_ret (v := .tuple #[.agg cs, a.tmps.getD u undef]) (by simp [results, hr, hp, asAddr, run_loadVar_row w g 52 52 cs (0, 0) _ hb Tryz.underlying52 rfl (a3_sz hs)]) hd hR
theorem Only.setRow (w : World) (g : Nat) (cs : Array Value) : Only g w (w.setRow g cs) := ⟨rfl, rfl, rfl, by simp, fun i _ hne => setRow_other w g i cs (fun e => hne (by rw [e]))⟩
/-- An own block is written anew as a whole. -/
theorem St.row {w W : World} {bs bs' : List Bk} {fs : List Nm} (h : St w W bs fs) (i : Nat) {g : Nat} {t : TypeId} {cs cs' : Array Value} (e : bs[i]? = some (g, t, cs)) (ho : Own w g) (hn : noIntB cs = true) (eb : bs.set i (g, t, cs') = bs') : St w (W.setRow g cs') bs' fs := by
  have hb := h.blk i e
  refine ⟨(Only.setRow W g cs').ext h.ext ho, fun p hp => ?_, eb ▸ nd_set (p := (g, t, cs)) e h.nd, fun q hq => ?_⟩
  · obtain ⟨j, hj⟩ := List.getElem?_of_mem hp
    rw [← eb] at hj
    have hlen : i < bs.length := (List.getElem?_eq_some_iff.1 e).1
    by_cases hij : i = j
    · subst hij
      rw [List.getElem?_set_self hlen] at hj
      injection hj with hj
      subst hj
      exact setRow_heap W g _ _ _ _ hb
    · rw [List.getElem?_set_ne hij] at hj
      exact (Only.setRow W g cs').blk (h.blks p (List.mem_of_getElem? hj)) (nd_other h.nd (fun h => hij h.symm) hj e)
  · obtain ⟨A', n', c', h1, h2⟩ := h.nums q hq
    exact ⟨A', n', c', h1, h2.only (Only.setRow W g cs') hb (noIntB_spec hn)⟩

/-- The value holds three phasors of at most n bits. -/
def AV (w : World) (v : Value) (p0 p1 p2 : PQ) (n : Nat) : Prop := ∃ z1 z2 z3 z4 z5 z6 z7 z8 z9 z10 z11 z12 z13 z14 z15 z16 z17 z18 : Int, RA w v z1 z2 z3 z4 z5 z6 z7 z8 z9 z10 z11 z12 z13 z14 z15 z16 z17 z18 ∧ Is p0.u z1 z2 z3 ∧ Sz n z1 z2 z3 ∧ Is p0.v z4 z5 z6 ∧ Sz n z4 z5 z6 ∧ Is p1.u z7 z8 z9 ∧ Sz n z7 z8 z9 ∧ Is p1.v z10 z11 z12 ∧ Sz n z10 z11 z12 ∧ Is p2.u z13 z14 z15 ∧ Sz n z13 z14 z15 ∧ Is p2.v z16 z17 z18 ∧ Sz n z16 z17 z18
/-- The phases of three sequence quantities. -/
def ph0 (x y z : GQ) : PQ := ⟨x + (y + z), GQ.i 0 0⟩
def ph1 (x y z : GQ) : PQ := ⟨GQ.blend 2 x (-1) (y + z) 2, GQ.blend 1 z (-1) y 2 * GQ.ip 1⟩
def ph2 (x y z : GQ) : PQ := ⟨GQ.blend 2 x (-1) (y + z) 2, GQ.blend 1 y (-1) z 2 * GQ.ip 1⟩
set_option maxRecDepth 100000 in
set_option maxHeartbeats 25600000 in
theorem xPhases_w (v0 : Value) (q0 : GQ) (n0 : Nat) (v1 : Value) (q1 : GQ) (n1 : Nat) (v2 : Value) (q2 : GQ) (n2 : Nat) (w : World) (hX0 : GV w v0 q0 n0) (hX1 : GV w v1 q1 n1) (hX2 : GV w v2 q2 n2)
     (hn : 4 * (n0 + n1 + n2) + 400 ≤ 12800) :
    Calls Tryz.prog 28 #[v0, v1, v2] w fun e w' => ∃ v, e = .returned v ∧ (∃ u, v = .tuple #[u, .int .i64 0] ∧ AV w' u (⟨GQ.blend 1 q0 1 (GQ.blend 1 q1 1 q2 1) 1, GQ.i 0 0⟩) (⟨GQ.blend 2 q0 (-1) (GQ.blend 1 q1 1 q2 1) 2, GQ.blend 1 q2 (-1) q1 2 * GQ.ip 1⟩) (⟨GQ.blend 2 q0 (-1) (GQ.blend 1 q1 1 q2 1) 2, GQ.blend 1 q1 (-1) q2 2 * GQ.ip 1⟩) (n0 + n1 + n2 + 200)) ∧ Ext w w' := by
  have hS := St.start w
  obtain ⟨x0a, x0b, x0d, hX0, I0, S0⟩ := hX0
  obtain ⟨bh, bi, bj, bk, bl, bm, bn, bo, bp, bq, br, bs, rfl, cx, cy, cz⟩ := hX0
  replace hS := hS.addI cx
  clear cx
  replace hS := hS.addI cy
  clear cy
  replace hS := hS.addI cz
  clear cz
  obtain ⟨x1a, x1b, x1d, hX1, I1, S1⟩ := hX1
  obtain ⟨bt, bu, bv, bw, bx, bz, bA, bB, bC, bD, bE, bF, rfl, cA, cB, cC⟩ := hX1
  replace hS := hS.addI cA
  clear cA
  replace hS := hS.addI cB
  clear cB
  replace hS := hS.addI cC
  clear cC
  obtain ⟨x2a, x2b, x2d, hX2, I2, S2⟩ := hX2
  obtain ⟨bG, bH, bI, bJ, bK, bL, bM, bN, bO, bP, bQ, bR, rfl, cD, cE, cF⟩ := hX2
  replace hS := hS.addI cD
  clear cD
  replace hS := hS.addI cE
  clear cE
  replace hS := hS.addI cF
  clear cF
  have o3 : Own w w.heap.size := Own.of hS.ext (by simp)
  have o4 : Own w (w.heap.size + 1) := Own.of hS.ext (by simp)
  have o5 : Own w (w.heap.size + 2) := Own.of hS.ext (by simp)
  have o6 : Own w (w.heap.size + 3) := Own.of hS.ext (by simp)
  have cI := (St.al (St.al (St.al (St.al hS 26 #[.bool bh, .slice bi bj bk, .bool bl, .slice bm bn bo, .bool bp, .slice bq br bs] (g := w.heap.size) (by simp)) 26 #[.bool bt, .slice bu bv bw, .bool bx, .slice bz bA bB, .bool bC, .slice bD bE bF] (g := (w.heap.size + 1)) (by simp)) 26 #[.bool bG, .slice bH bI bJ, .bool bK, .slice bL bM bN, .bool bO, .slice bP bQ bR] (g := (w.heap.size + 2)) (by simp)) 52 #[.bool false, .slice none 0 0, .bool false, .slice none 0 0, .bool false, .slice none 0 0, .bool false, .slice none 0 0, .bool false, .slice none 0 0, .bool false, .slice none 0 0, .bool false, .slice none 0 0, .bool false, .slice none 0 0, .bool false, .slice none 0 0, .bool false, .slice none 0 0, .bool false, .slice none 0 0, .bool false, .slice none 0 0, .bool false, .slice none 0 0, .bool false, .slice none 0 0, .bool false, .slice none 0 0, .bool false, .slice none 0 0, .bool false, .slice none 0 0, .bool false, .slice none 0 0] (g := (w.heap.size + 3)) (by simp))
  have k_1 := (cI.blk 3 rfl).cell
  have k_2 := (cI.blk 2 rfl).cell
  have k_3 := (cI.blk 1 rfl).cell
  have o14 : Own w (w.heap.size + 4) := Own.of hS.ext (by simp)
  go_enter Tryz.func28, Tryz.ntmps28
  go_wp2_with fail
  clear k_1 k_2 k_3
  clear cI
  replace hS := (St.al (St.al (St.al (St.al (St.al hS 26 #[.bool bh, .slice bi bj bk, .bool bl, .slice bm bn bo, .bool bp, .slice bq br bs] (g := w.heap.size) (by simp)) 26 #[.bool bt, .slice bu bv bw, .bool bx, .slice bz bA bB, .bool bC, .slice bD bE bF] (g := (w.heap.size + 1)) (by simp)) 26 #[.bool bG, .slice bH bI bJ, .bool bK, .slice bL bM bN, .bool bO, .slice bP bQ bR] (g := (w.heap.size + 2)) (by simp)) 52 #[.bool false, .slice none 0 0, .bool false, .slice none 0 0, .bool false, .slice none 0 0, .bool false, .slice none 0 0, .bool false, .slice none 0 0, .bool false, .slice none 0 0, .bool false, .slice none 0 0, .bool false, .slice none 0 0, .bool false, .slice none 0 0, .bool false, .slice none 0 0, .bool false, .slice none 0 0, .bool false, .slice none 0 0, .bool false, .slice none 0 0, .bool false, .slice none 0 0, .bool false, .slice none 0 0, .bool false, .slice none 0 0, .bool false, .slice none 0 0, .bool false, .slice none 0 0] (g := (w.heap.size + 3)) (by simp)) 26 #[.bool bh, .slice bi bj bk, .bool bl, .slice bm bn bo, .bool bp, .slice bq br bs, .bool bt, .slice bu bv bw, .bool bx, .slice bz bA bB, .bool bC, .slice bD bE bF, .bool bG, .slice bH bI bJ, .bool bK, .slice bL bM bN, .bool bO, .slice bP bQ bR] (g := (w.heap.size + 4)) (by simp))
  generalize (((((w.alloc (.cells #[.bool bh, .slice bi bj bk, .bool bl, .slice bm bn bo, .bool bp, .slice bq br bs] 26)).alloc (.cells #[.bool bt, .slice bu bv bw, .bool bx, .slice bz bA bB, .bool bC, .slice bD bE bF] 26)).alloc (.cells #[.bool bG, .slice bH bI bJ, .bool bK, .slice bL bM bN, .bool bO, .slice bP bQ bR] 26)).alloc (.cells #[.bool false, .slice none 0 0, .bool false, .slice none 0 0, .bool false, .slice none 0 0, .bool false, .slice none 0 0, .bool false, .slice none 0 0, .bool false, .slice none 0 0, .bool false, .slice none 0 0, .bool false, .slice none 0 0, .bool false, .slice none 0 0, .bool false, .slice none 0 0, .bool false, .slice none 0 0, .bool false, .slice none 0 0, .bool false, .slice none 0 0, .bool false, .slice none 0 0, .bool false, .slice none 0 0, .bool false, .slice none 0 0, .bool false, .slice none 0 0, .bool false, .slice none 0 0] 52)).alloc (.cells #[.bool bh, .slice bi bj bk, .bool bl, .slice bm bn bo, .bool bp, .slice bq br bs, .bool bt, .slice bu bv bw, .bool bx, .slice bz bA bB, .bool bC, .slice bD bE bF, .bool bG, .slice bH bI bJ, .bool bK, .slice bL bM bN, .bool bO, .slice bP bQ bR] 26)) = w1 at hS ⊢
  generalize w.heap.size + 4 = g14 at hS o14 ⊢
  generalize w.heap.size + 3 = g6 at hS o6 ⊢
  generalize w.heap.size + 2 = g5 at hS o5 ⊢
  generalize w.heap.size + 1 = g4 at hS o4 ⊢
  generalize w.heap.size = g3 at hS o3 ⊢
  refine (xvalid3_ok g14 q0 q1 q2 n0 n1 n2 _ (hS.blk 0 rfl) ⟨_, _, _, RG.mk (hS.num 8 rfl) (hS.num 7 rfl) (hS.num 6 rfl), I0, S0⟩ (by omega) ⟨_, _, _, RG.mk (hS.num 5 rfl) (hS.num 4 rfl) (hS.num 3 rfl), I1, S1⟩ (by omega) ⟨_, _, _, RG.mk (hS.num 2 rfl) (hS.num 1 rfl) (hS.num 0 rfl), I2, S2⟩ (by omega)).mono ?_
  rintro e w2 ⟨rfl, hx_⟩
  replace hS := hS.mv hx_
  clear hx_
  have o8 : Own w w2.heap.size := Own.of hS.ext (by simp)
  have cL := (St.al hS 66 #[.int .i64 0] (g := w2.heap.size) (by simp))
  have k_4 := (cL.blk 4 rfl).cell
  have k_5 := (cL.blk 3 rfl).cell
  go_wp2_with fail
  clear k_4 k_5
  clear cL
  replace hS := (St.al hS 66 #[.int .i64 0] (g := w2.heap.size) (by simp))
  generalize (w2.alloc (.cells #[.int .i64 0] 66)) = w3 at hS ⊢
  generalize w2.heap.size = g8 at hS o8 ⊢
  obtain ⟨cM, cN, cO, cv⟩ := is_ex (GQ.blend (1) q1 (1) q2 (1))
  have cw : Sz (n1 + n2 + 65) cM cN cO := (Bd.blend (m := 1) ⟨_, _, _, I1, S1⟩ ⟨_, _, _, I2, S2⟩ (by omega) (by omega) (by omega) (by omega) (by omega) (by omega) (by omega)).sz cv
  refine (toRG (eblend_q g8 _ _ q1 q2 (1) (1) (1) _ _ _ (hS.blk 0 rfl) ⟨_, _, _, RG.mk (hS.num 5 rfl) (hS.num 4 rfl) (hS.num 3 rfl), I1, S1⟩ ⟨_, _, _, RG.mk (hS.num 2 rfl) (hS.num 1 rfl) (hS.num 0 rfl), I2, S2⟩ (by omega) (by omega) (by omega) (by omega) (by omega) (by omega) (by omega) (by omega)) cv).mono ?_
  rintro e w4 ⟨v_, rfl, hv_, hx_⟩
  replace hS := hS.mv hx_
  clear hx_
  obtain ⟨ck, be, cl, cn, co, bf, cp, cq, cr, bg, cs, ct, rfl, bS, bT, bU⟩ := hv_
  replace hS := hS.addI bS
  clear bS
  replace hS := hS.addI bT
  clear bT
  replace hS := hS.addI bU
  clear bU
  have o9 : Own w w4.heap.size := Own.of hS.ext (by simp)
  have cP := (St.al hS 26 #[.bool false, .slice none 0 0, .bool false, .slice none 0 0, .bool false, .slice none 0 0] (g := w4.heap.size) (by simp))
  have k_6 := (cP.blk 0 rfl).cell
  have k_7 := (cP.blk 0 rfl).frozen
  have dF := (St.al hS 26 #[.bool ck, .slice be cl cn, .bool co, .slice bf cp cq, .bool cr, .slice bg cs ct] (g := w4.heap.size) (by simp))
  have k_8 := (dF.blk 1 rfl).cell
  have bV : Own w (w4.heap.size + 1) := Own.of hS.ext (by simp)
  have cQ := (St.al (St.al hS 26 #[.bool ck, .slice be cl cn, .bool co, .slice bf cp cq, .bool cr, .slice bg cs ct] (g := w4.heap.size) (by simp)) 52 #[.bool false, .slice none 0 0, .bool false, .slice none 0 0, .bool false, .slice none 0 0, .bool false, .slice none 0 0, .bool false, .slice none 0 0, .bool false, .slice none 0 0, .bool false, .slice none 0 0, .bool false, .slice none 0 0, .bool false, .slice none 0 0, .bool false, .slice none 0 0, .bool false, .slice none 0 0, .bool false, .slice none 0 0, .bool false, .slice none 0 0, .bool false, .slice none 0 0, .bool false, .slice none 0 0, .bool false, .slice none 0 0, .bool false, .slice none 0 0, .bool false, .slice none 0 0] (g := (w4.heap.size + 1)) (by simp))
  have k_9 := (cQ.blk 7 rfl).cell
  have cR := (cQ.blk 1 rfl).cell
  go_wp2_with fail
  clear k_6 k_7 k_8 k_9 cR
  clear cP dF cQ
  replace hS := (St.al (St.al hS 26 #[.bool ck, .slice be cl cn, .bool co, .slice bf cp cq, .bool cr, .slice bg cs ct] (g := w4.heap.size) (by simp)) 52 #[.bool false, .slice none 0 0, .bool false, .slice none 0 0, .bool false, .slice none 0 0, .bool false, .slice none 0 0, .bool false, .slice none 0 0, .bool false, .slice none 0 0, .bool false, .slice none 0 0, .bool false, .slice none 0 0, .bool false, .slice none 0 0, .bool false, .slice none 0 0, .bool false, .slice none 0 0, .bool false, .slice none 0 0, .bool false, .slice none 0 0, .bool false, .slice none 0 0, .bool false, .slice none 0 0, .bool false, .slice none 0 0, .bool false, .slice none 0 0, .bool false, .slice none 0 0] (g := (w4.heap.size + 1)) (by simp))
  generalize ((w4.alloc (.cells #[.bool ck, .slice be cl cn, .bool co, .slice bf cp cq, .bool cr, .slice bg cs ct] 26)).alloc (.cells #[.bool false, .slice none 0 0, .bool false, .slice none 0 0, .bool false, .slice none 0 0, .bool false, .slice none 0 0, .bool false, .slice none 0 0, .bool false, .slice none 0 0, .bool false, .slice none 0 0, .bool false, .slice none 0 0, .bool false, .slice none 0 0, .bool false, .slice none 0 0, .bool false, .slice none 0 0, .bool false, .slice none 0 0, .bool false, .slice none 0 0, .bool false, .slice none 0 0, .bool false, .slice none 0 0, .bool false, .slice none 0 0, .bool false, .slice none 0 0, .bool false, .slice none 0 0] 52)) = w5 at hS ⊢
  generalize w4.heap.size + 1 = a0 at hS bV ⊢
  generalize w4.heap.size = g9 at hS o9 ⊢
  obtain ⟨cS, cT, cU, cV⟩ := is_ex (GQ.blend (1) q0 (1) (GQ.blend (1) q1 (1) q2 (1)) (1))
  have S29 : Sz (n0 + (n1 + n2 + 65) + 65) cS cT cU := (Bd.blend (m := 1) ⟨_, _, _, I0, S0⟩ ⟨_, _, _, cv, cw⟩ (by omega) (by omega) (by omega) (by omega) (by omega) (by omega) (by omega)).sz cV
  refine (toRG (eblend_q g8 _ _ q0 (GQ.blend (1) q1 (1) q2 (1)) (1) (1) (1) _ _ _ (hS.blk 2 rfl) ⟨_, _, _, RG.mk (hS.num 11 rfl) (hS.num 10 rfl) (hS.num 9 rfl), I0, S0⟩ ⟨_, _, _, RG.mk (hS.num 2 rfl) (hS.num 1 rfl) (hS.num 0 rfl), cv, cw⟩ (by omega) (by omega) (by omega) (by omega) (by omega) (by omega) (by omega) (by omega)) cV).mono ?_
  rintro e w6 ⟨v_, rfl, hv_, hx_⟩
  replace hS := hS.mv hx_
  clear hx_
  obtain ⟨ad, a1, ae, af, ag, a2, ah, ai, aj, a3, ak, am, rfl, bW, bX, bY⟩ := hv_
  replace hS := hS.addI bW
  clear bW
  replace hS := hS.addI bX
  clear bX
  replace hS := hS.addI bY
  clear bY
  go_wp2_with fail
  refine (xnothing_w _).mono ?_
  rintro e w7 ⟨v_, rfl, hv_, hx_⟩
  replace hS := hS.mv hx_
  clear hx_
  obtain ⟨an, a4, ao, ap, aq, a5, ar, au, av, a6, aw, ax, rfl, bZ, c0, c1⟩ := hv_
  replace hS := hS.addI bZ
  clear bZ
  replace hS := hS.addI c0
  clear c0
  replace hS := hS.addI c1
  clear c1
  have cW := (hS.blk 0 rfl).cell
  have cX := (hS.blk 0 rfl).frozen
  have cY := (St.put (W' := ((((((((((((w7.setCell ⟨a0, 0, none⟩ (.bool ad)).setCell ⟨a0, 1, none⟩ (.slice a1 ae af)).setCell ⟨a0, 2, none⟩ (.bool ag)).setCell ⟨a0, 3, none⟩ (.slice a2 ah ai)).setCell ⟨a0, 4, none⟩ (.bool aj)).setCell ⟨a0, 5, none⟩ (.slice a3 ak am)).setCell ⟨a0, 6, none⟩ (.bool an)).setCell ⟨a0, 7, none⟩ (.slice a4 ao ap)).setCell ⟨a0, 8, none⟩ (.bool aq)).setCell ⟨a0, 9, none⟩ (.slice a5 ar au)).setCell ⟨a0, 10, none⟩ (.bool av)).setCell ⟨a0, 11, none⟩ (.slice a6 aw ax))) hS 0 0 [.bool ad, .slice a1 ae af, .bool ag, .slice a2 ah ai, .bool aj, .slice a3 ak am, .bool an, .slice a4 ao ap, .bool aq, .slice a5 ar au, .bool av, .slice a6 aw ax] (cs' := #[.bool ad, .slice a1 ae af, .bool ag, .slice a2 ah ai, .bool aj, .slice a3 ak am, .bool an, .slice a4 ao ap, .bool aq, .slice a5 ar au, .bool av, .slice a6 aw ax, .bool false, .slice none 0 0, .bool false, .slice none 0 0, .bool false, .slice none 0 0, .bool false, .slice none 0 0, .bool false, .slice none 0 0, .bool false, .slice none 0 0, .bool false, .slice none 0 0, .bool false, .slice none 0 0, .bool false, .slice none 0 0, .bool false, .slice none 0 0, .bool false, .slice none 0 0, .bool false, .slice none 0 0]) (bs' := _) rfl bV rfl rfl (by kernel_rfl) rfl)
  have cZ := (cY.blk 7 rfl).cell
  have d0 := (cY.blk 1 rfl).cell
  go_wp2_with fail
  clear cW cX cZ d0
  clear cY
  replace hS := (St.put (W' := ((((((((((((w7.setCell ⟨a0, 0, none⟩ (.bool ad)).setCell ⟨a0, 1, none⟩ (.slice a1 ae af)).setCell ⟨a0, 2, none⟩ (.bool ag)).setCell ⟨a0, 3, none⟩ (.slice a2 ah ai)).setCell ⟨a0, 4, none⟩ (.bool aj)).setCell ⟨a0, 5, none⟩ (.slice a3 ak am)).setCell ⟨a0, 6, none⟩ (.bool an)).setCell ⟨a0, 7, none⟩ (.slice a4 ao ap)).setCell ⟨a0, 8, none⟩ (.bool aq)).setCell ⟨a0, 9, none⟩ (.slice a5 ar au)).setCell ⟨a0, 10, none⟩ (.bool av)).setCell ⟨a0, 11, none⟩ (.slice a6 aw ax))) hS 0 0 [.bool ad, .slice a1 ae af, .bool ag, .slice a2 ah ai, .bool aj, .slice a3 ak am, .bool an, .slice a4 ao ap, .bool aq, .slice a5 ar au, .bool av, .slice a6 aw ax] (cs' := #[.bool ad, .slice a1 ae af, .bool ag, .slice a2 ah ai, .bool aj, .slice a3 ak am, .bool an, .slice a4 ao ap, .bool aq, .slice a5 ar au, .bool av, .slice a6 aw ax, .bool false, .slice none 0 0, .bool false, .slice none 0 0, .bool false, .slice none 0 0, .bool false, .slice none 0 0, .bool false, .slice none 0 0, .bool false, .slice none 0 0, .bool false, .slice none 0 0, .bool false, .slice none 0 0, .bool false, .slice none 0 0, .bool false, .slice none 0 0, .bool false, .slice none 0 0, .bool false, .slice none 0 0]) (bs' := _) rfl bV rfl rfl (by kernel_rfl) rfl)
  simp only [List.set_cons_zero] at hS
  generalize ((((((((((((w7.setCell ⟨a0, 0, none⟩ (.bool ad)).setCell ⟨a0, 1, none⟩ (.slice a1 ae af)).setCell ⟨a0, 2, none⟩ (.bool ag)).setCell ⟨a0, 3, none⟩ (.slice a2 ah ai)).setCell ⟨a0, 4, none⟩ (.bool aj)).setCell ⟨a0, 5, none⟩ (.slice a3 ak am)).setCell ⟨a0, 6, none⟩ (.bool an)).setCell ⟨a0, 7, none⟩ (.slice a4 ao ap)).setCell ⟨a0, 8, none⟩ (.bool aq)).setCell ⟨a0, 9, none⟩ (.slice a5 ar au)).setCell ⟨a0, 10, none⟩ (.bool av)).setCell ⟨a0, 11, none⟩ (.slice a6 aw ax)) = w8 at hS ⊢
  obtain ⟨d1, d2, d3, d4⟩ := is_ex (GQ.blend (2) q0 (-1) (GQ.blend (1) q1 (1) q2 (1)) (2))
  have S35 : Sz (n0 + (n1 + n2 + 65) + 65) d1 d2 d3 := (Bd.blend (m := 2) ⟨_, _, _, I0, S0⟩ ⟨_, _, _, cv, cw⟩ (by omega) (by omega) (by omega) (by omega) (by omega) (by omega) (by omega)).sz d4
  refine (toRG (eblend_q g8 _ _ q0 (GQ.blend (1) q1 (1) q2 (1)) (2) (-1) (2) _ _ _ (hS.blk 2 rfl) ⟨_, _, _, RG.mk (hS.num 17 rfl) (hS.num 16 rfl) (hS.num 15 rfl), I0, S0⟩ ⟨_, _, _, RG.mk (hS.num 8 rfl) (hS.num 7 rfl) (hS.num 6 rfl), cv, cw⟩ (by omega) (by omega) (by omega) (by omega) (by omega) (by omega) (by omega) (by omega)) d4).mono ?_
  rintro e w9 ⟨v_, rfl, hv_, hx_⟩
  replace hS := hS.mv hx_
  clear hx_
  obtain ⟨aB, a7, aC, aD, aE, a8, aF, aG, aH, a9, aI, aJ, rfl, c2, c3, c4⟩ := hv_
  replace hS := hS.addI c2
  clear c2
  replace hS := hS.addI c3
  clear c3
  replace hS := hS.addI c4
  clear c4
  have d5 := (hS.blk 0 rfl).cell
  have d6 := (hS.blk 0 rfl).frozen
  have d7 := (St.put (W' := ((((((w9.setCell ⟨a0, 12, none⟩ (.bool aB)).setCell ⟨a0, 13, none⟩ (.slice a7 aC aD)).setCell ⟨a0, 14, none⟩ (.bool aE)).setCell ⟨a0, 15, none⟩ (.slice a8 aF aG)).setCell ⟨a0, 16, none⟩ (.bool aH)).setCell ⟨a0, 17, none⟩ (.slice a9 aI aJ))) hS 0 12 [.bool aB, .slice a7 aC aD, .bool aE, .slice a8 aF aG, .bool aH, .slice a9 aI aJ] (cs' := #[.bool ad, .slice a1 ae af, .bool ag, .slice a2 ah ai, .bool aj, .slice a3 ak am, .bool an, .slice a4 ao ap, .bool aq, .slice a5 ar au, .bool av, .slice a6 aw ax, .bool aB, .slice a7 aC aD, .bool aE, .slice a8 aF aG, .bool aH, .slice a9 aI aJ, .bool false, .slice none 0 0, .bool false, .slice none 0 0, .bool false, .slice none 0 0, .bool false, .slice none 0 0, .bool false, .slice none 0 0, .bool false, .slice none 0 0, .bool false, .slice none 0 0, .bool false, .slice none 0 0, .bool false, .slice none 0 0]) (bs' := _) rfl bV rfl rfl (by kernel_rfl) rfl)
  have d8 := (d7.blk 5 rfl).cell
  have d9 := (d7.blk 6 rfl).cell
  go_wp2_with fail
  clear d5 d6 d8 d9
  clear d7
  replace hS := (St.put (W' := ((((((w9.setCell ⟨a0, 12, none⟩ (.bool aB)).setCell ⟨a0, 13, none⟩ (.slice a7 aC aD)).setCell ⟨a0, 14, none⟩ (.bool aE)).setCell ⟨a0, 15, none⟩ (.slice a8 aF aG)).setCell ⟨a0, 16, none⟩ (.bool aH)).setCell ⟨a0, 17, none⟩ (.slice a9 aI aJ))) hS 0 12 [.bool aB, .slice a7 aC aD, .bool aE, .slice a8 aF aG, .bool aH, .slice a9 aI aJ] (cs' := #[.bool ad, .slice a1 ae af, .bool ag, .slice a2 ah ai, .bool aj, .slice a3 ak am, .bool an, .slice a4 ao ap, .bool aq, .slice a5 ar au, .bool av, .slice a6 aw ax, .bool aB, .slice a7 aC aD, .bool aE, .slice a8 aF aG, .bool aH, .slice a9 aI aJ, .bool false, .slice none 0 0, .bool false, .slice none 0 0, .bool false, .slice none 0 0, .bool false, .slice none 0 0, .bool false, .slice none 0 0, .bool false, .slice none 0 0, .bool false, .slice none 0 0, .bool false, .slice none 0 0, .bool false, .slice none 0 0]) (bs' := _) rfl bV rfl rfl (by kernel_rfl) rfl)
  simp only [List.set_cons_zero] at hS
  generalize ((((((w9.setCell ⟨a0, 12, none⟩ (.bool aB)).setCell ⟨a0, 13, none⟩ (.slice a7 aC aD)).setCell ⟨a0, 14, none⟩ (.bool aE)).setCell ⟨a0, 15, none⟩ (.slice a8 aF aG)).setCell ⟨a0, 16, none⟩ (.bool aH)).setCell ⟨a0, 17, none⟩ (.slice a9 aI aJ)) = w10 at hS ⊢
  obtain ⟨da, db, dc, cJ⟩ := is_ex (GQ.blend (1) q2 (-1) q1 (2))
  have dG : Sz (n2 + n1 + 65) da db dc := (Bd.blend (m := 2) ⟨_, _, _, I2, S2⟩ ⟨_, _, _, I1, S1⟩ (by omega) (by omega) (by omega) (by omega) (by omega) (by omega) (by omega)).sz cJ
  refine (toRG (eblend_q g8 _ _ q2 q1 (1) (-1) (2) _ _ _ (hS.blk 2 rfl) ⟨_, _, _, RG.mk (hS.num 14 rfl) (hS.num 13 rfl) (hS.num 12 rfl), I2, S2⟩ ⟨_, _, _, RG.mk (hS.num 17 rfl) (hS.num 16 rfl) (hS.num 15 rfl), I1, S1⟩ (by omega) (by omega) (by omega) (by omega) (by omega) (by omega) (by omega) (by omega)) cJ).mono ?_
  rintro e w11 ⟨v_, rfl, hv_, hx_⟩
  replace hS := hS.mv hx_
  clear hx_
  obtain ⟨s40a, dH, n40a, c40a, s40b, dI, n40b, c40b, s40d, dJ, n40d, c40d, rfl, c5, c6, c7⟩ := hv_
  replace hS := hS.addI c5
  clear c5
  replace hS := hS.addI c6
  clear c6
  replace hS := hS.addI c7
  clear c7
  go_wp2_with fail
  obtain ⟨dd, de, df, dg⟩ := is_ex ((GQ.blend (1) q2 (-1) q1 (2)) * GQ.ip 1)
  have S41 : Sz (n2 + n1 + 65) dd de df := (Bd.rot ⟨_, _, _, cJ, dG⟩ 1).sz dg
  refine (toRG (erotate_at g8 _ (GQ.blend (1) q2 (-1) q1 (2)) (n2 + n1 + 65) 1 (1) _ rfl (hS.blk 2 rfl) ⟨_, _, _, RG.mk (hS.num 2 rfl) (hS.num 1 rfl) (hS.num 0 rfl), cJ, dG⟩ (by omega) (by omega)) dg).mono ?_
  rintro e dh ⟨v_, rfl, hv_, hx_⟩
  replace hS := hS.mv hx_
  clear hx_
  obtain ⟨aK, aa, aL, aM, aN, ab, aO, aP, aQ, ac, aR, aS, rfl, c8, c9, ca⟩ := hv_
  replace hS := hS.addI c8
  clear c8
  replace hS := hS.addI c9
  clear c9
  replace hS := hS.addI ca
  clear ca
  have di := (hS.blk 0 rfl).cell
  have dj := (hS.blk 0 rfl).frozen
  have dk := (St.put (W' := ((((((dh.setCell ⟨a0, 18, none⟩ (.bool aK)).setCell ⟨a0, 19, none⟩ (.slice aa aL aM)).setCell ⟨a0, 20, none⟩ (.bool aN)).setCell ⟨a0, 21, none⟩ (.slice ab aO aP)).setCell ⟨a0, 22, none⟩ (.bool aQ)).setCell ⟨a0, 23, none⟩ (.slice ac aR aS))) hS 0 18 [.bool aK, .slice aa aL aM, .bool aN, .slice ab aO aP, .bool aQ, .slice ac aR aS] (cs' := #[.bool ad, .slice a1 ae af, .bool ag, .slice a2 ah ai, .bool aj, .slice a3 ak am, .bool an, .slice a4 ao ap, .bool aq, .slice a5 ar au, .bool av, .slice a6 aw ax, .bool aB, .slice a7 aC aD, .bool aE, .slice a8 aF aG, .bool aH, .slice a9 aI aJ, .bool aK, .slice aa aL aM, .bool aN, .slice ab aO aP, .bool aQ, .slice ac aR aS, .bool false, .slice none 0 0, .bool false, .slice none 0 0, .bool false, .slice none 0 0, .bool false, .slice none 0 0, .bool false, .slice none 0 0, .bool false, .slice none 0 0]) (bs' := _) rfl bV rfl rfl (by kernel_rfl) rfl)
  have dl := (dk.blk 7 rfl).cell
  have dm := (dk.blk 1 rfl).cell
  go_wp2_with fail
  clear di dj dl dm
  clear dk
  replace hS := (St.put (W' := ((((((dh.setCell ⟨a0, 18, none⟩ (.bool aK)).setCell ⟨a0, 19, none⟩ (.slice aa aL aM)).setCell ⟨a0, 20, none⟩ (.bool aN)).setCell ⟨a0, 21, none⟩ (.slice ab aO aP)).setCell ⟨a0, 22, none⟩ (.bool aQ)).setCell ⟨a0, 23, none⟩ (.slice ac aR aS))) hS 0 18 [.bool aK, .slice aa aL aM, .bool aN, .slice ab aO aP, .bool aQ, .slice ac aR aS] (cs' := #[.bool ad, .slice a1 ae af, .bool ag, .slice a2 ah ai, .bool aj, .slice a3 ak am, .bool an, .slice a4 ao ap, .bool aq, .slice a5 ar au, .bool av, .slice a6 aw ax, .bool aB, .slice a7 aC aD, .bool aE, .slice a8 aF aG, .bool aH, .slice a9 aI aJ, .bool aK, .slice aa aL aM, .bool aN, .slice ab aO aP, .bool aQ, .slice ac aR aS, .bool false, .slice none 0 0, .bool false, .slice none 0 0, .bool false, .slice none 0 0, .bool false, .slice none 0 0, .bool false, .slice none 0 0, .bool false, .slice none 0 0]) (bs' := _) rfl bV rfl rfl (by kernel_rfl) rfl)
  simp only [List.set_cons_zero] at hS
  generalize ((((((dh.setCell ⟨a0, 18, none⟩ (.bool aK)).setCell ⟨a0, 19, none⟩ (.slice aa aL aM)).setCell ⟨a0, 20, none⟩ (.bool aN)).setCell ⟨a0, 21, none⟩ (.slice ab aO aP)).setCell ⟨a0, 22, none⟩ (.bool aQ)).setCell ⟨a0, 23, none⟩ (.slice ac aR aS)) = w13 at hS ⊢
  obtain ⟨dn, dp, dq, dr⟩ := is_ex (GQ.blend (2) q0 (-1) (GQ.blend (1) q1 (1) q2 (1)) (2))
  have S46 : Sz (n0 + (n1 + n2 + 65) + 65) dn dp dq := (Bd.blend (m := 2) ⟨_, _, _, I0, S0⟩ ⟨_, _, _, cv, cw⟩ (by omega) (by omega) (by omega) (by omega) (by omega) (by omega) (by omega)).sz dr
  refine (toRG (eblend_q g8 _ _ q0 (GQ.blend (1) q1 (1) q2 (1)) (2) (-1) (2) _ _ _ (hS.blk 2 rfl) ⟨_, _, _, RG.mk (hS.num 26 rfl) (hS.num 25 rfl) (hS.num 24 rfl), I0, S0⟩ ⟨_, _, _, RG.mk (hS.num 17 rfl) (hS.num 16 rfl) (hS.num 15 rfl), cv, cw⟩ (by omega) (by omega) (by omega) (by omega) (by omega) (by omega) (by omega) (by omega)) dr).mono ?_
  rintro e ds ⟨v_, rfl, hv_, hx_⟩
  replace hS := hS.mv hx_
  clear hx_
  obtain ⟨aW, ay, aX, aY, aZ, az, b0, b1, b2, aA, b3, b4, rfl, cb, cc, cd⟩ := hv_
  replace hS := hS.addI cb
  clear cb
  replace hS := hS.addI cc
  clear cc
  replace hS := hS.addI cd
  clear cd
  have dt := (hS.blk 0 rfl).cell
  have du := (hS.blk 0 rfl).frozen
  have dv := (St.put (W' := ((((((ds.setCell ⟨a0, 24, none⟩ (.bool aW)).setCell ⟨a0, 25, none⟩ (.slice ay aX aY)).setCell ⟨a0, 26, none⟩ (.bool aZ)).setCell ⟨a0, 27, none⟩ (.slice az b0 b1)).setCell ⟨a0, 28, none⟩ (.bool b2)).setCell ⟨a0, 29, none⟩ (.slice aA b3 b4))) hS 0 24 [.bool aW, .slice ay aX aY, .bool aZ, .slice az b0 b1, .bool b2, .slice aA b3 b4] (cs' := #[.bool ad, .slice a1 ae af, .bool ag, .slice a2 ah ai, .bool aj, .slice a3 ak am, .bool an, .slice a4 ao ap, .bool aq, .slice a5 ar au, .bool av, .slice a6 aw ax, .bool aB, .slice a7 aC aD, .bool aE, .slice a8 aF aG, .bool aH, .slice a9 aI aJ, .bool aK, .slice aa aL aM, .bool aN, .slice ab aO aP, .bool aQ, .slice ac aR aS, .bool aW, .slice ay aX aY, .bool aZ, .slice az b0 b1, .bool b2, .slice aA b3 b4, .bool false, .slice none 0 0, .bool false, .slice none 0 0, .bool false, .slice none 0 0]) (bs' := _) rfl bV rfl rfl (by kernel_rfl) rfl)
  have dw := (dv.blk 6 rfl).cell
  have dx := (dv.blk 5 rfl).cell
  go_wp2_with fail
  clear dt du dw dx
  clear dv
  replace hS := (St.put (W' := ((((((ds.setCell ⟨a0, 24, none⟩ (.bool aW)).setCell ⟨a0, 25, none⟩ (.slice ay aX aY)).setCell ⟨a0, 26, none⟩ (.bool aZ)).setCell ⟨a0, 27, none⟩ (.slice az b0 b1)).setCell ⟨a0, 28, none⟩ (.bool b2)).setCell ⟨a0, 29, none⟩ (.slice aA b3 b4))) hS 0 24 [.bool aW, .slice ay aX aY, .bool aZ, .slice az b0 b1, .bool b2, .slice aA b3 b4] (cs' := #[.bool ad, .slice a1 ae af, .bool ag, .slice a2 ah ai, .bool aj, .slice a3 ak am, .bool an, .slice a4 ao ap, .bool aq, .slice a5 ar au, .bool av, .slice a6 aw ax, .bool aB, .slice a7 aC aD, .bool aE, .slice a8 aF aG, .bool aH, .slice a9 aI aJ, .bool aK, .slice aa aL aM, .bool aN, .slice ab aO aP, .bool aQ, .slice ac aR aS, .bool aW, .slice ay aX aY, .bool aZ, .slice az b0 b1, .bool b2, .slice aA b3 b4, .bool false, .slice none 0 0, .bool false, .slice none 0 0, .bool false, .slice none 0 0]) (bs' := _) rfl bV rfl rfl (by kernel_rfl) rfl)
  simp only [List.set_cons_zero] at hS
  generalize ((((((ds.setCell ⟨a0, 24, none⟩ (.bool aW)).setCell ⟨a0, 25, none⟩ (.slice ay aX aY)).setCell ⟨a0, 26, none⟩ (.bool aZ)).setCell ⟨a0, 27, none⟩ (.slice az b0 b1)).setCell ⟨a0, 28, none⟩ (.bool b2)).setCell ⟨a0, 29, none⟩ (.slice aA b3 b4)) = w15 at hS ⊢
  obtain ⟨dy, dz, dA, cK⟩ := is_ex (GQ.blend (1) q1 (-1) q2 (2))
  have dK : Sz (n1 + n2 + 65) dy dz dA := (Bd.blend (m := 2) ⟨_, _, _, I1, S1⟩ ⟨_, _, _, I2, S2⟩ (by omega) (by omega) (by omega) (by omega) (by omega) (by omega) (by omega)).sz cK
  refine (toRG (eblend_q g8 _ _ q1 q2 (1) (-1) (2) _ _ _ (hS.blk 2 rfl) ⟨_, _, _, RG.mk (hS.num 26 rfl) (hS.num 25 rfl) (hS.num 24 rfl), I1, S1⟩ ⟨_, _, _, RG.mk (hS.num 23 rfl) (hS.num 22 rfl) (hS.num 21 rfl), I2, S2⟩ (by omega) (by omega) (by omega) (by omega) (by omega) (by omega) (by omega) (by omega)) cK).mono ?_
  rintro e w16 ⟨v_, rfl, hv_, hx_⟩
  replace hS := hS.mv hx_
  clear hx_
  obtain ⟨s51a, dL, n51a, c51a, s51b, dM, n51b, c51b, s51d, dN, n51d, c51d, rfl, ce, cf, cg⟩ := hv_
  replace hS := hS.addI ce
  clear ce
  replace hS := hS.addI cf
  clear cf
  replace hS := hS.addI cg
  clear cg
  go_wp2_with fail
  obtain ⟨dB, dC, dD, dE⟩ := is_ex ((GQ.blend (1) q1 (-1) q2 (2)) * GQ.ip 1)
  have S52 : Sz (n1 + n2 + 65) dB dC dD := (Bd.rot ⟨_, _, _, cK, dK⟩ 1).sz dE
  refine (toRG (erotate_at g8 _ (GQ.blend (1) q1 (-1) q2 (2)) (n1 + n2 + 65) 1 (1) _ rfl (hS.blk 2 rfl) ⟨_, _, _, RG.mk (hS.num 2 rfl) (hS.num 1 rfl) (hS.num 0 rfl), cK, dK⟩ (by omega) (by omega)) dE).mono ?_
  rintro e dO ⟨v_, rfl, hv_, hx_⟩
  replace hS := hS.mv hx_
  clear hx_
  obtain ⟨b5, aT, b6, b7, b8, aU, b9, ba, bb, aV, bc, bd, rfl, ch, ci, cj⟩ := hv_
  replace hS := hS.addI ch
  clear ch
  replace hS := hS.addI ci
  clear ci
  replace hS := hS.addI cj
  clear cj
  have k_27 := (hS.blk 0 rfl).cell
  have k_28 := (hS.blk 0 rfl).frozen
  have cu := (St.put (W' := ((((((dO.setCell ⟨a0, 30, none⟩ (.bool b5)).setCell ⟨a0, 31, none⟩ (.slice aT b6 b7)).setCell ⟨a0, 32, none⟩ (.bool b8)).setCell ⟨a0, 33, none⟩ (.slice aU b9 ba)).setCell ⟨a0, 34, none⟩ (.bool bb)).setCell ⟨a0, 35, none⟩ (.slice aV bc bd))) hS 0 30 [.bool b5, .slice aT b6 b7, .bool b8, .slice aU b9 ba, .bool bb, .slice aV bc bd] (cs' := #[.bool ad, .slice a1 ae af, .bool ag, .slice a2 ah ai, .bool aj, .slice a3 ak am, .bool an, .slice a4 ao ap, .bool aq, .slice a5 ar au, .bool av, .slice a6 aw ax, .bool aB, .slice a7 aC aD, .bool aE, .slice a8 aF aG, .bool aH, .slice a9 aI aJ, .bool aK, .slice aa aL aM, .bool aN, .slice ab aO aP, .bool aQ, .slice ac aR aS, .bool aW, .slice ay aX aY, .bool aZ, .slice az b0 b1, .bool b2, .slice aA b3 b4, .bool b5, .slice aT b6 b7, .bool b8, .slice aU b9 ba, .bool bb, .slice aV bc bd]) (bs' := _) rfl bV rfl rfl (by kernel_rfl) rfl)
  have k_29 := (cu.blk 2 rfl).cell
  have cG := (cu.blk 0 rfl)
  have cH := (cu.blk 4 rfl)
  have HT := Lib.hid (And.intro cG cH); clear cG cH cu
  iterate 33 (try (first | go_values | go_skip | go_guarded | go_step | go_upon | go_in | go_back | go_simp))
  go_wp2_with (first | (refine wpList_load_row rfl 52 _ rfl a0 (by rfl) 52 _ (0, 0) _ HT.out.1 Tryz.underlying52 rfl (a3_sz rfl) ?_) | (refine wpList_store_row rfl 52 _ _ rfl g6 _ (by rfl) (by rfl) 52 _ HT.out.2 (a3_sz rfl) (by rfl) (by kernel_rfl) ?_))
  replace hS := (St.row (St.put (W' := ((((((dO.setCell ⟨a0, 30, none⟩ (.bool b5)).setCell ⟨a0, 31, none⟩ (.slice aT b6 b7)).setCell ⟨a0, 32, none⟩ (.bool b8)).setCell ⟨a0, 33, none⟩ (.slice aU b9 ba)).setCell ⟨a0, 34, none⟩ (.bool bb)).setCell ⟨a0, 35, none⟩ (.slice aV bc bd))) hS 0 30 [.bool b5, .slice aT b6 b7, .bool b8, .slice aU b9 ba, .bool bb, .slice aV bc bd] (cs' := #[.bool ad, .slice a1 ae af, .bool ag, .slice a2 ah ai, .bool aj, .slice a3 ak am, .bool an, .slice a4 ao ap, .bool aq, .slice a5 ar au, .bool av, .slice a6 aw ax, .bool aB, .slice a7 aC aD, .bool aE, .slice a8 aF aG, .bool aH, .slice a9 aI aJ, .bool aK, .slice aa aL aM, .bool aN, .slice ab aO aP, .bool aQ, .slice ac aR aS, .bool aW, .slice ay aX aY, .bool aZ, .slice az b0 b1, .bool b2, .slice aA b3 b4, .bool b5, .slice aT b6 b7, .bool b8, .slice aU b9 ba, .bool bb, .slice aV bc bd]) (bs' := _) rfl bV rfl rfl (by kernel_rfl) rfl) 4 (cs' := #[.bool ad, .slice a1 ae af, .bool ag, .slice a2 ah ai, .bool aj, .slice a3 ak am, .bool an, .slice a4 ao ap, .bool aq, .slice a5 ar au, .bool av, .slice a6 aw ax, .bool aB, .slice a7 aC aD, .bool aE, .slice a8 aF aG, .bool aH, .slice a9 aI aJ, .bool aK, .slice aa aL aM, .bool aN, .slice ab aO aP, .bool aQ, .slice ac aR aS, .bool aW, .slice ay aX aY, .bool aZ, .slice az b0 b1, .bool b2, .slice aA b3 b4, .bool b5, .slice aT b6 b7, .bool b8, .slice aU b9 ba, .bool bb, .slice aV bc bd]) (bs' := _) rfl o6 (by kernel_rfl) rfl)
  exact bp_a32 rfl rfl rfl (hS.blk 4 rfl) ⟨_, rfl, ⟨_, rfl, _, _, _, _, _, _, _, _, _, _, _, _, _, _, _, _, _, _, RA.mk (hS.num 23 rfl) (hS.num 22 rfl) (hS.num 21 rfl) (hS.num 20 rfl) (hS.num 19 rfl) (hS.num 18 rfl) (hS.num 17 rfl) (hS.num 16 rfl) (hS.num 15 rfl) (hS.num 11 rfl) (hS.num 10 rfl) (hS.num 9 rfl) (hS.num 8 rfl) (hS.num 7 rfl) (hS.num 6 rfl) (hS.num 2 rfl) (hS.num 1 rfl) (hS.num 0 rfl), cV, Sz.mono S29 (by omega), (is_i 0 0), Sz.mono (sz_0 (n := 1) (by omega)) (by omega), d4, Sz.mono S35 (by omega), dg, Sz.mono S41 (by omega), dr, Sz.mono S46 (by omega), dE, Sz.mono S52 (by omega)⟩, hS.ext⟩

theorem xPhases_ok (v0 : Value) (q0 : GQ) (n0 : Nat) (v1 : Value) (q1 : GQ) (n1 : Nat) (v2 : Value) (q2 : GQ) (n2 : Nat) (w : World) (hX0 : GV w v0 q0 n0) (hX1 : GV w v1 q1 n1) (hX2 : GV w v2 q2 n2) (hn : 4 * (n0 + n1 + n2) + 400 ≤ 12800) :
    Calls Tryz.prog 28 #[v0, v1, v2] w fun e w' => ∃ v, e = .returned v ∧ (∃ u, v = .tuple #[u, .int .i64 0] ∧ AV w' u (ph0 q0 q1 q2) (ph1 q0 q1 q2) (ph2 q0 q1 q2) (n0 + n1 + n2 + 200)) ∧ Ext w w' := by
  have := xPhases_w v0 q0 n0 v1 q1 n1 v2 q2 n2 w hX0 hX1 hX2 hn
  rw [add_blend, add_blend] at this
  exact this

set_option maxRecDepth 100000 in
set_option maxHeartbeats 1600000 in
theorem xPhases_bad (a0 : Bool) (a1 : Option Addr) (a2 a3 : Nat) (a4 : Bool) (a5 : Option Addr) (a6 a7 : Nat) (a8 : Bool) (a9 : Option Addr) (aa ab : Nat) (b0 : Bool) (ac : Bool) (ad : Option Addr) (ae af : Nat) (ag : Bool) (ah : Option Addr) (ai aj : Nat) (ak : Bool) (am : Option Addr) (an ao : Nat) (b1 : Bool) (ap : Bool) (aq : Option Addr) (ar au : Nat) (av : Bool) (aw : Option Addr) (ax ay : Nat) (az : Bool) (aA : Option Addr) (aB aC : Nat) (b2 : Bool) (w : World) (hV0 : VB w (gv a0 a1 a2 a3 a4 a5 a6 a7 a8 a9 aa ab) b0) (hV1 : VB w (gv ac ad ae af ag ah ai aj ak am an ao) b1) (hV2 : VB w (gv ap aq ar au av aw ax ay az aA aB aC) b2) (Hb : Hid ([b0, b1, b2].all id = false))
      :
    Calls Tryz.prog 28 #[gv a0 a1 a2 a3 a4 a5 a6 a7 a8 a9 aa ab, gv ac ad ae af ag ah ai aj ak am an ao, gv ap aq ar au av aw ax ay az aA aB aC] w fun e w' => ∃ v, e = .returned v ∧ (∃ u, v = .tuple #[u, .int .i64 1] ∧ RA w' u 0 0 0 0 0 0 0 0 0 0 0 0 0 0 0 0 0 0) ∧ Ext w w' := by
  have hS := St.start w
  have o3 : Own w w.heap.size := Own.of hS.ext (by simp)
  have o4 : Own w (w.heap.size + 1) := Own.of hS.ext (by simp)
  have o5 : Own w (w.heap.size + 2) := Own.of hS.ext (by simp)
  have o6 : Own w (w.heap.size + 3) := Own.of hS.ext (by simp)
  have aD := (St.al (St.al (St.al (St.al hS 26 #[.bool a0, .slice a1 a2 a3, .bool a4, .slice a5 a6 a7, .bool a8, .slice a9 aa ab] (g := w.heap.size) (by simp)) 26 #[.bool ac, .slice ad ae af, .bool ag, .slice ah ai aj, .bool ak, .slice am an ao] (g := (w.heap.size + 1)) (by simp)) 26 #[.bool ap, .slice aq ar au, .bool av, .slice aw ax ay, .bool az, .slice aA aB aC] (g := (w.heap.size + 2)) (by simp)) 52 #[.bool false, .slice none 0 0, .bool false, .slice none 0 0, .bool false, .slice none 0 0, .bool false, .slice none 0 0, .bool false, .slice none 0 0, .bool false, .slice none 0 0, .bool false, .slice none 0 0, .bool false, .slice none 0 0, .bool false, .slice none 0 0, .bool false, .slice none 0 0, .bool false, .slice none 0 0, .bool false, .slice none 0 0, .bool false, .slice none 0 0, .bool false, .slice none 0 0, .bool false, .slice none 0 0, .bool false, .slice none 0 0, .bool false, .slice none 0 0, .bool false, .slice none 0 0] (g := (w.heap.size + 3)) (by simp))
  have k_1 := (aD.blk 3 rfl).cell
  have k_2 := (aD.blk 2 rfl).cell
  have k_3 := (aD.blk 1 rfl).cell
  have o14 : Own w (w.heap.size + 4) := Own.of hS.ext (by simp)
  go_enter Tryz.func28, Tryz.ntmps28
  go_wp2_with fail
  clear k_1 k_2 k_3
  clear aD
  replace hS := (St.al (St.al (St.al (St.al (St.al hS 26 #[.bool a0, .slice a1 a2 a3, .bool a4, .slice a5 a6 a7, .bool a8, .slice a9 aa ab] (g := w.heap.size) (by simp)) 26 #[.bool ac, .slice ad ae af, .bool ag, .slice ah ai aj, .bool ak, .slice am an ao] (g := (w.heap.size + 1)) (by simp)) 26 #[.bool ap, .slice aq ar au, .bool av, .slice aw ax ay, .bool az, .slice aA aB aC] (g := (w.heap.size + 2)) (by simp)) 52 #[.bool false, .slice none 0 0, .bool false, .slice none 0 0, .bool false, .slice none 0 0, .bool false, .slice none 0 0, .bool false, .slice none 0 0, .bool false, .slice none 0 0, .bool false, .slice none 0 0, .bool false, .slice none 0 0, .bool false, .slice none 0 0, .bool false, .slice none 0 0, .bool false, .slice none 0 0, .bool false, .slice none 0 0, .bool false, .slice none 0 0, .bool false, .slice none 0 0, .bool false, .slice none 0 0, .bool false, .slice none 0 0, .bool false, .slice none 0 0, .bool false, .slice none 0 0] (g := (w.heap.size + 3)) (by simp)) 26 #[.bool a0, .slice a1 a2 a3, .bool a4, .slice a5 a6 a7, .bool a8, .slice a9 aa ab, .bool ac, .slice ad ae af, .bool ag, .slice ah ai aj, .bool ak, .slice am an ao, .bool ap, .slice aq ar au, .bool av, .slice aw ax ay, .bool az, .slice aA aB aC] (g := (w.heap.size + 4)) (by simp))
  generalize (((((w.alloc (.cells #[.bool a0, .slice a1 a2 a3, .bool a4, .slice a5 a6 a7, .bool a8, .slice a9 aa ab] 26)).alloc (.cells #[.bool ac, .slice ad ae af, .bool ag, .slice ah ai aj, .bool ak, .slice am an ao] 26)).alloc (.cells #[.bool ap, .slice aq ar au, .bool av, .slice aw ax ay, .bool az, .slice aA aB aC] 26)).alloc (.cells #[.bool false, .slice none 0 0, .bool false, .slice none 0 0, .bool false, .slice none 0 0, .bool false, .slice none 0 0, .bool false, .slice none 0 0, .bool false, .slice none 0 0, .bool false, .slice none 0 0, .bool false, .slice none 0 0, .bool false, .slice none 0 0, .bool false, .slice none 0 0, .bool false, .slice none 0 0, .bool false, .slice none 0 0, .bool false, .slice none 0 0, .bool false, .slice none 0 0, .bool false, .slice none 0 0, .bool false, .slice none 0 0, .bool false, .slice none 0 0, .bool false, .slice none 0 0] 52)).alloc (.cells #[.bool a0, .slice a1 a2 a3, .bool a4, .slice a5 a6 a7, .bool a8, .slice a9 aa ab, .bool ac, .slice ad ae af, .bool ag, .slice ah ai aj, .bool ak, .slice am an ao, .bool ap, .slice aq ar au, .bool av, .slice aw ax ay, .bool az, .slice aA aB aC] 26)) = w1 at hS ⊢
  generalize w.heap.size + 4 = g14 at hS o14 ⊢
  generalize w.heap.size + 3 = g6 at hS o6 ⊢
  generalize w.heap.size + 2 = g5 at hS o5 ⊢
  generalize w.heap.size + 1 = g4 at hS o4 ⊢
  generalize w.heap.size = g3 at hS o3 ⊢
  refine (xvalid3_raw g14 b0 b1 b2 false _ (hS.blk 0 rfl) (hV0.ext hS.ext) (hV1.ext hS.ext) (hV2.ext hS.ext) Hb.out).mono ?_
  rintro e w2 ⟨rfl, hx_⟩
  replace hS := hS.mv hx_
  clear hx_
  have k_4 := (hS.blk 1 rfl)
  go_wp2_with (refine wpList_store_row rfl 52 _ _ rfl g6 _ (by rfl) (by rfl) 52 _ k_4 (a3_sz rfl) (by rfl) (by kernel_rfl) ?_)
  replace hS := (St.row hS 1 (cs' := #[.bool false, .slice none 0 0, .bool false, .slice none 0 0, .bool false, .slice none 0 0, .bool false, .slice none 0 0, .bool false, .slice none 0 0, .bool false, .slice none 0 0, .bool false, .slice none 0 0, .bool false, .slice none 0 0, .bool false, .slice none 0 0, .bool false, .slice none 0 0, .bool false, .slice none 0 0, .bool false, .slice none 0 0, .bool false, .slice none 0 0, .bool false, .slice none 0 0, .bool false, .slice none 0 0, .bool false, .slice none 0 0, .bool false, .slice none 0 0, .bool false, .slice none 0 0]) (bs' := _) rfl o6 (by kernel_rfl) rfl)
  exact bp_a32 rfl rfl rfl (hS.blk 1 rfl) ⟨_, rfl, ⟨_, rfl, RA.mk (RI.zero _) (RI.zero _) (RI.zero _) (RI.zero _) (RI.zero _) (RI.zero _) (RI.zero _) (RI.zero _) (RI.zero _) (RI.zero _) (RI.zero _) (RI.zero _) (RI.zero _) (RI.zero _) (RI.zero _) (RI.zero _) (RI.zero _) (RI.zero _)⟩, hS.ext⟩

end Go.Proofs.YtjeijmnhbckjdaaGreatDoor
