/- Turn multiplies by a power of z: the walk. -/
import Derived.Test.YtjeijmnhbckjdaaGreatDoorUGf
import Derived.Test.YtjeijmnhbckjdaaGreatDoorURowG
namespace Go.Proofs.YtjeijmnhbckjdaaGreatDoor
open Go.RowKit
set_option linter.unusedVariables false

set_option maxRecDepth 100000 in
set_option maxHeartbeats 1600000 in
theorem turns_large (s0a : Bool) (A0a : Option Addr) (n0a c0a : Nat) (s0b : Bool) (A0b : Option Addr) (n0b c0b : Nat) (s0d : Bool) (A0d : Option Addr) (n0d c0d : Nat) (s0x : Bool) (A0x : Option Addr) (n0x c0x : Nat) (s0y : Bool) (A0y : Option Addr) (n0y c0y : Nat) (s0z : Bool) (A0z : Option Addr) (n0z c0z : Nat) (m1 : Int) (m2 : Int) (w : World) (l1 : -9223372036854775808 ≤ m1) (u1 : m1 ≤ 9223372036854775807) (l2 : -9223372036854775808 ≤ m2) (u2 : m2 ≤ 9223372036854775807) (hTab : Tab w) (HL : Hid ([n0a, n0b, n0d, n0x, n0y, n0z].all (fun n => decide (n ≤ 12)) = false))
      :
    Calls Tryz.prog 4 #[pv s0a A0a n0a c0a s0b A0b n0b c0b s0d A0d n0d c0d s0x A0x n0x c0x s0y A0y n0y c0y s0z A0z n0z c0z, .int .i64 m1, .int .i64 m2] w fun e w' => e = .returned (.bool true) ∧ Ext w w' := by
  have hS := St.start w
  have o3 : Own w w.heap.size := Own.of hS.ext (by simp)
  have hT1 := (St.al hS 37 #[.bool s0a, .slice A0a n0a c0a, .bool s0b, .slice A0b n0b c0b, .bool s0d, .slice A0d n0d c0d, .bool s0x, .slice A0x n0x c0x, .bool s0y, .slice A0y n0y c0y, .bool s0z, .slice A0z n0z c0z] (g := w.heap.size) (by simp))
  have k_1 := (hT1.blk 0 rfl).cell
  have o19 : Own w (w.heap.size + 1) := Own.of hS.ext (by simp)
  go_enter Tryz.func4, Tryz.ntmps4
  go_wp2_with fail
  clear k_1
  clear hT1
  replace hS := (St.al (St.al hS 37 #[.bool s0a, .slice A0a n0a c0a, .bool s0b, .slice A0b n0b c0b, .bool s0d, .slice A0d n0d c0d, .bool s0x, .slice A0x n0x c0x, .bool s0y, .slice A0y n0y c0y, .bool s0z, .slice A0z n0z c0z] (g := w.heap.size) (by simp)) 26 #[.bool s0a, .slice A0a n0a c0a, .bool s0b, .slice A0b n0b c0b, .bool s0d, .slice A0d n0d c0d, .bool s0x, .slice A0x n0x c0x, .bool s0y, .slice A0y n0y c0y, .bool s0z, .slice A0z n0z c0z] (g := (w.heap.size + 1)) (by simp))
  generalize ((w.alloc (.cells #[.bool s0a, .slice A0a n0a c0a, .bool s0b, .slice A0b n0b c0b, .bool s0d, .slice A0d n0d c0d, .bool s0x, .slice A0x n0x c0x, .bool s0y, .slice A0y n0y c0y, .bool s0z, .slice A0z n0z c0z] 37)).alloc (.cells #[.bool s0a, .slice A0a n0a c0a, .bool s0b, .slice A0b n0b c0b, .bool s0d, .slice A0d n0d c0d, .bool s0x, .slice A0x n0x c0x, .bool s0y, .slice A0y n0y c0y, .bool s0z, .slice A0z n0z c0z] 26)) = w1 at hS ⊢
  generalize w.heap.size + 1 = g19 at hS o19 ⊢
  generalize w.heap.size = g3 at hS o3 ⊢
  refine (low2_raw g19 12 false _ (hS.blk 0 rfl) HL.out).mono ?_
  rintro e w2 ⟨rfl, hx_⟩
  replace hS := hS.mv hx_
  clear hx_
  go_wp2_with fail
  refine (lxknown_ok _ (tab_ext hTab hS.ext)).mono ?_
  rintro e w3 ⟨rfl, hx_⟩
  replace hS := hS.mv hx_
  clear hx_
  go_wp2
  go_ret
  exact ⟨ret_bool (rfl), hS.ext⟩

set_option maxRecDepth 100000 in
set_option maxHeartbeats 1600000 in
theorem turns_badu (s0a : Bool) (A0a : Option Addr) (n0a c0a : Nat) (s0b : Bool) (A0b : Option Addr) (n0b c0b : Nat) (s0d : Bool) (A0d : Option Addr) (n0d c0d : Nat) (s0x : Bool) (A0x : Option Addr) (n0x c0x : Nat) (s0y : Bool) (A0y : Option Addr) (n0y c0y : Nat) (s0z : Bool) (A0z : Option Addr) (n0z c0z : Nat) (m1 : Int) (m2 : Int) (b0v : Bool) (w : World) (hV0u : VB w (gv s0a A0a n0a c0a s0b A0b n0b c0b s0d A0d n0d c0d) false) (hV0v : VB w (gv s0x A0x n0x c0x s0y A0y n0y c0y s0z A0z n0z c0z) b0v) (l1 : -9223372036854775808 ≤ m1) (u1 : m1 ≤ 9223372036854775807) (l2 : -9223372036854775808 ≤ m2) (u2 : m2 ≤ 9223372036854775807) (hTab : Tab w) (HL : Hid ([n0a, n0b, n0d, n0x, n0y, n0z].all (fun n => decide (n ≤ 12)) = true))
      :
    Calls Tryz.prog 4 #[pv s0a A0a n0a c0a s0b A0b n0b c0b s0d A0d n0d c0d s0x A0x n0x c0x s0y A0y n0y c0y s0z A0z n0z c0z, .int .i64 m1, .int .i64 m2] w fun e w' => e = .returned (.bool true) ∧ Ext w w' := by
  have hS := St.start w
  have o3 : Own w w.heap.size := Own.of hS.ext (by simp)
  have hT1 := (St.al hS 37 #[.bool s0a, .slice A0a n0a c0a, .bool s0b, .slice A0b n0b c0b, .bool s0d, .slice A0d n0d c0d, .bool s0x, .slice A0x n0x c0x, .bool s0y, .slice A0y n0y c0y, .bool s0z, .slice A0z n0z c0z] (g := w.heap.size) (by simp))
  have k_1 := (hT1.blk 0 rfl).cell
  have o19 : Own w (w.heap.size + 1) := Own.of hS.ext (by simp)
  go_enter Tryz.func4, Tryz.ntmps4
  go_wp2_with fail
  clear k_1
  clear hT1
  replace hS := (St.al (St.al hS 37 #[.bool s0a, .slice A0a n0a c0a, .bool s0b, .slice A0b n0b c0b, .bool s0d, .slice A0d n0d c0d, .bool s0x, .slice A0x n0x c0x, .bool s0y, .slice A0y n0y c0y, .bool s0z, .slice A0z n0z c0z] (g := w.heap.size) (by simp)) 26 #[.bool s0a, .slice A0a n0a c0a, .bool s0b, .slice A0b n0b c0b, .bool s0d, .slice A0d n0d c0d, .bool s0x, .slice A0x n0x c0x, .bool s0y, .slice A0y n0y c0y, .bool s0z, .slice A0z n0z c0z] (g := (w.heap.size + 1)) (by simp))
  generalize ((w.alloc (.cells #[.bool s0a, .slice A0a n0a c0a, .bool s0b, .slice A0b n0b c0b, .bool s0d, .slice A0d n0d c0d, .bool s0x, .slice A0x n0x c0x, .bool s0y, .slice A0y n0y c0y, .bool s0z, .slice A0z n0z c0z] 37)).alloc (.cells #[.bool s0a, .slice A0a n0a c0a, .bool s0b, .slice A0b n0b c0b, .bool s0d, .slice A0d n0d c0d, .bool s0x, .slice A0x n0x c0x, .bool s0y, .slice A0y n0y c0y, .bool s0z, .slice A0z n0z c0z] 26)) = w1 at hS ⊢
  generalize w.heap.size + 1 = g19 at hS o19 ⊢
  generalize w.heap.size = g3 at hS o3 ⊢
  refine (low2_raw g19 12 true _ (hS.blk 0 rfl) HL.out).mono ?_
  rintro e w2 ⟨rfl, hx_⟩
  replace hS := hS.mv hx_
  clear hx_
  have k_2 := (hS.blk 1 rfl).cell
  go_wp2_with fail
  clear k_2
  refine (VB.q (hV0u.ext hS.ext)).mono ?_
  rintro e w3 ⟨rfl, hx_⟩
  replace hS := hS.mv hx_
  clear hx_
  go_wp2_with fail
  refine (lxknown_ok _ (tab_ext hTab hS.ext)).mono ?_
  rintro e w4 ⟨rfl, hx_⟩
  replace hS := hS.mv hx_
  clear hx_
  go_wp2
  go_ret
  exact ⟨ret_bool (rfl), hS.ext⟩

set_option maxRecDepth 100000 in
set_option maxHeartbeats 1600000 in
theorem turns_badv (s0a : Bool) (A0a : Option Addr) (n0a c0a : Nat) (s0b : Bool) (A0b : Option Addr) (n0b c0b : Nat) (s0d : Bool) (A0d : Option Addr) (n0d c0d : Nat) (s0x : Bool) (A0x : Option Addr) (n0x c0x : Nat) (s0y : Bool) (A0y : Option Addr) (n0y c0y : Nat) (s0z : Bool) (A0z : Option Addr) (n0z c0z : Nat) (m1 : Int) (m2 : Int) (w : World) (hV0u : VB w (gv s0a A0a n0a c0a s0b A0b n0b c0b s0d A0d n0d c0d) true) (hV0v : VB w (gv s0x A0x n0x c0x s0y A0y n0y c0y s0z A0z n0z c0z) false) (l1 : -9223372036854775808 ≤ m1) (u1 : m1 ≤ 9223372036854775807) (l2 : -9223372036854775808 ≤ m2) (u2 : m2 ≤ 9223372036854775807) (hTab : Tab w) (HL : Hid ([n0a, n0b, n0d, n0x, n0y, n0z].all (fun n => decide (n ≤ 12)) = true))
      :
    Calls Tryz.prog 4 #[pv s0a A0a n0a c0a s0b A0b n0b c0b s0d A0d n0d c0d s0x A0x n0x c0x s0y A0y n0y c0y s0z A0z n0z c0z, .int .i64 m1, .int .i64 m2] w fun e w' => e = .returned (.bool true) ∧ Ext w w' := by
  have hS := St.start w
  have o3 : Own w w.heap.size := Own.of hS.ext (by simp)
  have hT1 := (St.al hS 37 #[.bool s0a, .slice A0a n0a c0a, .bool s0b, .slice A0b n0b c0b, .bool s0d, .slice A0d n0d c0d, .bool s0x, .slice A0x n0x c0x, .bool s0y, .slice A0y n0y c0y, .bool s0z, .slice A0z n0z c0z] (g := w.heap.size) (by simp))
  have k_1 := (hT1.blk 0 rfl).cell
  have o19 : Own w (w.heap.size + 1) := Own.of hS.ext (by simp)
  go_enter Tryz.func4, Tryz.ntmps4
  go_wp2_with fail
  clear k_1
  clear hT1
  replace hS := (St.al (St.al hS 37 #[.bool s0a, .slice A0a n0a c0a, .bool s0b, .slice A0b n0b c0b, .bool s0d, .slice A0d n0d c0d, .bool s0x, .slice A0x n0x c0x, .bool s0y, .slice A0y n0y c0y, .bool s0z, .slice A0z n0z c0z] (g := w.heap.size) (by simp)) 26 #[.bool s0a, .slice A0a n0a c0a, .bool s0b, .slice A0b n0b c0b, .bool s0d, .slice A0d n0d c0d, .bool s0x, .slice A0x n0x c0x, .bool s0y, .slice A0y n0y c0y, .bool s0z, .slice A0z n0z c0z] (g := (w.heap.size + 1)) (by simp))
  generalize ((w.alloc (.cells #[.bool s0a, .slice A0a n0a c0a, .bool s0b, .slice A0b n0b c0b, .bool s0d, .slice A0d n0d c0d, .bool s0x, .slice A0x n0x c0x, .bool s0y, .slice A0y n0y c0y, .bool s0z, .slice A0z n0z c0z] 37)).alloc (.cells #[.bool s0a, .slice A0a n0a c0a, .bool s0b, .slice A0b n0b c0b, .bool s0d, .slice A0d n0d c0d, .bool s0x, .slice A0x n0x c0x, .bool s0y, .slice A0y n0y c0y, .bool s0z, .slice A0z n0z c0z] 26)) = w1 at hS ⊢
  generalize w.heap.size + 1 = g19 at hS o19 ⊢
  generalize w.heap.size = g3 at hS o3 ⊢
  refine (low2_raw g19 12 true _ (hS.blk 0 rfl) HL.out).mono ?_
  rintro e w2 ⟨rfl, hx_⟩
  replace hS := hS.mv hx_
  clear hx_
  have k_2 := (hS.blk 1 rfl).cell
  go_wp2_with fail
  clear k_2
  refine (VB.q (hV0u.ext hS.ext)).mono ?_
  rintro e w3 ⟨rfl, hx_⟩
  replace hS := hS.mv hx_
  clear hx_
  have k_3 := (hS.blk 1 rfl).cell
  go_wp2_with fail
  clear k_3
  refine (VB.q (hV0v.ext hS.ext)).mono ?_
  rintro e w4 ⟨rfl, hx_⟩
  replace hS := hS.mv hx_
  clear hx_
  go_wp2_with fail
  refine (lxknown_ok _ (tab_ext hTab hS.ext)).mono ?_
  rintro e w5 ⟨rfl, hx_⟩
  replace hS := hS.mv hx_
  clear hx_
  go_wp2
  go_ret
  exact ⟨ret_bool (rfl), hS.ext⟩

set_option maxRecDepth 100000 in
set_option maxHeartbeats 12800000 in
theorem turns_ok (v0 : Value) (q0 : PQ) (n0 : Nat) (m1 : Int) (m2 : Int) (K1 K2 K3 : Nat) (r1 r2 : Int) (w : World) (hX0 : PV w v0 q0 n0) (l1 : -9223372036854775808 ≤ m1) (u1 : m1 ≤ 9223372036854775807) (l2 : -9223372036854775808 ≤ m2) (u2 : m2 ≤ 9223372036854775807) (hn0 : n0 ≤ 384) (hn1 : 1 ≤ n0) (hTab : Tab w) (HK1 : Hid (m1 % 12 = (K1 : Int))) (HK2 : Hid (m2 % 12 = (K2 : Int))) (HK3 : Hid ((r1 + r2) % 12 = (K3 : Int))) (HR1 : Hid (r1 % 12 = (K1 : Int))) (hK1 : K1 < 12) (hK2 : K2 < 12) (hK3 : K3 < 12) (hr1 : m1.tmod 12 = r1) (hr2 : m2.tmod 12 = r2) (rl1 : -12 < r1) (ru1 : r1 < 12) (rl2 : -12 < r2) (ru2 : r2 < 12) (E1 : Hid ((q0 * PQ.zp K1) * PQ.zp K2 = q0 * PQ.zp K3)) (E2 : Hid (q0 * PQ.zp 0 = q0))
      :
    Calls Tryz.prog 4 #[v0, .int .i64 m1, .int .i64 m2] w fun e w' => e = .returned (.bool true) ∧ Ext w w' := by
  have hS := St.start w
  obtain ⟨x0a, x0b, x0d, x0x, x0y, x0z, hX0, I0u, S0u, I0v, S0v⟩ := hX0
  obtain ⟨sx0a, Ax0a, nx0a, cx0a, sx0b, Ax0b, nx0b, cx0b, sx0d, Ax0d, nx0d, cx0d, sx0x, Ax0x, nx0x, cx0x, sx0y, Ax0y, nx0y, cx0y, sx0z, Ax0z, nx0z, cx0z, rfl, hx0a, hx0b, hx0d, hx0x, hx0y, hx0z⟩ := hX0
  replace hS := hS.addI hx0a
  clear hx0a
  replace hS := hS.addI hx0b
  clear hx0b
  replace hS := hS.addI hx0d
  clear hx0d
  replace hS := hS.addI hx0x
  clear hx0x
  replace hS := hS.addI hx0y
  clear hx0y
  replace hS := hS.addI hx0z
  clear hx0z
  have HL : Hid ([nx0a, nx0b, nx0d, nx0x, nx0y, nx0z].all (fun n => decide (n ≤ 12)) = true) := Lib.hid (by simp only [List.all_cons, List.all_nil, Bool.and_true, Bool.and_eq_true, decide_eq_true_eq]; exact ⟨RI.low (k := 12) (hS.num 5 rfl) S0u.a (by omega), RI.low (k := 12) (hS.num 4 rfl) S0u.b (by omega), RI.low (k := 12) (hS.num 3 rfl) S0u.d (by omega), RI.low (k := 12) (hS.num 2 rfl) S0v.a (by omega), RI.low (k := 12) (hS.num 1 rfl) S0v.b (by omega), RI.low (k := 12) (hS.num 0 rfl) S0v.d (by omega)⟩)
  have o3 : Own w w.heap.size := Own.of hS.ext (by simp)
  have hT1 := (St.al hS 37 #[.bool sx0a, .slice Ax0a nx0a cx0a, .bool sx0b, .slice Ax0b nx0b cx0b, .bool sx0d, .slice Ax0d nx0d cx0d, .bool sx0x, .slice Ax0x nx0x cx0x, .bool sx0y, .slice Ax0y nx0y cx0y, .bool sx0z, .slice Ax0z nx0z cx0z] (g := w.heap.size) (by simp))
  have k_1 := (hT1.blk 0 rfl).cell
  have o19 : Own w (w.heap.size + 1) := Own.of hS.ext (by simp)
  go_enter Tryz.func4, Tryz.ntmps4
  go_wp2_with fail
  clear k_1
  clear hT1
  replace hS := (St.al (St.al hS 37 #[.bool sx0a, .slice Ax0a nx0a cx0a, .bool sx0b, .slice Ax0b nx0b cx0b, .bool sx0d, .slice Ax0d nx0d cx0d, .bool sx0x, .slice Ax0x nx0x cx0x, .bool sx0y, .slice Ax0y nx0y cx0y, .bool sx0z, .slice Ax0z nx0z cx0z] (g := w.heap.size) (by simp)) 26 #[.bool sx0a, .slice Ax0a nx0a cx0a, .bool sx0b, .slice Ax0b nx0b cx0b, .bool sx0d, .slice Ax0d nx0d cx0d, .bool sx0x, .slice Ax0x nx0x cx0x, .bool sx0y, .slice Ax0y nx0y cx0y, .bool sx0z, .slice Ax0z nx0z cx0z] (g := (w.heap.size + 1)) (by simp))
  generalize ((w.alloc (.cells #[.bool sx0a, .slice Ax0a nx0a cx0a, .bool sx0b, .slice Ax0b nx0b cx0b, .bool sx0d, .slice Ax0d nx0d cx0d, .bool sx0x, .slice Ax0x nx0x cx0x, .bool sx0y, .slice Ax0y nx0y cx0y, .bool sx0z, .slice Ax0z nx0z cx0z] 37)).alloc (.cells #[.bool sx0a, .slice Ax0a nx0a cx0a, .bool sx0b, .slice Ax0b nx0b cx0b, .bool sx0d, .slice Ax0d nx0d cx0d, .bool sx0x, .slice Ax0x nx0x cx0x, .bool sx0y, .slice Ax0y nx0y cx0y, .bool sx0z, .slice Ax0z nx0z cx0z] 26)) = w1 at hS ⊢
  generalize w.heap.size + 1 = g19 at hS o19 ⊢
  generalize w.heap.size = g3 at hS o3 ⊢
  refine (low2_raw g19 12 true _ (hS.blk 0 rfl) HL.out).mono ?_
  rintro e w2 ⟨rfl, hx_⟩
  replace hS := hS.mv hx_
  clear hx_
  have k_2 := (hS.blk 1 rfl).cell
  go_wp2_with fail
  clear k_2
  refine (qValid_gv _ q0.u (n0) _ ⟨_, _, _, RG.mk (hS.num 5 rfl) (hS.num 4 rfl) (hS.num 3 rfl), I0u, S0u⟩ (by omega)).mono ?_
  rintro e w3 ⟨rfl, hx_⟩
  replace hS := hS.mv hx_
  clear hx_
  have k_3 := (hS.blk 1 rfl).cell
  go_wp2_with fail
  clear k_3
  refine (qValid_gv _ q0.v (n0) _ ⟨_, _, _, RG.mk (hS.num 2 rfl) (hS.num 1 rfl) (hS.num 0 rfl), I0v, S0v⟩ (by omega)).mono ?_
  rintro e w4 ⟨rfl, hx_⟩
  replace hS := hS.mv hx_
  clear hx_
  have k_4 := (hS.blk 1 rfl).cell
  go_wp2_with fail
  clear k_4
  obtain ⟨z38a, z38b, z38d, I38u⟩ := is_ex ((q0 * PQ.zp K1)).u
  obtain ⟨z38x, z38y, z38z, I38v⟩ := is_ex ((q0 * PQ.zp K1)).v
  have S38u : Sz (2 * (n0 + 2) + 69) z38a z38b z38d := (Bd.produ (p := q0) (q := PQ.zp K1) (m := n0) (n := 2) ⟨_, _, _, I0u, S0u⟩ ⟨_, _, _, I0v, S0v⟩ (Bd.zp hK1).1 (Bd.zp hK1).2).sz I38u
  have S38v : Sz (2 * (n0 + 2) + 69) z38x z38y z38z := (Bd.prodv (p := q0) (q := PQ.zp K1) (m := n0) (n := 2) ⟨_, _, _, I0u, S0u⟩ ⟨_, _, _, I0v, S0v⟩ (Bd.zp hK1).1 (Bd.zp hK1).2).sz I38v
  refine (toTP (xTurn_ok _ q0 (n0) (m1) K1 _ ⟨_, _, _, _, _, _, RP.mk (hS.num 5 rfl) (hS.num 4 rfl) (hS.num 3 rfl) (hS.num 2 rfl) (hS.num 1 rfl) (hS.num 0 rfl), I0u, S0u, I0v, S0v⟩ l1 u1 HK1.out (by omega)) I38u I38v).mono ?_
  rintro e w5 ⟨v_, rfl, hv_, hx_⟩
  replace hS := hS.mv hx_
  clear hx_
  obtain ⟨_, rfl, s38a, A_38a, n38a, c38a, s38b, A_38b, n38b, c38b, s38d, A_38d, n38d, c38d, s38x, A_38x, n38x, c38x, s38y, A_38y, n38y, c38y, s38z, A_38z, n38z, c38z, rfl, f_s38a, f_s38b, f_s38d, f_s38x, f_s38y, f_s38z⟩ := hv_
  replace hS := hS.addI f_s38a
  clear f_s38a
  replace hS := hS.addI f_s38b
  clear f_s38b
  replace hS := hS.addI f_s38d
  clear f_s38d
  replace hS := hS.addI f_s38x
  clear f_s38x
  replace hS := hS.addI f_s38y
  clear f_s38y
  replace hS := hS.addI f_s38z
  clear f_s38z
  have o7 : Own w w5.heap.size := Own.of hS.ext (by simp)
  have hT2 := (St.al hS 37 #[.bool false, .slice none 0 0, .bool false, .slice none 0 0, .bool false, .slice none 0 0, .bool false, .slice none 0 0, .bool false, .slice none 0 0, .bool false, .slice none 0 0] (g := w5.heap.size) (by simp))
  have k_5 := (hT2.blk 0 rfl).cell
  have k_6 := (hT2.blk 0 rfl).frozen
  have hT3 := (St.al hS 37 #[.bool s38a, .slice A_38a n38a c38a, .bool s38b, .slice A_38b n38b c38b, .bool s38d, .slice A_38d n38d c38d, .bool s38x, .slice A_38x n38x c38x, .bool s38y, .slice A_38y n38y c38y, .bool s38z, .slice A_38z n38z c38z] (g := w5.heap.size) (by simp))
  have k_7 := (hT3.blk 0 rfl).cell
  go_wp2_with fail
  clear k_5 k_6 k_7
  clear hT2 hT3
  replace hS := (St.al hS 37 #[.bool s38a, .slice A_38a n38a c38a, .bool s38b, .slice A_38b n38b c38b, .bool s38d, .slice A_38d n38d c38d, .bool s38x, .slice A_38x n38x c38x, .bool s38y, .slice A_38y n38y c38y, .bool s38z, .slice A_38z n38z c38z] (g := w5.heap.size) (by simp))
  generalize (w5.alloc (.cells #[.bool s38a, .slice A_38a n38a c38a, .bool s38b, .slice A_38b n38b c38b, .bool s38d, .slice A_38d n38d c38d, .bool s38x, .slice A_38x n38x c38x, .bool s38y, .slice A_38y n38y c38y, .bool s38z, .slice A_38z n38z c38z] 37)) = w6 at hS ⊢
  generalize w5.heap.size = g7 at hS o7 ⊢
  obtain ⟨z44a, z44b, z44d, I44u⟩ := is_ex (((q0 * PQ.zp K1) * PQ.zp K2)).u
  obtain ⟨z44x, z44y, z44z, I44v⟩ := is_ex (((q0 * PQ.zp K1) * PQ.zp K2)).v
  have S44u : Sz (2 * ((2 * (n0 + 2) + 69) + 2) + 69) z44a z44b z44d := (Bd.produ (p := (q0 * PQ.zp K1)) (q := PQ.zp K2) (m := 2 * (n0 + 2) + 69) (n := 2) ⟨_, _, _, I38u, S38u⟩ ⟨_, _, _, I38v, S38v⟩ (Bd.zp hK2).1 (Bd.zp hK2).2).sz I44u
  have S44v : Sz (2 * ((2 * (n0 + 2) + 69) + 2) + 69) z44x z44y z44z := (Bd.prodv (p := (q0 * PQ.zp K1)) (q := PQ.zp K2) (m := 2 * (n0 + 2) + 69) (n := 2) ⟨_, _, _, I38u, S38u⟩ ⟨_, _, _, I38v, S38v⟩ (Bd.zp hK2).1 (Bd.zp hK2).2).sz I44v
  refine (toTP (xTurn_ok _ (q0 * PQ.zp K1) (2 * (n0 + 2) + 69) (m2) K2 _ ⟨_, _, _, _, _, _, RP.mk (hS.num 5 rfl) (hS.num 4 rfl) (hS.num 3 rfl) (hS.num 2 rfl) (hS.num 1 rfl) (hS.num 0 rfl), I38u, S38u, I38v, S38v⟩ l2 u2 HK2.out (by omega)) I44u I44v).mono ?_
  rintro e w7 ⟨v_, rfl, hv_, hx_⟩
  replace hS := hS.mv hx_
  clear hx_
  obtain ⟨_, rfl, s44a, A_44a, n44a, c44a, s44b, A_44b, n44b, c44b, s44d, A_44d, n44d, c44d, s44x, A_44x, n44x, c44x, s44y, A_44y, n44y, c44y, s44z, A_44z, n44z, c44z, rfl, f_s44a, f_s44b, f_s44d, f_s44x, f_s44y, f_s44z⟩ := hv_
  replace hS := hS.addI f_s44a
  clear f_s44a
  replace hS := hS.addI f_s44b
  clear f_s44b
  replace hS := hS.addI f_s44d
  clear f_s44d
  replace hS := hS.addI f_s44x
  clear f_s44x
  replace hS := hS.addI f_s44y
  clear f_s44y
  replace hS := hS.addI f_s44z
  clear f_s44z
  have o9 : Own w w7.heap.size := Own.of hS.ext (by simp)
  have hT4 := (St.al hS 37 #[.bool false, .slice none 0 0, .bool false, .slice none 0 0, .bool false, .slice none 0 0, .bool false, .slice none 0 0, .bool false, .slice none 0 0, .bool false, .slice none 0 0] (g := w7.heap.size) (by simp))
  have k_8 := (hT4.blk 0 rfl).cell
  have k_9 := (hT4.blk 0 rfl).frozen
  have hT5 := (St.al hS 37 #[.bool s44a, .slice A_44a n44a c44a, .bool s44b, .slice A_44b n44b c44b, .bool s44d, .slice A_44d n44d c44d, .bool s44x, .slice A_44x n44x c44x, .bool s44y, .slice A_44y n44y c44y, .bool s44z, .slice A_44z n44z c44z] (g := w7.heap.size) (by simp))
  have k_10 := (hT5.blk 3 rfl).cell
  go_wp2_with fail
  clear k_8 k_9 k_10
  clear hT4 hT5
  replace hS := (St.al hS 37 #[.bool s44a, .slice A_44a n44a c44a, .bool s44b, .slice A_44b n44b c44b, .bool s44d, .slice A_44d n44d c44d, .bool s44x, .slice A_44x n44x c44x, .bool s44y, .slice A_44y n44y c44y, .bool s44z, .slice A_44z n44z c44z] (g := w7.heap.size) (by simp))
  generalize (w7.alloc (.cells #[.bool s44a, .slice A_44a n44a c44a, .bool s44b, .slice A_44b n44b c44b, .bool s44d, .slice A_44d n44d c44d, .bool s44x, .slice A_44x n44x c44x, .bool s44y, .slice A_44y n44y c44y, .bool s44z, .slice A_44z n44z c44z] 37)) = w8 at hS ⊢
  generalize w7.heap.size = g9 at hS o9 ⊢
  obtain ⟨z54a, z54b, z54d, I54u⟩ := is_ex ((q0 * PQ.zp K3)).u
  obtain ⟨z54x, z54y, z54z, I54v⟩ := is_ex ((q0 * PQ.zp K3)).v
  have S54u : Sz (2 * (n0 + 2) + 69) z54a z54b z54d := (Bd.produ (p := q0) (q := PQ.zp K3) (m := n0) (n := 2) ⟨_, _, _, I0u, S0u⟩ ⟨_, _, _, I0v, S0v⟩ (Bd.zp hK3).1 (Bd.zp hK3).2).sz I54u
  have S54v : Sz (2 * (n0 + 2) + 69) z54x z54y z54z := (Bd.prodv (p := q0) (q := PQ.zp K3) (m := n0) (n := 2) ⟨_, _, _, I0u, S0u⟩ ⟨_, _, _, I0v, S0v⟩ (Bd.zp hK3).1 (Bd.zp hK3).2).sz I54v
  refine (toTP (xTurn_ok _ q0 (n0) (r1 + r2) K3 _ ⟨_, _, _, _, _, _, RP.mk (hS.num 17 rfl) (hS.num 16 rfl) (hS.num 15 rfl) (hS.num 14 rfl) (hS.num 13 rfl) (hS.num 12 rfl), I0u, S0u, I0v, S0v⟩ (by omega) (by omega) HK3.out (by omega)) I54u I54v).mono ?_
  rintro e w9 ⟨v_, rfl, hv_, hx_⟩
  replace hS := hS.mv hx_
  clear hx_
  obtain ⟨_, rfl, s54a, A_54a, n54a, c54a, s54b, A_54b, n54b, c54b, s54d, A_54d, n54d, c54d, s54x, A_54x, n54x, c54x, s54y, A_54y, n54y, c54y, s54z, A_54z, n54z, c54z, rfl, f_s54a, f_s54b, f_s54d, f_s54x, f_s54y, f_s54z⟩ := hv_
  replace hS := hS.addI f_s54a
  clear f_s54a
  replace hS := hS.addI f_s54b
  clear f_s54b
  replace hS := hS.addI f_s54d
  clear f_s54d
  replace hS := hS.addI f_s54x
  clear f_s54x
  replace hS := hS.addI f_s54y
  clear f_s54y
  replace hS := hS.addI f_s54z
  clear f_s54z
  have o11 : Own w w9.heap.size := Own.of hS.ext (by simp)
  have hT6 := (St.al hS 37 #[.bool false, .slice none 0 0, .bool false, .slice none 0 0, .bool false, .slice none 0 0, .bool false, .slice none 0 0, .bool false, .slice none 0 0, .bool false, .slice none 0 0] (g := w9.heap.size) (by simp))
  have k_11 := (hT6.blk 0 rfl).cell
  have k_12 := (hT6.blk 0 rfl).frozen
  have hT7 := (St.al hS 37 #[.bool s54a, .slice A_54a n54a c54a, .bool s54b, .slice A_54b n54b c54b, .bool s54d, .slice A_54d n54d c54d, .bool s54x, .slice A_54x n54x c54x, .bool s54y, .slice A_54y n54y c54y, .bool s54z, .slice A_54z n54z c54z] (g := w9.heap.size) (by simp))
  have k_13 := (hT7.blk 4 rfl).cell
  go_wp2_with fail
  clear k_11 k_12 k_13
  clear hT6 hT7
  replace hS := (St.al hS 37 #[.bool s54a, .slice A_54a n54a c54a, .bool s54b, .slice A_54b n54b c54b, .bool s54d, .slice A_54d n54d c54d, .bool s54x, .slice A_54x n54x c54x, .bool s54y, .slice A_54y n54y c54y, .bool s54z, .slice A_54z n54z c54z] (g := w9.heap.size) (by simp))
  generalize (w9.alloc (.cells #[.bool s54a, .slice A_54a n54a c54a, .bool s54b, .slice A_54b n54b c54b, .bool s54d, .slice A_54d n54d c54d, .bool s54x, .slice A_54x n54x c54x, .bool s54y, .slice A_54y n54y c54y, .bool s54z, .slice A_54z n54z c54z] 37)) = w10 at hS ⊢
  generalize w9.heap.size = g11 at hS o11 ⊢
  obtain ⟨z59a, z59b, z59d, I59u⟩ := is_ex ((q0 * PQ.zp 0)).u
  obtain ⟨z59x, z59y, z59z, I59v⟩ := is_ex ((q0 * PQ.zp 0)).v
  have S59u : Sz (2 * (n0 + 2) + 69) z59a z59b z59d := (Bd.produ (p := q0) (q := PQ.zp 0) (m := n0) (n := 2) ⟨_, _, _, I0u, S0u⟩ ⟨_, _, _, I0v, S0v⟩ (Bd.zp (by omega)).1 (Bd.zp (by omega)).2).sz I59u
  have S59v : Sz (2 * (n0 + 2) + 69) z59x z59y z59z := (Bd.prodv (p := q0) (q := PQ.zp 0) (m := n0) (n := 2) ⟨_, _, _, I0u, S0u⟩ ⟨_, _, _, I0v, S0v⟩ (Bd.zp (by omega)).1 (Bd.zp (by omega)).2).sz I59v
  refine (toTP (xTurn_ok _ q0 (n0) (12) 0 _ ⟨_, _, _, _, _, _, RP.mk (hS.num 23 rfl) (hS.num 22 rfl) (hS.num 21 rfl) (hS.num 20 rfl) (hS.num 19 rfl) (hS.num 18 rfl), I0u, S0u, I0v, S0v⟩ (by omega) (by omega) (Lib.hid (show (12 : Int) % 12 = ((0 : Nat) : Int) by decide)).out (by omega)) I59u I59v).mono ?_
  rintro e w11 ⟨v_, rfl, hv_, hx_⟩
  replace hS := hS.mv hx_
  clear hx_
  obtain ⟨_, rfl, s59a, A_59a, n59a, c59a, s59b, A_59b, n59b, c59b, s59d, A_59d, n59d, c59d, s59x, A_59x, n59x, c59x, s59y, A_59y, n59y, c59y, s59z, A_59z, n59z, c59z, rfl, f_s59a, f_s59b, f_s59d, f_s59x, f_s59y, f_s59z⟩ := hv_
  replace hS := hS.addI f_s59a
  clear f_s59a
  replace hS := hS.addI f_s59b
  clear f_s59b
  replace hS := hS.addI f_s59d
  clear f_s59d
  replace hS := hS.addI f_s59x
  clear f_s59x
  replace hS := hS.addI f_s59y
  clear f_s59y
  replace hS := hS.addI f_s59z
  clear f_s59z
  have o13 : Own w w11.heap.size := Own.of hS.ext (by simp)
  have hT8 := (St.al hS 37 #[.bool false, .slice none 0 0, .bool false, .slice none 0 0, .bool false, .slice none 0 0, .bool false, .slice none 0 0, .bool false, .slice none 0 0, .bool false, .slice none 0 0] (g := w11.heap.size) (by simp))
  have k_14 := (hT8.blk 0 rfl).cell
  have k_15 := (hT8.blk 0 rfl).frozen
  go_wp2_with fail
  clear k_14 k_15
  clear hT8
  replace hS := (St.al hS 37 #[.bool s59a, .slice A_59a n59a c59a, .bool s59b, .slice A_59b n59b c59b, .bool s59d, .slice A_59d n59d c59d, .bool s59x, .slice A_59x n59x c59x, .bool s59y, .slice A_59y n59y c59y, .bool s59z, .slice A_59z n59z c59z] (g := w11.heap.size) (by simp))
  generalize (w11.alloc (.cells #[.bool s59a, .slice A_59a n59a c59a, .bool s59b, .slice A_59b n59b c59b, .bool s59d, .slice A_59d n59d c59d, .bool s59x, .slice A_59x n59x c59x, .bool s59y, .slice A_59y n59y c59y, .bool s59z, .slice A_59z n59z c59z] 37)) = w12 at hS ⊢
  generalize w11.heap.size = g13 at hS o13 ⊢
  obtain ⟨z84a, z84b, z84d, I84u⟩ := is_ex ((q0 * PQ.zp K1)).u
  obtain ⟨z84x, z84y, z84z, I84v⟩ := is_ex ((q0 * PQ.zp K1)).v
  have S84u : Sz (2 * (n0 + 2) + 69) z84a z84b z84d := (Bd.produ (p := q0) (q := PQ.zp K1) (m := n0) (n := 2) ⟨_, _, _, I0u, S0u⟩ ⟨_, _, _, I0v, S0v⟩ (Bd.zp hK1).1 (Bd.zp hK1).2).sz I84u
  have S84v : Sz (2 * (n0 + 2) + 69) z84x z84y z84z := (Bd.prodv (p := q0) (q := PQ.zp K1) (m := n0) (n := 2) ⟨_, _, _, I0u, S0u⟩ ⟨_, _, _, I0v, S0v⟩ (Bd.zp hK1).1 (Bd.zp hK1).2).sz I84v
  have Y13 := ExtOf.blk (hS.blk 0 rfl)
  have Y11 := ExtOf.blk (hS.blk 1 rfl)
  have Y9 := ExtOf.blk (hS.blk 2 rfl)
  have Y7 := ExtOf.blk (hS.blk 3 rfl)
  have Y3 := ExtOf.blk (hS.blk 5 rfl)
  have hE_ := hS.ext
  refine wp_region_tame 35 (hasF [(0, .any), (22, .any), (23, .any), (28, .any), (33, .any)]) (Fcs [(0, .eq (.bool true)), (22, .rp (z84a) (z84b) (z84d) (z84x) (z84y) (z84z)), (23, .eq (.bool true)), (28, .eq (.bool true)), (33, .eq (.bool true))]) (Fcs_stab _) (by kernel_rfl) (by kernel_rfl) ?_
  simp only [List.take_succ_cons, List.take_zero, List.drop_succ_cons, List.drop_zero]
  refine wpT_eff (by rfl) (by rfl) (by rfl) ?_ ?_
  · intro W_ hK
    have hW := hK.1
    clear hK
    go_simp
    exact ⟨rfl, (lxknown_ok _ (tab_ext hTab (hE_.trans hW))).mono fun e w' ⟨he, hx⟩ => ⟨_, he, hx, rfl⟩⟩
  intro v_ lo62 hi62 hr_
  obtain ⟨W_, hW_⟩ := hr_
  obtain rfl : v_ = .bool true := hW_.get
  clear hW_ W_
  try simp only [Act.put, List.setIfInBounds_toArray, List.set_cons_succ, List.set_cons_zero]
  refine wpT_quiet 21 (by rfl) (by kernel_rfl) ?_
  simp only [List.take_succ_cons, List.take_zero, List.drop_succ_cons, List.drop_zero]
  repeat (go_big_quiet_step (fail))
  refine wpQuiet_nil ?_
  refine wpT_eff (by rfl) (by rfl) (by rfl) ?_ ?_
  · intro W_ hK
    have hW := hK.1
    clear hK
    go_simp
    exact ⟨rfl, (toRP (qTurn_w _ q0 (n0) (r1) K1 _ ⟨_, _, _, _, _, _, RP.mk (RI.ext (hS.num 29 rfl) hW) (RI.ext (hS.num 28 rfl) hW) (RI.ext (hS.num 27 rfl) hW) (RI.ext (hS.num 26 rfl) hW) (RI.ext (hS.num 25 rfl) hW) (RI.ext (hS.num 24 rfl) hW), I0u, S0u, I0v, S0v⟩ (by omega) (by omega) HR1 hK1 (by omega)) I84u I84v).mono fun e w' ⟨v, he, hR, hx⟩ => ⟨v, he, hx, hR⟩⟩
  intro v_ lo84 hi84 hr_
  obtain ⟨W_, hW_⟩ := hr_
  have hv_ : Fc.holds (.rp (z84a) (z84b) (z84d) (z84x) (z84y) (z84z)) lo84 hi84 v_ W_ := hW_.get
  clear hW_
  obtain ⟨s84a, A_84a, n84a, c84a, s84b, A_84b, n84b, c84b, s84d, A_84d, n84d, c84d, s84x, A_84x, n84x, c84x, s84y, A_84y, n84y, c84y, s84z, A_84z, n84z, c84z, rfl, -, -, -, -, -, -⟩ := hv_
  clear W_
  try simp only [Act.put, List.setIfInBounds_toArray, List.set_cons_succ, List.set_cons_zero]
  refine wpT_eff (by rfl) (by rfl) (by rfl) ?_ ?_
  · intro W_ hK
    have hW := hK.1
    have F_s84a : RI W_ (iv s84a A_84a n84a c84a) z84a := RP.at1 (hK.2 22 ((pv s84a A_84a n84a c84a s84b A_84b n84b c84b s84d A_84d n84d c84d s84x A_84x n84x c84x s84y A_84y n84y c84y s84z A_84z n84z c84z), lo84, hi84) (by rfl) (anc_of (by kernel_rfl)))
    have F_s84b : RI W_ (iv s84b A_84b n84b c84b) z84b := RP.at2 (hK.2 22 ((pv s84a A_84a n84a c84a s84b A_84b n84b c84b s84d A_84d n84d c84d s84x A_84x n84x c84x s84y A_84y n84y c84y s84z A_84z n84z c84z), lo84, hi84) (by rfl) (anc_of (by kernel_rfl)))
    have F_s84d : RI W_ (iv s84d A_84d n84d c84d) z84d := RP.at3 (hK.2 22 ((pv s84a A_84a n84a c84a s84b A_84b n84b c84b s84d A_84d n84d c84d s84x A_84x n84x c84x s84y A_84y n84y c84y s84z A_84z n84z c84z), lo84, hi84) (by rfl) (anc_of (by kernel_rfl)))
    have F_s84x : RI W_ (iv s84x A_84x n84x c84x) z84x := RP.at4 (hK.2 22 ((pv s84a A_84a n84a c84a s84b A_84b n84b c84b s84d A_84d n84d c84d s84x A_84x n84x c84x s84y A_84y n84y c84y s84z A_84z n84z c84z), lo84, hi84) (by rfl) (anc_of (by kernel_rfl)))
    have F_s84y : RI W_ (iv s84y A_84y n84y c84y) z84y := RP.at5 (hK.2 22 ((pv s84a A_84a n84a c84a s84b A_84b n84b c84b s84d A_84d n84d c84d s84x A_84x n84x c84x s84y A_84y n84y c84y s84z A_84z n84z c84z), lo84, hi84) (by rfl) (anc_of (by kernel_rfl)))
    have F_s84z : RI W_ (iv s84z A_84z n84z c84z) z84z := RP.at6 (hK.2 22 ((pv s84a A_84a n84a c84a s84b A_84b n84b c84b s84d A_84d n84d c84d s84x A_84x n84x c84x s84y A_84y n84y c84y s84z A_84z n84z c84z), lo84, hi84) (by rfl) (anc_of (by kernel_rfl)))
    clear hK
    go_simp
    exact ⟨rfl, (qSamePhasor_q _ _ (q0 * PQ.zp K1) (q0 * PQ.zp K1) (2 * (n0 + 2) + 69) (2 * (n0 + 2) + 69) _ ⟨_, _, _, _, _, _, RP.mk (RI.ext (hS.num 23 rfl) hW) (RI.ext (hS.num 22 rfl) hW) (RI.ext (hS.num 21 rfl) hW) (RI.ext (hS.num 20 rfl) hW) (RI.ext (hS.num 19 rfl) hW) (RI.ext (hS.num 18 rfl) hW), I38u, S38u, I38v, S38v⟩ ⟨_, _, _, _, _, _, RP.mk F_s84a F_s84b F_s84d F_s84x F_s84y F_s84z, I84u, S84u, I84v, S84v⟩ rfl).mono fun e w' ⟨he, hx⟩ => ⟨_, he, hx, rfl⟩⟩
  intro v_ lo85 hi85 hr_
  obtain ⟨W_, hW_⟩ := hr_
  obtain rfl : v_ = .bool true := hW_.get
  clear hW_ W_
  try simp only [Act.put, List.setIfInBounds_toArray, List.set_cons_succ, List.set_cons_zero]
  refine wpT_quiet 4 (by rfl) (by kernel_rfl) ?_
  simp only [List.take_succ_cons, List.take_zero, List.drop_succ_cons, List.drop_zero]
  repeat (go_big_quiet_step (fail))
  refine wpQuiet_nil ?_
  refine wpT_eff (by rfl) (by rfl) (by rfl) ?_ ?_
  · intro W_ hK
    have hW := hK.1
    clear hK
    go_simp
    exact ⟨rfl, (qSamePhasor_q _ _ ((q0 * PQ.zp K1) * PQ.zp K2) (q0 * PQ.zp K3) (2 * ((2 * (n0 + 2) + 69) + 2) + 69) (2 * (n0 + 2) + 69) _ ⟨_, _, _, _, _, _, RP.mk (RI.ext (hS.num 17 rfl) hW) (RI.ext (hS.num 16 rfl) hW) (RI.ext (hS.num 15 rfl) hW) (RI.ext (hS.num 14 rfl) hW) (RI.ext (hS.num 13 rfl) hW) (RI.ext (hS.num 12 rfl) hW), I44u, S44u, I44v, S44v⟩ ⟨_, _, _, _, _, _, RP.mk (RI.ext (hS.num 11 rfl) hW) (RI.ext (hS.num 10 rfl) hW) (RI.ext (hS.num 9 rfl) hW) (RI.ext (hS.num 8 rfl) hW) (RI.ext (hS.num 7 rfl) hW) (RI.ext (hS.num 6 rfl) hW), I54u, S54u, I54v, S54v⟩ E1.out).mono fun e w' ⟨he, hx⟩ => ⟨_, he, hx, rfl⟩⟩
  intro v_ lo90 hi90 hr_
  obtain ⟨W_, hW_⟩ := hr_
  obtain rfl : v_ = .bool true := hW_.get
  clear hW_ W_
  try simp only [Act.put, List.setIfInBounds_toArray, List.set_cons_succ, List.set_cons_zero]
  refine wpT_quiet 4 (by rfl) (by kernel_rfl) ?_
  simp only [List.take_succ_cons, List.take_zero, List.drop_succ_cons, List.drop_zero]
  repeat (go_big_quiet_step (fail))
  refine wpQuiet_nil ?_
  refine wpT_eff (by rfl) (by rfl) (by rfl) ?_ ?_
  · intro W_ hK
    have hW := hK.1
    clear hK
    go_simp
    exact ⟨rfl, (qSamePhasor_q _ _ (q0 * PQ.zp 0) q0 (2 * (n0 + 2) + 69) (n0) _ ⟨_, _, _, _, _, _, RP.mk (RI.ext (hS.num 5 rfl) hW) (RI.ext (hS.num 4 rfl) hW) (RI.ext (hS.num 3 rfl) hW) (RI.ext (hS.num 2 rfl) hW) (RI.ext (hS.num 1 rfl) hW) (RI.ext (hS.num 0 rfl) hW), I59u, S59u, I59v, S59v⟩ ⟨_, _, _, _, _, _, RP.mk (RI.ext (hS.num 29 rfl) hW) (RI.ext (hS.num 28 rfl) hW) (RI.ext (hS.num 27 rfl) hW) (RI.ext (hS.num 26 rfl) hW) (RI.ext (hS.num 25 rfl) hW) (RI.ext (hS.num 24 rfl) hW), I0u, S0u, I0v, S0v⟩ E2.out).mono fun e w' ⟨he, hx⟩ => ⟨_, he, hx, rfl⟩⟩
  intro v_ lo95 hi95 hr_
  obtain ⟨W_, hW_⟩ := hr_
  obtain rfl : v_ = .bool true := hW_.get
  clear hW_ W_
  try simp only [Act.put, List.setIfInBounds_toArray, List.set_cons_succ, List.set_cons_zero]
  refine wpT_quiet 1 (by rfl) (by kernel_rfl) ?_
  simp only [List.take_succ_cons, List.take_zero, List.drop_succ_cons, List.drop_zero]
  repeat (go_big_quiet_step (fail))
  refine wpQuiet_nil ?_
  refine wpT_nil ?_
  intro w13 hK
  have hlt_ := hS.lt
  replace hS := hS.mv hK.ext
  replace hS := hS.addI (show RI w13 (iv s84a A_84a n84a c84a) z84a from RP.at1 (hK.at_ 22 (e := ((pv s84a A_84a n84a c84a s84b A_84b n84b c84b s84d A_84d n84d c84d s84x A_84x n84x c84x s84y A_84y n84y c84y s84z A_84z n84z c84z), lo84, hi84)) (by rfl)))
  replace hS := hS.addI (show RI w13 (iv s84b A_84b n84b c84b) z84b from RP.at2 (hK.at_ 22 (e := ((pv s84a A_84a n84a c84a s84b A_84b n84b c84b s84d A_84d n84d c84d s84x A_84x n84x c84x s84y A_84y n84y c84y s84z A_84z n84z c84z), lo84, hi84)) (by rfl)))
  replace hS := hS.addI (show RI w13 (iv s84d A_84d n84d c84d) z84d from RP.at3 (hK.at_ 22 (e := ((pv s84a A_84a n84a c84a s84b A_84b n84b c84b s84d A_84d n84d c84d s84x A_84x n84x c84x s84y A_84y n84y c84y s84z A_84z n84z c84z), lo84, hi84)) (by rfl)))
  replace hS := hS.addI (show RI w13 (iv s84x A_84x n84x c84x) z84x from RP.at4 (hK.at_ 22 (e := ((pv s84a A_84a n84a c84a s84b A_84b n84b c84b s84d A_84d n84d c84d s84x A_84x n84x c84x s84y A_84y n84y c84y s84z A_84z n84z c84z), lo84, hi84)) (by rfl)))
  replace hS := hS.addI (show RI w13 (iv s84y A_84y n84y c84y) z84y from RP.at5 (hK.at_ 22 (e := ((pv s84a A_84a n84a c84a s84b A_84b n84b c84b s84d A_84d n84d c84d s84x A_84x n84x c84x s84y A_84y n84y c84y s84z A_84z n84z c84z), lo84, hi84)) (by rfl)))
  replace hS := hS.addI (show RI w13 (iv s84z A_84z n84z c84z) z84z from RP.at6 (hK.at_ 22 (e := ((pv s84a A_84a n84a c84a s84b A_84b n84b c84b s84d A_84d n84d c84d s84x A_84x n84x c84x s84y A_84y n84y c84y s84z A_84z n84z c84z), lo84, hi84)) (by rfl)))
  clear hK hlt_ hE_ Y13 Y11 Y9 Y7 Y3
  go_wp2
  go_ret
  exact ⟨ret_bool (rfl), hS.ext⟩

theorem tmod_range (m : Int) : -12 < m.tmod 12 ∧ m.tmod 12 < 12 := by
  rw [Int.tmod_eq_emod]
  have h1 := Int.emod_nonneg m (show (12 : Int) ≠ 0 by omega)
  have h2 := Int.emod_lt_of_pos m (show (0 : Int) < 12 by omega)
  split <;> simp <;> omega
theorem tmod_mod (m : Int) : m.tmod 12 % 12 = m % 12 := by
  rw [Int.tmod_eq_emod]
  split
  · omega
  · have : ((12 : Int).natAbs : Int) = 12 := rfl
    omega
theorem mod_nat (m : Int) : m % 12 = (((m % 12).toNat : Nat) : Int) ∧ (m % 12).toNat < 12 := by
  have h1 := Int.emod_nonneg m (show (12 : Int) ≠ 0 by omega)
  have h2 := Int.emod_lt_of_pos m (show (0 : Int) < 12 by omega)
  omega
theorem turns_any {s1 : Bool} {A1 : Option Addr} {n1 c1 : Nat} {l1 : List Nat} {s2 : Bool} {A2 : Option Addr} {n2 c2 : Nat} {l2 : List Nat} {s3 : Bool} {A3 : Option Addr} {n3 c3 : Nat} {l3 : List Nat} {s4 : Bool} {A4 : Option Addr} {n4 c4 : Nat} {l4 : List Nat} {s5 : Bool} {A5 : Option Addr} {n5 c5 : Nat} {l5 : List Nat} {s6 : Bool} {A6 : Option Addr} {n6 c6 : Nat} {l6 : List Nat} (j k : Int) (w : World)
    (r1 : RawG w s1 A1 n1 c1 l1 s2 A2 n2 c2 l2 s3 A3 n3 c3 l3) (r2 : RawG w s4 A4 n4 c4 l4 s5 A5 n5 c5 l5 s6 A6 n6 c6 l6) (hTab : Tab w) (a1 : -9223372036854775808 ≤ j) (a2 : j ≤ 9223372036854775807) (b1 : -9223372036854775808 ≤ k) (b2 : k ≤ 9223372036854775807) :
    Calls Tryz.prog 4 #[pv s1 A1 n1 c1 s2 A2 n2 c2 s3 A3 n3 c3 s4 A4 n4 c4 s5 A5 n5 c5 s6 A6 n6 c6, .int .i64 j, .int .i64 k] w fun e w' => e = .returned (.bool true) ∧ Ext w w' := by
  cases hl : [n1, n2, n3, n4, n5, n6].all (fun n => decide (n ≤ 12))
  · exact turns_large _ _ _ _ _ _ _ _ _ _ _ _ _ _ _ _ _ _ _ _ _ _ _ _ j k w a1 a2 b1 b2 hTab (Lib.hid hl)
  · have hl' : n1 ≤ 12 ∧ n2 ≤ 12 ∧ n3 ≤ 12 ∧ n4 ≤ 12 ∧ n5 ≤ 12 ∧ n6 ≤ 12 := by simpa using hl
    obtain ⟨k1, k2, k3, k4, k5, k6⟩ := hl'
    obtain ⟨bv, hbv⟩ := r2.vb k4 k5 k6 (by omega)
    rcases r1.cases k1 k2 k3 (by omega) with ⟨qu, hu⟩ | hb
    · rcases r2.cases k4 k5 k6 (by omega) with ⟨qv, hv⟩ | hb'
      · obtain ⟨hj1, hj2⟩ := mod_nat j
        obtain ⟨hk1, hk2⟩ := mod_nat k
        obtain ⟨hm1, hm2⟩ := mod_nat (j.tmod 12 + k.tmod 12)
        have e3 : (j.tmod 12 + k.tmod 12) % 12 = (j + k) % 12 := by rw [Int.add_emod, tmod_mod, tmod_mod, ← Int.add_emod]
        refine turns_ok _ ⟨qu, qv⟩ (32 * 12) j k _ _ _ _ _ w (PV.of hu hv) a1 a2 b1 b2 (by omega) (by omega) hTab (Lib.hid hj1) (Lib.hid hk1) (Lib.hid hm1) (Lib.hid ((tmod_mod j).trans hj1)) hj2 hk2 hm2 rfl rfl (tmod_range j).1 (tmod_range j).2 (tmod_range k).1 (tmod_range k).2 (Lib.hid ?_) (Lib.hid ?_)
        · rw [PQ.mul_assoc', ← PQ.zp_add, ← PQ.zp_mod]
          congr 2
          omega
        · exact PQ.mul_one' _
      · exact turns_badv _ _ _ _ _ _ _ _ _ _ _ _ _ _ _ _ _ _ _ _ _ _ _ _ j k w (hu.vb (by omega)) hb' a1 a2 b1 b2 hTab (Lib.hid hl)
    · exact turns_badu _ _ _ _ _ _ _ _ _ _ _ _ _ _ _ _ _ _ _ _ _ _ _ _ j k bv w hb hbv a1 a2 b1 b2 hTab (Lib.hid hl)
end Go.Proofs.YtjeijmnhbckjdaaGreatDoor
