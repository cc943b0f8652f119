/- Valid and its specification: whatever the value holds. -/
import Derived.Test.YtclkkoiaaddllaaGreatQNGpcea
import Derived.Test.YtclkkoiaaddllaaGreatQNJmaak
import Derived.Test.YtclkkoiaaddllaaGreatQNDeooe

namespace Go.Proofs.YtclkkoiaaddllaaGreat
open Go.RowKit
set_option linter.unusedVariables false

set_option maxRecDepth 100000 in
set_option maxHeartbeats 800000 in
theorem qValid_A (s0a : Bool) (A0a : Option Addr) (n0a c0a : Nat) (l0a : List Nat) (s0b : Bool) (A0b : Option Addr) (n0b c0b : Nat) (l0b : List Nat) (s0d : Bool) (A0d : Option Addr) (n0d c0d : Nat) (l0d : List Nat) (w : World) (hr0a : RX w (iv s0a A0a n0a c0a) s0a l0a) (hr0b : RX w (iv s0b A0b n0b c0b) s0b l0b) (hr0d : RX w (iv s0d A0d n0d c0d) s0d l0d) (H1 : Hid (validB s0a l0a = false))
      :
    Calls Tryz.prog 42 #[gv s0a A0a n0a c0a s0b A0b n0b c0b s0d A0d n0d c0d] w fun e w' => e = .returned (.bool false) ∧ Ext w w' := by
  have hS := St.start w
  replace hS := hS.addN hr0a
  clear hr0a
  replace hS := hS.addN hr0b
  clear hr0b
  replace hS := hS.addN hr0d
  clear hr0d
  have o1 : Own w w.heap.size := Own.of hS.ext (by simp)
  have hT1 := (St.al hS 32 #[.bool s0a, .slice A0a n0a c0a, .bool s0b, .slice A0b n0b c0b, .bool s0d, .slice A0d n0d c0d] (g := w.heap.size) (by simp))
  have k_1 := (hT1.blk 0 rfl).cell
  go_enter Tryz.func42, Tryz.ntmps42
  go_wp2_with fail
  clear k_1
  clear hT1
  replace hS := (St.al hS 32 #[.bool s0a, .slice A0a n0a c0a, .bool s0b, .slice A0b n0b c0b, .bool s0d, .slice A0d n0d c0d] (g := w.heap.size) (by simp))
  generalize (w.alloc (.cells #[.bool s0a, .slice A0a n0a c0a, .bool s0b, .slice A0b n0b c0b, .bool s0d, .slice A0d n0d c0d] 32)) = w1 at hS ⊢
  generalize w.heap.size = g1 at hS o1 ⊢
  refine (rValid_at _ s0a l0a false _ (hS.num 2 rfl) H1.out).mono ?_
  rintro e w2 ⟨rfl, hx_⟩
  replace hS := hS.mv hx_
  clear hx_
  go_wp2
  go_ret
  exact ⟨ret_bool (rfl), hS.ext⟩

set_option maxRecDepth 100000 in
set_option maxHeartbeats 800000 in
theorem qValid_B (s0a : Bool) (A0a : Option Addr) (n0a c0a : Nat) (l0a : List Nat) (s0b : Bool) (A0b : Option Addr) (n0b c0b : Nat) (l0b : List Nat) (s0d : Bool) (A0d : Option Addr) (n0d c0d : Nat) (l0d : List Nat) (w : World) (hr0a : RX w (iv s0a A0a n0a c0a) s0a l0a) (hr0b : RX w (iv s0b A0b n0b c0b) s0b l0b) (hr0d : RX w (iv s0d A0d n0d c0d) s0d l0d) (H1 : Hid (validB s0a l0a = true)) (H2 : Hid (validB s0b l0b = false))
      :
    Calls Tryz.prog 42 #[gv s0a A0a n0a c0a s0b A0b n0b c0b s0d A0d n0d c0d] w fun e w' => e = .returned (.bool false) ∧ Ext w w' := by
  have hS := St.start w
  replace hS := hS.addN hr0a
  clear hr0a
  replace hS := hS.addN hr0b
  clear hr0b
  replace hS := hS.addN hr0d
  clear hr0d
  have o1 : Own w w.heap.size := Own.of hS.ext (by simp)
  have hT1 := (St.al hS 32 #[.bool s0a, .slice A0a n0a c0a, .bool s0b, .slice A0b n0b c0b, .bool s0d, .slice A0d n0d c0d] (g := w.heap.size) (by simp))
  have k_1 := (hT1.blk 0 rfl).cell
  go_enter Tryz.func42, Tryz.ntmps42
  go_wp2_with fail
  clear k_1
  clear hT1
  replace hS := (St.al hS 32 #[.bool s0a, .slice A0a n0a c0a, .bool s0b, .slice A0b n0b c0b, .bool s0d, .slice A0d n0d c0d] (g := w.heap.size) (by simp))
  generalize (w.alloc (.cells #[.bool s0a, .slice A0a n0a c0a, .bool s0b, .slice A0b n0b c0b, .bool s0d, .slice A0d n0d c0d] 32)) = w1 at hS ⊢
  generalize w.heap.size = g1 at hS o1 ⊢
  refine (rValid_at _ s0a l0a true _ (hS.num 2 rfl) H1.out).mono ?_
  rintro e w2 ⟨rfl, hx_⟩
  replace hS := hS.mv hx_
  clear hx_
  have k_2 := (hS.blk 0 rfl).cell
  go_wp2_with fail
  clear k_2
  refine (rValid_at _ s0b l0b false _ (hS.num 1 rfl) H2.out).mono ?_
  rintro e w3 ⟨rfl, hx_⟩
  replace hS := hS.mv hx_
  clear hx_
  go_wp2
  go_ret
  exact ⟨ret_bool (rfl), hS.ext⟩

set_option maxRecDepth 100000 in
set_option maxHeartbeats 800000 in
theorem qValid_C (s0a : Bool) (A0a : Option Addr) (n0a c0a : Nat) (l0a : List Nat) (s0b : Bool) (A0b : Option Addr) (n0b c0b : Nat) (l0b : List Nat) (s0d : Bool) (A0d : Option Addr) (n0d c0d : Nat) (l0d : List Nat) (w : World) (hr0a : RX w (iv s0a A0a n0a c0a) s0a l0a) (hr0b : RX w (iv s0b A0b n0b c0b) s0b l0b) (hr0d : RX w (iv s0d A0d n0d c0d) s0d l0d) (H1 : Hid (validB s0a l0a = true)) (H2 : Hid (validB s0b l0b = true)) (H3 : Hid (validB s0d l0d = false))
      :
    Calls Tryz.prog 42 #[gv s0a A0a n0a c0a s0b A0b n0b c0b s0d A0d n0d c0d] w fun e w' => e = .returned (.bool false) ∧ Ext w w' := by
  have hS := St.start w
  replace hS := hS.addN hr0a
  clear hr0a
  replace hS := hS.addN hr0b
  clear hr0b
  replace hS := hS.addN hr0d
  clear hr0d
  have o1 : Own w w.heap.size := Own.of hS.ext (by simp)
  have hT1 := (St.al hS 32 #[.bool s0a, .slice A0a n0a c0a, .bool s0b, .slice A0b n0b c0b, .bool s0d, .slice A0d n0d c0d] (g := w.heap.size) (by simp))
  have k_1 := (hT1.blk 0 rfl).cell
  go_enter Tryz.func42, Tryz.ntmps42
  go_wp2_with fail
  clear k_1
  clear hT1
  replace hS := (St.al hS 32 #[.bool s0a, .slice A0a n0a c0a, .bool s0b, .slice A0b n0b c0b, .bool s0d, .slice A0d n0d c0d] (g := w.heap.size) (by simp))
  generalize (w.alloc (.cells #[.bool s0a, .slice A0a n0a c0a, .bool s0b, .slice A0b n0b c0b, .bool s0d, .slice A0d n0d c0d] 32)) = w1 at hS ⊢
  generalize w.heap.size = g1 at hS o1 ⊢
  refine (rValid_at _ s0a l0a true _ (hS.num 2 rfl) H1.out).mono ?_
  rintro e w2 ⟨rfl, hx_⟩
  replace hS := hS.mv hx_
  clear hx_
  have k_2 := (hS.blk 0 rfl).cell
  go_wp2_with fail
  clear k_2
  refine (rValid_at _ s0b l0b true _ (hS.num 1 rfl) H2.out).mono ?_
  rintro e w3 ⟨rfl, hx_⟩
  replace hS := hS.mv hx_
  clear hx_
  have k_3 := (hS.blk 0 rfl).cell
  go_wp2_with fail
  clear k_3
  refine (rValid_at _ s0d l0d false _ (hS.num 0 rfl) H3.out).mono ?_
  rintro e w4 ⟨rfl, hx_⟩
  replace hS := hS.mv hx_
  clear hx_
  go_wp2
  go_ret
  exact ⟨ret_bool (rfl), hS.ext⟩

set_option maxRecDepth 100000 in
set_option maxHeartbeats 800000 in
theorem qValid_D (v0 : Value) (x0a x0b x0d : Int) (w : World) (hX0 : RG w v0 x0a x0b x0d) (ax0a : x0a.natAbs < lim) (ax0b : x0b.natAbs < lim) (ax0d : x0d.natAbs < lim) (H1 : Hid (x0d < 0))
      :
    Calls Tryz.prog 42 #[v0] w fun e w' => e = .returned (.bool false) ∧ Ext w w' := by
  have hS := St.start w
  obtain ⟨sx0a, Ax0a, nx0a, cx0a, sx0b, Ax0b, nx0b, cx0b, sx0d, Ax0d, nx0d, cx0d, rfl, hx0a, hx0b, hx0d⟩ := hX0
  replace hS := hS.addI hx0a
  clear hx0a
  replace hS := hS.addI hx0b
  clear hx0b
  replace hS := hS.addI hx0d
  clear hx0d
  have o1 : Own w w.heap.size := Own.of hS.ext (by simp)
  have hT1 := (St.al hS 32 #[.bool sx0a, .slice Ax0a nx0a cx0a, .bool sx0b, .slice Ax0b nx0b cx0b, .bool sx0d, .slice Ax0d nx0d cx0d] (g := w.heap.size) (by simp))
  have k_1 := (hT1.blk 0 rfl).cell
  go_enter Tryz.func42, Tryz.ntmps42
  go_wp2_with fail
  clear k_1
  clear hT1
  replace hS := (St.al hS 32 #[.bool sx0a, .slice Ax0a nx0a cx0a, .bool sx0b, .slice Ax0b nx0b cx0b, .bool sx0d, .slice Ax0d nx0d cx0d] (g := w.heap.size) (by simp))
  generalize (w.alloc (.cells #[.bool sx0a, .slice Ax0a nx0a cx0a, .bool sx0b, .slice Ax0b nx0b cx0b, .bool sx0d, .slice Ax0d nx0d cx0d] 32)) = w1 at hS ⊢
  generalize w.heap.size = g1 at hS o1 ⊢
  refine (rValid_yes _ x0a _ (hS.num 2 rfl) ax0a).mono ?_
  rintro e w2 ⟨rfl, hx_⟩
  replace hS := hS.mv hx_
  clear hx_
  have k_2 := (hS.blk 0 rfl).cell
  go_wp2_with fail
  clear k_2
  refine (rValid_yes _ x0b _ (hS.num 1 rfl) ax0b).mono ?_
  rintro e w3 ⟨rfl, hx_⟩
  replace hS := hS.mv hx_
  clear hx_
  have k_3 := (hS.blk 0 rfl).cell
  go_wp2_with fail
  clear k_3
  refine (rValid_yes _ x0d _ (hS.num 0 rfl) ax0d).mono ?_
  rintro e w4 ⟨rfl, hx_⟩
  replace hS := hS.mv hx_
  clear hx_
  have k_4 := (hS.blk 0 rfl).cell
  go_wp2_with fail
  clear k_4
  refine (rSign_at _ x0d (-1) _ (hS.num 0 rfl) ax0d (cmpZ_neg H1.out)).mono ?_
  rintro e w5 ⟨rfl, hx_⟩
  replace hS := hS.mv hx_
  clear hx_
  go_wp2
  go_ret
  exact ⟨ret_bool (rfl), hS.ext⟩

set_option maxRecDepth 100000 in
set_option maxHeartbeats 800000 in
theorem qValid_Z (v0 : Value) (x0a x0b x0d : Int) (w : World) (hX0 : RG w v0 x0a x0b x0d) (ax0a : x0a.natAbs < lim) (ax0b : x0b.natAbs < lim) (ax0d : x0d.natAbs < lim) (H1 : Hid (x0d = 0))
      :
    Calls Tryz.prog 42 #[v0] w fun e w' => e = .returned (.bool false) ∧ Ext w w' := by
  have hS := St.start w
  obtain ⟨sx0a, Ax0a, nx0a, cx0a, sx0b, Ax0b, nx0b, cx0b, sx0d, Ax0d, nx0d, cx0d, rfl, hx0a, hx0b, hx0d⟩ := hX0
  replace hS := hS.addI hx0a
  clear hx0a
  replace hS := hS.addI hx0b
  clear hx0b
  replace hS := hS.addI hx0d
  clear hx0d
  have o1 : Own w w.heap.size := Own.of hS.ext (by simp)
  have hT1 := (St.al hS 32 #[.bool sx0a, .slice Ax0a nx0a cx0a, .bool sx0b, .slice Ax0b nx0b cx0b, .bool sx0d, .slice Ax0d nx0d cx0d] (g := w.heap.size) (by simp))
  have k_1 := (hT1.blk 0 rfl).cell
  go_enter Tryz.func42, Tryz.ntmps42
  go_wp2_with fail
  clear k_1
  clear hT1
  replace hS := (St.al hS 32 #[.bool sx0a, .slice Ax0a nx0a cx0a, .bool sx0b, .slice Ax0b nx0b cx0b, .bool sx0d, .slice Ax0d nx0d cx0d] (g := w.heap.size) (by simp))
  generalize (w.alloc (.cells #[.bool sx0a, .slice Ax0a nx0a cx0a, .bool sx0b, .slice Ax0b nx0b cx0b, .bool sx0d, .slice Ax0d nx0d cx0d] 32)) = w1 at hS ⊢
  generalize w.heap.size = g1 at hS o1 ⊢
  refine (rValid_yes _ x0a _ (hS.num 2 rfl) ax0a).mono ?_
  rintro e w2 ⟨rfl, hx_⟩
  replace hS := hS.mv hx_
  clear hx_
  have k_2 := (hS.blk 0 rfl).cell
  go_wp2_with fail
  clear k_2
  refine (rValid_yes _ x0b _ (hS.num 1 rfl) ax0b).mono ?_
  rintro e w3 ⟨rfl, hx_⟩
  replace hS := hS.mv hx_
  clear hx_
  have k_3 := (hS.blk 0 rfl).cell
  go_wp2_with fail
  clear k_3
  refine (rValid_yes _ x0d _ (hS.num 0 rfl) ax0d).mono ?_
  rintro e w4 ⟨rfl, hx_⟩
  replace hS := hS.mv hx_
  clear hx_
  have k_4 := (hS.blk 0 rfl).cell
  go_wp2_with fail
  clear k_4
  refine (rSign_at _ x0d (0) _ (hS.num 0 rfl) ax0d (cmpZ_zero H1.out)).mono ?_
  rintro e w5 ⟨rfl, hx_⟩
  replace hS := hS.mv hx_
  clear hx_
  go_wp2
  go_ret
  exact ⟨ret_bool (rfl), hS.ext⟩

set_option maxRecDepth 100000 in
set_option maxHeartbeats 1600000 in
theorem qValid_E (v0 : Value) (aq ar a5 : Int) (w : World) (hX0 : RG w v0 aq ar a5) (au : aq.natAbs < lim) (av : ar.natAbs < lim) (a6 : a5.natAbs < lim) (H1 : Hid (0 < a5))
    (a0 : Int) (E29 : Hid (a0 = (Nat.gcd aq.natAbs ar.natAbs : Nat))) (A29 : a0.natAbs < lim)
    (a1 : Int) (E32 : Hid (a1 = (Nat.gcd a0.natAbs a5.natAbs : Nat))) (A32 : a1.natAbs < lim) (H2 : Hid (cmpZ a1 (1 : Int) = 0)) :
    Calls Tryz.prog 42 #[v0] w fun e w' => e = .returned (.bool true) ∧ Ext w w' := by
  have hS := St.start w
  obtain ⟨a7, a8, a9, aa, ab, ac, ad, ae, af, ag, ah, ai, rfl, aw, ax, ay⟩ := hX0
  replace hS := hS.addI aw
  clear aw
  replace hS := hS.addI ax
  clear ax
  replace hS := hS.addI ay
  clear ay
  have o1 : Own w w.heap.size := Own.of hS.ext (by simp)
  have aL := (St.al hS 32 #[.bool a7, .slice a8 a9 aa, .bool ab, .slice ac ad ae, .bool af, .slice ag ah ai] (g := w.heap.size) (by simp))
  have k_1 := (aL.blk 0 rfl).cell
  go_enter Tryz.func42, Tryz.ntmps42
  go_wp2_with fail
  clear k_1
  clear aL
  replace hS := (St.al hS 32 #[.bool a7, .slice a8 a9 aa, .bool ab, .slice ac ad ae, .bool af, .slice ag ah ai] (g := w.heap.size) (by simp))
  generalize (w.alloc (.cells #[.bool a7, .slice a8 a9 aa, .bool ab, .slice ac ad ae, .bool af, .slice ag ah ai] 32)) = w1 at hS ⊢
  generalize w.heap.size = g1 at hS o1 ⊢
  refine (rValid_yes _ aq _ (hS.num 2 rfl) au).mono ?_
  rintro e w2 ⟨rfl, hx_⟩
  replace hS := hS.mv hx_
  clear hx_
  have k_2 := (hS.blk 0 rfl).cell
  go_wp2_with fail
  clear k_2
  refine (rValid_yes _ ar _ (hS.num 1 rfl) av).mono ?_
  rintro e w3 ⟨rfl, hx_⟩
  replace hS := hS.mv hx_
  clear hx_
  have k_3 := (hS.blk 0 rfl).cell
  go_wp2_with fail
  clear k_3
  refine (rValid_yes _ a5 _ (hS.num 0 rfl) a6).mono ?_
  rintro e w4 ⟨rfl, hx_⟩
  replace hS := hS.mv hx_
  clear hx_
  have k_4 := (hS.blk 0 rfl).cell
  go_wp2_with fail
  clear k_4
  refine (rSign_at _ a5 (1) _ (hS.num 0 rfl) a6 (cmpZ_pos H1.out)).mono ?_
  rintro e w5 ⟨rfl, hx_⟩
  replace hS := hS.mv hx_
  clear hx_
  go_wp2_with fail
  have Y1 := ExtOf.blk (hS.blk 0 rfl)
  have hE_ := hS.ext
  refine wp_region_tame 11 (hasF [(4, .any), (7, .any), (8, .any), (9, .any)]) (Fcs [(4, .ri (a0)), (7, .ri (a1)), (8, .ri ((1 : Int))), (9, .eq (.int .i64 (0)))]) (Fcs_stab _) (by kernel_rfl) (by kernel_rfl) ?_
  simp only [tk1, tk0, dp1, dp0]
  refine wpT_quiet 4 (by rfl) (by kernel_rfl) ?_
  simp only [tk1, tk0, dp1, dp0]
  repeat (go_big_quiet_step (fail))
  refine wpQuiet_nil ?_
  refine wpT_eff (by rfl) (by rfl) (by rfl) ?_ ?_
  · intro W_ hK
    have hW := hK.1
    clear hK
    go_simp
    exact ⟨rfl, (qgcd_ok _ _ aq ar a0 _ (RI.ext (hS.num 2 rfl) hW) (RI.ext (hS.num 1 rfl) hW) au av E29.out).mono fun e w' ⟨v, he, hR, hx⟩ => ⟨v, he, hx, hR⟩⟩
  intro v_ aj ak hr_
  obtain ⟨W_, hW_⟩ := hr_
  have hv_ : Fc.holds (.ri (a0)) aj ak v_ W_ := hW_.get
  clear hW_
  obtain ⟨aC, a2, aD, aE, rfl, -⟩ := RI.opn hv_
  clear hv_
  clear W_
  try simp only [Act.put, sa0, sa1, sa2]
  refine wpT_quiet 2 (by rfl) (by kernel_rfl) ?_
  simp only [tk1, tk0, dp1, dp0]
  repeat (go_big_quiet_step (fail))
  refine wpQuiet_nil ?_
  refine wpT_eff (by rfl) (by rfl) (by rfl) ?_ ?_
  · intro W_ hK
    have hW := hK.1
    have az : RI W_ (iv aC a2 aD aE) a0 := hK.2 4 ((iv aC a2 aD aE), aj, ak) (by rfl) (by kernel_rfl)
    clear hK
    go_simp
    exact ⟨rfl, (qgcd_ok _ _ a0 a5 a1 _ az (RI.ext (hS.num 0 rfl) hW) A29 a6 E32.out).mono fun e w' ⟨v, he, hR, hx⟩ => ⟨v, he, hx, hR⟩⟩
  intro v_ am an hr_
  obtain ⟨W_, hW_⟩ := hr_
  have hv_ : Fc.holds (.ri (a1)) am an v_ W_ := hW_.get
  clear hW_
  obtain ⟨aF, a3, aG, aH, rfl, -⟩ := RI.opn hv_
  clear hv_
  clear W_
  try simp only [Act.put, sa0, sa1, sa2]
  refine wpT_eff (by rfl) (by rfl) (by rfl) ?_ ?_
  · intro W_ hK
    have hW := hK.1
    clear hK
    go_simp
    exact ⟨rfl, (qOf_ok (1) _ (by omega) (by omega)).mono fun e w' ⟨v, he, hR, hx⟩ => ⟨v, he, hx, hR⟩⟩
  intro v_ ao ap hr_
  obtain ⟨W_, hW_⟩ := hr_
  have hv_ : Fc.holds (.ri ((1 : Int))) ao ap v_ W_ := hW_.get
  clear hW_
  obtain ⟨aI, a4, aJ, aK, rfl, -⟩ := RI.opn hv_
  clear hv_
  clear W_
  try simp only [Act.put, sa0, sa1, sa2]
  refine wpT_eff (by rfl) (by rfl) (by rfl) ?_ ?_
  · intro W_ hK
    have hW := hK.1
    have aA : RI W_ (iv aF a3 aG aH) a1 := hK.2 7 ((iv aF a3 aG aH), am, an) (by rfl) (by kernel_rfl)
    have aB : RI W_ (iv aI a4 aJ aK) (1 : Int) := hK.2 8 ((iv aI a4 aJ aK), ao, ap) (by rfl) (by kernel_rfl)
    clear hK
    go_simp
    exact ⟨rfl, (rCompare_at _ _ a1 (1 : Int) (0) _ aA aB A32 (lt_lim64 (by omega) (by omega)) H2.out).mono fun e w' ⟨he, hx⟩ => ⟨_, he, hx, rfl⟩⟩
  intro v_ lo34 hi34 hr_
  obtain ⟨W_, hW_⟩ := hr_
  obtain rfl : v_ = .int .i64 (0) := hW_.get
  clear hW_ W_
  try simp only [Act.put, sa0, sa1, sa2]
  refine wpT_quiet 1 (by rfl) (by kernel_rfl) ?_
  simp only [tk1, tk0, dp1, dp0]
  repeat (go_big_quiet_step (fail))
  refine wpQuiet_nil ?_
  refine wpT_nil ?_
  intro w6 hK
  have hlt_ := hS.lt
  replace hS := hS.mv hK.ext
  replace hS := hS.addI (show RI w6 (iv aC a2 aD aE) a0 from hK.at_ 4 (e := ((iv aC a2 aD aE), aj, ak)) (by rfl))
  replace hS := hS.addI (show RI w6 (iv aF a3 aG aH) a1 from hK.at_ 7 (e := ((iv aF a3 aG aH), am, an)) (by rfl))
  replace hS := hS.addI (show RI w6 (iv aI a4 aJ aK) (1 : Int) from hK.at_ 8 (e := ((iv aI a4 aJ aK), ao, ap)) (by rfl))
  clear hK hlt_ hE_ Y1
  go_wp2
  go_ret
  exact ⟨ret_bool (rfl), hS.ext⟩

set_option maxRecDepth 100000 in
set_option maxHeartbeats 1600000 in
theorem qValid_F (v0 : Value) (aq ar a5 : Int) (w : World) (hX0 : RG w v0 aq ar a5) (au : aq.natAbs < lim) (av : ar.natAbs < lim) (a6 : a5.natAbs < lim) (H1 : Hid (0 < a5))
    (a0 : Int) (E29 : Hid (a0 = (Nat.gcd aq.natAbs ar.natAbs : Nat))) (A29 : a0.natAbs < lim)
    (a1 : Int) (E32 : Hid (a1 = (Nat.gcd a0.natAbs a5.natAbs : Nat))) (A32 : a1.natAbs < lim) (H2 : Hid (cmpZ a1 (1 : Int) = 1)) :
    Calls Tryz.prog 42 #[v0] w fun e w' => e = .returned (.bool false) ∧ Ext w w' := by
  have hS := St.start w
  obtain ⟨a7, a8, a9, aa, ab, ac, ad, ae, af, ag, ah, ai, rfl, aw, ax, ay⟩ := hX0
  replace hS := hS.addI aw
  clear aw
  replace hS := hS.addI ax
  clear ax
  replace hS := hS.addI ay
  clear ay
  have o1 : Own w w.heap.size := Own.of hS.ext (by simp)
  have aL := (St.al hS 32 #[.bool a7, .slice a8 a9 aa, .bool ab, .slice ac ad ae, .bool af, .slice ag ah ai] (g := w.heap.size) (by simp))
  have k_1 := (aL.blk 0 rfl).cell
  go_enter Tryz.func42, Tryz.ntmps42
  go_wp2_with fail
  clear k_1
  clear aL
  replace hS := (St.al hS 32 #[.bool a7, .slice a8 a9 aa, .bool ab, .slice ac ad ae, .bool af, .slice ag ah ai] (g := w.heap.size) (by simp))
  generalize (w.alloc (.cells #[.bool a7, .slice a8 a9 aa, .bool ab, .slice ac ad ae, .bool af, .slice ag ah ai] 32)) = w1 at hS ⊢
  generalize w.heap.size = g1 at hS o1 ⊢
  refine (rValid_yes _ aq _ (hS.num 2 rfl) au).mono ?_
  rintro e w2 ⟨rfl, hx_⟩
  replace hS := hS.mv hx_
  clear hx_
  have k_2 := (hS.blk 0 rfl).cell
  go_wp2_with fail
  clear k_2
  refine (rValid_yes _ ar _ (hS.num 1 rfl) av).mono ?_
  rintro e w3 ⟨rfl, hx_⟩
  replace hS := hS.mv hx_
  clear hx_
  have k_3 := (hS.blk 0 rfl).cell
  go_wp2_with fail
  clear k_3
  refine (rValid_yes _ a5 _ (hS.num 0 rfl) a6).mono ?_
  rintro e w4 ⟨rfl, hx_⟩
  replace hS := hS.mv hx_
  clear hx_
  have k_4 := (hS.blk 0 rfl).cell
  go_wp2_with fail
  clear k_4
  refine (rSign_at _ a5 (1) _ (hS.num 0 rfl) a6 (cmpZ_pos H1.out)).mono ?_
  rintro e w5 ⟨rfl, hx_⟩
  replace hS := hS.mv hx_
  clear hx_
  go_wp2_with fail
  have Y1 := ExtOf.blk (hS.blk 0 rfl)
  have hE_ := hS.ext
  refine wp_region_tame 11 (hasF [(4, .any), (7, .any), (8, .any), (9, .any)]) (Fcs [(4, .ri (a0)), (7, .ri (a1)), (8, .ri ((1 : Int))), (9, .eq (.int .i64 (1)))]) (Fcs_stab _) (by kernel_rfl) (by kernel_rfl) ?_
  simp only [tk1, tk0, dp1, dp0]
  refine wpT_quiet 4 (by rfl) (by kernel_rfl) ?_
  simp only [tk1, tk0, dp1, dp0]
  repeat (go_big_quiet_step (fail))
  refine wpQuiet_nil ?_
  refine wpT_eff (by rfl) (by rfl) (by rfl) ?_ ?_
  · intro W_ hK
    have hW := hK.1
    clear hK
    go_simp
    exact ⟨rfl, (qgcd_ok _ _ aq ar a0 _ (RI.ext (hS.num 2 rfl) hW) (RI.ext (hS.num 1 rfl) hW) au av E29.out).mono fun e w' ⟨v, he, hR, hx⟩ => ⟨v, he, hx, hR⟩⟩
  intro v_ aj ak hr_
  obtain ⟨W_, hW_⟩ := hr_
  have hv_ : Fc.holds (.ri (a0)) aj ak v_ W_ := hW_.get
  clear hW_
  obtain ⟨aC, a2, aD, aE, rfl, -⟩ := RI.opn hv_
  clear hv_
  clear W_
  try simp only [Act.put, sa0, sa1, sa2]
  refine wpT_quiet 2 (by rfl) (by kernel_rfl) ?_
  simp only [tk1, tk0, dp1, dp0]
  repeat (go_big_quiet_step (fail))
  refine wpQuiet_nil ?_
  refine wpT_eff (by rfl) (by rfl) (by rfl) ?_ ?_
  · intro W_ hK
    have hW := hK.1
    have az : RI W_ (iv aC a2 aD aE) a0 := hK.2 4 ((iv aC a2 aD aE), aj, ak) (by rfl) (by kernel_rfl)
    clear hK
    go_simp
    exact ⟨rfl, (qgcd_ok _ _ a0 a5 a1 _ az (RI.ext (hS.num 0 rfl) hW) A29 a6 E32.out).mono fun e w' ⟨v, he, hR, hx⟩ => ⟨v, he, hx, hR⟩⟩
  intro v_ am an hr_
  obtain ⟨W_, hW_⟩ := hr_
  have hv_ : Fc.holds (.ri (a1)) am an v_ W_ := hW_.get
  clear hW_
  obtain ⟨aF, a3, aG, aH, rfl, -⟩ := RI.opn hv_
  clear hv_
  clear W_
  try simp only [Act.put, sa0, sa1, sa2]
  refine wpT_eff (by rfl) (by rfl) (by rfl) ?_ ?_
  · intro W_ hK
    have hW := hK.1
    clear hK
    go_simp
    exact ⟨rfl, (qOf_ok (1) _ (by omega) (by omega)).mono fun e w' ⟨v, he, hR, hx⟩ => ⟨v, he, hx, hR⟩⟩
  intro v_ ao ap hr_
  obtain ⟨W_, hW_⟩ := hr_
  have hv_ : Fc.holds (.ri ((1 : Int))) ao ap v_ W_ := hW_.get
  clear hW_
  obtain ⟨aI, a4, aJ, aK, rfl, -⟩ := RI.opn hv_
  clear hv_
  clear W_
  try simp only [Act.put, sa0, sa1, sa2]
  refine wpT_eff (by rfl) (by rfl) (by rfl) ?_ ?_
  · intro W_ hK
    have hW := hK.1
    have aA : RI W_ (iv aF a3 aG aH) a1 := hK.2 7 ((iv aF a3 aG aH), am, an) (by rfl) (by kernel_rfl)
    have aB : RI W_ (iv aI a4 aJ aK) (1 : Int) := hK.2 8 ((iv aI a4 aJ aK), ao, ap) (by rfl) (by kernel_rfl)
    clear hK
    go_simp
    exact ⟨rfl, (rCompare_at _ _ a1 (1 : Int) (1) _ aA aB A32 (lt_lim64 (by omega) (by omega)) H2.out).mono fun e w' ⟨he, hx⟩ => ⟨_, he, hx, rfl⟩⟩
  intro v_ lo34 hi34 hr_
  obtain ⟨W_, hW_⟩ := hr_
  obtain rfl : v_ = .int .i64 (1) := hW_.get
  clear hW_ W_
  try simp only [Act.put, sa0, sa1, sa2]
  refine wpT_quiet 1 (by rfl) (by kernel_rfl) ?_
  simp only [tk1, tk0, dp1, dp0]
  repeat (go_big_quiet_step (fail))
  refine wpQuiet_nil ?_
  refine wpT_nil ?_
  intro w6 hK
  have hlt_ := hS.lt
  replace hS := hS.mv hK.ext
  replace hS := hS.addI (show RI w6 (iv aC a2 aD aE) a0 from hK.at_ 4 (e := ((iv aC a2 aD aE), aj, ak)) (by rfl))
  replace hS := hS.addI (show RI w6 (iv aF a3 aG aH) a1 from hK.at_ 7 (e := ((iv aF a3 aG aH), am, an)) (by rfl))
  replace hS := hS.addI (show RI w6 (iv aI a4 aJ aK) (1 : Int) from hK.at_ 8 (e := ((iv aI a4 aJ aK), ao, ap)) (by rfl))
  clear hK hlt_ hE_ Y1
  go_wp2
  go_ret
  exact ⟨ret_bool (rfl), hS.ext⟩

theorem RI.le {w : World} {s : Bool} {A : Option Addr} {n c k : Nat} {z : Int} (h : RI w (iv s A n c) z) (hz : z.natAbs < 2 ^ (32 * k)) : n ≤ k := by
  obtain ⟨A', n', c', e, h'⟩ := h
  simp [iv] at e
  obtain ⟨_, _, rfl, _⟩ := e
  rw [← h'.len]
  exact digs_len_le (by rw [show (4294967296 : Nat) = 2 ^ 32 from rfl, ← Nat.pow_mul]; exact hz)
theorem bits_of {s : Bool} {l : List Nat} {k : Nat} (hd : Dig l) (h : l.length ≤ k) : (zOf s (val l)).natAbs < 2 ^ (32 * k) := by
  rw [zOf_abs]
  refine Nat.lt_of_lt_of_le (val_lt hd) ?_
  rw [show (4294967296 : Nat) = 2 ^ 32 from rfl, ← Nat.pow_mul]
  exact Nat.pow_le_pow_right (by omega) (by omega)
theorem RX.dig {w : World} {v : Value} {s : Bool} {l : List Nat} (h : RX w v s l) : Dig l := by
  obtain ⟨A, n, c, _, h'⟩ := h
  exact h'.dg
/-- Valid and its specification say b of the value, now and later. -/
def VB (w : World) (v : Value) (b : Bool) : Prop := ∀ w', Ext w w' → (Calls Tryz.prog 52 #[v] w' fun e w'' => e = .returned (.bool b) ∧ Ext w' w'') ∧ (Calls Tryz.prog 42 #[v] w' fun e w'' => e = .returned (.bool b) ∧ Ext w' w'')
theorem VB.ext {w w' : World} {v : Value} {b : Bool} (h : VB w v b) (x : Ext w w') : VB w' v b := fun w'' x' => h w'' (x.trans x')
theorem VB.e {w : World} {v : Value} {b : Bool} (h : VB w v b) : Calls Tryz.prog 52 #[v] w fun e w'' => e = .returned (.bool b) ∧ Ext w w'' := (h w (Ext.refl w)).1
theorem VB.q {w : World} {v : Value} {b : Bool} (h : VB w v b) : Calls Tryz.prog 42 #[v] w fun e w'' => e = .returned (.bool b) ∧ Ext w w'' := (h w (Ext.refl w)).2
theorem qValid_gv (v : Value) (q : GQ) (n : Nat) (w : World) (hX : GV w v q n) (hn : n ≤ 12800) :
    Calls Tryz.prog 42 #[v] w fun e w' => e = .returned (.bool true) ∧ Ext w w' := by
  obtain ⟨a, b, d, h1, h2, h3⟩ := hX
  obtain ⟨l1, l2, l3⟩ := h3.lims hn
  have e1 : (Nat.gcd (Nat.gcd a.natAbs b.natAbs) d.natAbs) = 1 := by rw [g3_ref, h2.low.2]
  have lg : ((Nat.gcd a.natAbs b.natAbs : Nat) : Int).natAbs < lim := by
    by_cases ha : a = 0
    · by_cases hb : b = 0
      · subst ha hb; simpa using lim0
      · exact Nat.lt_of_le_of_lt (Nat.gcd_le_right _ (by omega)) l2
    · exact Nat.lt_of_le_of_lt (Nat.gcd_le_left _ (by omega)) l1
  exact qValid_E v a b d w h1 l1 l2 l3 (Lib.hid h2.low.1) _ (Lib.hid rfl) lg 1 (Lib.hid (by rw [show (((Nat.gcd a.natAbs b.natAbs : Nat) : Int)).natAbs = Nat.gcd a.natAbs b.natAbs from Int.natAbs_natCast _, e1]; rfl)) lim1' (Lib.hid (by decide))
theorem GV.vb {w : World} {v : Value} {q : GQ} {n : Nat} (h : GV w v q n) (hn : n ≤ 12800) : VB w v true := fun w' x => ⟨eValid_gv v q n w' (h.ext x) hn, qValid_gv v q n w' (h.ext x) hn⟩
/-- Every value of three integers with at most k digits is a number, or both say that it is none. -/
theorem gauss_cases {w : World} {s1 s2 s3 : Bool} {A1 A2 A3 : Option Addr} {n1 c1 n2 c2 n3 c3 k : Nat} {l1 l2 l3 : List Nat} (h1 : RX w (iv s1 A1 n1 c1) s1 l1) (h2 : RX w (iv s2 A2 n2 c2) s2 l2) (h3 : RX w (iv s3 A3 n3 c3) s3 l3)
    (k1 : l1.length ≤ k) (k2 : l2.length ≤ k) (k3 : l3.length ≤ k) (hk : k ≤ 400) : (∃ q, GV w (gv s1 A1 n1 c1 s2 A2 n2 c2 s3 A3 n3 c3) q (32 * k)) ∨ VB w (gv s1 A1 n1 c1 s2 A2 n2 c2 s3 A3 n3 c3) false := by
  cases v1 : validB s1 l1
  · exact .inr fun w' x => ⟨eValid_A _ _ _ _ _ _ _ _ _ _ _ _ _ _ _ w' (h1.ext x) (h2.ext x) (h3.ext x) (Lib.hid v1), qValid_A _ _ _ _ _ _ _ _ _ _ _ _ _ _ _ w' (h1.ext x) (h2.ext x) (h3.ext x) (Lib.hid v1)⟩
  cases v2 : validB s2 l2
  · exact .inr fun w' x => ⟨eValid_B _ _ _ _ _ _ _ _ _ _ _ _ _ _ _ w' (h1.ext x) (h2.ext x) (h3.ext x) (Lib.hid v1) (Lib.hid v2), qValid_B _ _ _ _ _ _ _ _ _ _ _ _ _ _ _ w' (h1.ext x) (h2.ext x) (h3.ext x) (Lib.hid v1) (Lib.hid v2)⟩
  cases v3 : validB s3 l3
  · exact .inr fun w' x => ⟨eValid_C _ _ _ _ _ _ _ _ _ _ _ _ _ _ _ w' (h1.ext x) (h2.ext x) (h3.ext x) (Lib.hid v1) (Lib.hid v2) (Lib.hid v3), qValid_C _ _ _ _ _ _ _ _ _ _ _ _ _ _ _ w' (h1.ext x) (h2.ext x) (h3.ext x) (Lib.hid v1) (Lib.hid v2) (Lib.hid v3)⟩
  obtain ⟨r1, a1⟩ := RI.of_valid h1 v1
  obtain ⟨r2, a2⟩ := RI.of_valid h2 v2
  obtain ⟨r3, a3⟩ := RI.of_valid h3 v3
  have b1 := bits_of (s := s1) h1.dig k1
  have b2 := bits_of (s := s2) h2.dig k2
  have b3 := bits_of (s := s3) h3.dig k3
  have hR := RG.mk r1 r2 r3
  generalize zOf s1 (val l1) = a at *
  generalize zOf s2 (val l2) = b at *
  generalize zOf s3 (val l3) = d at *
  have z1 := lim_of b1 (by omega)
  have z2 := lim_of b2 (by omega)
  have z3 := lim_of b3 (by omega)
  rcases Int.lt_trichotomy d 0 with hd | hd | hd
  · exact .inr fun w' x => ⟨eValid_D _ a b d w' (hR.ext x) z1 z2 z3 (Lib.hid hd), qValid_D _ a b d w' (hR.ext x) z1 z2 z3 (Lib.hid hd)⟩
  · exact .inr fun w' x => ⟨eValid_Z _ a b d w' (hR.ext x) z1 z2 z3 (Lib.hid hd), qValid_Z _ a b d w' (hR.ext x) z1 z2 z3 (Lib.hid hd)⟩
  · by_cases hg : g3 a b d = 1
    · refine .inl ⟨⟨(a : Rat) / (d : Rat), (b : Rat) / (d : Rat)⟩, a, b, d, hR, ⟨⟨hd, hg⟩, rfl, rfl⟩, ⟨b1, b2, b3⟩⟩
    · have gb : g3 a b d ≤ d.natAbs := by
        have := (g3_dvd a b d).2.2
        exact Nat.le_of_dvd (by omega) (Int.ofNat_dvd_left.1 this)
      have lg3 : ((g3 a b d : Nat) : Int).natAbs < lim := by rw [Int.natAbs_natCast]; omega
      have lg : ((Nat.gcd a.natAbs b.natAbs : Nat) : Int).natAbs < lim := by
        rw [Int.natAbs_natCast]
        by_cases ha : a = 0
        · by_cases hb : b = 0
          · subst ha hb; simpa using lim0
          · exact Nat.lt_of_le_of_lt (Nat.gcd_le_right _ (by omega)) z2
        · exact Nat.lt_of_le_of_lt (Nat.gcd_le_left _ (by omega)) z1
      have e1 : ((gcdL [d, a, b] : Nat) : Int) = (g3 a b d : Nat) := by rw [gcdL_g3]
      have e2 : ((g3 a b d : Nat) : Int) = (Nat.gcd (((Nat.gcd a.natAbs b.natAbs : Nat) : Int)).natAbs d.natAbs : Nat) := by rw [Int.natAbs_natCast, g3_ref]
      have hc : cmpZ ((g3 a b d : Nat) : Int) 1 = 1 := by
        have := g3_pos (a := a) (b := b) (d := d) (by omega)
        unfold cmpZ
        rw [if_neg (by omega), if_pos (by omega)]
      exact .inr fun w' x => ⟨eValid_F _ a b d w' (hR.ext x) z1 z2 z3 (Lib.hid hd) (g3 a b d : Nat) (Lib.hid e1.symm) lg3 (Lib.hid (by omega)),
        qValid_F _ a b d w' (hR.ext x) z1 z2 z3 (Lib.hid hd) _ (Lib.hid rfl) lg (g3 a b d : Nat) (Lib.hid e2) lg3 (Lib.hid hc)⟩

end Go.Proofs.YtclkkoiaaddllaaGreat

namespace Go.Proofs.YtclkkoiaaddllaaGreat
set_option linter.unusedVariables false

namespace GQ
theorem add_comm' (x y : GQ) : x + y = y + x := by ext <;> simp only [add_re, add_im] <;> grind
theorem add_assoc' (x y z : GQ) : x + y + z = x + (y + z) := by ext <;> simp only [add_re, add_im] <;> grind
theorem mul_sub' (x y z : GQ) : x * (y - z) = x * y - x * z := by ext <;> simp only [sub_re, sub_im, mul_re, mul_im] <;> grind
theorem zero_mul' (x : GQ) : i 0 0 * x = i 0 0 := by ext <;> simp only [i_re, i_im, mul_re, mul_im] <;> grind
theorem mul_zero' (x : GQ) : x * i 0 0 = i 0 0 := by ext <;> simp only [i_re, i_im, mul_re, mul_im] <;> grind
theorem one_mul' (x : GQ) : i 1 0 * x = x := by ext <;> simp only [i_re, i_im, mul_re, mul_im] <;> grind
theorem mul_one' (x : GQ) : x * i 1 0 = x := by ext <;> simp only [i_re, i_im, mul_re, mul_im] <;> grind
theorem sub_zero' (x : GQ) : x - i 0 0 = x := by ext <;> simp only [i_re, i_im, sub_re, sub_im] <;> grind
theorem zero_sub' (x : GQ) : i 0 0 - x = -x := by ext <;> simp only [i_re, i_im, sub_re, sub_im, neg_re, neg_im] <;> grind
theorem sub_self' (x : GQ) : x - x = i 0 0 := by ext <;> simp only [i_re, i_im, sub_re, sub_im] <;> grind
theorem add_zero' (x : GQ) : x + i 0 0 = x := by ext <;> simp only [i_re, i_im, add_re, add_im] <;> grind
theorem neg_of_add {x y : GQ} (h : x + y = i 0 0) : x = -y := by
  have h1 := congrArg GQ.re h
  have h2 := congrArg GQ.im h
  simp only [add_re, add_im, i_re, i_im] at h1 h2
  ext <;> simp only [neg_re, neg_im] <;> grind
theorem zero_of_dbl {x : GQ} (h : x + x = i 0 0) : x = i 0 0 := by
  have h1 := congrArg GQ.re h
  have h2 := congrArg GQ.im h
  simp only [add_re, add_im, i_re, i_im] at h1 h2
  ext <;> simp only [i_re, i_im] <;> grind
theorem nrm_mul (x y : GQ) : (x * y).nrm = x.nrm * y.nrm := by unfold nrm; simp only [mul_re, mul_im]; grind
theorem mul_ne {x y : GQ} (hx : x ≠ i 0 0) (hy : y ≠ i 0 0) : x * y ≠ i 0 0 := by
  intro h
  have h1 := nrm_mul x y
  rw [h] at h1
  have h2 : (i 0 0).nrm = 0 := by unfold nrm; simp only [i_re, i_im]; grind
  rw [h2] at h1
  rcases Rat.mul_eq_zero.1 h1.symm with h | h
  · exact nrm_ne hx h
  · exact nrm_ne hy h
end GQ

/-- v times the minors of D, with alternating signs. -/
def dsum (v : Nat → GQ) (D : List Nat → GQ) : List Nat → GQ
  | [] => GQ.i 0 0
  | c :: cs => v c * D cs - dsum v (fun l => D (c :: l)) cs
/-- The determinant of rows over columns. -/
def det : List (Nat → GQ) → List Nat → GQ
  | [], _ => GQ.i 1 0
  | v :: R, cs => dsum v (det R) cs

theorem dsum_sub (v : Nat → GQ) (a : GQ) : ∀ (cs : List Nat) (D E : List Nat → GQ), dsum v (fun l => a * D l - E l) cs = a * dsum v D cs - dsum v E cs
  | [], D, E => by simp only [dsum, GQ.mul_zero', GQ.sub_zero']
  | c :: cs, D, E => by
    simp only [dsum, dsum_sub v a cs]
    ext <;> simp only [GQ.sub_re, GQ.sub_im, GQ.mul_re, GQ.mul_im] <;> grind
theorem dsum_row (v u : Nat → GQ) (f : GQ) : ∀ (cs : List Nat) (D : List Nat → GQ), dsum (fun c => v c - f * u c) D cs = dsum v D cs - f * dsum u D cs
  | [], D => by simp only [dsum, GQ.mul_zero', GQ.sub_zero']
  | c :: cs, D => by
    simp only [dsum, dsum_row v u f cs]
    ext <;> simp only [GQ.sub_re, GQ.sub_im, GQ.mul_re, GQ.mul_im] <;> grind
theorem dsum_none (v : Nat → GQ) : ∀ (cs : List Nat), dsum v (fun _ => GQ.i 0 0) cs = GQ.i 0 0
  | [] => rfl
  | c :: cs => by simp only [dsum, dsum_none v cs, GQ.mul_zero', GQ.sub_zero']
theorem dsum_swap (v u : Nat → GQ) : ∀ (cs : List Nat) (D : List Nat → GQ), dsum v (dsum u D) cs + dsum u (dsum v D) cs = GQ.i 0 0
  | [], D => by simp only [dsum, GQ.add_zero']
  | c :: cs, D => by
    have ih := dsum_swap v u cs (fun l => D (c :: l))
    have h1 : dsum v (fun l => dsum u D (c :: l)) cs = u c * dsum v D cs - dsum v (dsum u (fun l => D (c :: l))) cs := by
      rw [← dsum_sub]; rfl
    have h2 : dsum u (fun l => dsum v D (c :: l)) cs = v c * dsum u D cs - dsum u (dsum v (fun l => D (c :: l))) cs := by
      rw [← dsum_sub]; rfl
    have e1 : dsum v (dsum u D) (c :: cs) = v c * dsum u D cs - dsum v (fun l => dsum u D (c :: l)) cs := rfl
    have e2 : dsum u (dsum v D) (c :: cs) = u c * dsum v D cs - dsum u (fun l => dsum v D (c :: l)) cs := rfl
    rw [e1, e2, h1, h2]
    have i1 := congrArg GQ.re ih
    have i2 := congrArg GQ.im ih
    simp only [GQ.add_re, GQ.add_im, GQ.i_re, GQ.i_im] at i1 i2
    ext <;> simp only [GQ.add_re, GQ.add_im, GQ.sub_re, GQ.sub_im, GQ.mul_re, GQ.mul_im, GQ.i_re, GQ.i_im] <;> grind
theorem det_swap (v u : Nat → GQ) (R : List (Nat → GQ)) (cs : List Nat) : det (v :: u :: R) cs = -det (u :: v :: R) cs := by
  have h := dsum_swap v u cs (det R)
  exact GQ.neg_of_add h
theorem det_same (v : Nat → GQ) : ∀ (R : List (Nat → GQ)) (cs : List Nat), v ∈ R → det (v :: R) cs = GQ.i 0 0
  | [], _, h => by cases h
  | u :: R, cs, h => by
    by_cases e : v = u
    · subst e
      apply GQ.zero_of_dbl
      exact dsum_swap v v cs (det R)
    · have hm : v ∈ R := by
        rcases List.mem_cons.1 h with h | h
        · exact absurd h e
        · exact h
      rw [det_swap]
      have h0 : det (v :: R) = fun _ => GQ.i 0 0 := funext fun l => det_same v R l hm
      show -dsum u (det (v :: R)) cs = _
      rw [h0, dsum_none]
      ext <;> simp only [GQ.neg_re, GQ.neg_im, GQ.i_re, GQ.i_im] <;> grind
/-- What a row has become says the same as the row did, beside the rows P. -/
def Says (x a : Nat → GQ) (P : List (Nat → GQ)) : Prop := ∀ cs, det (x :: P) cs = det (a :: P) cs
theorem Says.refl (a : Nat → GQ) (P : List (Nat → GQ)) : Says a a P := fun _ => rfl
theorem Says.more {x a b : Nat → GQ} {P : List (Nat → GQ)} (h : Says x a P) : Says x a (b :: P) := by
  intro cs
  rw [det_swap, det_swap a]
  have : det (x :: P) = det (a :: P) := funext h
  show -dsum b (det (x :: P)) cs = -dsum b (det (a :: P)) cs
  rw [this]
/-- One step of elimination: f times the pivot row is subtracted. -/
theorem Says.step {x y a b : Nat → GQ} {P : List (Nat → GQ)} (hx : Says x a P) (hy : Says y b P) (f : GQ) : Says (fun c => x c - f * y c) a (b :: P) := by
  intro cs
  have h1 : det ((fun c => x c - f * y c) :: b :: P) cs = det (x :: b :: P) cs - f * det (y :: b :: P) cs := dsum_row x y f cs (det (b :: P))
  rw [h1, hx.more cs, hy.more cs, det_same b (b :: P) cs (List.mem_cons_self), GQ.mul_zero', GQ.sub_zero']
theorem dsum_only {x : Nat → GQ} : ∀ (cs : List Nat) (D : List Nat → GQ), (∀ c ∈ cs, x c = GQ.i 0 0) → dsum x D cs = GQ.i 0 0
  | [], _, _ => rfl
  | c :: cs, D, h => by
    show x c * D cs - dsum x (fun l => D (c :: l)) cs = _
    rw [h c (List.mem_cons_self), dsum_only cs _ (fun d hd => h d (List.mem_cons_of_mem _ hd)), GQ.zero_mul', GQ.sub_zero']
/-- An entry of a row with zeros at the pivots' columns. -/
theorem Says.entry {x a : Nat → GQ} {P : List (Nat → GQ)} {q : List Nat} (h : Says x a P) (hz : ∀ c ∈ q, x c = GQ.i 0 0) (j : Nat) : det (a :: P) (j :: q) = x j * det P q := by
  rw [← h]
  show x j * det P q - dsum x _ q = _
  rw [dsum_only q _ hz, GQ.sub_zero']

/-! Whole numbers and their sizes. -/
/-- A whole complex number, its parts' magnitudes together at most B. -/
def Wh (x : GQ) (B : Nat) : Prop := ∃ a b : Int, x = GQ.i a b ∧ a.natAbs + b.natAbs ≤ B
theorem Wh.mono {x : GQ} {B C : Nat} (h : Wh x B) (hBC : B ≤ C) : Wh x C := by
  obtain ⟨a, b, e, h⟩ := h
  exact ⟨a, b, e, by omega⟩
theorem Wh.mul {x y : GQ} {B C : Nat} (hx : Wh x B) (hy : Wh y C) : Wh (x * y) (B * C) := by
  obtain ⟨a, b, rfl, h⟩ := hx
  obtain ⟨c, d, rfl, k⟩ := hy
  refine ⟨a * c - b * d, a * d + b * c, ?_, ?_⟩
  · ext <;> simp only [GQ.mul_re, GQ.mul_im, GQ.i_re, GQ.i_im, Rat.intCast_sub, Rat.intCast_add, Rat.intCast_mul]
  · have h1 := Int.natAbs_sub_le (a * c) (b * d)
    have h2 := Int.natAbs_add_le (a * d) (b * c)
    have h3 : (a.natAbs + b.natAbs) * (c.natAbs + d.natAbs) ≤ B * C := Nat.mul_le_mul h k
    have h4 : (a.natAbs + b.natAbs) * (c.natAbs + d.natAbs) = a.natAbs * c.natAbs + b.natAbs * d.natAbs + (a.natAbs * d.natAbs + b.natAbs * c.natAbs) := by
      rw [Nat.add_mul, Nat.mul_add, Nat.mul_add]; omega
    rw [Int.natAbs_mul, Int.natAbs_mul] at h1 h2
    omega
theorem Wh.sub {x y : GQ} {B C : Nat} (hx : Wh x B) (hy : Wh y C) : Wh (x - y) (B + C) := by
  obtain ⟨a, b, rfl, h⟩ := hx
  obtain ⟨c, d, rfl, k⟩ := hy
  refine ⟨a - c, b - d, ?_, ?_⟩
  · ext <;> simp only [GQ.sub_re, GQ.sub_im, GQ.i_re, GQ.i_im, Rat.intCast_sub]
  · have h1 := Int.natAbs_sub_le a c
    have h2 := Int.natAbs_sub_le b d
    omega
theorem wh_one : Wh (GQ.i 1 0) 1 := ⟨1, 0, rfl, by simp⟩
theorem wh_zero (B : Nat) : Wh (GQ.i 0 0) B := ⟨0, 0, rfl, by simp⟩
theorem dsum_wh {x : Nat → GQ} {B M : Nat} : ∀ (cs : List Nat) (D : List Nat → GQ), (∀ c ∈ cs, Wh (x c) B) → (∀ l, l.Sublist cs → l.length + 1 = cs.length → Wh (D l) M) → Wh (dsum x D cs) (cs.length * (B * M))
  | [], _, _, _ => wh_zero _
  | c :: cs, D, h, k => by
    have h1 := (h c (List.mem_cons_self)).mul (k cs (List.sublist_cons_self c cs) rfl)
    have h2 := dsum_wh cs (fun l => D (c :: l)) (fun d hd => h d (List.mem_cons_of_mem _ hd)) (fun l hl hn => k (c :: l) (hl.cons_cons c) (by simp; omega))
    refine (h1.sub h2).mono ?_
    simp only [List.length_cons, Nat.add_mul]
    omega
def fct : Nat → Nat
  | 0 => 1
  | n + 1 => (n + 1) * fct n
theorem det_wh {B : Nat} : ∀ (R : List (Nat → GQ)) (cs : List Nat), R.length = cs.length → (∀ r ∈ R, ∀ c ∈ cs, Wh (r c) B) → Wh (det R cs) (fct cs.length * B ^ cs.length)
  | [], cs, hl, _ => by
    have : cs = [] := List.eq_nil_of_length_eq_zero hl.symm
    subst this
    exact wh_one
  | v :: R, cs, hl, h => by
    match cs, hl with
    | c :: cs, hl =>
      have := dsum_wh (x := v) (B := B) (M := fct cs.length * B ^ cs.length) (c :: cs) (det R) (h v (List.mem_cons_self)) (fun l hs hn => by
        have e : l.length = cs.length := by simpa using hn
        rw [← e]
        exact det_wh R l (by simp at hl; omega) (fun r hr d hd => h r (List.mem_cons_of_mem _ hr) d (hs.subset hd)))
      refine this.mono ?_
      simp only [List.length_cons, fct, Nat.pow_succ]
      have : (cs.length + 1) * (B * (fct cs.length * B ^ cs.length)) = (cs.length + 1) * fct cs.length * (B ^ cs.length * B) := by
        rw [Nat.mul_comm B, Nat.mul_assoc (fct cs.length), ← Nat.mul_assoc]
      omega
theorem dsum_scale {x : Nat → GQ} (s : GQ) : ∀ (cs : List Nat) (D : List Nat → GQ), dsum (fun c => s * x c) D cs = s * dsum x D cs
  | [], _ => (GQ.mul_zero' s).symm
  | c :: cs, D => by
    show s * x c * D cs - dsum (fun c => s * x c) (fun l => D (c :: l)) cs = s * (x c * D cs - dsum x (fun l => D (c :: l)) cs)
    rw [dsum_scale s cs, GQ.mul_sub', GQ.mul_assoc']
theorem dsum_scaleD {x : Nat → GQ} (s : GQ) : ∀ (cs : List Nat) (D : List Nat → GQ), dsum x (fun l => s * D l) cs = s * dsum x D cs
  | [], _ => (GQ.mul_zero' s).symm
  | c :: cs, D => by
    show x c * (s * D cs) - dsum x (fun l => s * D (c :: l)) cs = s * (x c * D cs - dsum x (fun l => D (c :: l)) cs)
    rw [dsum_scaleD s cs, GQ.mul_sub', ← GQ.mul_assoc', GQ.mul_comm' (x c) s, GQ.mul_assoc']
end Go.Proofs.YtclkkoiaaddllaaGreat

