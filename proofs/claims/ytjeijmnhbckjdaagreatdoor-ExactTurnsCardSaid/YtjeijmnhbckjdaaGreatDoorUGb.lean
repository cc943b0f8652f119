/- Numbers in decimal. -/
import Derived.Test.YtjeijmnhbckjdaaGreatDoorUGa
import Derived.Test.YtjeijmnhbckjdaaGreatDoorUNI
import Derived.Test.YtjeijmnhbckjdaaGreatDoorUMT
namespace Go.Proofs.YtjeijmnhbckjdaaGreatDoor
open Go.RowKit
set_option linter.unusedVariables false

/-- A complex number in decimal. -/
def gtx (a b d : Int) : List UInt8 := txt a ++ (if b < 0 then [] else [43]) ++ txt b ++ [105] ++ (if d = 1 then [] else 47 :: txt d)
theorem ret_str {a b : ByteArray} (h : a = b) : Ending.returned (.string a) = .returned (.string b) := by rw [h]
def Tab (w : World) : Prop := Lib.TabIs Tryz.prog w "internal/strconv.uint64pow10" .u64 Lib.pow10Tab
theorem txt_le {z : Int} (h : z.natAbs < lim) : (txt z).length ≤ 10000 := by
  unfold txt
  split
  · simp
  · have h1 : (digs z.natAbs).length ≤ limK := digs_len_le h
    have h0 : limK ≤ 400 := by unfold limK; omega
    have h2 := grp_len_digs (n := z.natAbs) rfl
    have h3 := gtxt_len (grp z.natAbs) (grp_lt _ _)
    have h4 : (if z < 0 then ([45] : List UInt8) else []).length ≤ 1 := by split <;> simp
    rw [List.length_append]
    omega
theorem cat_ {P : Program} (x y : List UInt8) (a b : Array UInt8) (ha : x.toArray = a) (hb : y.toArray = b) (hx : x.length ≤ 100000) (hy : y.length ≤ 100000) (W : World) : (Op.stringOp .add ⟨a⟩ ⟨b⟩).run P W = .ok (.string ⟨(x ++ y).toArray⟩) W := by
  subst ha hb
  exact run_string_add_lists W x y (by omega) (by omega)

set_option maxRecDepth 100000 in
set_option maxHeartbeats 3200000 in
theorem xText_p1 (v0 : Value) (x0a x0b x0d : Int) (q0 : GQ) (n0 : Nat) (w : World) (hX0 : RG w v0 x0a x0b x0d) (ax0a : x0a.natAbs < lim) (ax0b : x0b.natAbs < lim) (ax0d : x0d.natAbs < lim) (I0 : Is q0 x0a x0b x0d) (S0 : Sz n0 x0a x0b x0d) (hn0 : n0 ≤ 12800) (H0 : Hid (0 ≤ x0b)) (H1 : Hid (x0d = 1)) (hTab : Tab w)
      :
    Calls Tryz.prog 37 #[v0] w fun e w' => e = .returned (.string (⟨(gtx x0a x0b x0d).toArray⟩)) ∧ Ext w w' := by
  have hS := St.start w
  obtain ⟨sx0a, Ax0a, nx0a, cx0a, sx0b, Ax0b, nx0b, cx0b, sx0d, Ax0d, nx0d, cx0d, rfl, hx0a, hx0b, hx0d⟩ := hX0
  replace hS := hS.addI hx0a
  clear hx0a
  replace hS := hS.addI hx0b
  clear hx0b
  replace hS := hS.addI hx0d
  clear hx0d
  have t2 : sx0b = false := by rw [RI.sgn (hS.num 1 rfl)]; have := H0.out; simp; omega
  subst t2
  have ta := txt_le ax0a
  have tb := txt_le ax0b
  have td := txt_le ax0d
  have ct0 : ∀ W, (Op.stringOp .add ⟨(txt x0a).toArray⟩ ⟨#[43]⟩).run Tryz.prog W = .ok (.string ⟨(txt x0a ++ [43]).toArray⟩) W := fun W => cat_ (txt x0a) ([43]) _ _ rfl rfl (by first | omega | (simp; omega) | simp) (by first | omega | (simp; omega) | simp) W
  have ct1 : ∀ W, (Op.stringOp .add ⟨(txt x0b).toArray⟩ ⟨#[105]⟩).run Tryz.prog W = .ok (.string ⟨(txt x0b ++ [105]).toArray⟩) W := fun W => cat_ (txt x0b) ([105]) _ _ rfl rfl (by first | omega | (simp; omega) | simp) (by first | omega | (simp; omega) | simp) W
  have ct2 : ∀ W, (Op.stringOp .add ⟨((txt x0a ++ [43])).toArray⟩ ⟨((txt x0b ++ [105])).toArray⟩).run Tryz.prog W = .ok (.string ⟨((txt x0a ++ [43]) ++ (txt x0b ++ [105])).toArray⟩) W := fun W => cat_ ((txt x0a ++ [43])) ((txt x0b ++ [105])) _ _ rfl rfl (by first | omega | (simp; omega) | simp) (by first | omega | (simp; omega) | simp) W
  have o1 : Own w w.heap.size := Own.of hS.ext (by simp)
  have hT1 := (St.al hS 26 #[.bool sx0a, .slice Ax0a nx0a cx0a, .bool false, .slice Ax0b nx0b cx0b, .bool sx0d, .slice Ax0d nx0d cx0d] (g := w.heap.size) (by simp))
  have k_1 := (hT1.blk 0 rfl).cell
  go_enter Tryz.func37, Tryz.ntmps37
  go_wp2_with fail
  clear k_1
  clear hT1
  replace hS := (St.al hS 26 #[.bool sx0a, .slice Ax0a nx0a cx0a, .bool false, .slice Ax0b nx0b cx0b, .bool sx0d, .slice Ax0d nx0d cx0d] (g := w.heap.size) (by simp))
  generalize (w.alloc (.cells #[.bool sx0a, .slice Ax0a nx0a cx0a, .bool false, .slice Ax0b nx0b cx0b, .bool sx0d, .slice Ax0d nx0d cx0d] 26)) = w1 at hS ⊢
  generalize w.heap.size = g1 at hS o1 ⊢
  refine (eValid_gv _ q0 (n0) _ ⟨_, _, _, RG.mk (hS.num 2 rfl) (hS.num 1 rfl) (hS.num 0 rfl), I0, S0⟩ (by omega)).mono ?_
  rintro e w2 ⟨rfl, hx_⟩
  replace hS := hS.mv hx_
  clear hx_
  have k_2 := (hS.blk 0 rfl).cell
  go_wp2_with fail
  clear k_2
  refine (Text_all _ x0a _ (hS.num 2 rfl) ax0a (tab_ext hTab hS.ext)).mono ?_
  rintro e w3 ⟨rfl, hx_⟩
  replace hS := hS.mv hx_
  clear hx_
  have k_3 := (hS.blk 0 rfl).cell
  go_wp2_with fail
  clear k_3
  refine (Text_all _ x0b _ (hS.num 1 rfl) ax0b (tab_ext hTab hS.ext)).mono ?_
  rintro e w4 ⟨rfl, hx_⟩
  replace hS := hS.mv hx_
  clear hx_
  have k_4 := (hS.blk 0 rfl).cell
  go_wp2_with fail
  clear k_4
  refine (one_yes _ x0d _ (hS.num 0 rfl) H1.out).mono ?_
  rintro e w5 ⟨rfl, hx_⟩
  replace hS := hS.mv hx_
  clear hx_
  go_wp2
  go_ret
  exact ⟨ret_str (by unfold gtx; rw [if_neg (by have := H0.out; omega : ¬ x0b < 0), if_pos H1.out]; first | (simp; done) | (simp only [ByteArray.mk_append_mk]; simp; done)), hS.ext⟩

set_option maxRecDepth 100000 in
set_option maxHeartbeats 3200000 in
theorem xText_pd (v0 : Value) (x0a x0b x0d : Int) (q0 : GQ) (n0 : Nat) (w : World) (hX0 : RG w v0 x0a x0b x0d) (ax0a : x0a.natAbs < lim) (ax0b : x0b.natAbs < lim) (ax0d : x0d.natAbs < lim) (I0 : Is q0 x0a x0b x0d) (S0 : Sz n0 x0a x0b x0d) (hn0 : n0 ≤ 12800) (H0 : Hid (0 ≤ x0b)) (H1 : Hid (x0d ≠ 1)) (hTab : Tab w)
      :
    Calls Tryz.prog 37 #[v0] w fun e w' => e = .returned (.string (⟨(gtx x0a x0b x0d).toArray⟩)) ∧ Ext w w' := by
  have hS := St.start w
  obtain ⟨sx0a, Ax0a, nx0a, cx0a, sx0b, Ax0b, nx0b, cx0b, sx0d, Ax0d, nx0d, cx0d, rfl, hx0a, hx0b, hx0d⟩ := hX0
  replace hS := hS.addI hx0a
  clear hx0a
  replace hS := hS.addI hx0b
  clear hx0b
  replace hS := hS.addI hx0d
  clear hx0d
  have t2 : sx0b = false := by rw [RI.sgn (hS.num 1 rfl)]; have := H0.out; simp; omega
  subst t2
  have ta := txt_le ax0a
  have tb := txt_le ax0b
  have td := txt_le ax0d
  have ct0 : ∀ W, (Op.stringOp .add ⟨(txt x0a).toArray⟩ ⟨#[43]⟩).run Tryz.prog W = .ok (.string ⟨(txt x0a ++ [43]).toArray⟩) W := fun W => cat_ (txt x0a) ([43]) _ _ rfl rfl (by first | omega | (simp; omega) | simp) (by first | omega | (simp; omega) | simp) W
  have ct1 : ∀ W, (Op.stringOp .add ⟨(txt x0b).toArray⟩ ⟨#[105]⟩).run Tryz.prog W = .ok (.string ⟨(txt x0b ++ [105]).toArray⟩) W := fun W => cat_ (txt x0b) ([105]) _ _ rfl rfl (by first | omega | (simp; omega) | simp) (by first | omega | (simp; omega) | simp) W
  have ct2 : ∀ W, (Op.stringOp .add ⟨((txt x0a ++ [43])).toArray⟩ ⟨((txt x0b ++ [105])).toArray⟩).run Tryz.prog W = .ok (.string ⟨((txt x0a ++ [43]) ++ (txt x0b ++ [105])).toArray⟩) W := fun W => cat_ ((txt x0a ++ [43])) ((txt x0b ++ [105])) _ _ rfl rfl (by first | omega | (simp; omega) | simp) (by first | omega | (simp; omega) | simp) W
  have ct3 : ∀ W, (Op.stringOp .add ⟨#[47]⟩ ⟨(txt x0d).toArray⟩).run Tryz.prog W = .ok (.string ⟨([47] ++ txt x0d).toArray⟩) W := fun W => cat_ ([47]) (txt x0d) _ _ rfl rfl (by first | omega | (simp; omega) | simp) (by first | omega | (simp; omega) | simp) W
  have ct4 : ∀ W, (Op.stringOp .add ⟨(((txt x0a ++ [43]) ++ (txt x0b ++ [105]))).toArray⟩ ⟨(([47] ++ txt x0d)).toArray⟩).run Tryz.prog W = .ok (.string ⟨(((txt x0a ++ [43]) ++ (txt x0b ++ [105])) ++ ([47] ++ txt x0d)).toArray⟩) W := fun W => cat_ (((txt x0a ++ [43]) ++ (txt x0b ++ [105]))) (([47] ++ txt x0d)) _ _ rfl rfl (by first | omega | (simp; omega) | simp) (by first | omega | (simp; omega) | simp) W
  have o1 : Own w w.heap.size := Own.of hS.ext (by simp)
  have hT1 := (St.al hS 26 #[.bool sx0a, .slice Ax0a nx0a cx0a, .bool false, .slice Ax0b nx0b cx0b, .bool sx0d, .slice Ax0d nx0d cx0d] (g := w.heap.size) (by simp))
  have k_1 := (hT1.blk 0 rfl).cell
  go_enter Tryz.func37, Tryz.ntmps37
  go_wp2_with fail
  clear k_1
  clear hT1
  replace hS := (St.al hS 26 #[.bool sx0a, .slice Ax0a nx0a cx0a, .bool false, .slice Ax0b nx0b cx0b, .bool sx0d, .slice Ax0d nx0d cx0d] (g := w.heap.size) (by simp))
  generalize (w.alloc (.cells #[.bool sx0a, .slice Ax0a nx0a cx0a, .bool false, .slice Ax0b nx0b cx0b, .bool sx0d, .slice Ax0d nx0d cx0d] 26)) = w1 at hS ⊢
  generalize w.heap.size = g1 at hS o1 ⊢
  refine (eValid_gv _ q0 (n0) _ ⟨_, _, _, RG.mk (hS.num 2 rfl) (hS.num 1 rfl) (hS.num 0 rfl), I0, S0⟩ (by omega)).mono ?_
  rintro e w2 ⟨rfl, hx_⟩
  replace hS := hS.mv hx_
  clear hx_
  have k_2 := (hS.blk 0 rfl).cell
  go_wp2_with fail
  clear k_2
  refine (Text_all _ x0a _ (hS.num 2 rfl) ax0a (tab_ext hTab hS.ext)).mono ?_
  rintro e w3 ⟨rfl, hx_⟩
  replace hS := hS.mv hx_
  clear hx_
  have k_3 := (hS.blk 0 rfl).cell
  go_wp2_with fail
  clear k_3
  refine (Text_all _ x0b _ (hS.num 1 rfl) ax0b (tab_ext hTab hS.ext)).mono ?_
  rintro e w4 ⟨rfl, hx_⟩
  replace hS := hS.mv hx_
  clear hx_
  have k_4 := (hS.blk 0 rfl).cell
  go_wp2_with fail
  clear k_4
  refine (one_no _ x0d _ (hS.num 0 rfl) H1.out).mono ?_
  rintro e w5 ⟨rfl, hx_⟩
  replace hS := hS.mv hx_
  clear hx_
  have k_5 := (hS.blk 0 rfl).cell
  go_wp2_with fail
  clear k_5
  refine (Text_all _ x0d _ (hS.num 0 rfl) ax0d (tab_ext hTab hS.ext)).mono ?_
  rintro e w6 ⟨rfl, hx_⟩
  replace hS := hS.mv hx_
  clear hx_
  go_wp2
  go_ret
  exact ⟨ret_str (by unfold gtx; rw [if_neg (by have := H0.out; omega : ¬ x0b < 0), if_neg H1.out]; first | (simp; done) | (simp only [ByteArray.mk_append_mk]; simp; done)), hS.ext⟩

set_option maxRecDepth 100000 in
set_option maxHeartbeats 3200000 in
theorem xText_n1 (v0 : Value) (x0a x0b x0d : Int) (q0 : GQ) (n0 : Nat) (w : World) (hX0 : RG w v0 x0a x0b x0d) (ax0a : x0a.natAbs < lim) (ax0b : x0b.natAbs < lim) (ax0d : x0d.natAbs < lim) (I0 : Is q0 x0a x0b x0d) (S0 : Sz n0 x0a x0b x0d) (hn0 : n0 ≤ 12800) (H0 : Hid (x0b < 0)) (H1 : Hid (x0d = 1)) (hTab : Tab w)
      :
    Calls Tryz.prog 37 #[v0] w fun e w' => e = .returned (.string (⟨(gtx x0a x0b x0d).toArray⟩)) ∧ Ext w w' := by
  have hS := St.start w
  obtain ⟨sx0a, Ax0a, nx0a, cx0a, sx0b, Ax0b, nx0b, cx0b, sx0d, Ax0d, nx0d, cx0d, rfl, hx0a, hx0b, hx0d⟩ := hX0
  replace hS := hS.addI hx0a
  clear hx0a
  replace hS := hS.addI hx0b
  clear hx0b
  replace hS := hS.addI hx0d
  clear hx0d
  have t2 : sx0b = true := by rw [RI.sgn (hS.num 1 rfl)]; have := H0.out; simp; omega
  subst t2
  have ta := txt_le ax0a
  have tb := txt_le ax0b
  have td := txt_le ax0d
  have ct0 : ∀ W, (Op.stringOp .add ⟨(txt x0b).toArray⟩ ⟨#[105]⟩).run Tryz.prog W = .ok (.string ⟨(txt x0b ++ [105]).toArray⟩) W := fun W => cat_ (txt x0b) ([105]) _ _ rfl rfl (by first | omega | (simp; omega) | simp) (by first | omega | (simp; omega) | simp) W
  have ct1 : ∀ W, (Op.stringOp .add ⟨(txt x0a).toArray⟩ ⟨((txt x0b ++ [105])).toArray⟩).run Tryz.prog W = .ok (.string ⟨(txt x0a ++ (txt x0b ++ [105])).toArray⟩) W := fun W => cat_ (txt x0a) ((txt x0b ++ [105])) _ _ rfl rfl (by first | omega | (simp; omega) | simp) (by first | omega | (simp; omega) | simp) W
  have o1 : Own w w.heap.size := Own.of hS.ext (by simp)
  have hT1 := (St.al hS 26 #[.bool sx0a, .slice Ax0a nx0a cx0a, .bool true, .slice Ax0b nx0b cx0b, .bool sx0d, .slice Ax0d nx0d cx0d] (g := w.heap.size) (by simp))
  have k_1 := (hT1.blk 0 rfl).cell
  go_enter Tryz.func37, Tryz.ntmps37
  go_wp2_with fail
  clear k_1
  clear hT1
  replace hS := (St.al hS 26 #[.bool sx0a, .slice Ax0a nx0a cx0a, .bool true, .slice Ax0b nx0b cx0b, .bool sx0d, .slice Ax0d nx0d cx0d] (g := w.heap.size) (by simp))
  generalize (w.alloc (.cells #[.bool sx0a, .slice Ax0a nx0a cx0a, .bool true, .slice Ax0b nx0b cx0b, .bool sx0d, .slice Ax0d nx0d cx0d] 26)) = w1 at hS ⊢
  generalize w.heap.size = g1 at hS o1 ⊢
  refine (eValid_gv _ q0 (n0) _ ⟨_, _, _, RG.mk (hS.num 2 rfl) (hS.num 1 rfl) (hS.num 0 rfl), I0, S0⟩ (by omega)).mono ?_
  rintro e w2 ⟨rfl, hx_⟩
  replace hS := hS.mv hx_
  clear hx_
  have k_2 := (hS.blk 0 rfl).cell
  go_wp2_with fail
  clear k_2
  refine (Text_all _ x0a _ (hS.num 2 rfl) ax0a (tab_ext hTab hS.ext)).mono ?_
  rintro e w3 ⟨rfl, hx_⟩
  replace hS := hS.mv hx_
  clear hx_
  have k_3 := (hS.blk 0 rfl).cell
  go_wp2_with fail
  clear k_3
  refine (Text_all _ x0b _ (hS.num 1 rfl) ax0b (tab_ext hTab hS.ext)).mono ?_
  rintro e w4 ⟨rfl, hx_⟩
  replace hS := hS.mv hx_
  clear hx_
  have k_4 := (hS.blk 0 rfl).cell
  go_wp2_with fail
  clear k_4
  refine (one_yes _ x0d _ (hS.num 0 rfl) H1.out).mono ?_
  rintro e w5 ⟨rfl, hx_⟩
  replace hS := hS.mv hx_
  clear hx_
  go_wp2
  go_ret
  exact ⟨ret_str (by unfold gtx; rw [if_pos (by have := H0.out; omega : x0b < 0), if_pos H1.out]; first | (simp; done) | (simp only [ByteArray.mk_append_mk]; simp; done)), hS.ext⟩

set_option maxRecDepth 100000 in
set_option maxHeartbeats 3200000 in
theorem xText_nd (v0 : Value) (x0a x0b x0d : Int) (q0 : GQ) (n0 : Nat) (w : World) (hX0 : RG w v0 x0a x0b x0d) (ax0a : x0a.natAbs < lim) (ax0b : x0b.natAbs < lim) (ax0d : x0d.natAbs < lim) (I0 : Is q0 x0a x0b x0d) (S0 : Sz n0 x0a x0b x0d) (hn0 : n0 ≤ 12800) (H0 : Hid (x0b < 0)) (H1 : Hid (x0d ≠ 1)) (hTab : Tab w)
      :
    Calls Tryz.prog 37 #[v0] w fun e w' => e = .returned (.string (⟨(gtx x0a x0b x0d).toArray⟩)) ∧ Ext w w' := by
  have hS := St.start w
  obtain ⟨sx0a, Ax0a, nx0a, cx0a, sx0b, Ax0b, nx0b, cx0b, sx0d, Ax0d, nx0d, cx0d, rfl, hx0a, hx0b, hx0d⟩ := hX0
  replace hS := hS.addI hx0a
  clear hx0a
  replace hS := hS.addI hx0b
  clear hx0b
  replace hS := hS.addI hx0d
  clear hx0d
  have t2 : sx0b = true := by rw [RI.sgn (hS.num 1 rfl)]; have := H0.out; simp; omega
  subst t2
  have ta := txt_le ax0a
  have tb := txt_le ax0b
  have td := txt_le ax0d
  have ct0 : ∀ W, (Op.stringOp .add ⟨(txt x0b).toArray⟩ ⟨#[105]⟩).run Tryz.prog W = .ok (.string ⟨(txt x0b ++ [105]).toArray⟩) W := fun W => cat_ (txt x0b) ([105]) _ _ rfl rfl (by first | omega | (simp; omega) | simp) (by first | omega | (simp; omega) | simp) W
  have ct1 : ∀ W, (Op.stringOp .add ⟨(txt x0a).toArray⟩ ⟨((txt x0b ++ [105])).toArray⟩).run Tryz.prog W = .ok (.string ⟨(txt x0a ++ (txt x0b ++ [105])).toArray⟩) W := fun W => cat_ (txt x0a) ((txt x0b ++ [105])) _ _ rfl rfl (by first | omega | (simp; omega) | simp) (by first | omega | (simp; omega) | simp) W
  have ct2 : ∀ W, (Op.stringOp .add ⟨#[47]⟩ ⟨(txt x0d).toArray⟩).run Tryz.prog W = .ok (.string ⟨([47] ++ txt x0d).toArray⟩) W := fun W => cat_ ([47]) (txt x0d) _ _ rfl rfl (by first | omega | (simp; omega) | simp) (by first | omega | (simp; omega) | simp) W
  have ct3 : ∀ W, (Op.stringOp .add ⟨((txt x0a ++ (txt x0b ++ [105]))).toArray⟩ ⟨(([47] ++ txt x0d)).toArray⟩).run Tryz.prog W = .ok (.string ⟨((txt x0a ++ (txt x0b ++ [105])) ++ ([47] ++ txt x0d)).toArray⟩) W := fun W => cat_ ((txt x0a ++ (txt x0b ++ [105]))) (([47] ++ txt x0d)) _ _ rfl rfl (by first | omega | (simp; omega) | simp) (by first | omega | (simp; omega) | simp) W
  have o1 : Own w w.heap.size := Own.of hS.ext (by simp)
  have hT1 := (St.al hS 26 #[.bool sx0a, .slice Ax0a nx0a cx0a, .bool true, .slice Ax0b nx0b cx0b, .bool sx0d, .slice Ax0d nx0d cx0d] (g := w.heap.size) (by simp))
  have k_1 := (hT1.blk 0 rfl).cell
  go_enter Tryz.func37, Tryz.ntmps37
  go_wp2_with fail
  clear k_1
  clear hT1
  replace hS := (St.al hS 26 #[.bool sx0a, .slice Ax0a nx0a cx0a, .bool true, .slice Ax0b nx0b cx0b, .bool sx0d, .slice Ax0d nx0d cx0d] (g := w.heap.size) (by simp))
  generalize (w.alloc (.cells #[.bool sx0a, .slice Ax0a nx0a cx0a, .bool true, .slice Ax0b nx0b cx0b, .bool sx0d, .slice Ax0d nx0d cx0d] 26)) = w1 at hS ⊢
  generalize w.heap.size = g1 at hS o1 ⊢
  refine (eValid_gv _ q0 (n0) _ ⟨_, _, _, RG.mk (hS.num 2 rfl) (hS.num 1 rfl) (hS.num 0 rfl), I0, S0⟩ (by omega)).mono ?_
  rintro e w2 ⟨rfl, hx_⟩
  replace hS := hS.mv hx_
  clear hx_
  have k_2 := (hS.blk 0 rfl).cell
  go_wp2_with fail
  clear k_2
  refine (Text_all _ x0a _ (hS.num 2 rfl) ax0a (tab_ext hTab hS.ext)).mono ?_
  rintro e w3 ⟨rfl, hx_⟩
  replace hS := hS.mv hx_
  clear hx_
  have k_3 := (hS.blk 0 rfl).cell
  go_wp2_with fail
  clear k_3
  refine (Text_all _ x0b _ (hS.num 1 rfl) ax0b (tab_ext hTab hS.ext)).mono ?_
  rintro e w4 ⟨rfl, hx_⟩
  replace hS := hS.mv hx_
  clear hx_
  have k_4 := (hS.blk 0 rfl).cell
  go_wp2_with fail
  clear k_4
  refine (one_no _ x0d _ (hS.num 0 rfl) H1.out).mono ?_
  rintro e w5 ⟨rfl, hx_⟩
  replace hS := hS.mv hx_
  clear hx_
  have k_5 := (hS.blk 0 rfl).cell
  go_wp2_with fail
  clear k_5
  refine (Text_all _ x0d _ (hS.num 0 rfl) ax0d (tab_ext hTab hS.ext)).mono ?_
  rintro e w6 ⟨rfl, hx_⟩
  replace hS := hS.mv hx_
  clear hx_
  go_wp2
  go_ret
  exact ⟨ret_str (by unfold gtx; rw [if_pos (by have := H0.out; omega : x0b < 0), if_neg H1.out]; first | (simp; done) | (simp only [ByteArray.mk_append_mk]; simp; done)), hS.ext⟩

theorem xText_ok (v : Value) (q : GQ) (n : Nat) (w : World) (hX : GV w v q n) (hn : n ≤ 12800) (hTab : Tab w) {a b d : Int} (I : Is q a b d) :
    Calls Tryz.prog 37 #[v] w fun e w' => e = .returned (.string ⟨(gtx a b d).toArray⟩) ∧ Ext w w' := by
  obtain ⟨a1, b1, d1, h1, h2, h3⟩ := hX
  obtain ⟨rfl, rfl, rfl⟩ := h2.unique I
  obtain ⟨l1, l2, l3⟩ := h3.lims hn
  rcases Int.lt_or_le b1 0 with hb | hb <;> by_cases hd : d1 = 1
  · exact xText_n1 v a1 b1 d1 q n w h1 l1 l2 l3 h2 h3 hn (Lib.hid hb) (Lib.hid hd) hTab
  · exact xText_nd v a1 b1 d1 q n w h1 l1 l2 l3 h2 h3 hn (Lib.hid hb) (Lib.hid hd) hTab
  · exact xText_p1 v a1 b1 d1 q n w h1 l1 l2 l3 h2 h3 hn (Lib.hid hb) (Lib.hid hd) hTab
  · exact xText_pd v a1 b1 d1 q n w h1 l1 l2 l3 h2 h3 hn (Lib.hid hb) (Lib.hid hd) hTab
end Go.Proofs.YtjeijmnhbckjdaaGreatDoor
