/- Numbers in decimal. -/
import Derived.Test.YtjeijmnhbckjdaaGreatDoorQGamolh
import Derived.Test.YtjeijmnhbckjdaaGreatDoorQNIjalo
import Derived.Test.YtjeijmnhbckjdaaGreatDoorQMToifc
namespace Go.Proofs.YtjeijmnhbckjdaaGreatDoor
open Go.RowKit
set_option linter.unusedVariables false

/-- A complex number in decimal. -/
def gtx (a b d : Int) : List UInt8 := txt a ++ (if b < 0 then [] else [43]) ++ txt b ++ [105] ++ (if d = 1 then [] else 47 :: txt d)
theorem ret_str {a b : ByteArray} (h : a = b) : Ending.returned (.string a) = .returned (.string b) := by rw [h]
def Tab (w : World) : Prop := Lib.TabIs Tryz.prog w "internal/strconv.uint64pow10" .u64 Lib.pow10Tab
theorem txt_le {z : Int} (h : z.natAbs < lim) : (txt z).length ≤ 10000 := by
  unfold txt
  split
  · simp
  · have h1 : (digs z.natAbs).length ≤ limK := digs_len_le h
    have h0 : limK ≤ 400 := by unfold limK; omega
    have h2 := grp_len_digs (n := z.natAbs) rfl
    have h3 := gtxt_len (grp z.natAbs) (grp_lt _ _)
    have h4 : (if z < 0 then ([45] : List UInt8) else []).length ≤ 1 := by split <;> simp
    rw [List.length_append]
    omega
theorem cat_ {P : Program} (x y : List UInt8) (a b : Array UInt8) (ha : x.toArray = a) (hb : y.toArray = b) (hx : x.length ≤ 100000) (hy : y.length ≤ 100000) (W : World) : (Op.stringOp .add ⟨a⟩ ⟨b⟩).run P W = .ok (.string ⟨(x ++ y).toArray⟩) W := by
  subst ha hb
  exact run_string_add_lists W x y (by omega) (by omega)

set_option maxRecDepth 100000 in
set_option maxHeartbeats 3200000 in
theorem xText_p1 (v0 : Value) (a1 a0 a2 : Int) (q0 : GQ) (n0 : Nat) (w : World) (hX0 : RG w v0 a1 a0 a2) (ae : a1.natAbs < lim) (af : a0.natAbs < lim) (aj : a2.natAbs < lim) (I0 : Is q0 a1 a0 a2) (S0 : Sz n0 a1 a0 a2) (hn0 : n0 ≤ 12800) (H0 : Hid (0 ≤ a0)) (H1 : Hid (a2 = 1)) (hTab : Tab w)
      :
    Calls Tryz.prog 37 #[v0] w fun e w' => e = .returned (.string (⟨(gtx a1 a0 a2).toArray⟩)) ∧ Ext w w' := by
  have hS := St.start w
  obtain ⟨a3, a4, a5, a6, ak, a7, a8, a9, aa, ab, ac, ad, rfl, ag, ah, ai⟩ := hX0
  replace hS := hS.addI ag
  clear ag
  replace hS := hS.addI ah
  clear ah
  replace hS := hS.addI ai
  clear ai
  have t2 : ak = false := by rw [RI.sgn (hS.num 1 rfl)]; have := H0.out; simp; omega
  subst t2
  have ta := txt_le ae
  have tb := txt_le af
  have td := txt_le aj
  have ct0 : ∀ W, (Op.stringOp .add ⟨(txt a1).toArray⟩ ⟨#[43]⟩).run Tryz.prog W = .ok (.string ⟨(txt a1 ++ [43]).toArray⟩) W := fun W => cat_ (txt a1) ([43]) _ _ rfl rfl (by first | omega | (simp; omega) | simp) (by first | omega | (simp; omega) | simp) W
  have ct1 : ∀ W, (Op.stringOp .add ⟨(txt a0).toArray⟩ ⟨#[105]⟩).run Tryz.prog W = .ok (.string ⟨(txt a0 ++ [105]).toArray⟩) W := fun W => cat_ (txt a0) ([105]) _ _ rfl rfl (by first | omega | (simp; omega) | simp) (by first | omega | (simp; omega) | simp) W
  have ct2 : ∀ W, (Op.stringOp .add ⟨((txt a1 ++ [43])).toArray⟩ ⟨((txt a0 ++ [105])).toArray⟩).run Tryz.prog W = .ok (.string ⟨((txt a1 ++ [43]) ++ (txt a0 ++ [105])).toArray⟩) W := fun W => cat_ ((txt a1 ++ [43])) ((txt a0 ++ [105])) _ _ rfl rfl (by first | omega | (simp; omega) | simp) (by first | omega | (simp; omega) | simp) W
  have o1 : Own w w.heap.size := Own.of hS.ext (by simp)
  have am := (St.al hS 26 #[.bool a3, .slice a4 a5 a6, .bool false, .slice a7 a8 a9, .bool aa, .slice ab ac ad] (g := w.heap.size) (by simp))
  have k_1 := (am.blk 0 rfl).cell
  go_enter Tryz.func37, Tryz.ntmps37
  go_wp2_with fail
  clear k_1
  clear am
  replace hS := (St.al hS 26 #[.bool a3, .slice a4 a5 a6, .bool false, .slice a7 a8 a9, .bool aa, .slice ab ac ad] (g := w.heap.size) (by simp))
  generalize (w.alloc (.cells #[.bool a3, .slice a4 a5 a6, .bool false, .slice a7 a8 a9, .bool aa, .slice ab ac ad] 26)) = w1 at hS ⊢
  generalize w.heap.size = g1 at hS o1 ⊢
  refine (eValid_gv _ q0 (n0) _ ⟨_, _, _, RG.mk (hS.num 2 rfl) (hS.num 1 rfl) (hS.num 0 rfl), I0, S0⟩ (by omega)).mono ?_
  rintro e w2 ⟨rfl, hx_⟩
  replace hS := hS.mv hx_
  clear hx_
  have k_2 := (hS.blk 0 rfl).cell
  go_wp2_with fail
  clear k_2
  refine (Text_all _ a1 _ (hS.num 2 rfl) ae (tab_ext hTab hS.ext)).mono ?_
  rintro e w3 ⟨rfl, hx_⟩
  replace hS := hS.mv hx_
  clear hx_
  have k_3 := (hS.blk 0 rfl).cell
  go_wp2_with fail
  clear k_3
  refine (Text_all _ a0 _ (hS.num 1 rfl) af (tab_ext hTab hS.ext)).mono ?_
  rintro e w4 ⟨rfl, hx_⟩
  replace hS := hS.mv hx_
  clear hx_
  have k_4 := (hS.blk 0 rfl).cell
  go_wp2_with fail
  clear k_4
  refine (one_yes _ a2 _ (hS.num 0 rfl) H1.out).mono ?_
  rintro e w5 ⟨rfl, hx_⟩
  replace hS := hS.mv hx_
  clear hx_
  go_wp2
  go_ret
  exact ⟨ret_str (by unfold gtx; rw [if_neg (by have := H0.out; omega : ¬ a0 < 0), if_pos H1.out]; first | (simp; done) | (simp only [ByteArray.mk_append_mk]; simp; done)), hS.ext⟩

set_option maxRecDepth 100000 in
set_option maxHeartbeats 3200000 in
theorem xText_pd (v0 : Value) (a1 a0 a2 : Int) (q0 : GQ) (n0 : Nat) (w : World) (hX0 : RG w v0 a1 a0 a2) (ae : a1.natAbs < lim) (af : a0.natAbs < lim) (ag : a2.natAbs < lim) (I0 : Is q0 a1 a0 a2) (S0 : Sz n0 a1 a0 a2) (hn0 : n0 ≤ 12800) (H0 : Hid (0 ≤ a0)) (H1 : Hid (a2 ≠ 1)) (hTab : Tab w)
      :
    Calls Tryz.prog 37 #[v0] w fun e w' => e = .returned (.string (⟨(gtx a1 a0 a2).toArray⟩)) ∧ Ext w w' := by
  have hS := St.start w
  obtain ⟨a3, a4, a5, a6, ak, a7, a8, a9, aa, ab, ac, ad, rfl, ah, ai, aj⟩ := hX0
  replace hS := hS.addI ah
  clear ah
  replace hS := hS.addI ai
  clear ai
  replace hS := hS.addI aj
  clear aj
  have t2 : ak = false := by rw [RI.sgn (hS.num 1 rfl)]; have := H0.out; simp; omega
  subst t2
  have ta := txt_le ae
  have tb := txt_le af
  have td := txt_le ag
  have ct0 : ∀ W, (Op.stringOp .add ⟨(txt a1).toArray⟩ ⟨#[43]⟩).run Tryz.prog W = .ok (.string ⟨(txt a1 ++ [43]).toArray⟩) W := fun W => cat_ (txt a1) ([43]) _ _ rfl rfl (by first | omega | (simp; omega) | simp) (by first | omega | (simp; omega) | simp) W
  have ct1 : ∀ W, (Op.stringOp .add ⟨(txt a0).toArray⟩ ⟨#[105]⟩).run Tryz.prog W = .ok (.string ⟨(txt a0 ++ [105]).toArray⟩) W := fun W => cat_ (txt a0) ([105]) _ _ rfl rfl (by first | omega | (simp; omega) | simp) (by first | omega | (simp; omega) | simp) W
  have ct2 : ∀ W, (Op.stringOp .add ⟨((txt a1 ++ [43])).toArray⟩ ⟨((txt a0 ++ [105])).toArray⟩).run Tryz.prog W = .ok (.string ⟨((txt a1 ++ [43]) ++ (txt a0 ++ [105])).toArray⟩) W := fun W => cat_ ((txt a1 ++ [43])) ((txt a0 ++ [105])) _ _ rfl rfl (by first | omega | (simp; omega) | simp) (by first | omega | (simp; omega) | simp) W
  have ct3 : ∀ W, (Op.stringOp .add ⟨#[47]⟩ ⟨(txt a2).toArray⟩).run Tryz.prog W = .ok (.string ⟨([47] ++ txt a2).toArray⟩) W := fun W => cat_ ([47]) (txt a2) _ _ rfl rfl (by first | omega | (simp; omega) | simp) (by first | omega | (simp; omega) | simp) W
  have ct4 : ∀ W, (Op.stringOp .add ⟨(((txt a1 ++ [43]) ++ (txt a0 ++ [105]))).toArray⟩ ⟨(([47] ++ txt a2)).toArray⟩).run Tryz.prog W = .ok (.string ⟨(((txt a1 ++ [43]) ++ (txt a0 ++ [105])) ++ ([47] ++ txt a2)).toArray⟩) W := fun W => cat_ (((txt a1 ++ [43]) ++ (txt a0 ++ [105]))) (([47] ++ txt a2)) _ _ rfl rfl (by first | omega | (simp; omega) | simp) (by first | omega | (simp; omega) | simp) W
  have o1 : Own w w.heap.size := Own.of hS.ext (by simp)
  have am := (St.al hS 26 #[.bool a3, .slice a4 a5 a6, .bool false, .slice a7 a8 a9, .bool aa, .slice ab ac ad] (g := w.heap.size) (by simp))
  have k_1 := (am.blk 0 rfl).cell
  go_enter Tryz.func37, Tryz.ntmps37
  go_wp2_with fail
  clear k_1
  clear am
  replace hS := (St.al hS 26 #[.bool a3, .slice a4 a5 a6, .bool false, .slice a7 a8 a9, .bool aa, .slice ab ac ad] (g := w.heap.size) (by simp))
  generalize (w.alloc (.cells #[.bool a3, .slice a4 a5 a6, .bool false, .slice a7 a8 a9, .bool aa, .slice ab ac ad] 26)) = w1 at hS ⊢
  generalize w.heap.size = g1 at hS o1 ⊢
  refine (eValid_gv _ q0 (n0) _ ⟨_, _, _, RG.mk (hS.num 2 rfl) (hS.num 1 rfl) (hS.num 0 rfl), I0, S0⟩ (by omega)).mono ?_
  rintro e w2 ⟨rfl, hx_⟩
  replace hS := hS.mv hx_
  clear hx_
  have k_2 := (hS.blk 0 rfl).cell
  go_wp2_with fail
  clear k_2
  refine (Text_all _ a1 _ (hS.num 2 rfl) ae (tab_ext hTab hS.ext)).mono ?_
  rintro e w3 ⟨rfl, hx_⟩
  replace hS := hS.mv hx_
  clear hx_
  have k_3 := (hS.blk 0 rfl).cell
  go_wp2_with fail
  clear k_3
  refine (Text_all _ a0 _ (hS.num 1 rfl) af (tab_ext hTab hS.ext)).mono ?_
  rintro e w4 ⟨rfl, hx_⟩
  replace hS := hS.mv hx_
  clear hx_
  have k_4 := (hS.blk 0 rfl).cell
  go_wp2_with fail
  clear k_4
  refine (one_no _ a2 _ (hS.num 0 rfl) H1.out).mono ?_
  rintro e w5 ⟨rfl, hx_⟩
  replace hS := hS.mv hx_
  clear hx_
  have k_5 := (hS.blk 0 rfl).cell
  go_wp2_with fail
  clear k_5
  refine (Text_all _ a2 _ (hS.num 0 rfl) ag (tab_ext hTab hS.ext)).mono ?_
  rintro e w6 ⟨rfl, hx_⟩
  replace hS := hS.mv hx_
  clear hx_
  go_wp2
  go_ret
  exact ⟨ret_str (by unfold gtx; rw [if_neg (by have := H0.out; omega : ¬ a0 < 0), if_neg H1.out]; first | (simp; done) | (simp only [ByteArray.mk_append_mk]; simp; done)), hS.ext⟩

set_option maxRecDepth 100000 in
set_option maxHeartbeats 3200000 in
theorem xText_n1 (v0 : Value) (a1 a0 a2 : Int) (q0 : GQ) (n0 : Nat) (w : World) (hX0 : RG w v0 a1 a0 a2) (ae : a1.natAbs < lim) (af : a0.natAbs < lim) (aj : a2.natAbs < lim) (I0 : Is q0 a1 a0 a2) (S0 : Sz n0 a1 a0 a2) (hn0 : n0 ≤ 12800) (H0 : Hid (a0 < 0)) (H1 : Hid (a2 = 1)) (hTab : Tab w)
      :
    Calls Tryz.prog 37 #[v0] w fun e w' => e = .returned (.string (⟨(gtx a1 a0 a2).toArray⟩)) ∧ Ext w w' := by
  have hS := St.start w
  obtain ⟨a3, a4, a5, a6, ak, a7, a8, a9, aa, ab, ac, ad, rfl, ag, ah, ai⟩ := hX0
  replace hS := hS.addI ag
  clear ag
  replace hS := hS.addI ah
  clear ah
  replace hS := hS.addI ai
  clear ai
  have t2 : ak = true := by rw [RI.sgn (hS.num 1 rfl)]; have := H0.out; simp; omega
  subst t2
  have ta := txt_le ae
  have tb := txt_le af
  have td := txt_le aj
  have ct0 : ∀ W, (Op.stringOp .add ⟨(txt a0).toArray⟩ ⟨#[105]⟩).run Tryz.prog W = .ok (.string ⟨(txt a0 ++ [105]).toArray⟩) W := fun W => cat_ (txt a0) ([105]) _ _ rfl rfl (by first | omega | (simp; omega) | simp) (by first | omega | (simp; omega) | simp) W
  have ct1 : ∀ W, (Op.stringOp .add ⟨(txt a1).toArray⟩ ⟨((txt a0 ++ [105])).toArray⟩).run Tryz.prog W = .ok (.string ⟨(txt a1 ++ (txt a0 ++ [105])).toArray⟩) W := fun W => cat_ (txt a1) ((txt a0 ++ [105])) _ _ rfl rfl (by first | omega | (simp; omega) | simp) (by first | omega | (simp; omega) | simp) W
  have o1 : Own w w.heap.size := Own.of hS.ext (by simp)
  have am := (St.al hS 26 #[.bool a3, .slice a4 a5 a6, .bool true, .slice a7 a8 a9, .bool aa, .slice ab ac ad] (g := w.heap.size) (by simp))
  have k_1 := (am.blk 0 rfl).cell
  go_enter Tryz.func37, Tryz.ntmps37
  go_wp2_with fail
  clear k_1
  clear am
  replace hS := (St.al hS 26 #[.bool a3, .slice a4 a5 a6, .bool true, .slice a7 a8 a9, .bool aa, .slice ab ac ad] (g := w.heap.size) (by simp))
  generalize (w.alloc (.cells #[.bool a3, .slice a4 a5 a6, .bool true, .slice a7 a8 a9, .bool aa, .slice ab ac ad] 26)) = w1 at hS ⊢
  generalize w.heap.size = g1 at hS o1 ⊢
  refine (eValid_gv _ q0 (n0) _ ⟨_, _, _, RG.mk (hS.num 2 rfl) (hS.num 1 rfl) (hS.num 0 rfl), I0, S0⟩ (by omega)).mono ?_
  rintro e w2 ⟨rfl, hx_⟩
  replace hS := hS.mv hx_
  clear hx_
  have k_2 := (hS.blk 0 rfl).cell
  go_wp2_with fail
  clear k_2
  refine (Text_all _ a1 _ (hS.num 2 rfl) ae (tab_ext hTab hS.ext)).mono ?_
  rintro e w3 ⟨rfl, hx_⟩
  replace hS := hS.mv hx_
  clear hx_
  have k_3 := (hS.blk 0 rfl).cell
  go_wp2_with fail
  clear k_3
  refine (Text_all _ a0 _ (hS.num 1 rfl) af (tab_ext hTab hS.ext)).mono ?_
  rintro e w4 ⟨rfl, hx_⟩
  replace hS := hS.mv hx_
  clear hx_
  have k_4 := (hS.blk 0 rfl).cell
  go_wp2_with fail
  clear k_4
  refine (one_yes _ a2 _ (hS.num 0 rfl) H1.out).mono ?_
  rintro e w5 ⟨rfl, hx_⟩
  replace hS := hS.mv hx_
  clear hx_
  go_wp2
  go_ret
  exact ⟨ret_str (by unfold gtx; rw [if_pos (by have := H0.out; omega : a0 < 0), if_pos H1.out]; first | (simp; done) | (simp only [ByteArray.mk_append_mk]; simp; done)), hS.ext⟩

set_option maxRecDepth 100000 in
set_option maxHeartbeats 3200000 in
theorem xText_nd (v0 : Value) (a2 a0 a1 : Int) (q0 : GQ) (n0 : Nat) (w : World) (hX0 : RG w v0 a2 a0 a1) (ae : a2.natAbs < lim) (af : a0.natAbs < lim) (ag : a1.natAbs < lim) (I0 : Is q0 a2 a0 a1) (S0 : Sz n0 a2 a0 a1) (hn0 : n0 ≤ 12800) (H0 : Hid (a0 < 0)) (H1 : Hid (a1 ≠ 1)) (hTab : Tab w)
      :
    Calls Tryz.prog 37 #[v0] w fun e w' => e = .returned (.string (⟨(gtx a2 a0 a1).toArray⟩)) ∧ Ext w w' := by
  have hS := St.start w
  obtain ⟨a3, a4, a5, a6, ak, a7, a8, a9, aa, ab, ac, ad, rfl, ah, ai, aj⟩ := hX0
  replace hS := hS.addI ah
  clear ah
  replace hS := hS.addI ai
  clear ai
  replace hS := hS.addI aj
  clear aj
  have t2 : ak = true := by rw [RI.sgn (hS.num 1 rfl)]; have := H0.out; simp; omega
  subst t2
  have ta := txt_le ae
  have tb := txt_le af
  have td := txt_le ag
  have ct0 : ∀ W, (Op.stringOp .add ⟨(txt a0).toArray⟩ ⟨#[105]⟩).run Tryz.prog W = .ok (.string ⟨(txt a0 ++ [105]).toArray⟩) W := fun W => cat_ (txt a0) ([105]) _ _ rfl rfl (by first | omega | (simp; omega) | simp) (by first | omega | (simp; omega) | simp) W
  have ct1 : ∀ W, (Op.stringOp .add ⟨(txt a2).toArray⟩ ⟨((txt a0 ++ [105])).toArray⟩).run Tryz.prog W = .ok (.string ⟨(txt a2 ++ (txt a0 ++ [105])).toArray⟩) W := fun W => cat_ (txt a2) ((txt a0 ++ [105])) _ _ rfl rfl (by first | omega | (simp; omega) | simp) (by first | omega | (simp; omega) | simp) W
  have ct2 : ∀ W, (Op.stringOp .add ⟨#[47]⟩ ⟨(txt a1).toArray⟩).run Tryz.prog W = .ok (.string ⟨([47] ++ txt a1).toArray⟩) W := fun W => cat_ ([47]) (txt a1) _ _ rfl rfl (by first | omega | (simp; omega) | simp) (by first | omega | (simp; omega) | simp) W
  have ct3 : ∀ W, (Op.stringOp .add ⟨((txt a2 ++ (txt a0 ++ [105]))).toArray⟩ ⟨(([47] ++ txt a1)).toArray⟩).run Tryz.prog W = .ok (.string ⟨((txt a2 ++ (txt a0 ++ [105])) ++ ([47] ++ txt a1)).toArray⟩) W := fun W => cat_ ((txt a2 ++ (txt a0 ++ [105]))) (([47] ++ txt a1)) _ _ rfl rfl (by first | omega | (simp; omega) | simp) (by first | omega | (simp; omega) | simp) W
  have o1 : Own w w.heap.size := Own.of hS.ext (by simp)
  have am := (St.al hS 26 #[.bool a3, .slice a4 a5 a6, .bool true, .slice a7 a8 a9, .bool aa, .slice ab ac ad] (g := w.heap.size) (by simp))
  have k_1 := (am.blk 0 rfl).cell
  go_enter Tryz.func37, Tryz.ntmps37
  go_wp2_with fail
  clear k_1
  clear am
  replace hS := (St.al hS 26 #[.bool a3, .slice a4 a5 a6, .bool true, .slice a7 a8 a9, .bool aa, .slice ab ac ad] (g := w.heap.size) (by simp))
  generalize (w.alloc (.cells #[.bool a3, .slice a4 a5 a6, .bool true, .slice a7 a8 a9, .bool aa, .slice ab ac ad] 26)) = w1 at hS ⊢
  generalize w.heap.size = g1 at hS o1 ⊢
  refine (eValid_gv _ q0 (n0) _ ⟨_, _, _, RG.mk (hS.num 2 rfl) (hS.num 1 rfl) (hS.num 0 rfl), I0, S0⟩ (by omega)).mono ?_
  rintro e w2 ⟨rfl, hx_⟩
  replace hS := hS.mv hx_
  clear hx_
  have k_2 := (hS.blk 0 rfl).cell
  go_wp2_with fail
  clear k_2
  refine (Text_all _ a2 _ (hS.num 2 rfl) ae (tab_ext hTab hS.ext)).mono ?_
  rintro e w3 ⟨rfl, hx_⟩
  replace hS := hS.mv hx_
  clear hx_
  have k_3 := (hS.blk 0 rfl).cell
  go_wp2_with fail
  clear k_3
  refine (Text_all _ a0 _ (hS.num 1 rfl) af (tab_ext hTab hS.ext)).mono ?_
  rintro e w4 ⟨rfl, hx_⟩
  replace hS := hS.mv hx_
  clear hx_
  have k_4 := (hS.blk 0 rfl).cell
  go_wp2_with fail
  clear k_4
  refine (one_no _ a1 _ (hS.num 0 rfl) H1.out).mono ?_
  rintro e w5 ⟨rfl, hx_⟩
  replace hS := hS.mv hx_
  clear hx_
  have k_5 := (hS.blk 0 rfl).cell
  go_wp2_with fail
  clear k_5
  refine (Text_all _ a1 _ (hS.num 0 rfl) ag (tab_ext hTab hS.ext)).mono ?_
  rintro e w6 ⟨rfl, hx_⟩
  replace hS := hS.mv hx_
  clear hx_
  go_wp2
  go_ret
  exact ⟨ret_str (by unfold gtx; rw [if_pos (by have := H0.out; omega : a0 < 0), if_neg H1.out]; first | (simp; done) | (simp only [ByteArray.mk_append_mk]; simp; done)), hS.ext⟩

theorem xText_ok (v : Value) (q : GQ) (n : Nat) (w : World) (hX : GV w v q n) (hn : n ≤ 12800) (hTab : Tab w) {a b d : Int} (I : Is q a b d) :
    Calls Tryz.prog 37 #[v] w fun e w' => e = .returned (.string ⟨(gtx a b d).toArray⟩) ∧ Ext w w' := by
  obtain ⟨a1, b1, d1, h1, h2, h3⟩ := hX
  obtain ⟨rfl, rfl, rfl⟩ := h2.unique I
  obtain ⟨l1, l2, l3⟩ := h3.lims hn
  rcases Int.lt_or_le b1 0 with hb | hb <;> by_cases hd : d1 = 1
  · exact xText_n1 v a1 b1 d1 q n w h1 l1 l2 l3 h2 h3 hn (Lib.hid hb) (Lib.hid hd) hTab
  · exact xText_nd v a1 b1 d1 q n w h1 l1 l2 l3 h2 h3 hn (Lib.hid hb) (Lib.hid hd) hTab
  · exact xText_p1 v a1 b1 d1 q n w h1 l1 l2 l3 h2 h3 hn (Lib.hid hb) (Lib.hid hd) hTab
  · exact xText_pd v a1 b1 d1 q n w h1 l1 l2 l3 h2 h3 hn (Lib.hid hb) (Lib.hid hd) hTab
end Go.Proofs.YtjeijmnhbckjdaaGreatDoor
