/- Words and contracts that the laws share, several texts in one. -/
import Derived.Test.YtclkkoiaaddllaaGreatQMBkbof
import Derived.Test.YtclkkoiaaddllaaGreatQMDdegk
import Derived.Test.YtclkkoiaaddllaaGreatQMGldam
import Derived.Test.YtclkkoiaaddllaaGreatQMAlchc
/- Words for exact numbers: a store that changes nothing; three integers in one value. -/
namespace Go.Proofs.YtclkkoiaaddllaaGreat
open Go.RowKit
set_option linter.unusedVariables false

theorem set_same {cs : Array Value} {i : Nat} {v : Value} (h : cs[i]? = some v) : cs.setIfInBounds i v = cs := by
  apply Array.ext'
  simp only [Array.toList_setIfInBounds]
  have h2 : cs.toList[i]? = some v := by simpa using h
  obtain ⟨hlt, e⟩ := List.getElem?_eq_some_iff.1 h2
  rw [← e]
  exact List.set_getElem_self hlt
/-- A store of what is there changes nothing. -/
theorem Ext.stay {w0 w : World} {g i : Nat} {t : TypeId} {cs : Array Value} {v : Value} (hx : Ext w0 w) (hb : Blk w g t cs) (h : cs[i]? = some v) : Ext w0 (w.setCell ⟨g, i, none⟩ v) := by
  refine ⟨hx.os, hx.tape, hx.output, by have := hx.size; simpa [World.setCell] using this, fun k hk => ?_⟩
  by_cases hkg : k = g
  · subst hkg
    have h1 := hb.set_ i v
    rw [set_same h] at h1
    have h2 := hx.block k hk
    rw [← h2]
    exact (show (w.setCell ⟨k, i, none⟩ v).heap[k]? = some (.cells cs t (0, 0)) from h1).trans (show w.heap[k]? = some (.cells cs t (0, 0)) from hb).symm
  · rw [Below.heap_setCell w ⟨g, i, none⟩ v k hkg]
    exact hx.block k hk

theorem RI.opn {w : World} {v : Value} {z : Int} (h : RI w v z) : ∃ s A n c, v = iv s A n c ∧ RI w (iv s A n c) z := by
  obtain ⟨A, n, c, rfl, h'⟩ := h
  exact ⟨_, A, n, c, rfl, A, n, c, rfl, h'⟩
/-- A box of an integer, written anew. -/
theorem box_put1 {w w' : World} {g : Nat} {b0 : Bool} {A0 : Option Addr} {n0 c0 : Nat} (hx : Ext w w') (hg : w.heap.size ≤ g) (hb : Blk w' g 30 #[.bool b0, .slice A0 n0 c0]) (b : Bool) (A : Option Addr) (n c : Nat) :
    Ext w ((w'.setCell ⟨g, 0, none⟩ (.bool b)).setCell ⟨g, 1, none⟩ (.slice A n c)) ∧ Blk ((w'.setCell ⟨g, 0, none⟩ (.bool b)).setCell ⟨g, 1, none⟩ (.slice A n c)) g 30 #[.bool b, .slice A n c] ∧ ∀ v z, RI w' v z → RI ((w'.setCell ⟨g, 0, none⟩ (.bool b)).setCell ⟨g, 1, none⟩ (.slice A n c)) v z := by
  obtain ⟨k1, k2, k3⟩ := put2 hx hg hb b A n c
  exact ⟨k1, k2, fun v z ⟨A', n', c', h1, h2⟩ => ⟨A', n', c', h1, k3 _ _ _ _ h2⟩⟩
/-- Three integers in one value. -/
abbrev gv (s1 : Bool) (A1 : Option Addr) (n1 c1 : Nat) (s2 : Bool) (A2 : Option Addr) (n2 c2 : Nat) (s3 : Bool) (A3 : Option Addr) (n3 c3 : Nat) : Value :=
  .agg #[.bool s1, .slice A1 n1 c1, .bool s2, .slice A2 n2 c2, .bool s3, .slice A3 n3 c3]
/-- The value holds the integers a, b, d. -/
def RG (w : World) (v : Value) (a b d : Int) : Prop :=
  ∃ s1 A1 n1 c1 s2 A2 n2 c2 s3 A3 n3 c3, v = gv s1 A1 n1 c1 s2 A2 n2 c2 s3 A3 n3 c3 ∧ RI w (iv s1 A1 n1 c1) a ∧ RI w (iv s2 A2 n2 c2) b ∧ RI w (iv s3 A3 n3 c3) d
theorem RG.ext {w w' : World} {v : Value} {a b d : Int} (h : RG w v a b d) (x : Ext w w') : RG w' v a b d := by
  obtain ⟨s1, A1, n1, c1, s2, A2, n2, c2, s3, A3, n3, c3, e, h1, h2, h3⟩ := h
  exact ⟨s1, A1, n1, c1, s2, A2, n2, c2, s3, A3, n3, c3, e, h1.ext x, h2.ext x, h3.ext x⟩
end Go.Proofs.YtclkkoiaaddllaaGreat

/- Contracts of the calculator with integers, as long as it has met no error. -/
namespace Go.Proofs.YtclkkoiaaddllaaGreat
open Go.RowKit
set_option linter.unusedVariables false

/-- The calculator at block g has met no error. -/
def Calm (w : World) (g : Nat) : Prop := Blk w g 105 #[.int .i64 0]
theorem Calm.ext {w w' : World} {g : Nat} (h : Calm w g) (x : Ext w w') : Calm w' g := Blk.ext h x

set_option maxRecDepth 100000 in
set_option maxHeartbeats 800000 in
theorem keep_ok (g : Nat) (v : Value) (z : Int) (w : World) (hc : Calm w g) (hX : RI w v z) :
    Calls Tryz.prog 119 #[.pointer (some ⟨g, 0, none⟩), v, .int .i64 0] w fun e w' => ∃ v, e = .returned v ∧ RI w' v z ∧ Ext w w' := by
  obtain ⟨s, A, n, c, rfl, hX⟩ := hX.opn
  have k00 := Blk.cell hc
  have f00 := Blk.frozen hc
  have hw1 : Ext w (w.setCell ⟨g, 0, none⟩ (.int .i64 0)) := (Ext.refl w).stay hc rfl
  have hc1 := hc.ext hw1
  have k1 := Blk.cell hc1
  have hlt : g < w.heap.size := Blk.lt hc
  have hX1 := hX.ext hw1
  go_enter Tryz.func119, Tryz.ntmps119
  go_wp2_with fail
  exact bp_int1 rfl rfl rfl (Blk.new' _ _ (by simp [World.setCell])) ⟨_, rfl, hX1.ext ((Ext.new _ _).alloc _), hw1.trans ((Ext.new _ _).alloc _)⟩

set_option maxRecDepth 100000 in
set_option maxHeartbeats 800000 in
theorem one_any (v : Value) (z : Int) (w : World) (hX : RI w v z) :
    Calls Tryz.prog 81 #[v] w fun e w' => e = .returned (.bool (decide (z = 1))) ∧ Ext w w' := by
  obtain ⟨A, n, c, rfl, hx⟩ := hX
  have hlen := hx.len
  generalize hs : decide (z < 0) = s at *
  have c0 := (Blk.new w 30 #[.bool s, .slice A n c]).cell
  cases s
  · by_cases h1 : n = 1
    · subst h1
      obtain ⟨ad, x, rfl, hb, hdx, hx32, hcx⟩ := hx.at_ (k := 0) (by omega)
      have hzx : z = (x : Int) := by
        have hd : digs z.natAbs = [x] := by
          cases hq : digs z.natAbs with
          | nil => rw [hq] at hlen; simp at hlen
          | cons a m =>
            rw [hq] at hlen hdx
            simp at hlen hdx
            rw [hlen, hdx]
        have hv := val_digs z.natAbs
        rw [hd] at hv
        simp [val] at hv
        have := of_decide_eq_false hs
        omega
      have hcx2 := (Ext.new w (.cells #[.bool false, .slice (some ad) 1 c] 30)).cell_ hcx
      have hcx3 : (w.alloc (.cells #[.bool false, .slice (some ad) 1 c] 30)).cell? ad = some (.int .u32 (x : Int)) := by
        have e : ad.add 0 = ad := by simp [Addr.add]
        rw [e] at hcx2
        exact hcx2
      have HZX := Lib.hid hzx; clear hzx hs hlen
      by_cases hx1 : x = 1
      · subst hx1
        go_enter Tryz.func81, Tryz.ntmps81
        go_wp2
        go_ret
        exact ⟨ret_bool (by rw [HZX.out]; rfl), Ext.new _ _⟩
      · have t1 : ((x : Int) == 1) = false := by simp; omega
        have t2 : ¬ (x : Int) = 1 := by omega
        go_enter Tryz.func81, Tryz.ntmps81
        go_wp2
        go_ret
        exact ⟨ret_bool (by rw [HZX.out]; simp; omega), Ext.new _ _⟩
    · have hz1 : z ≠ 1 := by
        intro e
        subst e
        have : digs (1 : Int).natAbs = [1] := by
          have e : (1 : Int).natAbs = val [1] := rfl
          rw [e]
          exact digs_val (Dig.one (by decide)) (by intro x h; simp at h; omega)
        rw [this] at hlen
        simp at hlen
        omega
      have t1 : ((n : Int) == 1) = false := by simp; omega
      have t2 : ¬ (n : Int) = 1 := by omega
      have HZ1 := Lib.hid hz1; clear hz1 hs hlen
      go_enter Tryz.func81, Tryz.ntmps81
      go_wp2
      go_ret
      exact ⟨ret_bool (by simpa using HZ1.out), Ext.new _ _⟩
  · have hz1 : z ≠ 1 := by have := of_decide_eq_true hs; omega
    have HZ1 := Lib.hid hz1; clear hz1 hs hlen
    go_enter Tryz.func81, Tryz.ntmps81
    go_wp2
    go_ret
    exact ⟨ret_bool (by simpa using HZ1.out), Ext.new _ _⟩
end Go.Proofs.YtclkkoiaaddllaaGreat

/- Contracts of the calculator: copies, sums, differences, negatives. -/
namespace Go.Proofs.YtclkkoiaaddllaaGreat
open Go.RowKit
set_option linter.unusedVariables false

set_option maxRecDepth 100000 in
set_option maxHeartbeats 800000 in
theorem eclone_any (v : Value) (z : Int) (w : World) (hX : RI w v z) (az : z.natAbs < lim) :
    Calls Tryz.prog 121 #[v] w fun e w' => ∃ v, e = .returned v ∧ RI w' v z ∧ Ext w w' := by
  obtain ⟨A, n, c, rfl, hx⟩ := hX
  have hn := hx.le400 az
  have HI : Hid (∀ w' A' n' c', RM w' A' n' c' (digs z.natAbs) → RI w' (iv (decide (z < 0)) A' n' c') z) := Lib.hid (fun w' A' n' c' h => ⟨A', n', c', rfl, h⟩)
  generalize decide (z < 0) = s at *
  have hE := (Ext.new w (.cells #[.bool s, .slice A n c] 30)).alloc (.cells #[.bool false, .slice none 0 0] 30)
  have Y0 := ExtOf.blk ((Blk.new w 30 #[.bool s, .slice A n c]).alloc (.cells #[.bool false, .slice none 0 0] 30))
  go_enter Tryz.func121, Tryz.ntmps121
  go_wp2_with fail
  refine wp_region_ordE 6 [(true, 0), (true, 1), (true, 2), (true, 3), (false, 4), (true, 5)] (by kernel_rfl) (by kernel_rfl) ?_
  refine wpOrdT_quiet [0, 1, 2, 3] [(false, 4), (true, 5)] _ (by kernel_rfl) ?_
  simp only [nthOps, nthOp, List.cons_append, List.nil_append]
  repeat (go_big_quiet_step (fail))
  refine wpQuiet_nil ?_
  refine wpOrdT_act 4 [(true, 5)] (by kernel_rfl) ?_
  intro K hK
  simp only [nthOp]
  go_wp2_with fail
  refine (clone_any A n c _ _ ((hx.ext hE).ext (Ext.refl _).drew) (by omega)).mono ?_
  rintro e w3 ⟨v1, rfl, ⟨A1, n1, c1, rfl, hR⟩, hxw3⟩
  have hxw3 := Ext.undrew hxw3
  go_wp2
  refine hK _ _ ⟨⟨w3, hxw3⟩, rfl⟩ ?_
  clear hK K
  refine wpOrdT_quiet [5] [] _ (by kernel_rfl) ?_
  simp only [nthOps, nthOp, List.cons_append, List.nil_append]
  repeat (go_big_quiet_step (fail))
  refine wpQuiet_nil ?_
  clear Y0
  simp only [wpOrdT, List.drop_succ_cons, List.drop_zero]
  have b4 := box2b hxw3
  have c4 := b4.cell
  have f4 := b4.frozen
  obtain ⟨k1, k2, k3⟩ := put2 (box2 hxw3) (by omega) b4 s A1 n1 c1
  have K1 := Lib.hid k1; have K2 := Lib.hid k2; have K3 := Lib.hid (k3 _ _ _ _ hR); clear k1 k2 k3
  go_wp2
  exact bp_int1 rfl rfl rfl K2.out ⟨_, rfl, HI.out _ _ _ _ K3.out, K1.out⟩

set_option maxRecDepth 100000 in
set_option maxHeartbeats 800000 in
theorem eadd_ok (g : Nat) (a b : Value) (x y z : Int) (w : World) (hc : Calm w g) (hX : RI w a x) (hY : RI w b y) (ax : x.natAbs < lim) (ay : y.natAbs < lim) (hz : z = x + y) (az : z.natAbs < lim) :
    Calls Tryz.prog 91 #[.pointer (some ⟨g, 0, none⟩), a, b] w fun e w' => ∃ v, e = .returned v ∧ RI w' v z ∧ Ext w w' := by
  obtain ⟨s, A, n, c, rfl, hX⟩ := hX.opn
  obtain ⟨t, B, m, d, rfl, hY⟩ := hY.opn
  have HR : Hid (resS (x + y) = (z, 0)) := Lib.hid (by rw [← hz]; exact resS_ok az)
  clear hz
  have hE := ((Ext.new w (.cells #[.bool s, .slice A n c] 30)).alloc (.cells #[.bool t, .slice B m d] 30)).alloc (.cells #[.bool false, .slice none 0 0] 30)
  go_enter Tryz.func91, Tryz.ntmps91
  go_wp2_with fail
  refine (Add_ok _ _ x y _ (hX.ext hE) (hY.ext hE) ax ay).mono ?_
  rintro e w1 ⟨v1, rfl, hret, hx1⟩
  rw [HR.out] at hret
  obtain ⟨u1, rfl, hI⟩ := hret
  go_wp2_with fail
  refine (keep_ok g u1 z _ ((hc.ext hE).ext hx1) hI).mono ?_
  rintro e w2 ⟨v2, rfl, hI2, hx2⟩
  obtain ⟨s2, A2, n2, c2, rfl, hI2⟩ := hI2.opn
  have hx3 := hx1.trans hx2
  have b4 := box3c hx3
  have c4 := b4.cell
  have f4 := b4.frozen
  obtain ⟨k1, k2, k3⟩ := box_put1 (box3 hx3) (by omega) b4 s2 A2 n2 c2
  have K1 := Lib.hid k1; have K2 := Lib.hid k2; have K3 := Lib.hid (k3 _ _ hI2); clear k1 k2 k3
  go_wp2
  exact bp_int1 rfl rfl rfl K2.out ⟨_, rfl, K3.out, K1.out⟩
set_option maxRecDepth 100000 in
set_option maxHeartbeats 800000 in
theorem esub_ok (g : Nat) (a b : Value) (x y z : Int) (w : World) (hc : Calm w g) (hX : RI w a x) (hY : RI w b y) (ax : x.natAbs < lim) (ay : y.natAbs < lim) (hz : z = x - y) (az : z.natAbs < lim) :
    Calls Tryz.prog 125 #[.pointer (some ⟨g, 0, none⟩), a, b] w fun e w' => ∃ v, e = .returned v ∧ RI w' v z ∧ Ext w w' := by
  obtain ⟨s, A, n, c, rfl, hX⟩ := hX.opn
  obtain ⟨t, B, m, d, rfl, hY⟩ := hY.opn
  have HR : Hid (resS (x - y) = (z, 0)) := Lib.hid (by rw [← hz]; exact resS_ok az)
  clear hz
  have hE := ((Ext.new w (.cells #[.bool s, .slice A n c] 30)).alloc (.cells #[.bool t, .slice B m d] 30)).alloc (.cells #[.bool false, .slice none 0 0] 30)
  go_enter Tryz.func125, Tryz.ntmps125
  go_wp2_with fail
  refine (Sub_ok _ _ x y _ (hX.ext hE) (hY.ext hE) ax ay).mono ?_
  rintro e w1 ⟨v1, rfl, hret, hx1⟩
  rw [HR.out] at hret
  obtain ⟨u1, rfl, hI⟩ := hret
  go_wp2_with fail
  refine (keep_ok g u1 z _ ((hc.ext hE).ext hx1) hI).mono ?_
  rintro e w2 ⟨v2, rfl, hI2, hx2⟩
  obtain ⟨s2, A2, n2, c2, rfl, hI2⟩ := hI2.opn
  have hx3 := hx1.trans hx2
  have b4 := box3c hx3
  have c4 := b4.cell
  have f4 := b4.frozen
  obtain ⟨k1, k2, k3⟩ := box_put1 (box3 hx3) (by omega) b4 s2 A2 n2 c2
  have K1 := Lib.hid k1; have K2 := Lib.hid k2; have K3 := Lib.hid (k3 _ _ hI2); clear k1 k2 k3
  go_wp2
  exact bp_int1 rfl rfl rfl K2.out ⟨_, rfl, K3.out, K1.out⟩
end Go.Proofs.YtclkkoiaaddllaaGreat

/- Contracts of the calculator: negatives, products. -/
namespace Go.Proofs.YtclkkoiaaddllaaGreat
open Go.RowKit
set_option linter.unusedVariables false

set_option maxRecDepth 100000 in
set_option maxHeartbeats 800000 in
theorem eneg_ok (g : Nat) (a : Value) (x z : Int) (w : World) (hc : Calm w g) (hX : RI w a x) (ax : x.natAbs < lim) (hz : z = -x) :
    Calls Tryz.prog 105 #[.pointer (some ⟨g, 0, none⟩), a] w fun e w' => ∃ v, e = .returned v ∧ RI w' v z ∧ Ext w w' := by
  obtain ⟨s, A, n, c, rfl, hX⟩ := hX.opn
  have HZ := Lib.hid hz; clear hz
  have hE := (Ext.new w (.cells #[.bool s, .slice A n c] 30)).alloc (.cells #[.bool false, .slice none 0 0] 30)
  go_enter Tryz.func105, Tryz.ntmps105
  go_wp2_with fail
  refine (Neg_ok _ x z _ (hX.ext hE) ax HZ.out).mono ?_
  rintro e w1 ⟨v1, rfl, ⟨u1, rfl, hI⟩, hx1⟩
  go_wp2_with fail
  refine (keep_ok g u1 z _ ((hc.ext hE).ext hx1) hI).mono ?_
  rintro e w2 ⟨v2, rfl, hI2, hx2⟩
  obtain ⟨s2, A2, n2, c2, rfl, hI2⟩ := hI2.opn
  have hx3 := hx1.trans hx2
  have b4 := box2b hx3
  have c4 := b4.cell
  have f4 := b4.frozen
  obtain ⟨k1, k2, k3⟩ := box_put1 (box2 hx3) (by omega) b4 s2 A2 n2 c2
  have K1 := Lib.hid k1; have K2 := Lib.hid k2; have K3 := Lib.hid (k3 _ _ hI2); clear k1 k2 k3
  go_wp2
  exact bp_int1 rfl rfl rfl K2.out ⟨_, rfl, K3.out, K1.out⟩

set_option maxRecDepth 100000 in
set_option maxHeartbeats 1600000 in
theorem emul_ok (g : Nat) (a b : Value) (x y z : Int) (w : World) (hc : Calm w g) (hX : RI w a x) (hY : RI w b y) (ax : x.natAbs < lim) (ay : y.natAbs < lim) (hz : z = x * y) (az : z.natAbs < lim) :
    Calls Tryz.prog 90 #[.pointer (some ⟨g, 0, none⟩), a, b] w fun e w' => ∃ v, e = .returned v ∧ RI w' v z ∧ Ext w w' := by
  obtain ⟨s, A, n, c, rfl, hX⟩ := hX.opn
  obtain ⟨t, B, m, d, rfl, hY⟩ := hY.opn
  have HR : Hid (resS (x * y) = (z, 0)) := Lib.hid (by rw [← hz]; exact resS_ok az)
  have HZ := Lib.hid hz
  clear hz
  have hE := ((Ext.new w (.cells #[.bool s, .slice A n c] 30)).alloc (.cells #[.bool t, .slice B m d] 30)).alloc (.cells #[.bool false, .slice none 0 0] 30)
  go_enter Tryz.func90, Tryz.ntmps90
  go_wp2_with fail
  refine (one_any _ x _ (hX.ext hE)).mono ?_
  rintro e w1 ⟨rfl, hx1⟩
  have c0 := (box3a hx1).cell
  have c1 := (box3b hx1).cell
  by_cases h1 : x = 1
  · have t1 : decide (x = 1) = true := by simpa using h1
    have hzy : y = z := by rw [HZ.out, h1]; omega
    have HZY := Lib.hid hzy; have H1 := Lib.hid h1; clear hzy h1
    rw [t1]
    clear t1
    go_wp2_with fail
    refine (eclone_any _ y _ (hY.ext (box3 hx1)) ay).mono ?_
    rintro e w2 ⟨v2, rfl, hI2, hx2⟩
    rw [HZY.out] at hI2
    obtain ⟨s2, A2, n2, c2, rfl, hI2⟩ := hI2.opn
    have hx5 := hx1.trans hx2
    have b4 := box3c hx5
    have c4 := b4.cell
    have f4 := b4.frozen
    obtain ⟨k1, k2, k3⟩ := box_put1 (box3 hx5) (by omega) b4 s2 A2 n2 c2
    have K1 := Lib.hid k1; have K2 := Lib.hid k2; have K3 := Lib.hid (k3 _ _ hI2); clear k1 k2 k3
    go_wp2
    exact bp_int1 rfl rfl rfl K2.out ⟨_, rfl, K3.out, K1.out⟩
  · have t1 : decide (x = 1) = false := by simpa using h1
    have H1 := Lib.hid h1; clear h1
    rw [t1]
    clear t1
    go_wp2_with fail
    refine (one_any _ y _ (hY.ext (box3 hx1))).mono ?_
    rintro e w3 ⟨rfl, hx3⟩
    have hx1 := hx1.trans hx3
    clear c0 c1
    have c0 := (box3a hx1).cell
    have c1 := (box3b hx1).cell
    by_cases h2 : y = 1
    · have t1 : decide (y = 1) = true := by simpa using h2
      have hzy : x = z := by rw [HZ.out, h2]; omega
      have HZY := Lib.hid hzy; clear hzy h2
      rw [t1]
      clear t1
      go_wp2_with fail
      refine (eclone_any _ x _ (hX.ext (box3 hx1)) ax).mono ?_
      rintro e w2 ⟨v2, rfl, hI2, hx2⟩
      rw [HZY.out] at hI2
      obtain ⟨s2, A2, n2, c2, rfl, hI2⟩ := hI2.opn
      have hx5 := hx1.trans hx2
      have b4 := box3c hx5
      have c4 := b4.cell
      have f4 := b4.frozen
      obtain ⟨k1, k2, k3⟩ := box_put1 (box3 hx5) (by omega) b4 s2 A2 n2 c2
      have K1 := Lib.hid k1; have K2 := Lib.hid k2; have K3 := Lib.hid (k3 _ _ hI2); clear k1 k2 k3
      go_wp2
      exact bp_int1 rfl rfl rfl K2.out ⟨_, rfl, K3.out, K1.out⟩
    · have t1 : decide (y = 1) = false := by simpa using h2
      have H2 := Lib.hid h2; clear h2
      rw [t1]
      clear t1
      go_wp2_with fail
      refine (Mul_ok _ _ x y _ (hX.ext (box3 hx1)) (hY.ext (box3 hx1)) ax ay).mono ?_
      rintro e w4 ⟨v4, rfl, hret, hx4⟩
      rw [HR.out] at hret
      obtain ⟨u4, rfl, hI⟩ := hret
      have hx1 := hx1.trans hx4
      go_wp2_with fail
      refine (keep_ok g u4 z _ (hc.ext (box3 hx1)) hI).mono ?_
      rintro e w2 ⟨v2, rfl, hI2, hx2⟩
      obtain ⟨s2, A2, n2, c2, rfl, hI2⟩ := hI2.opn
      have hx5 := hx1.trans hx2
      have b4 := box3c hx5
      have c4 := b4.cell
      have f4 := b4.frozen
      obtain ⟨k1, k2, k3⟩ := box_put1 (box3 hx5) (by omega) b4 s2 A2 n2 c2
      have K1 := Lib.hid k1; have K2 := Lib.hid k2; have K3 := Lib.hid (k3 _ _ hI2); clear k1 k2 k3
      go_wp2
      exact bp_int1 rfl rfl rfl K2.out ⟨_, rfl, K3.out, K1.out⟩
end Go.Proofs.YtclkkoiaaddllaaGreat

/- Words for the walks over exact numbers: facts of a drawn region, stores into boxes, values of three and six integers. -/
namespace Go.Proofs.YtclkkoiaaddllaaGreat
open Go.RowKit
set_option linter.unusedVariables false

/-- A block of the call's own. -/
def Own (w : World) (g : Nat) : Prop := w.heap.size ≤ g
theorem Own.ne {w : World} {g c : Nat} {t : TypeId} {cs : Array Value} (h : Own w g) (hb : Blk w c t cs) : c ≠ g := by
  have := hb.lt
  unfold Own at h
  omega
theorem Own.of {w w' : World} {g : Nat} (h : Ext w w') (hg : w'.heap.size ≤ g) : Own w g := Nat.le_trans h.size hg

/-- The value holds six integers. -/
abbrev pv (s1 : Bool) (A1 : Option Addr) (n1 c1 : Nat) (s2 : Bool) (A2 : Option Addr) (n2 c2 : Nat) (s3 : Bool) (A3 : Option Addr) (n3 c3 : Nat) (s4 : Bool) (A4 : Option Addr) (n4 c4 : Nat) (s5 : Bool) (A5 : Option Addr) (n5 c5 : Nat) (s6 : Bool) (A6 : Option Addr) (n6 c6 : Nat) : Value :=
  .agg #[.bool s1, .slice A1 n1 c1, .bool s2, .slice A2 n2 c2, .bool s3, .slice A3 n3 c3, .bool s4, .slice A4 n4 c4, .bool s5, .slice A5 n5 c5, .bool s6, .slice A6 n6 c6]
def RP (w : World) (v : Value) (a b d x y z : Int) : Prop :=
  ∃ s1 A1 n1 c1 s2 A2 n2 c2 s3 A3 n3 c3 s4 A4 n4 c4 s5 A5 n5 c5 s6 A6 n6 c6, v = pv s1 A1 n1 c1 s2 A2 n2 c2 s3 A3 n3 c3 s4 A4 n4 c4 s5 A5 n5 c5 s6 A6 n6 c6 ∧ RI w (iv s1 A1 n1 c1) a ∧ RI w (iv s2 A2 n2 c2) b ∧ RI w (iv s3 A3 n3 c3) d ∧ RI w (iv s4 A4 n4 c4) x ∧ RI w (iv s5 A5 n5 c5) y ∧ RI w (iv s6 A6 n6 c6) z
theorem RP.ext {w w' : World} {v : Value} {a b d x y z : Int} (h : RP w v a b d x y z) (e : Ext w w') : RP w' v a b d x y z := by
  obtain ⟨s1, A1, n1, c1, s2, A2, n2, c2, s3, A3, n3, c3, s4, A4, n4, c4, s5, A5, n5, c5, s6, A6, n6, c6, e0, h1, h2, h3, h4, h5, h6⟩ := h
  exact ⟨s1, A1, n1, c1, s2, A2, n2, c2, s3, A3, n3, c3, s4, A4, n4, c4, s5, A5, n5, c5, s6, A6, n6, c6, e0, h1.ext e, h2.ext e, h3.ext e, h4.ext e, h5.ext e, h6.ext e⟩
theorem RG.mk {w : World} {s1 s2 s3 : Bool} {A1 A2 A3 : Option Addr} {n1 c1 n2 c2 n3 c3 : Nat} {a b d : Int} (h1 : RI w (iv s1 A1 n1 c1) a) (h2 : RI w (iv s2 A2 n2 c2) b) (h3 : RI w (iv s3 A3 n3 c3) d) : RG w (gv s1 A1 n1 c1 s2 A2 n2 c2 s3 A3 n3 c3) a b d :=
  ⟨_, _, _, _, _, _, _, _, _, _, _, _, rfl, h1, h2, h3⟩
theorem RP.mk {w : World} {s1 s2 s3 s4 s5 s6 : Bool} {A1 A2 A3 A4 A5 A6 : Option Addr} {n1 c1 n2 c2 n3 c3 n4 c4 n5 c5 n6 c6 : Nat} {a b d x y z : Int} (h1 : RI w (iv s1 A1 n1 c1) a) (h2 : RI w (iv s2 A2 n2 c2) b) (h3 : RI w (iv s3 A3 n3 c3) d) (h4 : RI w (iv s4 A4 n4 c4) x) (h5 : RI w (iv s5 A5 n5 c5) y) (h6 : RI w (iv s6 A6 n6 c6) z) :
    RP w (pv s1 A1 n1 c1 s2 A2 n2 c2 s3 A3 n3 c3 s4 A4 n4 c4 s5 A5 n5 c5 s6 A6 n6 c6) a b d x y z :=
  ⟨_, _, _, _, _, _, _, _, _, _, _, _, _, _, _, _, _, _, _, _, _, _, _, _, rfl, h1, h2, h3, h4, h5, h6⟩

/-- What is known of the value of an operation that adds memory. -/
inductive Fc where
  | any
  | ri (z : Int)
  | rg (a b d : Int)
  | rp (a b d x y z : Int)
  | reti (p : Int × Int)
  | retd (q r e : Int)
  | retg (a b d e : Int)
  | retp (a b d x y z e : Int)
  | box (t : TypeId) (cs : Array Value)
  | sl (t : TypeId) (n : Nat) (cs : Array Value)
  | eq (u : Value)
def Fc.holds : Fc → Nat → Nat → Value → World → Prop
  | .any, _, _, _, _ => True
  | .ri z, _, _, v, w => RI w v z
  | .rg a b d, _, _, v, w => RG w v a b d
  | .rp a b d x y z, _, _, v, w => RP w v a b d x y z
  | .reti p, _, _, v, w => RetI p v w
  | .retd q r e, _, _, v, w => RetD q r e v w
  | .retg a b d e, _, _, v, w => ∃ u, v = .tuple #[u, .int .i64 e] ∧ RG w u a b d
  | .retp a b d x y z e, _, _, v, w => ∃ u, v = .tuple #[u, .int .i64 e] ∧ RP w u a b d x y z
  | .box t cs, lo, hi, v, w => v = .pointer (some ⟨lo, 0, none⟩) ∧ lo < hi ∧ Blk w lo t cs
  | .sl t n cs, lo, hi, v, w => v = .slice (some ⟨lo, 0, none⟩) n n ∧ lo < hi ∧ Blk w lo t cs
  | .eq u, _, _, v, _ => v = u
theorem Fc.stab (f : Fc) {lo hi : Nat} {v : Value} {w w' : World} (h : f.holds lo hi v w) (x : Ext w w') : f.holds lo hi v w' := by
  cases f with
  | any => trivial
  | ri z => exact RI.ext h x
  | rg a b d => exact RG.ext h x
  | rp a b d p q r => exact RP.ext h x
  | reti p => exact RetI.ext h x
  | retd q r e => obtain ⟨a, b, h1, h2, h3⟩ := h; exact ⟨a, b, h1, RI.ext h2 x, RI.ext h3 x⟩
  | retg a b d e => obtain ⟨u, h1, h2⟩ := h; exact ⟨u, h1, h2.ext x⟩
  | retp a b d p q r e => obtain ⟨u, h1, h2⟩ := h; exact ⟨u, h1, h2.ext x⟩
  | box t cs => exact ⟨h.1, h.2.1, h.2.2.ext x⟩
  | sl t n cs => exact ⟨h.1, h.2.1, h.2.2.ext x⟩
  | eq u => exact h
def lookF : List (Nat × Fc) → Nat → Fc
  | [], _ => .any
  | p :: r, i => bif Nat.beq p.1 i then p.2 else lookF r i
def hasF : List (Nat × Fc) → Nat → Bool
  | [], _ => false
  | p :: r, i => Nat.beq p.1 i || hasF r i
def Fcs (l : List (Nat × Fc)) : Nat → Nat → Nat → Value → World → Prop := fun i lo hi v w => (lookF l i).holds lo hi v w
theorem Fcs_stab (l : List (Nat × Fc)) : ∀ i lo hi v w w', Fcs l i lo hi v w → Ext w w' → Fcs l i lo hi v w' := fun _ _ _ _ _ _ h x => Fc.stab _ h x

/-- Stores into the cells of a block, one behind the other. -/
def puts (w : World) (g : Nat) : Nat → List Value → World
  | _, [] => w
  | i, v :: r => puts (w.setCell ⟨g, i, none⟩ v) g (i + 1) r
def setsA (cs : Array Value) : Nat → List Value → Array Value
  | _, [] => cs
  | i, v :: r => setsA (cs.setIfInBounds i v) (i + 1) r
def noIntB (cs : Array Value) : Bool := cs.toList.all fun v => match v with | .int _ _ => false | _ => true
theorem noIntB_spec {cs : Array Value} (h : noIntB cs = true) : ∀ (j : Nat) (k : IntKind) (x : Int), cs[j]? ≠ some (.int k x) := by
  intro j k x e
  have h1 : (Value.int k x) ∈ cs.toList := by
    have : cs.toList[j]? = some (.int k x) := by simpa using e
    exact List.mem_of_getElem? this
  have := List.all_eq_true.1 h _ h1
  simp at this
theorem puts_only (w : World) (g : Nat) : ∀ (i : Nat) (vs : List Value), Only g w (puts w g i vs)
  | _, [] => Only.refl _ _
  | i, v :: r => (Only.set w g i v).trans (puts_only _ g (i + 1) r)
theorem puts_ext {w0 : World} {g : Nat} (ho : Own w0 g) : ∀ (i : Nat) (vs : List Value) {w : World}, Ext w0 w → Ext w0 (puts w g i vs)
  | _, [], _, h => h
  | i, v :: r, w, h => puts_ext ho (i + 1) r (show Ext w0 (w.setCell ⟨g, i, none⟩ v) from h.setCell (by exact ho) _)
theorem puts_blk {g : Nat} {t : TypeId} : ∀ (i : Nat) (vs : List Value) {w : World} {cs : Array Value}, Blk w g t cs → Blk (puts w g i vs) g t (setsA cs i vs)
  | _, [], _, _, h => h
  | i, v :: r, _, _, h => puts_blk (i + 1) r (h.set_ i v)
theorem box_puts {w w' w'' : World} {g : Nat} {t : TypeId} {cs cs' : Array Value} (i : Nat) (vs : List Value) (hx : Ext w w') (ho : Own w g) (hb : Blk w' g t cs) (hn : noIntB cs = true) (e : w'' = puts w' g i vs) (ec : setsA cs i vs = cs') :
    Ext w w'' ∧ Blk w'' g t cs' ∧ (∀ g2 t cs, g2 ≠ g → Blk w' g2 t cs → Blk w'' g2 t cs) ∧ (∀ v s l, RX w' v s l → RX w'' v s l) ∧ ∀ v z, RI w' v z → RI w'' v z := by
  subst e
  subst ec
  have hX : ∀ v s l, RX w' v s l → RX (puts w' g i vs) v s l := fun v s l ⟨A', n', c', h1, h2⟩ => ⟨A', n', c', h1, h2.only (puts_only _ _ _ _) hb (noIntB_spec hn)⟩
  exact ⟨puts_ext ho _ _ hx, puts_blk _ _ hb, fun g2 t cs hne h => (puts_only w' g i vs).blk h hne, hX, fun v z h => hX _ _ _ h⟩

theorem load_gauss {w : World} {g : Nat} {s1 s2 s3 : Bool} {A1 A2 A3 : Option Addr} {n1 c1 n2 c2 n3 c3 : Nat} (hb : Blk w g 32 #[.bool s1, .slice A1 n1 c1, .bool s2, .slice A2 n2 c2, .bool s3, .slice A3 n3 c3]) : (loadVar 32 ⟨g, 0, none⟩).run Tryz.prog w = .ok (gv s1 A1 n1 c1 s2 A2 n2 c2 s3 A3 n3 c3) w := by
  have hc := hb.cell
  simp [go_sem, hc, gv]
section
variable {fn : Func} {R : Ending → World → Prop} {a : Act} {w : World} {t u g : Nat} {s1 s2 s3 s4 s5 s6 : Bool} {A1 A2 A3 A4 A5 A6 : Option Addr} {n1 c1 n2 c2 n3 c3 n4 c4 n5 c5 n6 c6 : Nat}
theorem bp_gauss1 (hr : fn.results = #[.cell t 32]) (hd : a.defers = []) (hp : a.tmps[t]?.getD undef = .pointer (some ⟨g, 0, none⟩)) (hb : Blk w g 32 #[.bool s1, .slice A1 n1 c1, .bool s2, .slice A2 n2 c2, .bool s3, .slice A3 n3 c3])
    (hR : R (.returned (gv s1 A1 n1 c1 s2 A2 n2 c2 s3 A3 n3 c3)) w) : bodyPost Tryz.prog fn R .ret a w := bodyPost_ret (by simp [results, hr, hp, asAddr, load_gauss hb]) hd hR
theorem bp_gauss2 (hr : fn.results = #[.cell t 32, .tmp u]) (hd : a.defers = []) (hp : a.tmps[t]?.getD undef = .pointer (some ⟨g, 0, none⟩)) (hb : Blk w g 32 #[.bool s1, .slice A1 n1 c1, .bool s2, .slice A2 n2 c2, .bool s3, .slice A3 n3 c3])
    (hR : R (.returned (.tuple #[gv s1 A1 n1 c1 s2 A2 n2 c2 s3 A3 n3 c3, a.tmps.getD u undef])) w) : bodyPost Tryz.prog fn R .ret a w := bodyPost_ret (v := .tuple #[gv s1 A1 n1 c1 s2 A2 n2 c2 s3 A3 n3 c3, a.tmps.getD u undef]) (by simp [results, hr, hp, asAddr, load_gauss hb]) hd hR
end
theorem tame_ne {lo hi lo' hi' : Nat} (h1 : lo < hi) (h2 : lo' < hi') (h : hi ≤ lo' ∨ hi' ≤ lo) : lo ≠ lo' := by omega
section
variable {w : World} {s1 s2 s3 s4 s5 s6 : Bool} {A1 A2 A3 A4 A5 A6 : Option Addr} {n1 c1 n2 c2 n3 c3 n4 c4 n5 c5 n6 c6 : Nat} {a b d x y z e : Int}
theorem RG.inj (h : RG w (gv s1 A1 n1 c1 s2 A2 n2 c2 s3 A3 n3 c3) a b d) : RI w (iv s1 A1 n1 c1) a ∧ RI w (iv s2 A2 n2 c2) b ∧ RI w (iv s3 A3 n3 c3) d := by
  obtain ⟨t1, B1, m1, d1, t2, B2, m2, d2, t3, B3, m3, d3, h0, h1, h2, h3⟩ := h
  simp [gv] at h0
  obtain ⟨rfl, ⟨rfl, rfl, rfl⟩, rfl, ⟨rfl, rfl, rfl⟩, rfl, rfl, rfl, rfl⟩ := h0
  exact ⟨h1, h2, h3⟩
theorem RG.at1 (h : RG w (gv s1 A1 n1 c1 s2 A2 n2 c2 s3 A3 n3 c3) a b d) : RI w (iv s1 A1 n1 c1) a := h.inj.1
theorem RG.at2 (h : RG w (gv s1 A1 n1 c1 s2 A2 n2 c2 s3 A3 n3 c3) a b d) : RI w (iv s2 A2 n2 c2) b := h.inj.2.1
theorem RG.at3 (h : RG w (gv s1 A1 n1 c1 s2 A2 n2 c2 s3 A3 n3 c3) a b d) : RI w (iv s3 A3 n3 c3) d := h.inj.2.2
theorem RP.inj (h : RP w (pv s1 A1 n1 c1 s2 A2 n2 c2 s3 A3 n3 c3 s4 A4 n4 c4 s5 A5 n5 c5 s6 A6 n6 c6) a b d x y z) : RI w (iv s1 A1 n1 c1) a ∧ RI w (iv s2 A2 n2 c2) b ∧ RI w (iv s3 A3 n3 c3) d ∧ RI w (iv s4 A4 n4 c4) x ∧ RI w (iv s5 A5 n5 c5) y ∧ RI w (iv s6 A6 n6 c6) z := by
  obtain ⟨t1, B1, m1, d1, t2, B2, m2, d2, t3, B3, m3, d3, t4, B4, m4, d4, t5, B5, m5, d5, t6, B6, m6, d6, h0, h1, h2, h3, h4, h5, h6⟩ := h
  simp [pv] at h0
  obtain ⟨rfl, ⟨rfl, rfl, rfl⟩, rfl, ⟨rfl, rfl, rfl⟩, rfl, ⟨rfl, rfl, rfl⟩, rfl, ⟨rfl, rfl, rfl⟩, rfl, ⟨rfl, rfl, rfl⟩, rfl, rfl, rfl, rfl⟩ := h0
  exact ⟨h1, h2, h3, h4, h5, h6⟩
theorem RP.at1 (h : RP w (pv s1 A1 n1 c1 s2 A2 n2 c2 s3 A3 n3 c3 s4 A4 n4 c4 s5 A5 n5 c5 s6 A6 n6 c6) a b d x y z) : RI w (iv s1 A1 n1 c1) a := h.inj.1
theorem RP.at2 (h : RP w (pv s1 A1 n1 c1 s2 A2 n2 c2 s3 A3 n3 c3 s4 A4 n4 c4 s5 A5 n5 c5 s6 A6 n6 c6) a b d x y z) : RI w (iv s2 A2 n2 c2) b := h.inj.2.1
theorem RP.at3 (h : RP w (pv s1 A1 n1 c1 s2 A2 n2 c2 s3 A3 n3 c3 s4 A4 n4 c4 s5 A5 n5 c5 s6 A6 n6 c6) a b d x y z) : RI w (iv s3 A3 n3 c3) d := h.inj.2.2.1
end
theorem RetI.at1 {w : World} {u : Value} {z e : Int} (h : RetI (z, e) (.tuple #[u, .int .i64 e]) w) : RI w u z := by
  obtain ⟨v, h1, h2⟩ := h
  simp at h1
  exact h1 ▸ h2
theorem RetD.at1 {w : World} {u v : Value} {q r e : Int} (h : RetD q r e (.tuple #[u, v, .int .i64 e]) w) : RI w u q := by
  obtain ⟨a, b, h1, h2, h3⟩ := h
  simp at h1
  rw [h1.1]
  exact h2
theorem RetD.at2 {w : World} {u v : Value} {q r e : Int} (h : RetD q r e (.tuple #[u, v, .int .i64 e]) w) : RI w v r := by
  obtain ⟨a, b, h1, h2, h3⟩ := h
  simp at h1
  rw [h1.2]
  exact h3
theorem lt_lim64 {z : Int} (h1 : -9223372036854775808 ≤ z) (h2 : z ≤ 9223372036854775807) : z.natAbs < lim := lt_lim (k := 2) (by omega) (by decide)
theorem lim0 : (0 : Int).natAbs < lim := by
  have : 0 < lim := by unfold lim; exact Nat.pow_pos (by decide)
  simpa using this
end Go.Proofs.YtclkkoiaaddllaaGreat

/- The state of a walk: the blocks that are known whole, and the integers that lie in memory. -/
namespace Go.Proofs.YtclkkoiaaddllaaGreat
open Go.RowKit
set_option linter.unusedVariables false

/-- A known block. -/
abbrev Bk : Type := Nat × TypeId × Array Value
/-- A known integer: its value, sign and digits. -/
abbrev Nm : Type := Value × Bool × List Nat
/-- A valid integer. -/
abbrev nz (v : Value) (z : Int) : Nm := (v, decide (z < 0), digs z.natAbs)
def apart (g : Nat) : List Bk → Prop
  | [] => True
  | p :: r => p.1 ≠ g ∧ apart g r
def apartAll : List Bk → Prop
  | [] => True
  | p :: r => apart p.1 r ∧ apartAll r
structure St (w W : World) (bs : List Bk) (fs : List Nm) : Prop where
  ext : Ext w W
  blks : ∀ p ∈ bs, Blk W p.1 p.2.1 p.2.2
  nd : apartAll bs
  nums : ∀ q ∈ fs, RX W q.1 q.2.1 q.2.2
theorem apart_of {g : Nat} : ∀ {bs : List Bk}, (∀ p ∈ bs, p.1 ≠ g) → apart g bs
  | [], _ => trivial
  | p :: r, h => ⟨h p (by simp), apart_of (fun q hq => h q (by simp [hq]))⟩
theorem apart_mem {g : Nat} : ∀ {bs : List Bk}, apart g bs → ∀ p ∈ bs, p.1 ≠ g
  | [], _, p, hp => by cases hp
  | q :: r, h, p, hp => by
    rcases List.mem_cons.1 hp with e | e
    · subst e; exact h.1
    · exact apart_mem h.2 p e
section
variable {w W W' : World} {bs : List Bk} {fs : List Nm}
theorem St.start (w : World) : St w w [] [] := ⟨Ext.refl w, by simp, trivial, by simp⟩
theorem St.mv (h : St w W bs fs) (x : Ext W W') : St w W' bs fs := ⟨h.ext.trans x, fun p hp => (h.blks p hp).ext x, h.nd, fun q hq => (h.nums q hq).ext x⟩
theorem St.blk (h : St w W bs fs) (i : Nat) {g : Nat} {t : TypeId} {cs : Array Value} (e : bs[i]? = some (g, t, cs)) : Blk W g t cs := h.blks _ (List.mem_of_getElem? e)
theorem St.num (h : St w W bs fs) (i : Nat) {v : Value} {s : Bool} {l : List Nat} (e : fs[i]? = some (v, s, l)) : RX W v s l := h.nums _ (List.mem_of_getElem? e)
theorem St.lt (h : St w W bs fs) : ∀ p ∈ bs, p.1 < W.heap.size := fun p hp => (h.blks p hp).lt
theorem St.addN (h : St w W bs fs) {v : Value} {s : Bool} {l : List Nat} (x : RX W v s l) : St w W bs ((v, s, l) :: fs) :=
  ⟨h.ext, h.blks, h.nd, List.forall_mem_cons.2 ⟨x, h.nums⟩⟩
theorem St.less {b : Bk} (h : St w W (b :: bs) fs) : St w W bs fs := ⟨h.ext, fun p hp => h.blks p (List.mem_cons_of_mem _ hp), h.nd.2, h.nums⟩
theorem St.one {f : Nm} (h : St w W bs (f :: fs)) : St w W bs [f] := ⟨h.ext, h.blks, h.nd, fun q hq => by
  have e := List.mem_singleton.1 hq
  subst e
  exact h.nums q (by simp)⟩
theorem St.addI (h : St w W bs fs) {v : Value} {z : Int} (x : RI W v z) : St w W bs (nz v z :: fs) := h.addN x
theorem St.addB (h : St w W bs fs) {g : Nat} {t : TypeId} {cs : Array Value} (hb : Blk W g t cs) (ha : apart g bs) : St w W ((g, t, cs) :: bs) fs :=
  ⟨h.ext, List.forall_mem_cons.2 ⟨hb, h.blks⟩, ⟨ha, h.nd⟩, h.nums⟩
theorem St.al (h : St w W bs fs) (t : TypeId) (cs : Array Value) {g : Nat} (hg : W.heap.size = g) : St w (W.alloc (.cells cs t)) ((g, t, cs) :: bs) fs :=
  St.addB (h.mv (Ext.new _ _)) (Blk.new' _ _ hg) (apart_of fun p hp => by have := h.lt p hp; omega)
theorem St.far (h : St w W bs fs) {L g : Nat} (hl : ∀ p ∈ bs, p.1 < L) (hg : L ≤ g) : apart g bs := apart_of fun p hp => by have := hl p hp; omega
theorem nd_other : ∀ {bs : List Bk} {i j : Nat} {p q : Bk}, apartAll bs → i ≠ j → bs[i]? = some p → bs[j]? = some q → p.1 ≠ q.1
  | [], i, j, p, q, _, _, hi, _ => by simp at hi
  | b :: r, 0, 0, p, q, _, h, _, _ => absurd rfl h
  | b :: r, 0, j + 1, p, q, h, _, hi, hj => by
    simp at hi hj
    subst hi
    exact (apart_mem h.1 q (List.mem_of_getElem? hj)).symm
  | b :: r, i + 1, 0, p, q, h, _, hi, hj => by
    simp at hi hj
    subst hj
    exact apart_mem h.1 p (List.mem_of_getElem? hi)
  | b :: r, i + 1, j + 1, p, q, h, hne, hi, hj => nd_other (bs := r) (i := i) (j := j) h.2 (by omega) (by simpa using hi) (by simpa using hj)
theorem apart_set {g : Nat} : ∀ {bs : List Bk} {i : Nat} {p : Bk} {cs : Array Value}, bs[i]? = some p → apart g bs → apart g (bs.set i (p.1, p.2.1, cs))
  | [], i, p, cs, h, _ => by simp at h
  | b :: r, 0, p, cs, h, ha => by simp at h; subst h; exact ha
  | b :: r, i + 1, p, cs, h, ha => ⟨ha.1, apart_set (by simpa using h) ha.2⟩
theorem nd_set : ∀ {bs : List Bk} {i : Nat} {p : Bk} {cs : Array Value}, bs[i]? = some p → apartAll bs → apartAll (bs.set i (p.1, p.2.1, cs))
  | [], i, p, cs, h, _ => by simp at h
  | b :: r, 0, p, cs, h, ha => by simp at h; subst h; exact ha
  | b :: r, i + 1, p, cs, h, ha => ⟨apart_set (by simpa using h) ha.1, nd_set (by simpa using h) ha.2⟩
theorem St.put (h : St w W bs fs) (i k : Nat) {g : Nat} {t : TypeId} {cs cs' : Array Value} {bs' : List Bk} (vs : List Value) (e : bs[i]? = some (g, t, cs)) (ho : Own w g) (hn : noIntB cs = true) (eW : W' = puts W g k vs) (ec : setsA cs k vs = cs') (eb : bs.set i (g, t, cs') = bs') : St w W' bs' fs := by
  have hb := h.blk i e
  obtain ⟨h1, h2, h3, h4, _⟩ := box_puts k vs h.ext ho hb hn eW ec
  refine ⟨h1, fun p hp => ?_, eb ▸ nd_set (p := (g, t, cs)) e h.nd, fun q hq => h4 _ _ _ (h.nums q hq)⟩
  obtain ⟨j, hj⟩ := List.getElem?_of_mem hp
  rw [← eb] at hj
  have hlen : i < bs.length := (List.getElem?_eq_some_iff.1 e).1
  by_cases hij : i = j
  · subst hij
    rw [List.getElem?_set_self hlen] at hj
    injection hj with hj
    subst hj
    exact h2
  · rw [List.getElem?_set_ne hij] at hj
    exact h3 _ _ _ (fun e' => nd_other h.nd (fun h => hij h.symm) hj e e') (h.blks p (List.mem_of_getElem? hj))
end
end Go.Proofs.YtclkkoiaaddllaaGreat

/- Contracts of the calculator: the greatest common divisor of a row of numbers. -/
namespace Go.Proofs.YtclkkoiaaddllaaGreat
open Go.RowKit
set_option linter.unusedVariables false

/-- The greatest common divisor of a row. -/
def gcdL (zs : List Int) : Nat := zs.foldl (fun g z => Nat.gcd g z.natAbs) 0
theorem gcdL_snoc {zs : List Int} {k : Nat} {z : Int} (h : zs[k]? = some z) : gcdL (zs.take (k + 1)) = Nat.gcd (gcdL (zs.take k)) z.natAbs := by
  unfold gcdL
  rw [List.take_add_one, h, List.foldl_append]
  rfl
theorem fold_one : ∀ (zs : List Int), zs.foldl (fun g z => Nat.gcd g z.natAbs) 1 = 1
  | [] => rfl
  | z :: zs => by rw [List.foldl_cons, Nat.gcd_one_left]; exact fold_one zs
theorem gcdL_one {zs : List Int} {k : Nat} (h : gcdL (zs.take k) = 1) : gcdL zs = 1 := by
  have e : zs = zs.take k ++ zs.drop k := (List.take_append_drop k zs).symm
  rw [e]
  unfold gcdL at h ⊢
  rw [List.foldl_append, h]
  exact fold_one _
theorem lim_pos : 0 < lim := by unfold lim; exact Nat.pow_pos (by decide)
theorem fold_lt : ∀ (zs : List Int) (g : Nat), g < lim → (∀ z ∈ zs, z.natAbs < lim) → zs.foldl (fun g z => Nat.gcd g z.natAbs) g < lim
  | [], g, hg, _ => hg
  | z :: zs, g, hg, h => by
    rw [List.foldl_cons]
    refine fold_lt zs _ ?_ (fun x hx => h x (List.mem_cons_of_mem _ hx))
    rcases Nat.eq_zero_or_pos g with h0 | h0
    · subst h0; rw [Nat.gcd_zero_left]; exact h z (by simp)
    · exact Nat.lt_of_le_of_lt (Nat.gcd_le_left _ h0) hg
theorem gcdL_lt {zs : List Int} (h : ∀ z ∈ zs, z.natAbs < lim) : gcdL zs < lim := fold_lt zs 0 lim_pos h

set_option maxRecDepth 100000 in
set_option maxHeartbeats 1600000 in
theorem egcd_any (g gs L : Nat) (zs : List Int) (cs : Array Value) (w : World) (hc : Calm w g) (hb : Blk w gs 30 cs) (hL : zs.length = L) (hL2 : L ≤ 100)
    (hz : ∀ j z, zs[j]? = some z → z.natAbs < lim ∧ ∃ s A n c, cs[j * 2]? = some (.bool s) ∧ cs[j * 2 + 1]? = some (.slice A n c) ∧ RI w (iv s A n c) z) :
    Calls Tryz.prog 82 #[.pointer (some ⟨g, 0, none⟩), .slice (some ⟨gs, 0, none⟩) L L] w fun e w' => ∃ v, e = .returned v ∧ RI w' v (gcdL zs : Nat) ∧ Ext w w' := by
  have HL := Lib.hid hL; have HZ := Lib.hid hz; clear hL hz
  have hS := ((St.start w).addB hc trivial).al 30 #[.bool false, .slice none 0 0] (g := w.heap.size) rfl
  replace hS := hS.al 30 #[.bool false, .slice none 0 0] (g := w.heap.size + 1) (by simp)
  have o4 : Own w w.heap.size := Nat.le_refl _
  have o5 : Own w (w.heap.size + 1) := Nat.le_succ _
  have k1 := (hS.blk 0 rfl).cell
  have k2 := (hS.blk 0 rfl).frozen
  go_enter Tryz.func82, Tryz.ntmps82
  go_wp2_with fail
  clear k1 k2
  generalize ((w.alloc (.cells #[.bool false, .slice none 0 0] 30)).alloc (.cells #[.bool false, .slice none 0 0] 30)) = w1 at hS ⊢
  generalize w.heap.size + 1 = g5 at hS o5 ⊢
  generalize w.heap.size = g4 at hS o4 ⊢
  go_loopw [11] (fun i wr => ∃ k : Nat, k ≤ L ∧ i = .int .i64 (k : Int) ∧ ∃ s A n c, St w wr [(g5, 30, #[.bool s, .slice A n c]), (g4, 30, #[.bool false, .slice none 0 0]), (g, 105, #[.int .i64 0])] [nz (iv s A n c) (gcdL (zs.take k) : Nat)]) (fun i _ => L - (intOf i).toNat)
  case atStart =>
    exact ⟨0, by omega, rfl, false, none, 0, 0, hS.addI (RI.zero _)⟩
  case round =>
    clear hS
    obtain ⟨k, hk, rfl, s5, A5, n5, c5, hS⟩ := hrel
    by_cases hkL : k < L
    · have hq := List.getElem?_eq_getElem (l := zs) (i := k) (by rw [HL.out]; exact hkL)
      obtain ⟨z, hz⟩ : ∃ z, zs[k]? = some z := ⟨_, hq⟩
      clear hq
      obtain ⟨az, s6, A6, n6, c6, hc0, hc1, hI6⟩ := HZ.out k z hz
      have hcell := (hb.ext hS.ext).cell
      have hk0 := (hcell (k * 2)).trans hc0
      have hk1 := (hcell (k * 2 + 1)).trans hc1
      clear hcell hc0 hc1
      have HG := Lib.hid (gcdL_snoc hz)
      have gl : (gcdL (zs.take k) : Int).natAbs < lim := gcdL_lt (fun x hx => by
        obtain ⟨j, hj⟩ := List.getElem?_of_mem (List.mem_of_mem_take hx)
        exact (HZ.out j x hj).1)
      have HG1 : Hid (gcdL (zs.take k) = 1 → gcdL zs = 1) := Lib.hid gcdL_one
      clear hz
      replace hS := hS.addI (hI6.ext hS.ext)
      generalize gcdL (zs.take k) = G at *
      have e1 : ((k : Int) * 2).toNat = k * 2 := by omega
      have o7 : Own w wr.heap.size := Own.of hS.ext (Nat.le_refl _)
      have hT := hS.al 30 #[.bool false, .slice none 0 0] (g := wr.heap.size) rfl
      have k1 := (hT.blk 0 rfl).cell
      have k2 := (hT.blk 0 rfl).frozen
      clear hT
      replace hS := hS.al 30 #[.bool s6, .slice A6 n6 c6] (g := wr.heap.size) rfl
      have k3 := (hS.blk 1 rfl).cell
      go_wp2_with fail
      clear k1 k2 k3 hk0 hk1
      generalize wr.alloc (.cells #[.bool s6, .slice A6 n6 c6] 30) = w2 at hS ⊢
      generalize wr.heap.size = g7 at hS o7 ⊢
      refine (one_any _ _ _ (hS.num 1 rfl)).mono ?_
      rintro e w3 ⟨rfl, hx_⟩
      replace hS := hS.mv hx_
      clear hx_
      by_cases h1 : (G : Int) = 1
      · have t1 : decide ((G : Int) = 1) = true := by simpa using h1
        rw [t1]
        have hGz : gcdL zs = 1 := HG1.out (by omega)
        have HGZ : Hid ((G : Int) = (gcdL zs : Nat)) := Lib.hid (by rw [hGz]; exact h1)
        clear t1 h1 hGz
        have k1 := (hS.blk 1 rfl).cell
        have k2 := (hS.blk 2 rfl).cell
        have k3 := (hS.blk 2 rfl).frozen
        replace hS := hS.put (W' := ((w3.setCell ⟨g4, 0, none⟩ (.bool s5)).setCell ⟨g4, 1, none⟩ (.slice A5 n5 c5))) 2 0 [.bool s5, .slice A5 n5 c5] (cs' := #[.bool s5, .slice A5 n5 c5]) rfl o4 rfl rfl rfl rfl
        go_wp2
        rw [← HGZ.out]
        exact bp_int1 rfl rfl rfl (hS.blk 2 rfl) ⟨_, rfl, hS.num 1 rfl, hS.ext⟩
      · have t1 : decide ((G : Int) = 1) = false := by simpa using h1
        rw [t1]
        clear t1 h1
        have k1 := (hS.blk 1 rfl).cell
        have k2 := (hS.blk 0 rfl).cell
        go_wp2_with fail
        clear k1 k2
        refine (Gcd_ok _ _ _ _ _ (hS.num 1 rfl) (hS.num 0 rfl) gl az).mono ?_
        rintro e w4 ⟨v_, rfl, ⟨u_, rfl, hv_⟩, hx_⟩
        replace hS := hS.mv hx_
        clear hx_
        have hv1 : RI w4 u_ ((Nat.gcd (G : Int).natAbs z.natAbs : Nat)) := hv_
        have HG2 : Hid (Nat.gcd (G : Int).natAbs z.natAbs = gcdL (zs.take (k + 1))) := Lib.hid HG.out.symm
        rw [HG2.out] at hv1
        clear hv_
        go_wp2_with fail
        refine (keep_ok g u_ _ _ (hS.blk 3 rfl) hv1).mono ?_
        rintro e w5 ⟨v_, rfl, hv_, hx_⟩
        replace hS := hS.mv hx_
        clear hx_ hv1
        obtain ⟨s8, A8, n8, c8, rfl, hv1⟩ := RI.opn hv_
        replace hS := hS.addI hv1
        clear hv_ hv1
        have k1 := (hS.blk 1 rfl).cell
        have k2 := (hS.blk 1 rfl).frozen
        replace hS := hS.put (W' := ((w5.setCell ⟨g5, 0, none⟩ (.bool s8)).setCell ⟨g5, 1, none⟩ (.slice A8 n8 c8))) 1 0 [.bool s8, .slice A8 n8 c8] (cs' := #[.bool s8, .slice A8 n8 c8]) rfl o5 rfl rfl rfl rfl
        go_wp2
        go_roundw
        case rel =>
          refine ⟨k + 1, by omega, by go_num, s8, A8, n8, c8, ?_⟩
          exact St.one (St.less hS)
        case measure => simp [intOf] <;> omega
    · obtain rfl : k = L := by omega
      have HGZ : Hid (gcdL (zs.take k) = gcdL zs) := Lib.hid (by rw [List.take_of_length_le (by rw [HL.out]; exact Nat.le_refl _)])
      rw [HGZ.out] at hS
      have k1 := (hS.blk 0 rfl).cell
      have k2 := (hS.blk 1 rfl).cell
      have k3 := (hS.blk 1 rfl).frozen
      replace hS := hS.put (W' := ((wr.setCell ⟨g4, 0, none⟩ (.bool s5)).setCell ⟨g4, 1, none⟩ (.slice A5 n5 c5))) 1 0 [.bool s5, .slice A5 n5 c5] (cs' := #[.bool s5, .slice A5 n5 c5]) rfl o4 rfl rfl rfl rfl
      go_wp2
      exact bp_int1 rfl rfl rfl (hS.blk 1 rfl) ⟨_, rfl, hS.num 0 rfl, hS.ext⟩

theorem egcd2_ok (g gs : Nat) (x y z : Int) (w : World) {s1 s2 : Bool} {A1 A2 : Option Addr} {n1 c1 n2 c2 : Nat} (hc : Calm w g) (hb : Blk w gs 30 #[.bool s1, .slice A1 n1 c1, .bool s2, .slice A2 n2 c2])
    (h1 : RI w (iv s1 A1 n1 c1) x) (h2 : RI w (iv s2 A2 n2 c2) y) (a1 : x.natAbs < lim) (a2 : y.natAbs < lim) (E : Hid (z = (gcdL [x, y] : Nat))) :
    Calls Tryz.prog 82 #[.pointer (some ⟨g, 0, none⟩), .slice (some ⟨gs, 0, none⟩) 2 2] w fun e w' => ∃ v, e = .returned v ∧ RI w' v z ∧ Ext w w' := by
  rw [E.out]
  refine egcd_any g gs 2 [x, y] _ w hc hb rfl (by omega) (fun j u hj => ?_)
  match j, hj with
  | 0, hj => injection hj with hj; subst hj; exact ⟨a1, _, _, _, _, rfl, rfl, h1⟩
  | 1, hj => injection hj with hj; subst hj; exact ⟨a2, _, _, _, _, rfl, rfl, h2⟩
theorem egcd3_ok (g gs : Nat) (x y t z : Int) (w : World) {s1 s2 s3 : Bool} {A1 A2 A3 : Option Addr} {n1 c1 n2 c2 n3 c3 : Nat} (hc : Calm w g) (hb : Blk w gs 30 #[.bool s1, .slice A1 n1 c1, .bool s2, .slice A2 n2 c2, .bool s3, .slice A3 n3 c3])
    (h1 : RI w (iv s1 A1 n1 c1) x) (h2 : RI w (iv s2 A2 n2 c2) y) (h3 : RI w (iv s3 A3 n3 c3) t) (a1 : x.natAbs < lim) (a2 : y.natAbs < lim) (a3 : t.natAbs < lim) (E : Hid (z = (gcdL [x, y, t] : Nat))) :
    Calls Tryz.prog 82 #[.pointer (some ⟨g, 0, none⟩), .slice (some ⟨gs, 0, none⟩) 3 3] w fun e w' => ∃ v, e = .returned v ∧ RI w' v z ∧ Ext w w' := by
  rw [E.out]
  refine egcd_any g gs 3 [x, y, t] _ w hc hb rfl (by omega) (fun j u hj => ?_)
  match j, hj with
  | 0, hj => injection hj with hj; subst hj; exact ⟨a1, _, _, _, _, rfl, rfl, h1⟩
  | 1, hj => injection hj with hj; subst hj; exact ⟨a2, _, _, _, _, rfl, rfl, h2⟩
  | 2, hj => injection hj with hj; subst hj; exact ⟨a3, _, _, _, _, rfl, rfl, h3⟩
theorem egcd4_ok (g gs : Nat) (x y t u z : Int) (w : World) {s1 s2 s3 s4 : Bool} {A1 A2 A3 A4 : Option Addr} {n1 c1 n2 c2 n3 c3 n4 c4 : Nat} (hc : Calm w g) (hb : Blk w gs 30 #[.bool s1, .slice A1 n1 c1, .bool s2, .slice A2 n2 c2, .bool s3, .slice A3 n3 c3, .bool s4, .slice A4 n4 c4])
    (h1 : RI w (iv s1 A1 n1 c1) x) (h2 : RI w (iv s2 A2 n2 c2) y) (h3 : RI w (iv s3 A3 n3 c3) t) (h4 : RI w (iv s4 A4 n4 c4) u) (a1 : x.natAbs < lim) (a2 : y.natAbs < lim) (a3 : t.natAbs < lim) (a4 : u.natAbs < lim) (E : Hid (z = (gcdL [x, y, t, u] : Nat))) :
    Calls Tryz.prog 82 #[.pointer (some ⟨g, 0, none⟩), .slice (some ⟨gs, 0, none⟩) 4 4] w fun e w' => ∃ v, e = .returned v ∧ RI w' v z ∧ Ext w w' := by
  rw [E.out]
  refine egcd_any g gs 4 [x, y, t, u] _ w hc hb rfl (by omega) (fun j q hj => ?_)
  match j, hj with
  | 0, hj => injection hj with hj; subst hj; exact ⟨a1, _, _, _, _, rfl, rfl, h1⟩
  | 1, hj => injection hj with hj; subst hj; exact ⟨a2, _, _, _, _, rfl, rfl, h2⟩
  | 2, hj => injection hj with hj; subst hj; exact ⟨a3, _, _, _, _, rfl, rfl, h3⟩
  | 3, hj => injection hj with hj; subst hj; exact ⟨a4, _, _, _, _, rfl, rfl, h4⟩
end Go.Proofs.YtclkkoiaaddllaaGreat
