/- Integers in memory; the contracts of Valid, made, digits, result, Of. -/
import Derived.Test.YtfdpbcjcinchgaaDoorIb
namespace Go.Proofs.YtfdpbcjcinchgaaDoor
open Go.RowKit

/-- The value of an integer whose digits lie in a slice. -/
abbrev iv (neg : Bool) (A : Option Addr) (n c : Nat) : Value := .agg #[.bool neg, .slice A n c]
/-- A cell of the digits, seen behind up to three new blocks. -/
theorem RM.at3 {w : World} {A : Option Addr} {n c k : Nat} {l : List Nat} (h : RM w A n c l) (hk : k < n) :
    ∃ ad x, A = some ad ∧ l[k]? = some x ∧ x < 4294967296 ∧ w.cell? (ad.add k) = some (.int .u32 (x : Int)) ∧ (∀ o, (w.alloc o).cell? (ad.add k) = some (.int .u32 (x : Int))) ∧
      (∀ o o', ((w.alloc o).alloc o').cell? (ad.add k) = some (.int .u32 (x : Int))) ∧ (∀ o o' o'', (((w.alloc o).alloc o').alloc o'').cell? (ad.add k) = some (.int .u32 (x : Int))) := by
  obtain ⟨ad, x, e, hb, hx, hx32, hc⟩ := h.at_ hk
  exact ⟨ad, x, e, hx, hx32, hc, fun o => (Ext.new w o).cell_ hc, fun o o' => ((Ext.new w o).alloc o').cell_ hc, fun o o' o'' => (((Ext.new w o).alloc o').alloc o'').cell_ hc⟩

/-- Is an integer valid? -/
def validB (neg : Bool) (l : List Nat) : Bool := if l.length = 0 then !neg else decide (l.length ≤ 400) && l.getD (l.length - 1) 0 != 0
theorem validB_zero {neg : Bool} {l : List Nat} (h : l.length = 0) : validB neg l = !neg := by simp [validB, h]
theorem validB_long {neg : Bool} {l : List Nat} (h : 400 < l.length) : validB neg l = false := by
  have : ¬ l.length = 0 := by omega
  simp [validB, this]; omega
theorem validB_at {neg : Bool} {l : List Nat} {j x : Nat} (h : l.length = j + 1) (hj : j + 1 ≤ 400) (hx : l[j]? = some x) : validB neg l = (x != 0) := by
  have : ¬ l.length = 0 := by omega
  simp only [validB, h, Nat.add_sub_cancel, getD_of hx]
  simp [hj]

set_option maxRecDepth 100000 in
set_option maxHeartbeats 400000 in
theorem Valid_any (neg : Bool) (A : Option Addr) (n c : Nat) (l : List Nat) (w : World) (h : RM w A n c l) :
    Calls Tryd.prog 17 #[iv neg A n c] w fun e w' => e = .returned (.bool (validB neg l)) ∧ Ext w w' := by
  have hn : n ≤ 9223372036854775807 := Nat.le_trans h.nc h.cm
  have HL := Lib.hid h.len
  by_cases h0 : n = 0
  · subst h0
    cases neg
    all_goals
      go_enter Tryd.func17, Tryd.ntmps17
      go_wp2
      go_ret
      exact ⟨ret_bool (by rw [validB_zero HL.out]; rfl), Ext.new _ _⟩
  · obtain ⟨j, rfl⟩ : ∃ j, n = j + 1 := ⟨n - 1, by omega⟩
    have hne : (((j + 1 : Nat) : Int) == 0) = false := by simp; omega
    have hne' : ((j : Int) + 1 == 0) = false := by simp; omega
    by_cases h4 : j + 1 ≤ 400
    · obtain ⟨ad, x, rfl, hx, hx32, _, hc1, _, _⟩ := h.at3 (k := j) (by omega)
      have HX := Lib.hid hx; clear hx
      by_cases hx0 : x = 0
      · subst hx0
        have e1 : validB neg l = false := by rw [validB_at HL.out h4 HX.out]; rfl
        have HE := Lib.hid e1; clear e1
        go_enter Tryd.func17, Tryd.ntmps17
        go_wp2
        go_ret
        exact ⟨ret_bool (by rw [HE.out]), Ext.new _ _⟩
      · have hne2 : ((x : Int) != 0) = true := by simp; omega
        have e1 : validB neg l = true := by rw [validB_at HL.out h4 HX.out]; simp [hx0]
        have HE := Lib.hid e1; clear e1
        go_enter Tryd.func17, Tryd.ntmps17
        go_wp2
        go_ret
        exact ⟨ret_bool (by rw [HE.out]), Ext.new _ _⟩
    · have HE := Lib.hid (validB_long (neg := neg) (l := l) (by rw [HL.out]; omega))
      go_enter Tryd.func17, Tryd.ntmps17
      go_wp2
      go_ret
      exact ⟨ret_bool (by rw [HE.out]), Ext.new _ _⟩
set_option maxRecDepth 100000 in
set_option maxHeartbeats 400000 in
theorem rValid_any (neg : Bool) (A : Option Addr) (n c : Nat) (l : List Nat) (w : World) (h : RM w A n c l) :
    Calls Tryd.prog 18 #[iv neg A n c] w fun e w' => e = .returned (.bool (validB neg l)) ∧ Ext w w' := by
  have hn : n ≤ 9223372036854775807 := Nat.le_trans h.nc h.cm
  have HL := Lib.hid h.len
  by_cases h0 : n = 0
  · subst h0
    cases neg
    all_goals
      go_enter Tryd.func18, Tryd.ntmps18
      go_wp2
      go_ret
      exact ⟨ret_bool (by rw [validB_zero HL.out]; rfl), Ext.new _ _⟩
  · obtain ⟨j, rfl⟩ : ∃ j, n = j + 1 := ⟨n - 1, by omega⟩
    have hne : (((j + 1 : Nat) : Int) == 0) = false := by simp; omega
    have hne' : ((j : Int) + 1 == 0) = false := by simp; omega
    by_cases h4 : j + 1 ≤ 400
    · obtain ⟨ad, x, rfl, hx, hx32, _, hc1, _, _⟩ := h.at3 (k := j) (by omega)
      have HX := Lib.hid hx; clear hx
      by_cases hx0 : x = 0
      · subst hx0
        have e1 : validB neg l = false := by rw [validB_at HL.out h4 HX.out]; rfl
        have HE := Lib.hid e1; clear e1
        go_enter Tryd.func18, Tryd.ntmps18
        go_wp2
        go_ret
        exact ⟨ret_bool (by rw [HE.out]), Ext.new _ _⟩
      · have hne2 : ((x : Int) != 0) = true := by simp; omega
        have e1 : validB neg l = true := by rw [validB_at HL.out h4 HX.out]; simp [hx0]
        have HE := Lib.hid e1; clear e1
        go_enter Tryd.func18, Tryd.ntmps18
        go_wp2
        go_ret
        exact ⟨ret_bool (by rw [HE.out]), Ext.new _ _⟩
    · have HE := Lib.hid (validB_long (neg := neg) (l := l) (by rw [HL.out]; omega))
      go_enter Tryd.func18, Tryd.ntmps18
      go_wp2
      go_ret
      exact ⟨ret_bool (by rw [HE.out]), Ext.new _ _⟩

/-- An integer in memory, valid or not. -/
def RX (w : World) (v : Value) (neg : Bool) (l : List Nat) : Prop := ∃ A n c, v = iv neg A n c ∧ RM w A n c l
theorem RX.ext {w w' : World} {v : Value} {neg : Bool} {l : List Nat} (h : RX w v neg l) (e : Ext w w') : RX w' v neg l := by
  obtain ⟨A, n, c, h1, h2⟩ := h
  exact ⟨A, n, c, h1, h2.ext e⟩
/-- Integers have at most 400 digits. -/
def limK : Nat := 400
def lim : Nat := 4294967296 ^ limK
theorem lt_lim {m k : Nat} (h : m < 4294967296 ^ k) (hk : k ≤ 400) : m < lim := Nat.lt_of_lt_of_le h (Nat.pow_le_pow_right (by omega) (show k ≤ limK from hk))
theorem len_lim {m : Nat} (h : m < lim) : (digs m).length ≤ 400 := show (digs m).length ≤ limK from digs_len_le (k := limK) (by unfold lim at h; exact h)
/-- A valid integer in memory (but for its size). -/
def RI (w : World) (v : Value) (z : Int) : Prop := RX w v (decide (z < 0)) (digs z.natAbs)
theorem RI.ext {w w' : World} {v : Value} {z : Int} (h : RI w v z) (e : Ext w w') : RI w' v z := RX.ext h e
theorem RI.zero (w : World) : RI w (iv false none 0 0) 0 := ⟨none, 0, 0, rfl, by simpa [digs_zero] using RM.nil⟩

/-- The number of a sign and digits. -/
def zOf (neg : Bool) (m : Nat) : Int := if neg then -(m : Int) else m
theorem zOf_abs (neg : Bool) (m : Nat) : (zOf neg m).natAbs = m := by unfold zOf; split <;> omega
theorem zOf_neg (neg : Bool) (m : Nat) : decide (zOf neg m < 0) = (neg && decide (0 < m)) := by
  cases neg
  · simp [zOf]
  · simp [zOf]
theorem RX.made {w : World} {A : Option Addr} {n c m : Nat} (neg : Bool) (h : RM w A n c (digs m)) : RI w (iv (neg && decide (0 < n)) A n c) (zOf neg m) := by
  refine ⟨A, n, c, ?_, by rw [zOf_abs]; exact h⟩
  have hl := h.len
  rw [zOf_neg]
  have e : decide (0 < n) = decide (0 < m) := by
    by_cases h0 : m = 0
    · subst h0; rw [digs_zero] at hl; obtain rfl : n = 0 := by simpa using hl.symm
      rfl
    · have h1 : digs m ≠ [] := fun e => h0 (digs_nil.1 e)
      have h2 : 0 < n := by rw [← hl]; exact List.length_pos_iff.2 h1
      rw [decide_eq_true h2, decide_eq_true (by omega)]
  rw [e]
theorem RI.of_valid {w : World} {v : Value} {neg : Bool} {l : List Nat} (h : RX w v neg l) (hv : validB neg l = true) : RI w v (zOf neg (val l)) ∧ val l < lim := by
  obtain ⟨A, n, c, rfl, hm⟩ := h
  have hl := hm.len
  have hc : Canon l := by
    intro x hx
    unfold validB at hv
    rw [List.getLast?_eq_getElem?] at hx
    split at hv
    · rename_i h0
      rw [List.eq_nil_of_length_eq_zero h0] at hx; simp at hx
    · simp only [Bool.and_eq_true, decide_eq_true_eq, bne_iff_ne, getD_of hx] at hv
      exact hv.2
  have hle : l.length ≤ 400 := by
    unfold validB at hv
    split at hv
    · omega
    · simp only [Bool.and_eq_true, decide_eq_true_eq] at hv
      exact hv.1
  have hd := digs_val hm.dg hc
  have h1 := RX.made (w := w) (A := A) (n := n) (c := c) (m := val l) neg (by rw [hd]; exact hm)
  have h2 : (neg && decide (0 < n)) = neg := by
    cases neg
    · rfl
    · unfold validB at hv
      split at hv
      · simp at hv
      · simp; omega
  rw [h2] at h1
  exact ⟨h1, lt_lim (val_lt hm.dg) hle⟩
theorem RI.valid {w : World} {v : Value} {z : Int} (_h : RI w v z) (hz : z.natAbs < lim) : validB (decide (z < 0)) (digs z.natAbs) = true := by
  unfold validB
  have h1 : (digs z.natAbs).length ≤ 400 := len_lim hz
  split
  · rename_i h0
    have := digs_nil.1 (List.eq_nil_of_length_eq_zero h0)
    simp; omega
  · rename_i h0
    have h2 : (digs z.natAbs)[(digs z.natAbs).length - 1]? = some (digs z.natAbs)[(digs z.natAbs).length - 1] := List.getElem?_eq_getElem (by omega)
    have h3 := canon_digs z.natAbs _ (by rw [List.getLast?_eq_getElem?]; exact h2)
    simp only [Bool.and_eq_true, decide_eq_true_eq, bne_iff_ne, getD_of h2]
    exact ⟨h1, h3⟩

/-- The digits are elsewhere than a block without numbers. -/
theorem RM.only {w w' : World} {A : Option Addr} {n c g : Nat} {l : List Nat} {t : TypeId} {cs : Array Value} (h : RM w A n c l) (ho : Only g w w') (hb : Blk w g t cs) (hcs : ∀ (j : Nat) (k : IntKind) (x : Int), cs[j]? ≠ some (.int k x)) : RM w' A n c l := by
  refine ⟨⟨h.rd.1, fun hn => ?_⟩, h.dg, h.nc, h.cm⟩
  obtain ⟨b, o, rfl, hlt, hc⟩ := h.rd.plain hn
  obtain ⟨ad, x, e, _, hx, _, _⟩ := h.at_ hn
  have hne : b ≠ g := by
    rintro rfl
    have := hc 0 _ (mg_get hx)
    rw [hb.cell] at this
    exact hcs _ _ _ this
  refine ⟨_, rfl, Nat.lt_of_lt_of_le hlt ho.size, fun j u hu => ?_⟩
  rw [add_plain]
  exact ho.cell_ (hc j u hu) hne
theorem noInt2 {b : Bool} {A : Option Addr} {n c : Nat} : ∀ (j : Nat) (k : IntKind) (x : Int), #[Value.bool b, Value.slice A n c][j]? ≠ some (.int k x) := by
  intro j k x
  match j with
  | 0 => simp
  | 1 => simp
  | j + 2 => simp
/-- Two stores into a block of the call's own. -/
theorem put2 {w w' : World} {g : Nat} {b0 : Bool} {A0 : Option Addr} {n0 c0 : Nat} (hx : Ext w w') (hg : w.heap.size ≤ g) (hb : Blk w' g 24 #[.bool b0, .slice A0 n0 c0]) (b : Bool) (A : Option Addr) (n c : Nat) :
    Ext w ((w'.setCell ⟨g, 0, none⟩ (.bool b)).setCell ⟨g, 1, none⟩ (.slice A n c)) ∧ Blk ((w'.setCell ⟨g, 0, none⟩ (.bool b)).setCell ⟨g, 1, none⟩ (.slice A n c)) g 24 #[.bool b, .slice A n c] ∧
      ∀ A' n' c' l, RM w' A' n' c' l → RM ((w'.setCell ⟨g, 0, none⟩ (.bool b)).setCell ⟨g, 1, none⟩ (.slice A n c)) A' n' c' l :=
  ⟨(hx.setCell hg _).setCell hg _, (hb.set_ 0 _).set_ 1 _, fun _ _ _ _ h => h.only ((Only.set _ _ _ _).trans (Only.set _ _ _ _)) hb noInt2⟩

theorem load_int {w : World} {g : Nat} {b : Bool} {A : Option Addr} {n c : Nat} (hb : Blk w g 24 #[.bool b, .slice A n c]) : (loadVar 24 ⟨g, 0, none⟩).run Tryd.prog w = .ok (iv b A n c) w := by
  have hc := hb.cell
  simp [go_sem, hc]
section
variable {fn : Func} {R : Ending → World → Prop} {a : Act} {w : World} {t u x g g' : Nat} {b b' : Bool} {A A' : Option Addr} {n c n' c' : Nat}
theorem bp_int1 (hr : fn.results = #[.cell t 24]) (hd : a.defers = []) (hp : a.tmps[t]?.getD undef = .pointer (some ⟨g, 0, none⟩)) (hb : Blk w g 24 #[.bool b, .slice A n c])
    (hR : R (.returned (iv b A n c)) w) : bodyPost Tryd.prog fn R .ret a w := bodyPost_ret (by simp [results, hr, hp, asAddr, load_int hb]) hd hR
theorem bp_int2 (hr : fn.results = #[.cell t 24, .tmp u]) (hd : a.defers = []) (hp : a.tmps[t]?.getD undef = .pointer (some ⟨g, 0, none⟩)) (hb : Blk w g 24 #[.bool b, .slice A n c])
    (hR : R (.returned (.tuple #[iv b A n c, a.tmps.getD u undef])) w) : bodyPost Tryd.prog fn R .ret a w := bodyPost_ret (v := .tuple #[iv b A n c, a.tmps.getD u undef]) (by simp [results, hr, hp, asAddr, load_int hb]) hd hR
theorem bp_int3 (hr : fn.results = #[.cell t 24, .cell u 24, .tmp x]) (hd : a.defers = []) (hp : a.tmps[t]?.getD undef = .pointer (some ⟨g, 0, none⟩)) (hb : Blk w g 24 #[.bool b, .slice A n c])
    (hp' : a.tmps[u]?.getD undef = .pointer (some ⟨g', 0, none⟩)) (hb' : Blk w g' 24 #[.bool b', .slice A' n' c'])
    (hR : R (.returned (.tuple #[iv b A n c, iv b' A' n' c', a.tmps.getD x undef])) w) : bodyPost Tryd.prog fn R .ret a w :=
  bodyPost_ret (v := .tuple #[iv b A n c, iv b' A' n' c', a.tmps.getD x undef]) (by simp [results, hr, hp, hp', asAddr, load_int hb, load_int hb']) hd hR
end

set_option maxRecDepth 100000 in
set_option maxHeartbeats 400000 in
theorem rmade_any (neg : Bool) (A : Option Addr) (n c : Nat) (l : List Nat) (w : World) (h : RM w A n c l) (hn : n ≤ 1000000) :
    Calls Tryd.prog 64 #[.bool neg, .slice A n c] w fun e w' => ∃ v, e = .returned v ∧ RI w' v (zOf neg (val l)) ∧ Ext w w' := by
  go_enter Tryd.func64, Tryd.ntmps64
  go_wp2_with fail
  refine (rtrim_any A n c l _ (h.ext (Ext.new w _)) hn).mono ?_
  rintro e w1 ⟨v1, rfl, ⟨A1, n1, c1, rfl, hR⟩, hx1⟩
  have hn1 : n1 ≤ 9223372036854775807 := Nat.le_trans hR.nc hR.cm
  have hb := (Blk.new w 24 _).ext hx1
  have hc := hb.cell
  have hf := hb.frozen
  obtain ⟨k1, k2, k3⟩ := put2 ((Ext.new w _).trans hx1) (Nat.le_refl _) hb (neg && decide (0 < n1)) A1 n1 c1
  have K1 := Lib.hid k1; have K2 := Lib.hid k2; have K3 := Lib.hid (RX.made neg (k3 _ _ _ _ hR)); clear k1 k2 k3
  by_cases h0 : 0 < n1
  all_goals
    cases neg
    all_goals
      go_wp2
      first
        | simp only [Bool.true_and, Bool.false_and, decide_eq_false h0] at K1 K2 K3
        | simp only [Bool.true_and, Bool.false_and, decide_eq_true h0] at K1 K2 K3
      exact bp_int1 rfl rfl rfl K2.out ⟨_, rfl, K3.out, K1.out⟩
end Go.Proofs.YtfdpbcjcinchgaaDoor
