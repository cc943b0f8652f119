/- Contracts over any two integers, valid or not; a box that is written anew. -/
import Derived.Test.YtfdpbcjcinchgaaDoorLa
namespace Go.Proofs.YtfdpbcjcinchgaaDoor
open Go.RowKit
set_option linter.unusedVariables false

/-- A box of an integer, written anew. -/
theorem box_put {w w' w'' : World} {g : Nat} {b0 : Bool} {A0 : Option Addr} {n0 c0 : Nat} (hx : Ext w w') (hg : w.heap.size ≤ g) (hb : Blk w' g 24 #[.bool b0, .slice A0 n0 c0]) (b : Bool) (A : Option Addr) (n c : Nat)
    (e : w'' = (w'.setCell ⟨g, 0, none⟩ (.bool b)).setCell ⟨g, 1, none⟩ (.slice A n c)) :
    Ext w w'' ∧ Blk w'' g 24 #[.bool b, .slice A n c] ∧ (∀ g2 t cs, g2 ≠ g → Blk w' g2 t cs → Blk w'' g2 t cs) ∧ (∀ v s l, RX w' v s l → RX w'' v s l) ∧ ∀ v z, RI w' v z → RI w'' v z := by
  subst e
  obtain ⟨k1, k2, k3⟩ := put2 hx hg hb b A n c
  have hX : ∀ v s l, RX w' v s l → RX ((w'.setCell ⟨g, 0, none⟩ (.bool b)).setCell ⟨g, 1, none⟩ (.slice A n c)) v s l := fun v s l ⟨A', n', c', h1, h2⟩ => ⟨A', n', c', h1, k3 _ _ _ _ h2⟩
  exact ⟨k1, k2, fun g2 t cs hne h => (h.far hne _).far hne _, hX, fun v z h => hX _ _ _ h⟩

theorem large2 {w : World} {g : Nat} {t : TypeId} {s s' : Bool} {A B : Option Addr} {n c m d : Nat} (h : Blk w g t #[.bool s, .slice A n c, .bool s', .slice B m d]) :
    ∀ j q, [(A, n, c), (B, m, d)][j]? = some q → w.cell? ⟨g, j * 2 + 1, none⟩ = some (.slice q.1 q.2.1 q.2.2)
  | 0, q, hq => by obtain rfl := Option.some.inj hq; exact h.cell 1
  | 1, q, hq => by obtain rfl := Option.some.inj hq; exact h.cell 3
theorem large2_no {A B : Option Addr} {n c m d : Nat} (h1 : n ≤ 40) (h2 : m ≤ 40) : ([(A, n, c), (B, m, d)].any fun q => decide (40 < q.2.1)) = false := by simp; omega
theorem large2_yes {A B : Option Addr} {n c m d : Nat} (h : ¬ (n ≤ 40 ∧ m ≤ 40)) : ([(A, n, c), (B, m, d)].any fun q => decide (40 < q.2.1)) = true := by simp; omega
theorem large3 {w : World} {g : Nat} {t : TypeId} {s s' s'' : Bool} {A B C : Option Addr} {n c m d o f : Nat} (h : Blk w g t #[.bool s, .slice A n c, .bool s', .slice B m d, .bool s'', .slice C o f]) :
    ∀ j q, [(A, n, c), (B, m, d), (C, o, f)][j]? = some q → w.cell? ⟨g, j * 2 + 1, none⟩ = some (.slice q.1 q.2.1 q.2.2)
  | 0, q, hq => by obtain rfl := Option.some.inj hq; exact h.cell 1
  | 1, q, hq => by obtain rfl := Option.some.inj hq; exact h.cell 3
  | 2, q, hq => by obtain rfl := Option.some.inj hq; exact h.cell 5
theorem large3_no {A B C : Option Addr} {n c m d o f : Nat} (h1 : n ≤ 40) (h2 : m ≤ 40) (h3 : o ≤ 40) : ([(A, n, c), (B, m, d), (C, o, f)].any fun q => decide (40 < q.2.1)) = false := by simp; omega
theorem large3_yes {A B C : Option Addr} {n c m d o f : Nat} (h : ¬ (n ≤ 40 ∧ m ≤ 40 ∧ o ≤ 40)) : ([(A, n, c), (B, m, d), (C, o, f)].any fun q => decide (40 < q.2.1)) = true := by simp; omega
theorem large1 {w : World} {g : Nat} {t : TypeId} {s : Bool} {A : Option Addr} {n c : Nat} (h : Blk w g t #[.bool s, .slice A n c]) :
    ∀ j q, [(A, n, c)][j]? = some q → w.cell? ⟨g, j * 2 + 1, none⟩ = some (.slice q.1 q.2.1 q.2.2)
  | 0, q, hq => by obtain rfl := Option.some.inj hq; exact h.cell 1
theorem large1_no {A : Option Addr} {n c : Nat} (h1 : n ≤ 40) : ([(A, n, c)].any fun q => decide (40 < q.2.1)) = false := by simp; omega
theorem large1_yes {A : Option Addr} {n c : Nat} (h1 : ¬ n ≤ 40) : ([(A, n, c)].any fun q => decide (40 < q.2.1)) = true := by simp; omega

/-- What the functions of two integers answer. -/
def res2 (f : Int → Int → Int × Int) (s : Bool) (l : List Nat) (t : Bool) (k : List Nat) : Int × Int := if validB s l && validB t k then f (zOf s (val l)) (zOf t (val k)) else (0, 1)
theorem rSub_bad (v u : Value) (s t : Bool) (l k : List Nat) (w : World) (hX : RX w v s l) (hY : RX w u t k) (hv : (validB s l && validB t k) = false) :
    Calls Tryd.prog 34 #[v, u] w fun e w' => ∃ v, e = .returned v ∧ RetI (0, 1) v w' ∧ Ext w w' := by
  cases h2 : validB t k
  · exact rSub_badY v u s t l k w hX hY h2
  · obtain ⟨hy, ay⟩ := RI.of_valid hY h2
    exact rSub_badX v u s l _ w hX hy (by rw [zOf_abs]; exact ay) (by simpa [h2] using hv)
theorem Add_res (v u : Value) (s t : Bool) (l k : List Nat) (w : World) (hX : RX w v s l) (hY : RX w u t k) :
    Calls Tryd.prog 26 #[v, u] w fun e w' => ∃ v, e = .returned v ∧ RetI (res2 (fun x y => resS (x + y)) s l t k) v w' ∧ Ext w w' := by
  unfold res2
  cases h : validB s l && validB t k
  · simp only [Bool.false_eq_true, if_false]
    exact Add_bad v u s t l k w hX hY h
  · simp only [if_true]
    obtain ⟨h1, h2⟩ := Bool.and_eq_true_iff.1 h
    obtain ⟨hx, ax⟩ := RI.of_valid hX h1
    obtain ⟨hy, ay⟩ := RI.of_valid hY h2
    exact Add_ok v u _ _ w hx hy (by rw [zOf_abs]; exact ax) (by rw [zOf_abs]; exact ay)
theorem rAdd_res (v u : Value) (s t : Bool) (l k : List Nat) (w : World) (hX : RX w v s l) (hY : RX w u t k) :
    Calls Tryd.prog 27 #[v, u] w fun e w' => ∃ v, e = .returned v ∧ RetI (res2 (fun x y => resS (x + y)) s l t k) v w' ∧ Ext w w' := by
  unfold res2
  cases h : validB s l && validB t k
  · simp only [Bool.false_eq_true, if_false]
    exact rAdd_bad v u s t l k w hX hY h
  · simp only [if_true]
    obtain ⟨h1, h2⟩ := Bool.and_eq_true_iff.1 h
    obtain ⟨hx, ax⟩ := RI.of_valid hX h1
    obtain ⟨hy, ay⟩ := RI.of_valid hY h2
    exact rAdd_ok v u _ _ w hx hy (by rw [zOf_abs]; exact ax) (by rw [zOf_abs]; exact ay)
theorem Sub_res (v u : Value) (s t : Bool) (l k : List Nat) (w : World) (hX : RX w v s l) (hY : RX w u t k) :
    Calls Tryd.prog 33 #[v, u] w fun e w' => ∃ v, e = .returned v ∧ RetI (res2 (fun x y => resS (x - y)) s l t k) v w' ∧ Ext w w' := by
  unfold res2
  cases h : validB s l && validB t k
  · simp only [Bool.false_eq_true, if_false]
    exact Sub_bad v u s t l k w hX hY h
  · simp only [if_true]
    obtain ⟨h1, h2⟩ := Bool.and_eq_true_iff.1 h
    obtain ⟨hx, ax⟩ := RI.of_valid hX h1
    obtain ⟨hy, ay⟩ := RI.of_valid hY h2
    exact Sub_ok v u _ _ w hx hy (by rw [zOf_abs]; exact ax) (by rw [zOf_abs]; exact ay)
theorem rSub_res (v u : Value) (s t : Bool) (l k : List Nat) (w : World) (hX : RX w v s l) (hY : RX w u t k) :
    Calls Tryd.prog 34 #[v, u] w fun e w' => ∃ v, e = .returned v ∧ RetI (res2 (fun x y => resS (x - y)) s l t k) v w' ∧ Ext w w' := by
  unfold res2
  cases h : validB s l && validB t k
  · simp only [Bool.false_eq_true, if_false]
    exact rSub_bad v u s t l k w hX hY h
  · simp only [if_true]
    obtain ⟨h1, h2⟩ := Bool.and_eq_true_iff.1 h
    obtain ⟨hx, ax⟩ := RI.of_valid hX h1
    obtain ⟨hy, ay⟩ := RI.of_valid hY h2
    exact rSub_ok v u _ _ w hx hy (by rw [zOf_abs]; exact ax) (by rw [zOf_abs]; exact ay)
theorem Mul_res (v u : Value) (s t : Bool) (l k : List Nat) (w : World) (hX : RX w v s l) (hY : RX w u t k) :
    Calls Tryd.prog 28 #[v, u] w fun e w' => ∃ v, e = .returned v ∧ RetI (res2 (fun x y => resS (x * y)) s l t k) v w' ∧ Ext w w' := by
  unfold res2
  cases h : validB s l && validB t k
  · simp only [Bool.false_eq_true, if_false]
    exact Mul_bad v u s t l k w hX hY h
  · simp only [if_true]
    obtain ⟨h1, h2⟩ := Bool.and_eq_true_iff.1 h
    obtain ⟨hx, ax⟩ := RI.of_valid hX h1
    obtain ⟨hy, ay⟩ := RI.of_valid hY h2
    exact Mul_ok v u _ _ w hx hy (by rw [zOf_abs]; exact ax) (by rw [zOf_abs]; exact ay)
theorem rMul_res (v u : Value) (s t : Bool) (l k : List Nat) (w : World) (hX : RX w v s l) (hY : RX w u t k) :
    Calls Tryd.prog 29 #[v, u] w fun e w' => ∃ v, e = .returned v ∧ RetI (res2 (fun x y => resS (x * y)) s l t k) v w' ∧ Ext w w' := by
  unfold res2
  cases h : validB s l && validB t k
  · simp only [Bool.false_eq_true, if_false]
    exact rMul_bad v u s t l k w hX hY h
  · simp only [if_true]
    obtain ⟨h1, h2⟩ := Bool.and_eq_true_iff.1 h
    obtain ⟨hx, ax⟩ := RI.of_valid hX h1
    obtain ⟨hy, ay⟩ := RI.of_valid hY h2
    exact rMul_ok v u _ _ w hx hy (by rw [zOf_abs]; exact ax) (by rw [zOf_abs]; exact ay)
def res1 (f : Int → Int × Int) (s : Bool) (l : List Nat) : Int × Int := if validB s l then f (zOf s (val l)) else (0, 1)
theorem Neg_res (v : Value) (s : Bool) (l : List Nat) (w : World) (hX : RX w v s l) :
    Calls Tryd.prog 31 #[v] w fun e w' => ∃ v, e = .returned v ∧ RetI (res1 (fun x => (-x, 0)) s l) v w' ∧ Ext w w' := by
  unfold res1
  cases h : validB s l
  · simp only [Bool.false_eq_true, if_false]
    exact Neg_bad v s l w hX h
  · simp only [if_true]
    obtain ⟨hx, ax⟩ := RI.of_valid hX h
    exact Neg_ok v _ _ w hx (by rw [zOf_abs]; exact ax) rfl
theorem rNeg_res (v : Value) (s : Bool) (l : List Nat) (w : World) (hX : RX w v s l) :
    Calls Tryd.prog 32 #[v] w fun e w' => ∃ v, e = .returned v ∧ RetI (res1 (fun x => (-x, 0)) s l) v w' ∧ Ext w w' := by
  unfold res1
  cases h : validB s l
  · simp only [Bool.false_eq_true, if_false]
    exact rNeg_bad v s l w hX h
  · simp only [if_true]
    obtain ⟨hx, ax⟩ := RI.of_valid hX h
    exact rNeg_ok v _ _ w hx (by rw [zOf_abs]; exact ax) rfl
end Go.Proofs.YtfdpbcjcinchgaaDoor
