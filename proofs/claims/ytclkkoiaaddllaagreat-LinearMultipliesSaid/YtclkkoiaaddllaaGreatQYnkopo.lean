/- Linear: echelon of a fresh copy beside rows without numbers. -/
import Derived.Test.YtclkkoiaaddllaaGreatQYkiigd
import Derived.Test.YtclkkoiaaddllaaGreatQYmicgd
namespace Go.Proofs.YtclkkoiaaddllaaGreat
open Go.RowKit
set_option linter.unusedVariables false

theorem DI.mx {w W W' : World} {G m na : Nat} {X : Nat → Nat → GQ} {R : Nat → Rw} (h : DI w W G m na m X R) (x : Ext W W') : MxI W' G m na (fun g => ∃ i, i < m ∧ g = (R i).b) R X :=
  ⟨h.out.ext x, h.len, fun i hi _ => ⟨(h.row i hi).1, (h.row i hi).2.1.ext x⟩, fun i j hi hj _ e => h.inj i j hi hj e, fun i hi _ => ⟨i, hi, rfl⟩⟩
theorem nil_mx {W : World} {G m : Nat} {P : Nat → Prop} {X : Nat → Nat → GQ} (h : Blk W G 37 (mxc m fun _ => nilRw).toArray) : MxI W G m 0 P (fun _ => nilRw) X :=
  ⟨h, fun _ _ => ⟨rfl, rfl⟩, fun _ _ h => absurd h (by omega), fun _ _ _ _ h => absurd h (by omega), fun _ _ h => absurd h (by omega)⟩
set_option maxRecDepth 100000 in
set_option maxHeartbeats 1600000 in
theorem width_own {W : World} {G m n : Nat} {P : Nat → Prop} {R : Nat → Rw} {X : Nat → Nat → GQ} (h : MxI W G m n P R X) (h0 : m = 0 → n = 0) (c : Nat) (hm : m ≤ 1000) : Calls Tryz.prog 34 #[.slice (some ⟨G, 0, none⟩) m c] W fun e w' => e = .returned (.int .i64 n) ∧ Ext W w' := by
  by_cases hz : m = 0
  · have d0 : ((m : Int) == 0) = true := by simp [hz]
    rw [h0 hz]
    clear h h0 hz
    go_enter Tryz.func34, Tryz.ntmps34
    go_wp2_with fail
    go_ret
    exact ⟨rfl, Ext.refl _⟩
  · have d0 : ((m : Int) == 0) = false := by simp [hz]
    have hr := h.cell (i := 0) (by omega)
    have q1 : (0 : Int) < (m : Int) := by omega
    clear h h0
    go_enter Tryz.func34, Tryz.ntmps34
    go_wp2_with fail
    go_ret
    exact ⟨rfl, Ext.refl _⟩
theorem echelon_nil {gf G Gb m na N B0 : Nat} {X : Nat → Nat → GQ} {R : Nat → Rw} {w wd W : World} (hD : DI w wd G m na m X R) (hx : Ext wd W) (hB : Blk W Gb 37 (mxc m fun _ => nilRw).toArray) (hG : G ≠ Gb) (hC : CalmF W gf) (hb : B0 ≤ w.heap.size) (hb2 : B0 ≤ Gb)
    (hna0 : m = 0 → na = 0) (hm : m ≤ 24) (hna : na ≤ 24) (hN : 4 * N + 67 ≤ 12800) (hroom : Room N m na 0 X) :
    Calls Tryz.prog 30 #[.pointer (some ⟨gf, 0, none⟩), .slice (some ⟨G, 0, none⟩) m m, .slice (some ⟨Gb, 0, none⟩) m m] W fun e w' => e = .returned (.tuple #[.int .i64 (ech m X na).r, .bool (ech m X na).odd]) ∧
      EI w' gf G Gb m na 0 (fun g => ∃ i, i < m ∧ g = (R i).b) (fun _ => False) (ech m X na).X ∧ Mod (fun g => B0 ≤ g) W w' := by
  refine fechelon_w gf G Gb m m m na 0 N _ (fun _ => False) (fun g => B0 ≤ g) X W ⟨hC, ⟨R, hD.mx hx⟩, ⟨_, nil_mx hB⟩⟩ hG (fun _ _ h => h) ⟨Nat.le_trans hb hD.gx, hb2, ?_, fun _ h => h.elim⟩ hna0 hm hna (by omega) hN hroom ?_
  · rintro g ⟨i, hi, rfl⟩
    exact Nat.le_trans hb (hD.row i hi).2.2
  · intro w' x
    exact (width_own ((hD.mx hx).ext x) hna0 m (by omega))
theorem Mod.ext_of {B0 : Nat} {w W : World} (h : Mod (fun g => B0 ≤ g) w W) {w0 : World} (x : Ext w0 w) (hb : w0.heap.size ≤ B0) : Ext w0 W :=
  ⟨h.os.trans x.os, h.tape.trans x.tape, h.output.trans x.output, Nat.le_trans x.size h.size, fun k hk => (h.block k (Nat.lt_of_lt_of_le hk x.size) (by omega)).trans (x.block k hk)⟩
theorem calm_new (W : World) : CalmF (W.alloc (.cells #[.int .i64 0] 68)) W.heap.size := Blk.new _ _ _
theorem bp_tmps2' {P : Program} {fn : Func} {R : Ending → World → Prop} {a : Act} {w : World} {t u : Nat} (hr : fn.results = #[.tmp t, .tmp u]) (hd : a.defers = []) (hR : R (.returned (.tuple #[a.tmps.getD t undef, a.tmps.getD u undef])) w) : bodyPost P fn R .ret a w := bp_tmps2 hr hd hR
end Go.Proofs.YtclkkoiaaddllaaGreat
