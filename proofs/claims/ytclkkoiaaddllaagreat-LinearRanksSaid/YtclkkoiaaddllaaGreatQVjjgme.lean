/- Linear: rows and matrices with room behind them, as append leaves them; the reference's copied, columns and empty. -/
import Derived.Test.YtclkkoiaaddllaaGreatQYognbl
import Derived.Deep.AppendSrc
namespace Go.Proofs.YtclkkoiaaddllaaGreat
open Go.RowKit
set_option linter.unusedVariables false
set_option linter.unusedSimpArgs false

theorem mxc_succ (n : Nat) (R : Nat → Rw) : mxc (n + 1) R = mxc n R ++ [(R n).v] := by
  unfold mxc; rw [List.range_succ, List.map_append]; rfl
theorem mxc_congr {n : Nat} {R S : Nat → Rw} (h : ∀ i, i < n → R i = S i) : mxc n R = mxc n S := by
  unfold mxc
  exact List.map_congr_left fun i hi => by rw [h i (List.mem_range.1 hi)]
theorem mxc_app (a : Nat) (R : Nat → Rw) : ∀ b, mxc a R ++ mxc b (fun _ => nilRw) = mxc (a + b) (fun i => if i < a then R i else nilRw)
  | 0 => by
    show mxc a R ++ [] = _
    rw [List.append_nil]
    exact mxc_congr fun i hi => by rw [if_pos hi]
  | b + 1 => by
    rw [mxc_succ, ← List.append_assoc, mxc_app a R b, show a + (b + 1) = (a + b) + 1 by omega, mxc_succ, if_neg (by omega)]
theorem rowc_app (a : Nat) (f : Nat → En) : ∀ b, rowc a f ++ rowc b (fun _ => zEn) = rowc (a + b) (fun i => if i < a then f i else zEn)
  | 0 => by
    show rowc a f ++ [] = _
    rw [List.append_nil]
    exact rowc_congr fun i hi => by rw [if_pos hi]
  | b + 1 => by
    rw [rowc_succ, ← List.append_assoc, rowc_app a f b, show a + (b + 1) = (a + b) + 1 by omega, rowc_succ, if_neg (by omega)]
theorem zero_mx (n : Nat) : Builtin.zeroCells (Value.slice none 0 0).cells n = (mxc n fun _ => nilRw).toArray := by
  rw [← madeCells_mx]
  show madeCells (Value.slice none 0 0).cells (n * 1) = _
  rw [Nat.mul_one]; rfl
theorem zero_row (n : Nat) : Builtin.zeroCells zEn.v.cells n = (rowc n fun _ => zEn).toArray := by
  rw [← madeCells_row]; rfl
/-- A row with room behind it. -/
def RowC (w : World) (g n : Nat) (x : Nat → GQ) : Prop := ∃ (cap : Nat) (f : Nat → En), n ≤ cap ∧ Blk w g 32 (rowc cap f).toArray ∧ ∀ j, j < n → GV w (f j).v (x j) 12800
theorem RowC.ext {w w' : World} {g n : Nat} {x : Nat → GQ} (h : RowC w g n x) (e : Ext w w') : RowC w' g n x := by
  obtain ⟨c, f, h0, h1, h2⟩ := h
  exact ⟨c, f, h0, h1.ext e, fun j hj => (h2 j hj).ext e⟩
theorem RowC.mod {S : Nat → Prop} {w w' : World} {g n : Nat} {x : Nat → GQ} (h : RowC w g n x) (m : Mod S w w') (hS : Far S w) (hg : ¬ S g) : RowC w' g n x := by
  obtain ⟨c, f, h0, h1, h2⟩ := h
  exact ⟨c, f, h0, h1.mod m hg, fun j hj => (h2 j hj).mod m hS⟩
theorem RowC.congr {w : World} {g n : Nat} {x y : Nat → GQ} (h : RowC w g n x) (e : ∀ j, j < n → x j = y j) : RowC w g n y := by
  obtain ⟨c, f, h0, h1, h2⟩ := h
  exact ⟨c, f, h0, h1, fun j hj => e j hj ▸ h2 j hj⟩
theorem RowC.blk {w : World} {g n : Nat} {x : Nat → GQ} (h : RowC w g n x) : ∃ cs, Blk w g 32 cs := by obtain ⟨c, f, _, hb, _⟩ := h; exact ⟨_, hb⟩
theorem RowC.lt {w : World} {g n : Nat} {x : Nat → GQ} (h : RowC w g n x) : g < w.heap.size := by obtain ⟨cs, h⟩ := h.blk; exact h.lt
theorem RowC.far {w : World} {g n : Nat} {x : Nat → GQ} (h : RowC w g n x) : Far (fun k => k = g) w := by
  obtain ⟨c, f, _, h1, _⟩ := h
  intro k hk _
  subst hk
  exact ⟨_, _, h1, rowc_noint _ _⟩
theorem RowC.put {w : World} {g n j cap : Nat} {f : Nat → En} {x : Nat → GQ} {e : En} {q : GQ} (hb : Blk w g 32 (rowc cap f).toArray) (hc : n ≤ cap) (hx : ∀ j, j < n → GV w (f j).v (x j) 12800) (hj : j < n) (he : GV w e.v q 12800) :
    RowC (puts w g (j * 6) e.cells) g n (upd x j q) ∧ Mod (fun k => k = g) w (puts w g (j * 6) e.cells) := by
  have hm : Mod (fun k => k = g) w (puts w g (j * 6) e.cells) := Mod.only (puts_only _ _ _ _) rfl
  have hS : Far (fun k => k = g) w := fun k hk _ => by subst hk; exact ⟨_, _, hb, rowc_noint _ _⟩
  refine ⟨⟨cap, upd f j e, hc, ?_, fun i hi => ?_⟩, hm⟩
  · rw [← rowc_set e (show j < cap by omega)]
    exact puts_blk _ _ hb
  · by_cases h : i = j
    · subst h; rw [upd_same, upd_same]; exact he.mod hm hS
    · rw [upd_ne h, upd_ne h]; exact (hx i hi).mod hm hS
/-- A slice of rows of one's own, with room behind it. -/
def OwnR (w : World) (B0 : Nat) (v : Value) (k : Nat) (R : Nat → Rw) : Prop :=
  (v = .slice none 0 0 ∧ k = 0) ∨ ∃ (g cap : Nat) (R' : Nat → Rw), v = .slice (some ⟨g, 0, none⟩) k cap ∧ B0 ≤ g ∧ k ≤ cap ∧ Blk w g 37 (mxc cap R').toArray ∧ ∀ i, i < k → R' i = R i
theorem OwnR.ext {w w' : World} {B0 : Nat} {v : Value} {k : Nat} {R : Nat → Rw} (h : OwnR w B0 v k R) (e : Ext w w') : OwnR w' B0 v k R := by
  rcases h with h | ⟨g, cap, R', h1, h2, h3, h4, h5⟩
  · exact .inl h
  · exact .inr ⟨g, cap, R', h1, h2, h3, h4.ext e, h5⟩
theorem Only.setRow_mod (w : World) (g : Nat) (cs : Array Value) : Mod (fun k => k = g) w (w.setRow g cs) := Mod.only (Only.setRow w g cs) rfl
theorem setRow_blk {w : World} {g : Nat} {t : TypeId} {old cs : Array Value} (h : Blk w g t old) : Blk (w.setRow g cs) g t cs := setRow_heap w g old cs t (0, 0) h
/-- One row more. -/
theorem app_row_run {w : World} {B0 k : Nat} {v : Value} {R : Nat → Rw} (h : OwnR w B0 v k R) (hk : k ≤ 1000) (hB : B0 ≤ w.heap.size) {r : Rw} {gb : Nat} (hb : Blk w gb 37 #[r.v]) (c : Nat) (ty : TypeId) :
    ∃ v' w', (Builtin.append_ #[22, 22] ty #[v, .slice (some ⟨gb, 0, none⟩) 1 c]).run Tryz.prog w = .ok v' w' ∧ OwnR w' B0 v' (k + 1) (upd R k r) ∧ Mod (fun g => v.ownBlock = some g) w w' := by
  obtain ⟨i0, hi0, hz0, hz1, hz2⟩ := info_parts info_row
  have hn : ∀ j u, [r.v][j]? = some u → w.cell? ((⟨gb, 0, none⟩ : Addr).add j) = some u := fun j u hu => by
    have := World.news_of_block hb j u; simpa using this (by simpa using hu)
  have h1 : ∀ u ∈ [r.v], u.oneCell' = true := fun u hu => by
    rw [List.mem_singleton] at hu; subst hu; rfl
  rcases h with ⟨rfl, rfl⟩ | ⟨g, cap, R', rfl, hg, hkc, hbk, hR⟩
  · have hr := run_append_nil (P := Tryz.prog) w 22 ty 37 i0 (.slice none 0 0) Tryz.underlying22 hi0 hz0 ⟨gb, 0, none⟩ 1 c [r.v] (by rw [hz1]; rfl) hn (by omega) (by omega) (by rw [hz2]; omega)
    have hge := grownCap_ge w 1 0 37
    have ec : ([r.v].toArray ++ Builtin.zeroCells (Value.slice none 0 0).cells (grownCap w 1 0 37 - 1)) = (mxc (grownCap w 1 0 37) (fun i => if i < 1 then r else nilRw)).toArray := by
      rw [zero_mx]
      have := mxc_app 1 (fun _ => r) (grownCap w 1 0 37 - 1)
      rw [show 1 + (grownCap w 1 0 37 - 1) = grownCap w 1 0 37 by omega] at this
      rw [← this]
      rw [show mxc 1 (fun _ => r) = [r.v] from rfl]
      simp
    rw [ec] at hr
    refine ⟨_, _, hr, .inr ⟨w.heap.size, _, (fun i => if i < 1 then r else nilRw), rfl, hB, hge, ?_, fun i hi => ?_⟩, Mod.of ((Ext.refl w).drew.alloc _)⟩
    · have := Blk.new w.drew 37 (mxc (grownCap w 1 0 37) (fun i => if i < 1 then r else nilRw)).toArray
      exact this
    · obtain rfl : i = 0 := by omega
      show r = upd R 0 r 0
      rw [upd_same]
  · have hcs : (mxc cap R').toArray.size = cap := by simp [mxc_len]
    by_cases hroom : k + 1 ≤ cap
    · have hr := run_append_room (P := Tryz.prog) w 22 ty 37 i0 Tryz.underlying22 hi0 g k cap _ hbk ⟨gb, 0, none⟩ 1 c [r.v] (by rw [hz1]; rfl) hn h1 hroom (by rw [hz1, hcs]; simp; omega)
      have ec : ((mxc cap R').toArray.toList.take (k * i0.size) ++ [r.v] ++ (mxc cap R').toArray.toList.drop (k * i0.size + [r.v].length)).toArray = (mxc cap (upd R' k r)).toArray := by
        rw [hz1, Nat.mul_one]
        refine congrArg List.toArray ?_
        apply List.ext_getElem?
        intro t
        have hl : ((mxc cap R').take k).length = k := by rw [List.length_take, mxc_len]; omega
        have hat : ∀ (S : Nat → Rw) t, (mxc cap S)[t]? = if t < cap then some (S t).v else none := fun S t => by
          by_cases ht : t < cap
          · rw [if_pos ht]; have := mxc_at (R := S) ht; rwa [List.getElem?_toArray] at this
          · rw [if_neg ht]; exact List.getElem?_eq_none (by rw [mxc_len]; omega)
        show (List.take k (mxc cap R') ++ [r.v] ++ List.drop (k + 1) (mxc cap R'))[t]? = _
        rw [hat]
        by_cases e1 : t < k
        · rw [List.append_assoc, List.getElem?_append_left (by rw [hl]; exact e1), List.getElem?_take_of_lt e1, hat, upd_ne (by omega)]
        · by_cases e2 : t = k
          · subst e2
            rw [List.append_assoc, List.getElem?_append_right (by rw [hl]; omega), hl, Nat.sub_self, if_pos (by omega), upd_same]; rfl
          · rw [List.getElem?_append_right (by rw [List.length_append, hl]; simp; omega), List.length_append, hl, List.getElem?_drop]
            rw [show k + 1 + (t - (k + [r.v].length)) = t by simp; omega, hat, upd_ne e2]
      rw [ec] at hr
      refine ⟨_, _, hr, .inr ⟨g, cap, (upd R' k r), rfl, hg, hroom, setRow_blk hbk, fun i hi => ?_⟩, (Only.setRow_mod w g _).mono fun j hj => by subst hj; rfl⟩
      by_cases e : i = k
      · subst e; rw [upd_same, upd_same]
      · rw [upd_ne e, upd_ne e]; exact hR i (by omega)
    · obtain rfl : cap = k := by omega
      have ho : ∀ j u, (mxc cap R')[j]? = some u → w.cell? ((⟨g, 0, none⟩ : Addr).add j) = some u := fun j u hu => World.news_of_block hbk j u (by simpa using hu)
      have hr := run_append_grow (P := Tryz.prog) w 22 ty 37 i0 (.slice none 0 0) Tryz.underlying22 hi0 hz0 ⟨g, 0, none⟩ cap cap (mxc cap R') (by rw [hz1, mxc_len]; omega) ho ⟨gb, 0, none⟩ 1 c [r.v] (by rw [hz1]; rfl) hn (by omega) (by omega) (by
        have := nextslicecap_le (need := cap + 1) (old := cap) (by omega)
        rw [hz2]; omega)
      have hge := grownCap_ge w (cap + 1) cap 37
      have ec : ((mxc cap R').toArray ++ [r.v].toArray ++ Builtin.zeroCells (Value.slice none 0 0).cells (grownCap w (cap + 1) cap 37 - (cap + 1))) = (mxc (grownCap w (cap + 1) cap 37) (fun i => if i < cap + 1 then upd R' cap r i else nilRw)).toArray := by
        rw [zero_mx]
        have := mxc_app (cap + 1) (upd R' cap r) (grownCap w (cap + 1) cap 37 - (cap + 1))
        rw [show cap + 1 + (grownCap w (cap + 1) cap 37 - (cap + 1)) = grownCap w (cap + 1) cap 37 by omega] at this
        rw [← this, mxc_succ, upd_same, mxc_congr (R := upd R' cap r) (S := R') (fun i hi => upd_ne (by omega))]
        simp
      rw [ec] at hr
      refine ⟨_, _, hr, .inr ⟨w.heap.size, _, (fun i => if i < cap + 1 then upd R' cap r i else nilRw), rfl, hB, hge, ?_, fun i hi => ?_⟩, Mod.of ((Ext.refl w).drew.alloc _)⟩
      · have := Blk.new w.drew 37 (mxc (grownCap w (cap + 1) cap 37) (fun i => if i < cap + 1 then upd R' cap r i else nilRw)).toArray
        exact this
      · show (if i < cap + 1 then upd R' cap r i else nilRw) = upd R cap r i
        rw [if_pos hi]
        by_cases e : i = cap
        · subst e; rw [upd_same, upd_same]
        · rw [upd_ne e, upd_ne e]; exact hR i (by omega)
/-- A row copied behind an empty one. -/
theorem app_num_run {w : World} {gb n c : Nat} {A : Option Addr} {f : Nat → En} (hr : Reads w w.heap.size 6 A n (rowc n f)) (h0 : 0 < n) (hn : n ≤ 1000) (ty : TypeId) :
    ∃ cap f', n ≤ cap ∧ (∀ j, j < n → f' j = f j) ∧ (Builtin.append_ #[37, 37] ty #[.slice (some ⟨gb, 0, none⟩) 0 0, .slice A n c]).run Tryz.prog w = .ok (.slice (some ⟨w.heap.size, 0, none⟩) n cap) (w.drew.alloc (.cells (rowc cap f').toArray 32)) := by
  obtain ⟨i0, hi0, hz0, hz1, hz2⟩ := info_parts info_gauss
  obtain ⟨ad, rfl, _, hc⟩ := hr.2 h0
  have h := run_append_grow (P := Tryz.prog) w 37 ty 32 i0 zEn.v Tryz.underlying37 hi0 hz0 ⟨gb, 0, none⟩ 0 0 [] (by simp) (by simp) ad n c (rowc n f) (by rw [hz1, rowc_len]) hc (by omega) (by omega) (by
    rw [Nat.zero_add, nextslicecap_zero h0, hz2]; omega)
  have hge := grownCap_ge w (0 + n) 0 32
  have ec : ([].toArray ++ (rowc n f).toArray ++ Builtin.zeroCells zEn.v.cells (grownCap w (0 + n) 0 32 - (0 + n))) = (rowc (grownCap w (0 + n) 0 32) (fun i => if i < n then f i else zEn)).toArray := by
    rw [zero_row]
    have := rowc_app n f (grownCap w (0 + n) 0 32 - (0 + n))
    rw [show n + (grownCap w (0 + n) 0 32 - (0 + n)) = grownCap w (0 + n) 0 32 by omega] at this
    rw [← this]; simp
  rw [ec] at h
  refine ⟨grownCap w (0 + n) 0 32, (fun i => if i < n then f i else zEn), by omega, fun j hj => ?_, ?_⟩
  · exact if_pos hj
  · rw [h]; simp
end Go.Proofs.YtclkkoiaaddllaaGreat

namespace Go.Proofs.YtclkkoiaaddllaaGreat
open Go.RowKit
set_option linter.unusedVariables false
set_option linter.unusedSimpArgs false

/-- A law for an append whose run is known. -/
theorem wpList_run {P : Program} {w : World} {ops : Array Oper} {rest : List Oper} {o : Oper} {a : Act} {Q : Exit → Act → World → Prop} (hgd : o.guard = none) (s x : Operand) (t : TypeId)
    (ho : o.op = .call { callee := .builtin .append, args := #[s, x], argTypes := #[t, t] }) {vs vx v' : Value} {w' : World} (hs : a.eval s = vs) (hx : a.eval x = vx)
    (hr : (Builtin.append_ #[t, t] o.type #[vs, vx]).run P w = .ok v' w') (h : wpList P ops Q rest (a.put o.dst v') w') : wpList P ops Q (o :: rest) a w := by
  refine wpList_plain hgd fun _ hK => ?_
  unfold Oper.wp execOp
  simp only [ho, resolve, invoke, builtin, Sem.run_bind, Sem.run_pure, Result.andThen_ok, List.map_toArray, List.map_cons, List.map_nil, hs, hx, hr]
  exact hK _ _ h
theorem elem_gs : Elem Tryz.prog 37 32 6 96 := Elem.of Tryz.underlying37 (z := zEn.v) info_gauss rfl (by omega)
theorem wpList_app_num {w : World} {ops : Array Oper} {rest : List Oper} {o : Oper} {a : Act} {Q : Exit → Act → World → Prop} (hgd : o.guard = none) (s x : Operand)
    (ho : o.op = .call { callee := .builtin .append, args := #[s, x], argTypes := #[37, 37] }) {gb n c : Nat} {A : Option Addr} {f : Nat → En} (hs : a.eval s = .slice (some ⟨gb, 0, none⟩) 0 0) (hx : a.eval x = .slice A n c)
    (hb : Blk w gb 32 #[]) (hr : Reads w w.heap.size 6 A n (rowc n f)) (hn : n ≤ 1000)
    (h : ∀ (r : Rw) w', r.n = n → Ext w w' → (0 < n → r.A = some ⟨r.b, 0, none⟩ ∧ w.heap.size ≤ r.b ∧ ∃ cap f', n ≤ cap ∧ Blk w' r.b 32 (rowc cap f').toArray ∧ ∀ j, j < n → f' j = f j) → wpList Tryz.prog ops Q rest (a.put o.dst (.slice r.A n r.c)) w') :
    wpList Tryz.prog ops Q (o :: rest) a w := by
  by_cases h0 : n = 0
  · subst h0
    refine wpList_run hgd s x _ ho hs hx (run_append_zero w elem_gs (base := 0) (xs := []) ⟨rfl, .inr ⟨gb, 0, #[], rfl, Nat.zero_le _, hb, Nat.le_refl _, Nat.zero_le _, rfl, rfl⟩⟩ A c) ?_
    exact h ⟨some ⟨gb, 0, none⟩, gb, 0, 0, 0⟩ w rfl (Ext.refl _) (fun h => absurd h (by omega))
  · obtain ⟨cap, f', h1, h2, h3⟩ := app_num_run (gb := gb) (c := c) hr (by omega) hn o.type
    refine wpList_run hgd s x _ ho hs hx h3 ?_
    refine h ⟨some ⟨w.heap.size, 0, none⟩, w.heap.size, 0, n, cap⟩ _ rfl ((Ext.refl w).drew.alloc _) fun _ => ⟨rfl, Nat.le_refl _, cap, f', h1, ?_, h2⟩
    have := Blk.new w.drew 32 (rowc cap f').toArray
    exact this
theorem wpList_app_row {w : World} {ops : Array Oper} {rest : List Oper} {o : Oper} {a : Act} {Q : Exit → Act → World → Prop} (hgd : o.guard = none) (s x : Operand)
    (ho : o.op = .call { callee := .builtin .append, args := #[s, x], argTypes := #[22, 22] }) {B0 k gb c : Nat} {v : Value} {R : Nat → Rw} {r : Rw} (hs : a.eval s = v) (hx : a.eval x = .slice (some ⟨gb, 0, none⟩) 1 c)
    (hO : OwnR w B0 v k R) (hk : k ≤ 1000) (hB : B0 ≤ w.heap.size) (hb : Blk w gb 37 #[r.v])
    (h : ∀ v' w', OwnR w' B0 v' (k + 1) (upd R k r) → Mod (fun g => v.ownBlock = some g) w w' → wpList Tryz.prog ops Q rest (a.put o.dst v') w') :
    wpList Tryz.prog ops Q (o :: rest) a w := by
  obtain ⟨v', w', h1, h2, h3⟩ := app_row_run hO hk hB hb c o.type
  exact wpList_run hgd s x _ ho hs hx h1 (h v' w' h2 h3)
theorem mem_readsR {w : World} {A : Option Addr} {B O m i : Nat} {R : Nat → Rw} {E : Nat → Nat → En} (h : Mem w A B O m R E) (hi : i < m) : Reads w w.heap.size 6 (R i).A (R i).n (rowc (R i).n (E i)) := by
  refine ⟨by rw [rowc_len], fun hn => ⟨⟨(R i).b, (R i).o, none⟩, h.ra i hi hn, ?_, fun j u hu => ?_⟩⟩
  · exact lt_of_cell (h.el i 0 hi hn 0 _ rfl)
  · have hj : j < (R i).n * 6 := by have := (List.getElem?_eq_some_iff.1 hu).1; rwa [rowc_len] at this
    have e : j = (j / 6) * 6 + j % 6 := by omega
    rw [e, rowc_at (Nat.mod_lt _ (by omega)) (by omega)] at hu
    have := h.el i (j / 6) hi (by omega) _ _ hu
    rw [← e] at this
    rw [add_plain]; exact this
/-- A matrix with room behind its rows. -/
structure MxC (W : World) (G m n : Nat) (P : Nat → Prop) (R : Nat → Rw) (X : Nat → Nat → GQ) : Prop where
  out : 0 < m → ∃ cap R', m ≤ cap ∧ Blk W G 37 (mxc cap R').toArray ∧ ∀ i, i < m → R' i = R i
  len : ∀ i, i < m → (R i).n = n
  row : ∀ i, i < m → 0 < n → (R i).A = some ⟨(R i).b, 0, none⟩ ∧ RowC W (R i).b n (X i)
  inj : ∀ i j, i < m → j < m → 0 < n → (R i).b = (R j).b → i = j
  mem : ∀ i, i < m → 0 < n → P (R i).b
section
variable {W W' : World} {G m n : Nat} {P : Nat → Prop} {R : Nat → Rw} {X Y : Nat → Nat → GQ}
theorem MxC.ext (h : MxC W G m n P R X) (x : Ext W W') : MxC W' G m n P R X :=
  ⟨fun hm => by obtain ⟨c, R', h1, h2, h3⟩ := h.out hm; exact ⟨c, R', h1, h2.ext x, h3⟩, h.len, fun i hi hn => ⟨(h.row i hi hn).1, (h.row i hi hn).2.ext x⟩, h.inj, h.mem⟩
theorem MxC.congr (h : MxC W G m n P R X) (e : ∀ i j, i < m → j < n → X i j = Y i j) : MxC W G m n P R Y :=
  ⟨h.out, h.len, fun i hi hn => ⟨(h.row i hi hn).1, (h.row i hi hn).2.congr fun j hj => e i j hi hj⟩, h.inj, h.mem⟩
theorem MxC.v (h : MxC W G m n P R X) {i : Nat} (hi : i < m) : (R i).v = .slice (R i).A n (R i).c := by
  unfold Rw.v; rw [h.len i hi]
theorem MxC.cell (h : MxC W G m n P R X) {i : Nat} (hi : i < m) : W.cell? ⟨G, i, none⟩ = some (.slice (R i).A n (R i).c) := by
  obtain ⟨c, R', h1, h2, h3⟩ := h.out (by omega)
  rw [h2.cell, mxc_at (by omega), h3 i hi, h.v hi]
theorem MxC.mono {Q : Nat → Prop} (h : MxC W G m n P R X) (e : ∀ g, P g → Q g) : MxC W G m n Q R X := ⟨h.out, h.len, h.row, h.inj, fun i hi hn => e _ (h.mem i hi hn)⟩
end
set_option maxRecDepth 100000 in
set_option maxHeartbeats 1600000 in
theorem qcolumns_own {W : World} {A : Option Addr} {G m n c : Nat} {R : Nat → Rw} {X : Nat → Nat → GQ} {P : Nat → Prop} (h : MxC W G m n P R X) (hA : 0 < m → A = some ⟨G, 0, none⟩) (h0 : m = 0 → n = 0) (hm : m ≤ 1000) :
    Calls Tryz.prog 40 #[.slice A m c] W fun e W' => e = .returned (.int .i64 n) ∧ Ext W W' := by
  by_cases e : m = 0
  · have d0 : ((m : Int) == 0) = true := by simp [e]
    have e0 : (n : Int) = 0 := by rw [h0 e]; rfl
    rw [e0]
    clear h
    go_enter Tryz.func40, Tryz.ntmps40
    go_wp2_with fail
    go_ret
    exact ⟨rfl, Ext.refl _⟩
  · have d0 : ((m : Int) == 0) = false := by simp [e]
    have hr := h.cell (i := 0) (by omega)
    have hA := hA (by omega)
    subst hA
    have q1 : (0 : Int) < (m : Int) := by omega
    clear h
    go_enter Tryz.func40, Tryz.ntmps40
    go_wp2_with fail
    go_ret
    exact ⟨rfl, Ext.refl _⟩
set_option maxRecDepth 100000 in
set_option maxHeartbeats 1600000 in
theorem qcolumns_any {w : World} {A : Option Addr} {B O m c : Nat} {R : Nat → Rw} {E : Nat → Nat → En} (h : Mem w A B O m R E) (hm : m ≤ 1000) : Calls Tryz.prog 40 #[.slice A m c] w fun e w' => e = .returned (.int .i64 (wd m R : Nat)) ∧ Ext w w' := by
  by_cases h0 : m = 0
  · have d0 : ((m : Int) == 0) = true := by simp [h0]
    have e0 : wd m R = 0 := by unfold wd; rw [if_pos h0]
    rw [e0]
    clear h0
    go_enter Tryz.func40, Tryz.ntmps40
    go_wp2_with fail
    go_ret
    exact ⟨rfl, Ext.refl _⟩
  · have d0 : ((m : Int) == 0) = false := by simp [h0]
    have e0 : wd m R = (R 0).n := by unfold wd; rw [if_neg h0]
    rw [e0]
    have hA := h.at0 (by omega)
    have hr : w.cell? ⟨B, O, none⟩ = some (.slice (R 0).A (R 0).n (R 0).c) := h.row 0 (by omega)
    subst hA
    have q1 : (0 : Int) < (m : Int) := by omega
    go_enter Tryz.func40, Tryz.ntmps40
    go_wp2_with fail
    go_ret
    exact ⟨rfl, Ext.refl _⟩
set_option maxRecDepth 100000 in
set_option maxHeartbeats 1600000 in
theorem qempty_ok (m : Nat) (hm : m ≤ 24) (w : World) : Calls Tryz.prog 33 #[.int .i64 m] w fun e w' => ∃ G, w.heap.size ≤ G ∧ e = .returned (.slice (some ⟨G, 0, none⟩) m m) ∧ Mem w' (some ⟨G, 0, none⟩) G 0 m (fun _ => nilRw) (fun _ _ => zEn) ∧ Ext w w' := by
  have hmk := make_mx m (by omega)
  have hb := Blk.new w 37 (mxc m fun _ => nilRw).toArray
  go_enter Tryz.func33, Tryz.ntmps33
  go_wp2_with fail
  go_ret
  refine ⟨w.heap.size, Nat.le_refl _, rfl, ⟨fun _ => rfl, fun i hi => ?_, fun i hi h => absurd h (Nat.lt_irrefl 0), fun i j hi hj => absurd hj (Nat.not_lt_zero j), by omega, fun i hi => Nat.zero_le _⟩, Ext.new _ _⟩
  rw [hb.cell, Nat.zero_add, mxc_at hi]
/-- The rows copied so far. -/
structure CpR (w : World) (B0 k n : Nat) (R : Nat → Rw) (X : Nat → Nat → GQ) : Prop where
  len : ∀ i, i < k → (R i).n = n
  row : ∀ i, i < k → 0 < n → (R i).A = some ⟨(R i).b, 0, none⟩ ∧ B0 ≤ (R i).b ∧ RowC w (R i).b n (X i)
  inj : ∀ i j, i < k → j < k → 0 < n → (R i).b = (R j).b → i = j
theorem CpR.ext {w w' : World} {B0 k n : Nat} {R : Nat → Rw} {X : Nat → Nat → GQ} (h : CpR w B0 k n R X) (x : Ext w w') : CpR w' B0 k n R X :=
  ⟨h.len, fun i hi hn => ⟨(h.row i hi hn).1, (h.row i hi hn).2.1, (h.row i hi hn).2.2.ext x⟩, h.inj⟩
theorem OwnR.ne {w : World} {B0 k : Nat} {v : Value} {R : Nat → Rw} (h : OwnR w B0 v k R) {g : Nat} {cs : Array Value} (hb : Blk w g 32 cs) : v.ownBlock ≠ some g := by
  rcases h with ⟨rfl, _⟩ | ⟨g', cap, R', rfl, _, _, h4, _⟩
  · simp [Value.ownBlock]
  · simp only [Value.ownBlock, ne_eq, Option.some.injEq]
    exact h4.ne_t hb (by decide)
theorem OwnR.far {w : World} {B0 k : Nat} {v : Value} {R : Nat → Rw} (h : OwnR w B0 v k R) : Far (fun g => v.ownBlock = some g) w := by
  intro g hg _
  rcases h with ⟨rfl, _⟩ | ⟨g', cap, R', rfl, _, _, h4, _⟩
  · simp [Value.ownBlock] at hg
  · simp only [Value.ownBlock, Option.some.injEq] at hg
    subst hg
    exact ⟨_, _, h4, noInt_slices _ _⟩
theorem OwnR.ge {w : World} {B0 k : Nat} {v : Value} {R : Nat → Rw} (h : OwnR w B0 v k R) {g : Nat} (hg : v.ownBlock = some g) : B0 ≤ g := by
  rcases h with ⟨rfl, _⟩ | ⟨g', cap, R', rfl, h2, _, h4, _⟩
  · simp [Value.ownBlock] at hg
  · simp only [Value.ownBlock, Option.some.injEq] at hg
    omega
set_option maxRecDepth 100000 in
set_option maxHeartbeats 3200000 in
theorem copied_ok {w : World} {A : Option Addr} {B O m c n : Nat} {R : Nat → Rw} {E : Nat → Nat → En} {X : Nat → Nat → GQ} (h : Mem w A B O m R E) (hn : ∀ i, i < m → (R i).n = n) (hv : ∀ i j, i < m → j < n → GV w (E i j).v (X i j) 12800) (hm : m ≤ 24) (hna : n ≤ 24) :
    Calls Tryz.prog 60 #[.slice A m c] w fun e w' => ∃ A' G cap RX, e = .returned (.slice A' m cap) ∧ (0 < m → A' = some ⟨G, 0, none⟩) ∧ MxC w' G m n (fun g => w.heap.size ≤ g) RX X ∧ (0 < m → w.heap.size ≤ G) ∧ Ext w w' := by
  have HM := Lib.hid h; have HN := Lib.hid hn; have HV := Lib.hid hv
  have hm0 : (0 : Int) ≤ (m : Int) := by omega
  clear h hn hv
  go_enter Tryz.func60, Tryz.ntmps60
  go_wp2_with fail
  go_loopw [3, 8] (fun v i wr => ∃ (k : Nat) (RX : Nat → Rw), k ≤ m ∧ i = .int .i64 k ∧ OwnR wr w.heap.size v k RX ∧ CpR wr w.heap.size k n RX X ∧ Ext w wr) (fun _ i _ => m - (intOf i).toNat)
  case atStart => exact ⟨0, fun _ => nilRw, by omega, rfl, .inl ⟨rfl, rfl⟩, ⟨fun i hi => absurd hi (Nat.not_lt_zero i), fun i hi => absurd hi (Nat.not_lt_zero i), fun i j hi => absurd hi (Nat.not_lt_zero i)⟩, Ext.refl _⟩
  case round =>
    obtain ⟨k, RX, hk, rfl, hO, hC, hx⟩ := hrel
    have HO := Lib.hid hO; have HC := Lib.hid hC; have HX := Lib.hid hx; clear hO hC hx
    by_cases hlt : k < m
    · have hd : decide ((k : Int) < (m : Int)) = true := by simp; omega
      have hA := HM.out.at0 (by omega)
      have hr := HM.out.rowc hlt HX.out
      rw [HN.out k hlt] at hr
      subst hA
      have hbl := Blk.new wr 32 #[]
      have hxl := Ext.new wr (.cells #[] 32)
      have hrd := mem_readsR (HM.out.ext (HX.out.trans hxl)) hlt
      rw [HN.out k hlt] at hrd
      have HBL := Lib.hid hbl; have HXL := Lib.hid hxl; have HRD := Lib.hid hrd; clear hbl hxl hrd
      go_wp2_with (at_builtin; refine wpList_app_num rfl (.tmp 13) (.tmp 14) rfl (by rfl) (by rfl) HBL.out HRD.out (by omega) ?_)
      intro r w2 hrn hx2 hr2
      have HX2 := Lib.hid (HXL.out.trans hx2); have HRN := Lib.hid hrn
      have HR2 : Hid (0 < n → r.A = some ⟨r.b, 0, none⟩ ∧ wr.heap.size ≤ r.b ∧ RowC w2 r.b n (X k)) := Lib.hid fun h0 => by
        obtain ⟨h1, h2, cap, h3, f', h4, h5⟩ := hr2 h0
        refine ⟨h1, by omega, cap, f', h3, h4, fun j hj => ?_⟩
        rw [h5 j hj]
        exact (HV.out k j hlt hj).ext (HX.out.trans (HXL.out.trans hx2))
      clear hx2 hr2 hrn HRD HBL HXL
      have hb3 : Blk (w2.alloc (.cells #[.slice r.A n r.c] 37)) w2.heap.size 37 #[r.v] := by
        have := Blk.new w2 37 #[.slice r.A n r.c]
        have e : r.v = .slice r.A n r.c := by unfold Rw.v; rw [HRN.out]
        rw [e]; exact this
      have HB3 := Lib.hid hb3; clear hb3
      have HX3 := Lib.hid (HX2.out.trans (Ext.new w2 (.cells #[.slice r.A n r.c] 37)))
      have HO3 := Lib.hid (HO.out.ext HX3.out)
      have HSZ := Lib.hid (HX.out.trans HX3.out).size
      go_wp2_with (at_builtin; refine wpList_app_row rfl (.tmp 12) (.tmp 16) rfl (by rfl) (by rfl) HO3.out (by omega) HSZ.out HB3.out ?_)
      intro v4 w4 hO4 hm4
      have HX34 := Lib.hid (Ext.new w2 (.cells #[.slice r.A n r.c] 37))
      have hfar := HO3.out.far
      have HO4 := Lib.hid hO4; clear hO4
      have HX4 : Hid (Ext w w4) := Lib.hid (by
        have hE := HX.out.trans HX3.out
        exact ⟨hm4.os.trans hE.os, hm4.tape.trans hE.tape, hm4.output.trans hE.output, Nat.le_trans hE.size hm4.size, fun j hj => (hm4.block j (Nat.lt_of_lt_of_le hj hE.size) (fun e => by have := HO3.out.ge e; omega)).trans (hE.block j hj)⟩)
      have HC4 : Hid (CpR w4 w.heap.size (k + 1) n (upd RX k r) X) := Lib.hid (by
        have hC3 := HC.out.ext HX3.out
        refine ⟨fun i hi => ?_, fun i hi h0 => ?_, fun i j hi hj h0 e => ?_⟩
        · by_cases e : i = k
          · subst e; rw [upd_same]; exact HRN.out
          · rw [upd_ne e]; exact HC.out.len i (by omega)
        · by_cases e : i = k
          · subst e
            rw [upd_same]
            obtain ⟨h1, h2, h3⟩ := HR2.out h0
            have h3' := h3.ext HX34.out
            obtain ⟨cs, hcs⟩ := h3'.blk
            exact ⟨h1, Nat.le_trans HX.out.size h2, h3'.mod hm4 hfar (HO3.out.ne hcs)⟩
          · rw [upd_ne e]
            obtain ⟨h1, h2, h3⟩ := hC3.row i (by omega) h0
            obtain ⟨cs, hcs⟩ := h3.blk
            exact ⟨h1, h2, h3.mod hm4 hfar (HO3.out.ne hcs)⟩
        · have hlt2 : ∀ i, i < k → (RX i).b < wr.heap.size := fun i hi => (HC.out.row i hi h0).2.2.lt
          have hge := (HR2.out h0).2.1
          by_cases e1 : i = k
          · by_cases e2 : j = k
            · omega
            · rw [e1, upd_same, upd_ne e2] at e
              have := hlt2 j (by omega); omega
          · by_cases e2 : j = k
            · rw [e2, upd_same, upd_ne e1] at e
              have := hlt2 i (by omega); omega
            · rw [upd_ne e1, upd_ne e2] at e
              exact HC.out.inj i j (by omega) (by omega) h0 e)
      clear HC HO HX HX2 HX3 HO3 HB3 HR2 hm4 hfar HX34
      go_wp2_with fail
      go_roundw
      case rel => exact ⟨k + 1, _, by omega, by go_num, HO4.out, HC4.out, HX4.out⟩
      case measure => simp [intOf]; omega
    · obtain rfl : k = m := by omega
      have hd : decide ((k : Int) < (k : Int)) = false := by simp
      rcases HO.out with ⟨rfl, rfl⟩ | ⟨g, cap, R', rfl, hg, hkc, hb, hR⟩
      · go_wp2_with fail
        go_ret
        exact ⟨_, 0, _, RX, rfl, fun h => absurd h (Nat.lt_irrefl 0), ⟨fun h => absurd h (Nat.lt_irrefl 0), fun i hi => absurd hi (Nat.not_lt_zero i), fun i hi => absurd hi (Nat.not_lt_zero i), fun i j hi => absurd hi (Nat.not_lt_zero i), fun i hi => absurd hi (Nat.not_lt_zero i)⟩, fun h => absurd h (Nat.lt_irrefl 0), HX.out⟩
      · have HB := Lib.hid hb; have HR := Lib.hid hR; clear hb hR
        go_wp2_with fail
        go_ret
        exact ⟨_, g, _, RX, rfl, fun _ => rfl, ⟨fun _ => ⟨cap, R', hkc, HB.out, HR.out⟩, HC.out.len, fun i hi h0 => ⟨(HC.out.row i hi h0).1, (HC.out.row i hi h0).2.2⟩, HC.out.inj, fun i hi h0 => (HC.out.row i hi h0).2.1⟩, fun _ => hg, HX.out⟩
end Go.Proofs.YtclkkoiaaddllaaGreat

namespace Go.Proofs.YtclkkoiaaddllaaGreat
set_option linter.unusedVariables false
set_option linter.unusedSimpArgs false

theorem GQ.div_as (x y : GQ) : x / y = GQ.i 1 0 / y * x := by
  ext <;> simp only [GQ.div_re, GQ.div_im, GQ.mul_re, GQ.mul_im, GQ.i_re, GQ.i_im] <;> grind
theorem GQ.mul_div' (a b c : GQ) : a * (b / c) = a / c * b := by
  rw [GQ.div_as b, GQ.div_as a, ← GQ.mul_assoc', GQ.mul_comm' a, GQ.mul_assoc']
theorem GQ.div_self' {x : GQ} (h : x ≠ GQ.i 0 0) : x / x = GQ.i 1 0 := by
  have := GQ.div_mul (x := GQ.i 1 0) h
  rw [GQ.one_mul'] at this; exact this
theorem GQ.neg_zero' : -(GQ.i 0 0) = GQ.i 0 0 := by (ext <;> simp only [GQ.add_re, GQ.add_im, GQ.sub_re, GQ.sub_im, GQ.mul_re, GQ.mul_im, GQ.neg_re, GQ.neg_im, GQ.i_re, GQ.i_im] <;> grind)
theorem GQ.neg_neg' (x : GQ) : - -x = x := by (ext <;> simp only [GQ.add_re, GQ.add_im, GQ.sub_re, GQ.sub_im, GQ.mul_re, GQ.mul_im, GQ.neg_re, GQ.neg_im, GQ.i_re, GQ.i_im] <;> grind)
theorem GQ.mul_m1 (x : GQ) : x * GQ.i (-1) 0 = -x := by (ext <;> simp only [GQ.add_re, GQ.add_im, GQ.sub_re, GQ.sub_im, GQ.mul_re, GQ.mul_im, GQ.neg_re, GQ.neg_im, GQ.i_re, GQ.i_im] <;> grind)
theorem GQ.eq_of_sub {x y : GQ} (h : x - y = GQ.i 0 0) : x = y := by
  have a := congrArg GQ.re h; have b := congrArg GQ.im h
  simp only [GQ.sub_re, GQ.sub_im, GQ.i_re, GQ.i_im] at a b
  ext <;> grind

/-- A row that the rows P span. -/
def Spn (v : Nat → GQ) (P : List (Nat → GQ)) : Prop := ∀ cs, det (v :: P) cs = GQ.i 0 0
theorem Spn.more {v b : Nat → GQ} {P : List (Nat → GQ)} (h : Spn v P) : Spn v (b :: P) := by
  intro cs
  rw [det_swap]
  have : det (v :: P) = fun _ => GQ.i 0 0 := funext h
  show -dsum b (det (v :: P)) cs = _
  rw [this, dsum_none, GQ.neg_zero']
theorem Spn.of_says {y a : Nat → GQ} {P : List (Nat → GQ)} (h : Says y a P) : Spn y (a :: P) := fun cs => by
  rw [h.more cs, det_same a (a :: P) cs (List.mem_cons_self)]
theorem Spn.comb {x y : Nat → GQ} {P : List (Nat → GQ)} (hx : Spn x P) (hy : Spn y P) (f : GQ) : Spn (fun c => x c - f * y c) P := fun cs => by
  have h1 : det ((fun c => x c - f * y c) :: P) cs = det (x :: P) cs - f * det (y :: P) cs := dsum_row x y f cs (det P)
  rw [h1, hx cs, hy cs, GQ.mul_zero', GQ.sub_zero']
theorem Spn.quot {x : Nat → GQ} {P : List (Nat → GQ)} (hx : Spn x P) (f : GQ) : Spn (fun c => x c / f) P := fun cs => by
  have e : (fun c => x c / f) = fun c => GQ.i 1 0 / f * x c := funext fun c => GQ.div_as _ _
  rw [e]
  have h1 : det ((fun c => GQ.i 1 0 / f * x c) :: P) cs = GQ.i 1 0 / f * det (x :: P) cs := dsum_scale _ _ _
  rw [h1, hx cs, GQ.mul_zero']
/-- Expansion along a row that has a single one. -/
theorem dsum_pick {v : Nat → GQ} : ∀ (cs : List Nat) (k : Nat) (D : List Nat → GQ), k < cs.length → (∀ t d, cs[t]? = some d → v d = if t = k then GQ.i 1 0 else GQ.i 0 0) → dsum v D cs = D (cs.eraseIdx k) ∨ dsum v D cs = -D (cs.eraseIdx k)
  | [], k, D, hk, _ => by simp at hk
  | c :: cs, 0, D, _, h => by
    left
    show v c * D cs - dsum v (fun l => D (c :: l)) cs = D cs
    rw [h 0 c rfl, if_pos rfl, GQ.one_mul', dsum_only cs _ (fun d hd => by
      obtain ⟨t, ht⟩ := List.getElem?_of_mem hd
      rw [h (t + 1) d ht, if_neg (by omega)]), GQ.sub_zero']
  | c :: cs, k + 1, D, hk, h => by
    have hv : v c = GQ.i 0 0 := by rw [h 0 c rfl, if_neg (by omega)]
    have ih := dsum_pick (v := v) cs k (fun l => D (c :: l)) (by simpa using hk) (fun t d ht => by
      rw [h (t + 1) d ht]
      by_cases e : t = k
      · rw [if_pos (by omega), if_pos e]
      · rw [if_neg (by omega), if_neg e])
    have e : dsum v D (c :: cs) = -dsum v (fun l => D (c :: l)) cs := by
      show v c * D cs - dsum v (fun l => D (c :: l)) cs = _
      rw [hv, GQ.zero_mul', GQ.zero_sub']
    rw [e]
    rcases ih with ih | ih
    · right; rw [ih]; rfl
    · left; rw [ih, GQ.neg_neg']; rfl
theorem Spn.entry {v : Nat → GQ} {P : List (Nat → GQ)} {q : List Nat} {k : Nat} (h : Spn v P) (hk : k < q.length) (hq : ∀ t d, q[t]? = some d → v d = if t = k then GQ.i 1 0 else GQ.i 0 0) (j : Nat) :
    v j * det P q = det P (j :: q.eraseIdx k) ∨ v j * det P q = -det P (j :: q.eraseIdx k) := by
  have e : v j * det P q = dsum v (fun l => det P (j :: l)) q := GQ.eq_of_sub (h (j :: q))
  rw [e]
  exact dsum_pick q k _ hk hq
theorem Wh.neg {x : GQ} {B : Nat} (h : Wh x B) : Wh (-x) B := by
  obtain ⟨a, b, rfl, hab⟩ := h
  exact ⟨-a, -b, by (ext <;> simp only [GQ.add_re, GQ.add_im, GQ.sub_re, GQ.sub_im, GQ.mul_re, GQ.mul_im, GQ.neg_re, GQ.neg_im, GQ.i_re, GQ.i_im] <;> grind), by omega⟩
/-- How large an entry of a reduced row is. -/
def roomp (b k : Nat) : Nat := (fct k * (2 ^ (b * (k + 1) + 1)) ^ k) * (fct k * (2 ^ (b * (k + 1) + 1)) ^ k)
theorem red_bd {v : Nat → GQ} {P : List (Nat → GQ)} {q : List Nat} {j t b k n : Nat} (hP : P.length = k) (hq : q.length = k) (hb : ∀ r ∈ P, ∀ c ∈ j :: q, Bd (r c) b) (h0 : det P q ≠ GQ.i 0 0) (ht : t < k)
    (hx : v j * det P q = det P (j :: q.eraseIdx t) ∨ v j * det P q = -det P (j :: q.eraseIdx t)) (hn : roomp b k < 2 ^ n) : Bd (v j) n := by
  obtain ⟨R, E, hE, hl, hd, hw⟩ := rows_whole b (j :: q) P hb
  simp only [List.length_cons, hq] at hw
  have hlen : (j :: q.eraseIdx t).length = k := by
    rw [List.length_cons, List.length_eraseIdx, if_pos (by omega)]; omega
  have hN := det_wh (B := 2 ^ (b * (k + 1) + 1)) R (j :: q.eraseIdx t) (by rw [hlen, hl, hP]) (fun r hr c hc => hw r hr c (by
    rcases List.mem_cons.1 hc with rfl | hc
    · exact List.mem_cons_self
    · exact List.mem_cons_of_mem _ (List.mem_of_mem_eraseIdx hc)))
  have hM := det_wh (B := 2 ^ (b * (k + 1) + 1)) R q (by simp [hl, hP, hq]) (fun r hr c hc => hw r hr c (List.mem_cons_of_mem _ hc))
  rw [hlen] at hN
  rw [hq] at hM
  have hne : det R q ≠ GQ.i 0 0 := by rw [hd]; exact GQ.mul_ne (i_ne hE) h0
  have e : v j * det R q = det R (j :: q.eraseIdx t) ∨ v j * det R q = -det R (j :: q.eraseIdx t) := by
    rw [hd, hd, ← GQ.mul_assoc', GQ.mul_comm' (v j), GQ.mul_assoc']
    rcases hx with hx | hx
    · left; rw [hx]
    · right; rw [hx]; (ext <;> simp only [GQ.add_re, GQ.add_im, GQ.sub_re, GQ.sub_im, GQ.mul_re, GQ.mul_im, GQ.neg_re, GQ.neg_im, GQ.i_re, GQ.i_im] <;> grind)
  have hW : Wh (v j * det R q) (fct k * (2 ^ (b * (k + 1) + 1)) ^ k) := by
    rcases e with e | e
    · rw [e]; exact hN
    · rw [e]; exact hN.neg
  exact quot_bd hW hM hne rfl hn hn
/-- Rows times whole numbers, and how large these are together. -/
theorem rows_wholeE (b : Nat) (cs : List Nat) : ∀ (R : List (Nat → GQ)), (∀ r ∈ R, ∀ c ∈ cs, Bd (r c) b) → ∃ (R' : List (Nat → GQ)) (E : Int), E ≠ 0 ∧ E.natAbs ≤ (2 ^ (b * cs.length)) ^ R.length ∧ R'.length = R.length ∧ (∀ l, det R' l = GQ.i E 0 * det R l) ∧ ∀ r ∈ R', ∀ c ∈ cs, Wh (r c) (2 ^ (b * cs.length + 1))
  | [], _ => ⟨[], 1, by omega, by simp, rfl, fun l => (GQ.one_mul' _).symm, by simp⟩
  | v :: R, h => by
    obtain ⟨R', E, h0, hs, hl, hd, hw⟩ := rows_wholeE b cs R (fun r hr => h r (List.mem_cons_of_mem _ hr))
    obtain ⟨D, d0, d1, d2⟩ := row_whole v b cs (h v (List.mem_cons_self))
    refine ⟨(fun c => GQ.i D 0 * v c) :: R', D * E, Int.mul_ne_zero d0 h0, ?_, by simp [hl], fun l => ?_, ?_⟩
    · rw [Int.natAbs_mul, List.length_cons, Nat.pow_succ, Nat.mul_comm]
      exact Nat.mul_le_mul hs d1
    · have e : det R' = fun l => GQ.i E 0 * det R l := funext hd
      show dsum (fun c => GQ.i D 0 * v c) (det R') l = GQ.i (D * E) 0 * dsum v (det R) l
      rw [dsum_scale, e, dsum_scaleD, ← GQ.mul_assoc', i_mul]
      congr 2 <;> simp
    · intro r hr
      rcases List.mem_cons.1 hr with rfl | hr
      · exact d2
      · exact hw r hr
/-- How large a determinant is. -/
def roomd (b k : Nat) : Nat := (fct k * (2 ^ (b * k + 1)) ^ k) * (2 ^ (b * k)) ^ k
theorem det_bd {P : List (Nat → GQ)} {q : List Nat} {b k n : Nat} (hP : P.length = k) (hq : q.length = k) (hb : ∀ r ∈ P, ∀ c ∈ q, Bd (r c) b) (hn : roomd b k < 2 ^ n) : Bd (det P q) n := by
  obtain ⟨R, E, hE, hs, hl, hd, hw⟩ := rows_wholeE b q P hb
  rw [hq] at hs hw
  rw [hP] at hs
  have hN := det_wh (B := 2 ^ (b * k + 1)) R q (by rw [hl, hP, hq]) hw
  rw [hq] at hN
  refine quot_bd hN (wh_real hs) (i_ne hE) (by rw [GQ.mul_comm']; exact (hd q).symm) hn (Nat.lt_of_le_of_lt ?_ hn)
  unfold roomd
  refine Nat.mul_le_mul ?_ (Nat.le_refl _)
  refine Nat.le_trans (Nat.pow_le_pow_left (Nat.pow_le_pow_right (by omega) (by omega : b * k ≤ b * k + 1)) k) ?_
  exact Nat.le_mul_of_pos_left _ (fct_pos k)

/-- The pivot row divided by the pivot; its multiples subtracted from all other rows. -/
def red (Y : Nat → Nat → GQ) (r c : Nat) : Nat → Nat → GQ := fun i j => if i = r then Y r j / Y r c else Y i j - Y i c * (Y r j / Y r c)
structure Rc where
  r : Nat
  X : Nat → Nat → GQ
  d : GQ
def rstep (m c : Nat) (s : Rc) : Rc :=
  match fp s.X c (m - s.r) s.r with
  | none => s
  | some k => ⟨s.r + 1, red (fun i => s.X (swp k s.r i)) s.r c, (if k = s.r then s.d else s.d * GQ.i (-1) 0) * s.X k c⟩
/-- Reduced elimination, the first c columns. -/
def rech (m : Nat) (X : Nat → Nat → GQ) : Nat → Rc
  | 0 => ⟨0, X, GQ.i 1 0⟩
  | c + 1 => rstep m c (rech m X c)
theorem rstep_none {m c : Nat} {s : Rc} (h : fp s.X c (m - s.r) s.r = none) : rstep m c s = s := by unfold rstep; rw [h]
theorem rstep_some {m c k : Nat} {s : Rc} (h : fp s.X c (m - s.r) s.r = some k) : rstep m c s = ⟨s.r + 1, red (fun i => s.X (swp k s.r i)) s.r c, (if k = s.r then s.d else s.d * GQ.i (-1) 0) * s.X k c⟩ := by unfold rstep; rw [h]
theorem ech_le' (m : Nat) (Z : Nat → Nat → GQ) : ∀ c, (ech m Z c).r ≤ c
  | 0 => Nat.le_refl _
  | c + 1 => by
    have ih := ech_le' m Z c
    show (estep m c (ech m Z c)).r ≤ c + 1
    cases hf : fp (ech m Z c).X c (m - (ech m Z c).r) (ech m Z c).r with
    | none => rw [estep_none hf]; omega
    | some k => rw [estep_some hf]; show (ech m Z c).r + 1 ≤ c + 1; omega
theorem pprod_congr {X Y : Nat → Nat → GQ} : ∀ {k : Nat}, (∀ i, i < k → X i i = Y i i) → pprod X k = pprod Y k
  | 0, _ => rfl
  | k + 1, h => by
    show pprod X k * X k k = pprod Y k * Y k k
    rw [pprod_congr (fun i hi => h i (by omega)), h k (by omega)]
structure RInv (m : Nat) (X0 : Nat → Nat → GQ) (c : Nat) (s : Ec) (t : Rc) (o : Nat → Nat) (P : List (Nat → GQ)) : Prop where
  inv : Inv m X0 c s o P
  re : t.r = s.r
  lo : ∀ i, s.r ≤ i → i < m → t.X i = s.X i
  sp : ∀ i, i < s.r → Spn (t.X i) P
  un : ∀ i, i < s.r → ∀ k d, s.q[k]? = some d → t.X i d = if k + i + 1 = s.r then GQ.i 1 0 else GQ.i 0 0
  dd : t.d = if s.odd then -det P s.q else det P s.q
  pp : s.r = c → pprod s.X c = det P s.q
theorem RInv.start (m : Nat) (X0 : Nat → Nat → GQ) : RInv m X0 0 (ech m X0 0) (rech m X0 0) (fun i => i) [] :=
  ⟨Inv.start m X0, rfl, fun _ _ _ => rfl, fun i hi => absurd hi (Nat.not_lt_zero i), fun i hi => absurd hi (Nat.not_lt_zero i), rfl, fun _ => rfl⟩
theorem RInv.step {m c : Nat} {X0 : Nat → Nat → GQ} {s : Ec} {t : Rc} {o : Nat → Nat} {P : List (Nat → GQ)} (h : RInv m X0 c s t o P) (hle : s.r ≤ c) : (fp s.X c (m - s.r) s.r = none ∧ RInv m X0 (c + 1) (estep m c s) (rstep m c t) o P) ∨ ∃ k, fp s.X c (m - s.r) s.r = some k ∧ RInv m X0 (c + 1) (estep m c s) (rstep m c t) (fun i => o (swp k s.r i)) (X0 (o k) :: P) := by
  have hrm := h.inv.rm
  cases hf : fp s.X c (m - s.r) s.r with
  | none =>
    have hf' : fp t.X c (m - t.r) t.r = none := by
      rw [h.re]
      refine fp_none fun i h1 h2 => ?_
      rw [h.lo i h1 (by omega)]; exact of_fp_none hf i h1 h2
    have hI : Inv m X0 (c + 1) s o P := ⟨h.inv.rm, h.inv.pl, h.inv.ql, h.inv.ne, fun d hd => Nat.lt_succ_of_lt (h.inv.qc d hd), h.inv.pm, h.inv.om, h.inv.sy, fun i j h1 h2 h3 => by
      by_cases e : j = c
      · subst e; exact of_fp_none hf i h1 (by omega)
      · exact h.inv.z i j h1 h2 (by omega)⟩
    rw [estep_none hf, rstep_none hf']
    exact .inl ⟨rfl, hI, h.re, h.lo, h.sp, h.un, h.dd, fun e => by omega⟩
  | some k =>
    obtain ⟨k1, k2, k3, k4⟩ := of_fp_some hf
    have hkm : k < m := by omega
    have tk : ∀ i, s.r ≤ i → i < m → t.X i = s.X i := h.lo
    have hf' : fp t.X c (m - t.r) t.r = some k := by
      rw [h.re]
      refine fp_some k1 (by omega) (fun i h1 h2 => ?_) ?_
      · rw [tk i h1 (by omega)]; exact k4 i h1 h2
      · rw [tk k k1 hkm]; exact k3
    have hen := (h.inv.sy k k1 (by omega)).entry (fun d hd => h.inv.z k d k1 (by omega) (h.inv.qc d hd)) c
    have hsp : Spn (s.X k) (X0 (o k) :: P) := Spn.of_says (h.inv.sy k k1 (by omega))
    have hzk : ∀ d ∈ s.q, s.X k d = GQ.i 0 0 := fun d hd => h.inv.z k d k1 hkm (h.inv.qc d hd)
    have hks : swp k s.r s.r = k := swp_r _ _
    have hswl : ∀ i, i < s.r → swp k s.r i = i := fun i hi => swp_ne (by omega) (by omega)
    have hswg : ∀ i, s.r < i → i < m → s.r ≤ swp k s.r i ∧ swp k s.r i < m := fun i h1 h2 => ⟨by unfold swp; split <;> (try split) <;> omega, swp_lt hkm (by omega) h2⟩
    have hI : Inv m X0 (c + 1) (estep m c s) (fun i => o (swp k s.r i)) (X0 (o k) :: P) := by
      rw [estep_some hf]
      refine ⟨by show s.r + 1 ≤ m; omega, by simp [h.inv.pl], by simp [h.inv.ql], ?_, ?_, ?_, ?_, ?_, ?_⟩
      · show det (X0 (o k) :: P) (c :: s.q) ≠ _
        rw [hen]; exact GQ.mul_ne k3 h.inv.ne
      · intro d hd
        rcases List.mem_cons.1 hd with rfl | hd
        · omega
        · exact Nat.lt_succ_of_lt (h.inv.qc d hd)
      · intro p hp
        rcases List.mem_cons.1 hp with rfl | hp
        · exact ⟨o k, h.inv.om k (by omega), rfl⟩
        · exact h.inv.pm p hp
      · intro i hi
        exact h.inv.om _ (swp_lt (by omega) (by omega) hi)
      · intro i h1 h2
        have h1' : s.r < i := h1
        have e : (clr (fun i => s.X (swp k s.r i)) s.r c) i = fun j => s.X (swp k s.r i) j - (s.X (swp k s.r i) c / s.X k c) * s.X k j := by
          funext j; unfold clr; rw [if_pos h1']; simp only [hks]
        show Says ((clr (fun i => s.X (swp k s.r i)) s.r c) i) _ _
        rw [e]
        exact Says.step (h.inv.sy _ (hswg i h1' h2).1 (hswg i h1' h2).2) (h.inv.sy k k1 (by omega)) _
      · intro i j h1 h2 h3
        have h1' : s.r < i := h1
        show (clr (fun i => s.X (swp k s.r i)) s.r c) i j = _
        unfold clr; rw [if_pos h1']; simp only [hks]
        by_cases e : j = c
        · subst e; rw [GQ.div_cancel' k3, GQ.sub_self']
        · rw [h.inv.z _ j (hswg i h1' h2).1 (hswg i h1' h2).2 (by omega), h.inv.z k j k1 (by omega) (by omega), GQ.mul_zero', GQ.sub_zero']
    rw [rstep_some hf']
    refine .inr ⟨k, rfl, hI, ?_, ?_, ?_, ?_, ?_, ?_⟩
    · rw [estep_some hf]; show t.r + 1 = s.r + 1; rw [h.re]
    · rw [estep_some hf]
      intro i h1 h2
      have h1' : s.r < i := h1
      funext j
      show red (fun i => t.X (swp k t.r i)) t.r c i j = clr (fun i => s.X (swp k s.r i)) s.r c i j
      rw [h.re]
      unfold red clr
      rw [if_neg (by omega), if_pos h1']
      simp only [hks]
      rw [tk _ (hswg i h1' h2).1 (hswg i h1' h2).2, tk k k1 hkm, GQ.mul_div']
    · rw [estep_some hf]
      intro i hi
      have hi' : i < s.r + 1 := hi
      show Spn (red (fun i => t.X (swp k t.r i)) t.r c i) _
      rw [h.re]
      by_cases e : i = s.r
      · subst e
        have e2 : red (fun i => t.X (swp k s.r i)) s.r c s.r = fun j => s.X k j / s.X k c := by
          funext j; unfold red; rw [if_pos rfl]; simp only [hks]; rw [tk k k1 hkm]
        rw [e2]; exact hsp.quot _
      · have e2 : red (fun i => t.X (swp k s.r i)) s.r c i = fun j => t.X i j - t.X i c * (s.X k j / s.X k c) := by
          funext j; unfold red; rw [if_neg e]; simp only [hks]; rw [tk k k1 hkm, hswl i (by omega)]
        rw [e2]; exact (h.sp i (by omega)).more.comb (hsp.quot _) _
    · rw [estep_some hf]
      intro i hi n d hd
      have hi' : i < s.r + 1 := hi
      show red (fun i => t.X (swp k t.r i)) t.r c i d = if n + i + 1 = s.r + 1 then _ else _
      rw [h.re]
      by_cases e : i = s.r
      · subst e
        have e2 : red (fun i => t.X (swp k s.r i)) s.r c s.r d = s.X k d / s.X k c := by
          unfold red; rw [if_pos rfl]; simp only [hks]; rw [tk k k1 hkm]
        rw [e2]
        match n, hd with
        | 0, hd =>
          obtain rfl : c = d := by simpa using hd
          rw [if_pos (by omega), GQ.div_self' k3]
        | n + 1, hd =>
          have hd' : s.q[n]? = some d := by simpa using hd
          rw [if_neg (by omega), hzk d (List.mem_of_getElem? hd'), GQ.zero_div']
      · have e2 : red (fun i => t.X (swp k s.r i)) s.r c i d = t.X i d - t.X i c * (s.X k d / s.X k c) := by
          unfold red; rw [if_neg e]; simp only [hks]; rw [tk k k1 hkm, hswl i (by omega)]
        rw [e2]
        match n, hd with
        | 0, hd =>
          obtain rfl : c = d := by simpa using hd
          rw [if_neg (by omega), GQ.div_self' k3, GQ.mul_one', GQ.sub_self']
        | n + 1, hd =>
          have hd' : s.q[n]? = some d := by simpa using hd
          rw [hzk d (List.mem_of_getElem? hd'), GQ.zero_div', GQ.mul_zero', GQ.sub_zero', h.un i (by omega) n d hd']
          by_cases e3 : n + i + 1 = s.r
          · rw [if_pos e3, if_pos (by omega)]
          · rw [if_neg e3, if_neg (by omega)]
    · rw [estep_some hf]
      show (if k = t.r then t.d else t.d * GQ.i (-1) 0) * t.X k c = if (s.odd ^^ decide (k ≠ s.r)) then -det (X0 (o k) :: P) (c :: s.q) else det (X0 (o k) :: P) (c :: s.q)
      rw [hen, tk k k1 hkm, h.re, h.dd]
      generalize s.X k c = x; generalize det P s.q = y
      by_cases e : k = s.r
      · have hx : (s.odd ^^ decide (k ≠ s.r)) = s.odd := by simp [e]
        rw [if_pos e, hx]
        cases s.odd
        · show y * x = x * y
          exact GQ.mul_comm' _ _
        · show -y * x = -(x * y)
          (ext <;> simp only [GQ.add_re, GQ.add_im, GQ.sub_re, GQ.sub_im, GQ.mul_re, GQ.mul_im, GQ.neg_re, GQ.neg_im, GQ.i_re, GQ.i_im] <;> grind)
      · have hx : (s.odd ^^ decide (k ≠ s.r)) = !s.odd := by simp [e]
        rw [if_neg e, hx]
        cases s.odd
        · show y * GQ.i (-1) 0 * x = -(x * y)
          (ext <;> simp only [GQ.add_re, GQ.add_im, GQ.sub_re, GQ.sub_im, GQ.mul_re, GQ.mul_im, GQ.neg_re, GQ.neg_im, GQ.i_re, GQ.i_im] <;> grind)
        · show -y * GQ.i (-1) 0 * x = x * y
          (ext <;> simp only [GQ.add_re, GQ.add_im, GQ.sub_re, GQ.sub_im, GQ.mul_re, GQ.mul_im, GQ.neg_re, GQ.neg_im, GQ.i_re, GQ.i_im] <;> grind)
    · rw [estep_some hf]
      intro e
      have e' : s.r = c := by have : s.r + 1 = c + 1 := e; omega
      show pprod (clr (fun i => s.X (swp k s.r i)) s.r c) c * clr (fun i => s.X (swp k s.r i)) s.r c c c = det (X0 (o k) :: P) (c :: s.q)
      rw [hen, ← h.pp e']
      have a1 : clr (fun i => s.X (swp k s.r i)) s.r c c c = s.X k c := by
        unfold clr; rw [if_neg (by omega)]; simp only []; rw [← e', hks]
      have a2 : pprod (clr (fun i => s.X (swp k s.r i)) s.r c) c = pprod s.X c := pprod_congr fun i hi => by
        unfold clr; rw [if_neg (by omega)]; simp only []; rw [hswl i (by omega)]
      rw [a1, a2, GQ.mul_comm']
theorem rech_inv (m : Nat) (X0 : Nat → Nat → GQ) : ∀ c, ∃ o P, RInv m X0 c (ech m X0 c) (rech m X0 c) o P
  | 0 => ⟨_, _, RInv.start m X0⟩
  | c + 1 => by
    obtain ⟨o, P, h⟩ := rech_inv m X0 c
    rcases h.step (ech_le' m X0 c) with ⟨_, h⟩ | ⟨k, _, h⟩
    · exact ⟨_, _, h⟩
    · exact ⟨_, _, h⟩
/-- The sizes of reduced elimination's entries. -/
theorem RInv.bd {m c b N W : Nat} {X0 : Nat → Nat → GQ} {s : Ec} {t : Rc} {o : Nat → Nat} {P : List (Nat → GQ)} (h : RInv m X0 c s t o P) (hb : ∀ i j, i < m → j < W → Bd (X0 i j) b) (hc : c ≤ W)
    (hN : s.r < m → room b s.r < 2 ^ N) (hN2 : roomp b s.r < 2 ^ N) : ∀ i j, i < m → j < W → Bd (t.X i j) N := by
  intro i j hi hj
  by_cases hir : s.r ≤ i
  · rw [h.lo i hir hi]; exact h.inv.bd hb hc (hN (by omega)) i j hir hi hj
  · have hlen : s.r - 1 - i < s.q.length := by rw [h.inv.ql]; omega
    refine red_bd (v := t.X i) h.inv.pl h.inv.ql ?_ h.inv.ne (t := s.r - 1 - i) (by omega) ((h.sp i (by omega)).entry hlen (fun n d hd => ?_) j) hN2
    · intro r hr d hd
      obtain ⟨k, hk, rfl⟩ := h.inv.pm r hr
      refine hb _ _ hk ?_
      rcases List.mem_cons.1 hd with rfl | hd
      · exact hj
      · have := h.inv.qc d hd; omega
    · rw [h.un i (by omega) n d hd]
      by_cases e : n = s.r - 1 - i
      · rw [if_pos e, if_pos (by omega)]
      · rw [if_neg e]
        have : n < s.q.length := (List.getElem?_eq_some_iff.1 hd).1
        rw [if_neg (by omega)]
theorem RInv.bd_det {m c b N W : Nat} {X0 : Nat → Nat → GQ} {s : Ec} {t : Rc} {o : Nat → Nat} {P : List (Nat → GQ)} (h : RInv m X0 c s t o P) (hb : ∀ i j, i < m → j < W → Bd (X0 i j) b) (hc : c ≤ W) (hN : roomd b s.r < 2 ^ N) : Bd (det P s.q) N := by
  refine det_bd h.inv.pl h.inv.ql (fun r hr d hd => ?_) hN
  obtain ⟨k, hk, rfl⟩ := h.inv.pm r hr
  exact hb _ _ hk (by have := h.inv.qc d hd; omega)
theorem Bd.neg {x : GQ} {n : Nat} (h : Bd x n) : Bd (-x) n := by
  obtain ⟨a, b, d, h1, h2⟩ := h
  have hd := h1.dne
  refine Bd.of (a := -a) (b := -b) (d := d) hd ?_ ?_ ⟨by rw [Int.natAbs_neg]; exact h2.a, by rw [Int.natAbs_neg]; exact h2.b, h2.d⟩
  · have := h1.re
    simp only [GQ.neg_re, this, Rat.intCast_neg]; grind
  · have := h1.im
    simp only [GQ.neg_im, this, Rat.intCast_neg]; grind
end Go.Proofs.YtclkkoiaaddllaaGreat

namespace Go.Proofs.YtclkkoiaaddllaaGreat
open Go.RowKit
set_option linter.unusedVariables false
set_option linter.unusedSimpArgs false

section
variable {W W' : World} {G m n : Nat} {P : Nat → Prop} {R : Nat → Rw} {X Y : Nat → Nat → GQ}
theorem MxC.mod {S : Nat → Prop} (h : MxC W G m n P R X) (hm : Mod S W W') (hS : Far S W) (hG : ¬ S G) (ho : ∀ j, j < m → 0 < n → ¬ S (R j).b) : MxC W' G m n P R X := by
  refine ⟨fun h0 => ?_, h.len, fun j hj hn => ⟨(h.row j hj hn).1, (h.row j hj hn).2.mod hm hS (ho j hj hn)⟩, h.inj, h.mem⟩
  obtain ⟨c, R', h1, h2, h3⟩ := h.out h0
  exact ⟨c, R', h1, h2.mod hm hG, h3⟩
theorem MxC.upd {S : Nat → Prop} {x : Nat → GQ} {i : Nat} (h : MxC W G m n P R X) (hm : Mod S W W') (hS : Far S W) (hG : ¬ S G) (ho : ∀ j, j < m → j ≠ i → 0 < n → ¬ S (R j).b) (hi : 0 < n → RowC W' (R i).b n x) : MxC W' G m n P R (upd X i x) := by
  refine ⟨fun h0 => ?_, h.len, fun j hj hn => ⟨(h.row j hj hn).1, ?_⟩, h.inj, h.mem⟩
  · obtain ⟨c, R', h1, h2, h3⟩ := h.out h0
    exact ⟨c, R', h1, h2.mod hm hG, h3⟩
  · by_cases e : j = i
    · subst e; rw [upd_same]; exact hi hn
    · rw [upd_ne e]; exact (h.row j hj hn).2.mod hm hS (ho j hj e hn)
theorem MxC.swap {k r : Nat} (h : MxC W G m n P R X) (hk : k < m) (hr : r < m) :
    MxC ((W.setCell ⟨G, k, none⟩ (.slice (R r).A n (R r).c)).setCell ⟨G, r, none⟩ (.slice (R k).A n (R k).c)) G m n P (fun i => R (swp k r i)) (fun i => X (swp k r i)) ∧
      Mod (fun g => g = G) W ((W.setCell ⟨G, k, none⟩ (.slice (R r).A n (R r).c)).setCell ⟨G, r, none⟩ (.slice (R k).A n (R k).c)) := by
  obtain ⟨c, R', h1, h2, h3⟩ := h.out (by omega)
  have hm : Mod (fun g => g = G) W ((W.setCell ⟨G, k, none⟩ (.slice (R r).A n (R r).c)).setCell ⟨G, r, none⟩ (.slice (R k).A n (R k).c)) := Mod.only ((Only.set _ _ _ _).trans (Only.set _ _ _ _)) rfl
  have hS : Far (fun g => g = G) W := fun g hg _ => by subst hg; exact ⟨_, _, h2, noInt_slices _ _⟩
  refine ⟨⟨fun _ => ⟨c, fun i => R' (swp k r i), h1, ?_, fun i hi => h3 _ (swp_lt hk hr hi)⟩, fun i hi => h.len _ (swp_lt hk hr hi), fun i hi hn => ?_, fun i j hi hj hn e => ?_, fun i hi hn => h.mem _ (swp_lt hk hr hi) hn⟩, hm⟩
  · have := (h2.set_ k (R' r).v).set_ r (R' k).v
    rw [mxc_swap (by omega) (by omega), h3 r hr, h3 k hk, h.v hk, h.v hr] at this
    exact this
  · obtain ⟨h1, h4⟩ := h.row _ (swp_lt hk hr hi) hn
    refine ⟨h1, h4.mod hm hS ?_⟩
    obtain ⟨cs, hb⟩ := h4.blk
    exact fun e => h2.ne_t hb (by decide) e.symm
  · have := h.inj _ _ (swp_lt hk hr hi) (swp_lt hk hr hj) hn e
    rw [← swp_inv k r i, this, swp_inv]
theorem MxC.blk (h : MxC W G m n P R X) (hm : 0 < m) : ∃ cs, Blk W G 37 cs ∧ noIntB cs = true := by
  obtain ⟨c, R', _, h2, _⟩ := h.out hm
  exact ⟨_, h2, noInt_slices _ _⟩
theorem MxC.ne (h : MxC W G m n P R X) {i g : Nat} {t : TypeId} {cs : Array Value} (hi : i < m) (hn : 0 < n) (hb : Blk W g t cs) (ht : t ≠ 32) : (R i).b ≠ g := by
  obtain ⟨cs', hc⟩ := (h.row i hi hn).2.blk
  exact hc.ne_t hb (fun e => ht e.symm)
/-- A number stored. -/
theorem mxc_put {i j cap : Nat} {f : Nat → En} {e : En} {q : GQ} (h : MxC W G m n P R X) (hi : i < m) (hj : j < n) (hcap : n ≤ cap) (hf : Blk W (R i).b 32 (rowc cap f).toArray) (hv : ∀ j, j < n → GV W (f j).v (X i j) 12800) (he : GV W e.v q 12800) :
    MxC (puts W (R i).b (j * 6) e.cells) G m n P R (upd X i (upd (X i) j q)) ∧ Mod (fun g => g = (R i).b) W (puts W (R i).b (j * 6) e.cells) := by
  obtain ⟨h1, h2⟩ := RowC.put hf hcap hv hj he
  have hfar : Far (fun g => g = (R i).b) W := (h.row i hi (by omega)).2.far
  refine ⟨h.upd h2 hfar ?_ (fun j' hj' hne hn e' => ?_) (fun _ => h1), h2⟩
  · intro e'
    obtain ⟨cs, hb, _⟩ := h.blk (by omega)
    exact h.ne hi (by omega) hb (by decide) e'.symm
  · exact hne (h.inj _ _ hj' hi hn e')
/-- Where a row's number lies. -/
theorem MxC.at_ {i j : Nat} (h : MxC W G m n P R X) (hi : i < m) (hj : j < n) : ∃ (cap : Nat) (f : Nat → En), (R i).A = some ⟨(R i).b, 0, none⟩ ∧ n ≤ cap ∧ Blk W (R i).b 32 (rowc cap f).toArray ∧ ∀ j, j < n → GV W (f j).v (X i j) 12800 := by
  obtain ⟨h1, c, f, h2, h3, h4⟩ := h.row i hi (by omega)
  exact ⟨c, f, h1, h2, h3, h4⟩
end
theorem rech_stop {m : Nat} {Z : Nat → Nat → GQ} {c : Nat} (h : (rech m Z c).r = m) : ∀ d, c ≤ d → rech m Z d = rech m Z c
  | 0, hd => by rw [show c = 0 by omega]
  | d + 1, hd => by
    by_cases e : c = d + 1
    · rw [e]
    · have ih := rech_stop h d (by omega)
      show rstep m d (rech m Z d) = _
      rw [ih]
      refine rstep_none ?_
      rw [h, Nat.sub_self]; rfl
/-- The determinant's place, the matrix and the empty matrix beside it. -/
structure RS (W : World) (gd Ga Gb m n B0 ND : Nat) (X : Nat → Nat → GQ) (d : GQ) : Prop where
  det : ∃ e : En, Blk W gd 32 e.cells.toArray ∧ GV W e.v d ND
  a : ∃ R, MxC W Ga m n (fun g => B0 ≤ g ∧ g < gd) R X
  b : ∃ R, MxC W Gb m 0 (fun g => B0 ≤ g ∧ g < gd) R X
theorem MxC.to0 {W : World} {G m : Nat} {P Q : Nat → Prop} {R : Nat → Rw} {X Y : Nat → Nat → GQ} (h : MxC W G m 0 P R X) : MxC W G m 0 Q R Y :=
  ⟨h.out, h.len, fun i hi hn => absurd hn (Nat.lt_irrefl 0), fun i j hi hj hn => absurd hn (Nat.lt_irrefl 0), fun i hi hn => absurd hn (Nat.lt_irrefl 0)⟩
theorem RS.ext {W W' : World} {gd Ga Gb m n B0 ND : Nat} {X : Nat → Nat → GQ} {d : GQ} (h : RS W gd Ga Gb m n B0 ND X d) (x : Ext W W') : RS W' gd Ga Gb m n B0 ND X d := by
  obtain ⟨⟨e, h1, h2⟩, ⟨R, h3⟩, ⟨S, h4⟩⟩ := h
  exact ⟨⟨e, h1.ext x, h2.ext x⟩, ⟨R, h3.ext x⟩, ⟨S, h4.ext x⟩⟩
theorem RS.congr {W : World} {gd Ga Gb m n B0 ND : Nat} {X Y : Nat → Nat → GQ} {d : GQ} (h : RS W gd Ga Gb m n B0 ND X d) (e : ∀ i j, i < m → j < n → X i j = Y i j) : RS W gd Ga Gb m n B0 ND Y d := by
  obtain ⟨h1, ⟨R, h3⟩, ⟨S, h4⟩⟩ := h
  exact ⟨h1, ⟨R, h3.congr e⟩, ⟨S, h4.to0⟩⟩
theorem En.sets (e0 e : En) : setsA e0.cells.toArray 0 e.cells = e.cells.toArray := by rw [setsA_list]; rfl
theorem En.noint (e : En) : noIntB e.cells.toArray = true := rfl
theorem RS.detfar {W : World} {gd : Nat} {e : En} (h : Blk W gd 32 e.cells.toArray) : Far (fun g => g = gd) W := fun g hg _ => by subst hg; exact ⟨_, _, h, En.noint e⟩
/-- The determinant's new value. -/
theorem RS.putd {W W' : World} {gd Ga Gb m n B0 ND : Nat} {X : Nat → Nat → GQ} {d q : GQ} {e : En} (h : RS W gd Ga Gb m n B0 ND X d) (he : GV W e.v q ND) (hm : 0 < m) (eW : W' = puts W gd 0 e.cells) :
    RS W' gd Ga Gb m n B0 ND X q ∧ Mod (fun g => g = gd) W W' := by
  subst eW
  obtain ⟨⟨e0, h1, h2⟩, ⟨R, h3⟩, ⟨S, h4⟩⟩ := h
  have hmod : Mod (fun g => g = gd) W (puts W gd 0 e.cells) := Mod.only (puts_only _ _ _ _) rfl
  have hS := RS.detfar h1
  obtain ⟨csa, ha, _⟩ := h3.blk hm
  obtain ⟨csb, hb, _⟩ := h4.blk hm
  refine ⟨⟨⟨e, ?_, he.mod hmod hS⟩, ⟨R, h3.mod hmod hS (fun e' => ha.ne_t h1 (by decide) e') fun j hj hn e' => ?_⟩, ⟨S, h4.mod hmod hS (fun e' => hb.ne_t h1 (by decide) e') fun j hj hn => absurd hn (Nat.lt_irrefl 0)⟩⟩, hmod⟩
  · exact Eq.mp (congrArg (Blk _ gd 32) (En.sets e0 e)) (puts_blk 0 e.cells h1)
  · have := (h3.mem j hj hn).2; omega
/-- A number of the matrix stored. -/
theorem RS.put {W : World} {gd Ga Gb m n B0 ND i j cap : Nat} {X : Nat → Nat → GQ} {d q : GQ} {e : En} {f : Nat → En} {R : Nat → Rw} (h : RS W gd Ga Gb m n B0 ND X d) (hR : MxC W Ga m n (fun g => B0 ≤ g ∧ g < gd) R X) (hi : i < m) (hj : j < n) (hcap : n ≤ cap) (hf : Blk W (R i).b 32 (rowc cap f).toArray) (hv : ∀ j, j < n → GV W (f j).v (X i j) 12800) (he : GV W e.v q 12800) :
    RS (puts W (R i).b (j * 6) e.cells) gd Ga Gb m n B0 ND (upd X i (upd (X i) j q)) d ∧ Mod (fun g => g = (R i).b) W (puts W (R i).b (j * 6) e.cells) := by
  obtain ⟨⟨e0, h1, h2⟩, _, ⟨S, h4⟩⟩ := h
  obtain ⟨h5, h6⟩ := mxc_put hR hi hj hcap hf hv he
  have hfar : Far (fun g => g = (R i).b) W := (hR.row i hi (by omega)).2.far
  have hlt := (hR.mem i hi (by omega)).2
  obtain ⟨csb, hb, _⟩ := h4.blk (by omega)
  refine ⟨⟨⟨e0, h1.mod h6 (by show ¬ gd = (R i).b; omega), h2.mod h6 hfar⟩, ⟨R, h5⟩, ⟨S, (h4.mod h6 hfar (fun e' => hR.ne hi (by omega) hb (by decide) e'.symm) fun j hj hn => absurd hn (Nat.lt_irrefl 0)).to0⟩⟩, h6⟩
/-- The sizes that the reference's elimination meets. -/
structure RoomR (N ND m n : Nat) (X : Nat → Nat → GQ) : Prop where
  x : ∀ c, c ≤ n → ∀ i j, i < m → j < n → Bd ((rech m X c).X i j) N
  d : ∀ c, c ≤ n → Bd (rech m X c).d ND
end Go.Proofs.YtclkkoiaaddllaaGreat

