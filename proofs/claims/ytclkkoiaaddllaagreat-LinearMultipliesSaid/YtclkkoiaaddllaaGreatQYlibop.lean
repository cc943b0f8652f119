/- Linear: duplicate, a copy of a matrix with numbers of its own. -/
import Derived.Test.YtclkkoiaaddllaaGreatQYimmcf
import Derived.Laws.CopyRow
namespace Go.Proofs.YtclkkoiaaddllaaGreat
open Go.RowKit
set_option linter.unusedVariables false

def nilRw : Rw := ⟨none, 0, 0, 0, 0⟩
def zEn : En := ⟨false, none, 0, 0, false, none, 0, 0, false, none, 0, 0⟩
theorem info_row : (Tryz.prog.info? 37).map (fun i => (i.zero, i.size, i.bytes)) = some (some (.slice none 0 0), 1, 24) := by kernel_rfl
theorem info_gauss : (Tryz.prog.info? 32).map (fun i => (i.zero, i.size, i.bytes)) = some (some zEn.v, 6, 96) := by kernel_rfl
theorem madeCells_mx (m : Nat) : madeCells #[Value.slice none 0 0] m = (mxc m fun _ => nilRw).toArray := by
  rw [madeCells_one]
  congr 1
  unfold mxc
  rw [List.map_const', List.length_range]; rfl
theorem madeCells_row (n : Nat) : madeCells zEn.v.cells (n * 6) = (rowc n fun _ => zEn).toArray := by
  unfold madeCells
  apply Array.ext
  · simp [rowc_len]
  · intro i h1 h2
    have hi : i < n * 6 := by simpa using h1
    have e : i = (i / 6) * 6 + i % 6 := by omega
    have h := rowc_at (f := fun _ => zEn) (j := i / 6) (t := i % 6) (n := n) (Nat.mod_lt _ (by omega)) (by omega)
    rw [← e] at h
    have h3 : (rowc n fun _ => zEn)[i]? = some ((rowc n fun _ => zEn).toArray[i]) := by simp
    rw [h3] at h
    have hs : zEn.v.cells.size = 6 := rfl
    have h6 : ∀ k, k < 6 → some (zEn.v.cells[k]!) = zEn.cells[k]? := fun k hk => match k, hk with
      | 0, _ => rfl
      | 1, _ => rfl
      | 2, _ => rfl
      | 3, _ => rfl
      | 4, _ => rfl
      | 5, _ => rfl
    simp only [Array.getElem_map, Array.getElem_range]
    rw [hs]
    have h4 := h6 (i % 6) (Nat.mod_lt _ (by omega))
    rw [← h4] at h
    injection h with h
    exact h.symm
theorem make_mx (m : Nat) (hm : m ≤ 1000) (W : World) : (Instr.makeSlice 22 (.int .i64 m) (.int .i64 m)).run Tryz.prog W = .ok (.slice (some ⟨W.heap.size, 0, none⟩) m m) (W.alloc (.cells (mxc m fun _ => nilRw).toArray 37)) := by
  obtain ⟨i0, hi0, hz0, hz1, hz2⟩ := info_parts info_row
  have h := run_make (P := Tryz.prog) W 22 37 i0 (.slice none 0 0) Tryz.underlying22 hi0 hz0 .i64 .i64 m m (by omega) (by omega) (by rw [hz2]; omega) (by omega)
  rw [h, hz1]
  have e : madeCells (Value.slice none 0 0).cells m = (mxc m fun _ => nilRw).toArray := madeCells_mx m
  simp only [Nat.mul_one, Int.toNat_natCast, e]
theorem make_row (n : Nat) (hn : n ≤ 1000) (W : World) : (Instr.makeSlice 37 (.int .i64 n) (.int .i64 n)).run Tryz.prog W = .ok (.slice (some ⟨W.heap.size, 0, none⟩) n n) (W.alloc (.cells (rowc n fun _ => zEn).toArray 32)) := by
  obtain ⟨i0, hi0, hz0, hz1, hz2⟩ := info_parts info_gauss
  have h := run_make (P := Tryz.prog) W 37 32 i0 zEn.v Tryz.underlying37 hi0 hz0 .i64 .i64 n n (by omega) (by omega) (by rw [hz2]; omega) (by omega)
  rw [h, hz1]
  simp only [Int.toNat_natCast, madeCells_row]
theorem run_copy_k (k : Nat) {P : Program} (w : World) (dT sT ty elem : TypeId) (g o dLen dCap : Nat) (a : Addr) (sLen sCap : Nat) (cur : Array Value) (t : TypeId) (cs : List Value)
    (hu : P.underlying dT = some (.slice elem)) (hs : (P.info? elem).map (·.size) = some k)
    (hg : w.heap[g]? = some (.cells cur t (0, 0))) (hn : cs.length = Nat.min sLen dLen * k)
    (hsrc : ∀ j v, cs[j]? = some v → w.cell? (a.add j) = some v) (hfit : o + cs.length ≤ cur.size) (h1 : ∀ v ∈ cs, v.oneCell' = true) :
    (Builtin.copy_ #[dT, sT] ty #[.slice (some ⟨g, o, none⟩) dLen dCap, .slice (some a) sLen sCap]).run P w =
      .ok (goInt (Nat.min sLen dLen)) (w.setRow g (cur.toList.take o ++ cs ++ cur.toList.drop (o + cs.length)).toArray) := by
  have hl := run_loadCells_list (P := P) w a cs hsrc
  have hst := run_storeCells_at P g o t cs 0 cur w hg (by simpa using hfit) h1
  cases hq : P.info? elem with
  | none => simp [hq] at hs
  | some i =>
    have hi : i.size = k := by simpa [hq] using hs
    simp [Builtin.copy_, run_underlying hu, Builtin.lenOf, Builtin.firstCells, sizeOf, typeInfo, hq, hi, ← hn, hl, hst]
theorem gauss_six : (Tryz.prog.info? 32).map (·.size) = some 6 := by kernel_rfl
theorem rowc_one (n : Nat) (f : Nat → En) : ∀ v ∈ rowc n f, v.oneCell' = true := by
  intro v hv
  unfold rowc at hv
  obtain ⟨j, _, hv⟩ := List.mem_flatMap.1 hv
  unfold En.cells at hv
  simp only [List.mem_cons, List.not_mem_nil, or_false] at hv
  rcases hv with rfl | rfl | rfl | rfl | rfl | rfl <;> rfl
theorem rowc_set1 {f : Nat → En} {j n t : Nat} {u : Value} {e : En} (hj : j < n) (ht : t < 6) (hc : e.cells = (f j).cells.set t u) : (rowc n f).toArray.setIfInBounds (j * 6 + t) u = (rowc n (upd f j e)).toArray := by
  rw [List.setIfInBounds_toArray]
  congr 1
  apply List.ext_getElem?
  intro i
  rw [List.getElem?_set]
  by_cases hi : i < n * 6
  · have e2 : i = (i / 6) * 6 + i % 6 := by omega
    have h4 : i % 6 < 6 := Nat.mod_lt _ (by omega)
    by_cases hji : i / 6 = j
    · have hr : (rowc n (upd f j e))[i]? = e.cells[i % 6]? := by
        conv => lhs; rw [e2]
        rw [rowc_at h4 (by omega), hji, upd_same]
      rw [hr, hc, List.getElem?_set]
      by_cases ht2 : i % 6 = t
      · rw [if_pos (by omega), if_pos ht2.symm, rowc_len, if_pos (by omega), if_pos (by show t < 6; exact ht)]
      · rw [if_neg (by omega), if_neg (fun e => ht2 e.symm)]
        conv => lhs; rw [e2]
        rw [rowc_at h4 (by omega), hji]
    · rw [if_neg (by omega)]
      conv => lhs; rw [e2]
      conv => rhs; rw [e2]
      rw [rowc_at h4 (by omega), rowc_at h4 (by omega), upd_ne hji]
  · rw [if_neg (by omega), List.getElem?_eq_none (by rw [rowc_len]; omega), List.getElem?_eq_none (by rw [rowc_len]; omega)]
/-- One cell of a number of a row stored. -/
theorem RowIs.put1 {w : World} {g n j t : Nat} {f : Nat → En} {x : Nat → GQ} {e : En} {u : Value} (hb : Blk w g 32 (rowc n f).toArray) (hx : ∀ j, j < n → GV w (f j).v (x j) 12800) (hj : j < n) (ht : t < 6) (hc : e.cells = (f j).cells.set t u) (he : GV w e.v (x j) 12800) :
    (Blk (w.setCell ⟨g, j * 6 + t, none⟩ u) g 32 (rowc n (upd f j e)).toArray ∧ ∀ i, i < n → GV (w.setCell ⟨g, j * 6 + t, none⟩ u) (upd f j e i).v (x i) 12800) ∧ Mod (fun k => k = g) w (w.setCell ⟨g, j * 6 + t, none⟩ u) := by
  have hm : Mod (fun k => k = g) w (w.setCell ⟨g, j * 6 + t, none⟩ u) := Mod.only (Only.set _ _ _ _) rfl
  have hS : Far (fun k => k = g) w := fun k hk _ => by subst hk; exact ⟨_, _, hb, rowc_noint _ _⟩
  refine ⟨⟨?_, fun i hi => ?_⟩, hm⟩
  · rw [← rowc_set1 hj ht hc]
    exact hb.set_ _ _
  · by_cases h : i = j
    · subst h; rw [upd_same]; exact he.mod hm hS
    · rw [upd_ne h]; exact (hx i hi).mod hm hS
theorem clone_gv (A : Option Addr) (n c : Nat) (s : Bool) (z : Int) (w : World) (h : RI w (iv s A n c) z) (hn : n ≤ 1000000) :
    Calls Tryz.prog 59 #[.slice A n c] w fun e w' => ∃ A' n' c', e = .returned (.slice A' n' c') ∧ RI w' (iv s A' n' c') z ∧ Ext w w' := by
  obtain ⟨A2, n2, c2, e, hm⟩ := h
  simp at e
  obtain ⟨rfl, rfl, rfl, rfl⟩ := e
  refine (clone_any A n c _ w hm hn).mono ?_
  rintro e w' ⟨v, rfl, ⟨A1, n1, c1, rfl, h2⟩, h3⟩
  exact ⟨A1, n1, c1, rfl, ⟨A1, n1, c1, rfl, h2⟩, h3⟩
end Go.Proofs.YtclkkoiaaddllaaGreat
