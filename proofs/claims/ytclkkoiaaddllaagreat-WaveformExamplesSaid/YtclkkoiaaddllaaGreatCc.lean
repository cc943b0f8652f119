/- Rows of twelve samples; small; Flat; the sanity check's samples. -/
import Derived.Test.YtclkkoiaaddllaaGreatCa
import Derived.Deep.WholeRow
namespace Go.Proofs.YtclkkoiaaddllaaGreat
open Go.RowKit
set_option linter.unusedVariables false

theorem wpQuiet_load_row {P : Program} {ops : Array Oper} {rest : List Oper} {C : World → Prop} {Q : Act → Prop} {o : Oper} {a : Act} (hgd : o.guard = none) (ty : TypeId) (x : Operand) (ho : o.op = .load ty x)
    (g : Nat) (hx : a.eval x = .pointer (some ⟨g, 0, none⟩)) (t : TypeId) (cs : Array Value) (fr : Nat × Nat) (d : TypeDesc) (hg : ∀ w, C w → w.heap[g]? = some (.cells cs t fr))
    (hu : P.underlying ty = some d) (hd : (match d with | .struct _ | .array _ _ => true | _ => false) = true) (hi : (P.info? ty).map (·.size) = some cs.size)
    (h : wpQuiet P ops C Q rest (a.put o.dst (.agg cs))) : wpQuiet P ops C Q (o :: rest) a := by
  unfold wpQuiet
  rw [if_pos (by simp [Region.wanted, hgd])]
  refine ⟨.agg cs, fun w hw => ?_, h⟩
  unfold Oper.quietAt execOp
  simp only [ho, hx, Instr.loadAt, Instr.sureAddr, Sem.run_bind, Sem.run_pure, Result.andThen_ok, run_loadVar_row w g t ty cs fr d (hg w hw) hu hd hi]
  exact ⟨rfl, rfl⟩

/-- The samples of 10. -/
def ten : Nat → Int
  | 0 => 10
  | 1 => 9
  | 2 => 5
  | 3 => 0
  | 4 => -5
  | 5 => -9
  | 6 => -10
  | 7 => -9
  | 8 => -5
  | 9 => 0
  | 10 => 5
  | _ => 9
theorem ten_rd0 : Rd ((⟨GQ.i 10 0, GQ.i 0 0⟩ : PQ) * PQ.zp 0) 1 (10) := by
  have e : (⟨GQ.i 10 0, GQ.i 0 0⟩ : PQ) * PQ.zp 0 = ⟨GQ.i (10) (0), GQ.i (0) (0)⟩ := by
    rw [PQ.zp0]
    ext <;> simp only [PQ.mk4, PQ.mul_u, PQ.mul_v, GQ.mul_re, GQ.mul_im, GQ.add_re, GQ.add_im, GQ.i_re, GQ.i_im] <;> grind
  rw [e]
  exact Rd.of (p := ⟨GQ.i (10) (0), GQ.i (0) (0)⟩) (is_i _ _) (is_i _ _) (Rd.at_ (by decide) (by decide) (by decide))
theorem ten_rd1 : Rd ((⟨GQ.i 10 0, GQ.i 0 0⟩ : PQ) * PQ.zp 1) 1 (9) := by
  have e : (⟨GQ.i 10 0, GQ.i 0 0⟩ : PQ) * PQ.zp 1 = ⟨GQ.i (0) (5), GQ.i (5) (0)⟩ := by
    rw [PQ.zp1]
    ext <;> simp only [PQ.mk4, PQ.mul_u, PQ.mul_v, GQ.mul_re, GQ.mul_im, GQ.add_re, GQ.add_im, GQ.i_re, GQ.i_im] <;> grind
  rw [e]
  exact Rd.of (p := ⟨GQ.i (0) (5), GQ.i (5) (0)⟩) (is_i _ _) (is_i _ _) (Rd.at_ (by decide) (by decide) (by decide))
theorem ten_rd2 : Rd ((⟨GQ.i 10 0, GQ.i 0 0⟩ : PQ) * PQ.zp 2) 1 (5) := by
  have e : (⟨GQ.i 10 0, GQ.i 0 0⟩ : PQ) * PQ.zp 2 = ⟨GQ.i (5) (0), GQ.i (0) (5)⟩ := by
    rw [PQ.zp2]
    ext <;> simp only [PQ.mk4, PQ.mul_u, PQ.mul_v, GQ.mul_re, GQ.mul_im, GQ.add_re, GQ.add_im, GQ.i_re, GQ.i_im] <;> grind
  rw [e]
  exact Rd.of (p := ⟨GQ.i (5) (0), GQ.i (0) (5)⟩) (is_i _ _) (is_i _ _) (Rd.at_ (by decide) (by decide) (by decide))
theorem ten_rd3 : Rd ((⟨GQ.i 10 0, GQ.i 0 0⟩ : PQ) * PQ.zp 3) 1 (0) := by
  have e : (⟨GQ.i 10 0, GQ.i 0 0⟩ : PQ) * PQ.zp 3 = ⟨GQ.i (0) (10), GQ.i (0) (0)⟩ := by
    rw [PQ.zp3]
    ext <;> simp only [PQ.mk4, PQ.mul_u, PQ.mul_v, GQ.mul_re, GQ.mul_im, GQ.add_re, GQ.add_im, GQ.i_re, GQ.i_im] <;> grind
  rw [e]
  exact Rd.of (p := ⟨GQ.i (0) (10), GQ.i (0) (0)⟩) (is_i _ _) (is_i _ _) (Rd.at_ (by decide) (by decide) (by decide))
theorem ten_rd4 : Rd ((⟨GQ.i 10 0, GQ.i 0 0⟩ : PQ) * PQ.zp 4) 1 (-5) := by
  have e : (⟨GQ.i 10 0, GQ.i 0 0⟩ : PQ) * PQ.zp 4 = ⟨GQ.i (-5) (0), GQ.i (0) (5)⟩ := by
    rw [PQ.zp4]
    ext <;> simp only [PQ.mk4, PQ.mul_u, PQ.mul_v, GQ.mul_re, GQ.mul_im, GQ.add_re, GQ.add_im, GQ.i_re, GQ.i_im] <;> grind
  rw [e]
  exact Rd.of (p := ⟨GQ.i (-5) (0), GQ.i (0) (5)⟩) (is_i _ _) (is_i _ _) (Rd.at_ (by decide) (by decide) (by decide))
theorem ten_rd5 : Rd ((⟨GQ.i 10 0, GQ.i 0 0⟩ : PQ) * PQ.zp 5) 1 (-9) := by
  have e : (⟨GQ.i 10 0, GQ.i 0 0⟩ : PQ) * PQ.zp 5 = ⟨GQ.i (0) (5), GQ.i (-5) (0)⟩ := by
    rw [PQ.zp5]
    ext <;> simp only [PQ.mk4, PQ.mul_u, PQ.mul_v, GQ.mul_re, GQ.mul_im, GQ.add_re, GQ.add_im, GQ.i_re, GQ.i_im] <;> grind
  rw [e]
  exact Rd.of (p := ⟨GQ.i (0) (5), GQ.i (-5) (0)⟩) (is_i _ _) (is_i _ _) (Rd.at_ (by decide) (by decide) (by decide))
theorem ten_rd6 : Rd ((⟨GQ.i 10 0, GQ.i 0 0⟩ : PQ) * PQ.zp 6) 1 (-10) := by
  have e : (⟨GQ.i 10 0, GQ.i 0 0⟩ : PQ) * PQ.zp 6 = ⟨GQ.i (-10) (0), GQ.i (0) (0)⟩ := by
    rw [PQ.zp6]
    ext <;> simp only [PQ.mk4, PQ.mul_u, PQ.mul_v, GQ.mul_re, GQ.mul_im, GQ.add_re, GQ.add_im, GQ.i_re, GQ.i_im] <;> grind
  rw [e]
  exact Rd.of (p := ⟨GQ.i (-10) (0), GQ.i (0) (0)⟩) (is_i _ _) (is_i _ _) (Rd.at_ (by decide) (by decide) (by decide))
theorem ten_rd7 : Rd ((⟨GQ.i 10 0, GQ.i 0 0⟩ : PQ) * PQ.zp 7) 1 (-9) := by
  have e : (⟨GQ.i 10 0, GQ.i 0 0⟩ : PQ) * PQ.zp 7 = ⟨GQ.i (0) (-5), GQ.i (-5) (0)⟩ := by
    rw [PQ.zp7]
    ext <;> simp only [PQ.mk4, PQ.mul_u, PQ.mul_v, GQ.mul_re, GQ.mul_im, GQ.add_re, GQ.add_im, GQ.i_re, GQ.i_im] <;> grind
  rw [e]
  exact Rd.of (p := ⟨GQ.i (0) (-5), GQ.i (-5) (0)⟩) (is_i _ _) (is_i _ _) (Rd.at_ (by decide) (by decide) (by decide))
theorem ten_rd8 : Rd ((⟨GQ.i 10 0, GQ.i 0 0⟩ : PQ) * PQ.zp 8) 1 (-5) := by
  have e : (⟨GQ.i 10 0, GQ.i 0 0⟩ : PQ) * PQ.zp 8 = ⟨GQ.i (-5) (0), GQ.i (0) (-5)⟩ := by
    rw [PQ.zp8]
    ext <;> simp only [PQ.mk4, PQ.mul_u, PQ.mul_v, GQ.mul_re, GQ.mul_im, GQ.add_re, GQ.add_im, GQ.i_re, GQ.i_im] <;> grind
  rw [e]
  exact Rd.of (p := ⟨GQ.i (-5) (0), GQ.i (0) (-5)⟩) (is_i _ _) (is_i _ _) (Rd.at_ (by decide) (by decide) (by decide))
theorem ten_rd9 : Rd ((⟨GQ.i 10 0, GQ.i 0 0⟩ : PQ) * PQ.zp 9) 1 (0) := by
  have e : (⟨GQ.i 10 0, GQ.i 0 0⟩ : PQ) * PQ.zp 9 = ⟨GQ.i (0) (-10), GQ.i (0) (0)⟩ := by
    rw [PQ.zp9]
    ext <;> simp only [PQ.mk4, PQ.mul_u, PQ.mul_v, GQ.mul_re, GQ.mul_im, GQ.add_re, GQ.add_im, GQ.i_re, GQ.i_im] <;> grind
  rw [e]
  exact Rd.of (p := ⟨GQ.i (0) (-10), GQ.i (0) (0)⟩) (is_i _ _) (is_i _ _) (Rd.at_ (by decide) (by decide) (by decide))
theorem ten_rd10 : Rd ((⟨GQ.i 10 0, GQ.i 0 0⟩ : PQ) * PQ.zp 10) 1 (5) := by
  have e : (⟨GQ.i 10 0, GQ.i 0 0⟩ : PQ) * PQ.zp 10 = ⟨GQ.i (5) (0), GQ.i (0) (-5)⟩ := by
    rw [PQ.zp10]
    ext <;> simp only [PQ.mk4, PQ.mul_u, PQ.mul_v, GQ.mul_re, GQ.mul_im, GQ.add_re, GQ.add_im, GQ.i_re, GQ.i_im] <;> grind
  rw [e]
  exact Rd.of (p := ⟨GQ.i (5) (0), GQ.i (0) (-5)⟩) (is_i _ _) (is_i _ _) (Rd.at_ (by decide) (by decide) (by decide))
theorem ten_rd11 : Rd ((⟨GQ.i 10 0, GQ.i 0 0⟩ : PQ) * PQ.zp 11) 1 (9) := by
  have e : (⟨GQ.i 10 0, GQ.i 0 0⟩ : PQ) * PQ.zp 11 = ⟨GQ.i (0) (-5), GQ.i (5) (0)⟩ := by
    rw [PQ.zp11]
    ext <;> simp only [PQ.mk4, PQ.mul_u, PQ.mul_v, GQ.mul_re, GQ.mul_im, GQ.add_re, GQ.add_im, GQ.i_re, GQ.i_im] <;> grind
  rw [e]
  exact Rd.of (p := ⟨GQ.i (0) (-5), GQ.i (5) (0)⟩) (is_i _ _) (is_i _ _) (Rd.at_ (by decide) (by decide) (by decide))
theorem ten_rd (k : Nat) (hk : k < 12) : Rd ((⟨GQ.i 10 0, GQ.i 0 0⟩ : PQ) * PQ.zp k) 1 (ten k) := by
  match k, hk with
  | 0, _ => exact ten_rd0
  | 1, _ => exact ten_rd1
  | 2, _ => exact ten_rd2
  | 3, _ => exact ten_rd3
  | 4, _ => exact ten_rd4
  | 5, _ => exact ten_rd5
  | 6, _ => exact ten_rd6
  | 7, _ => exact ten_rd7
  | 8, _ => exact ten_rd8
  | 9, _ => exact ten_rd9
  | 10, _ => exact ten_rd10
  | 11, _ => exact ten_rd11
/-- Twelve integers as a value. -/
def row12 (g : Nat → Int) : Array Value := ((List.range 12).map fun j => Value.int .i64 (g j)).toArray
theorem row12_at {g : Nat → Int} {j : Nat} (hj : j < 12) : (row12 g)[j]? = some (.int .i64 (g j)) := by
  unfold row12
  simp [hj]
theorem row12_size (g : Nat → Int) : (row12 g).size = 12 := by simp [row12]
theorem z12_row (g : Nat → Int) : (#[.int .i64 0, .int .i64 0, .int .i64 0, .int .i64 0, .int .i64 0, .int .i64 0, .int .i64 0, .int .i64 0, .int .i64 0, .int .i64 0, .int .i64 0, .int .i64 0] : Array Value).size = (row12 g).size := by rw [row12_size]; rfl
theorem row12_one (g : Nat → Int) : (row12 g).all (·.oneCell') = true := by simp [row12, Value.oneCell']
theorem smp_row (L : Int) (f : Nat → Int) : (smp L f 12).toArray = row12 (fun j => lm L (f j)) := by
  have h : ∀ j ∈ List.range 12, (Value.int .i64 (if j < 12 then lm L (f j) else 0)) = Value.int .i64 (lm L (f j)) := fun j hj => by rw [if_pos (List.mem_range.1 hj)]
  unfold smp row12
  rw [List.map_congr_left h]
theorem smp_ten : row12 (fun j => lm 100 (ten j)) = #[.int .i64 10, .int .i64 9, .int .i64 5, .int .i64 0, .int .i64 (-5), .int .i64 (-9), .int .i64 (-10), .int .i64 (-9), .int .i64 (-5), .int .i64 0, .int .i64 5, .int .i64 9] := by kernel_rfl

theorem ret_bool' {a b : Bool} (h : a = b) : Ending.returned (.bool a) = .returned (.bool b) := by rw [h]

/-- A sample has the limit as its magnitude. -/
def flatB (g : Nat → Int) (L : Int) (k : Nat) : Bool := (List.range k).any fun j => decide (1 ≤ L) && (g j == L || g j == -L)
theorem flatB_succ (g : Nat → Int) (L : Int) (k : Nat) : flatB g L (k + 1) = (flatB g L k || (decide (1 ≤ L) && (g k == L || g k == -L))) := by
  unfold flatB
  rw [List.range_succ, List.any_append]; simp
theorem flatB_mono {g : Nat → Int} {L : Int} {k : Nat} (h : flatB g L k = true) (hk : k ≤ 12) : flatB g L 12 = true := by
  unfold flatB at *
  rw [List.any_eq_true] at *
  obtain ⟨j, hj, h⟩ := h
  exact ⟨j, List.mem_range.2 (by have := List.mem_range.1 hj; omega), h⟩
theorem a12_size {cs : Array Value} (h : cs.size = 12) : (Tryz.prog.info? 48).map (·.size) = some cs.size := by rw [h]; kernel_rfl

theorem idx12 {R : Array Value} {k : Nat} {v : Value} (hk : k < 12) (h : R[k]? = some v) (w : World) : Sem.run Tryz.prog (Instr.index 48 (.agg R) (.int .i64 (k : Int))) w = .ok v w := by
  have h1 : (0 : Int) ≤ (k : Int) := by omega
  have h2 : (k : Int) < 12 := by omega
  simp [Instr.index, run_underlying Tryz.underlying48, asIntOf, go_sem, Tryz.isAgg3, Tryz.sizeOf3, part, h]
  exact fun h => absurd h (by omega)
set_option maxRecDepth 100000 in
set_option maxHeartbeats 3200000 in
theorem flat_any (g : Nat → Int) (L : Int) (l1 : -9223372036854775808 ≤ L) (l2 : L ≤ 9223372036854775807) (w : World) :
    Calls Tryz.prog 27 #[.agg (row12 g), .int .i64 L] w fun e w' => e = .returned (.bool (flatB g L 12)) ∧ Ext w w' := by
  have b0 := Blk.new w 48 (row12 g)
  have hE : Ext w (w.alloc (.cells (row12 g) 48)) := Ext.new _ _
  have hsz := a12_size (row12_size g)
  have HSZ := Lib.hid hsz; clear hsz
  have HAT : Hid (∀ j, j < 12 → (row12 g)[j]? = some (.int .i64 (g j))) := Lib.hid fun j hj => row12_at hj
  have HR12 := Lib.hid (row12_size g)
  generalize hr : row12 g = R at *
  clear hr
  by_cases h1 : L < 1
  · have d1 : decide (L < 1) = true := by simp; omega
    go_enter Tryz.func27, Tryz.ntmps27
    go_wp2_with fail
    go_ret
    refine ⟨ret_bool' ?_, hE⟩
    unfold flatB
    have : decide (1 ≤ L) = false := by simp; omega
    simp [this]
  · have d1 : decide (L < 1) = false := by simp; omega
    go_enter Tryz.func27, Tryz.ntmps27
    go_wp2_with (refine wpList_load_row rfl 48 _ rfl w.heap.size (by rfl) 48 R (0, 0) _ b0 Tryz.underlying48 rfl HSZ.out ?_)
    go_loopw [10] (fun i wr => ∃ k : Nat, k ≤ 12 ∧ i = .int .i64 k ∧ flatB g L k = false ∧ Ext w wr) (fun i _ => 12 - (intOf i).toNat)
    case atStart => exact ⟨0, by omega, rfl, rfl, hE⟩
    case round =>
      obtain ⟨k, hk, rfl, hfl, hx⟩ := hrel
      have HFL := Lib.hid hfl; clear hfl
      by_cases hlt : k < 12
      · have hd : decide ((k : Int) < 12) = true := by simp; omega
        have hat := HAT.out k hlt
        have q1 : (0 : Int) ≤ (k : Int) := by omega
        have q2 : (k : Int) < 12 := by omega
        clear hat
        have hat := idx12 hlt (HAT.out k hlt) wr
        have LM := IntWalk.wrap64_in (-L) (by omega)
        by_cases e1 : g k = L
        · have b1 : (g k == L) = true := by simpa using e1
          have hF : flatB g L (k + 1) = true := by rw [flatB_succ, b1]; simp; omega
          have HF := Lib.hid (flatB_mono (k := k + 1) hF (by omega)); clear hF e1
          go_wp2_with fail
          go_ret
          exact ⟨ret_bool' HF.out.symm, hx⟩
        · have b1 : (g k == L) = false := by simpa using e1
          by_cases e2 : g k = -L
          · have b2 : (g k == -L) = true := by simpa using e2
            have hF : flatB g L (k + 1) = true := by rw [flatB_succ, b2]; simp; omega
            have HF := Lib.hid (flatB_mono (k := k + 1) hF (by omega)); clear hF e1 e2
            go_wp2_with fail
            go_ret
            exact ⟨ret_bool' HF.out.symm, hx⟩
          · have b2 : (g k == -L) = false := by simpa using e2
            have hF : flatB g L (k + 1) = false := by rw [flatB_succ, HFL.out, b1, b2]; simp
            have HF := Lib.hid hF; clear hF e1 e2
            go_wp2_with fail
            go_roundw
            case rel => exact ⟨k + 1, by omega, by go_num, HF.out, hx⟩
            case measure => simp [intOf]; omega
      · obtain rfl : k = 12 := by omega
        go_wp2_with fail
        go_ret
        exact ⟨ret_bool' HFL.out.symm, hx⟩
end Go.Proofs.YtclkkoiaaddllaaGreat
