/- Contracts: products of digits. -/
import Derived.Test.YtfdpbcjcinchgaaDoorIg
namespace Go.Proofs.YtfdpbcjcinchgaaDoor
open Go.RowKit
set_option linter.unusedVariables false

/-- Digits from k on are 0. -/
def ZeroFrom (p : List Nat) (k : Nat) : Prop := ∀ t z, k ≤ t → p[t]? = some z → z = 0
theorem ZeroFrom.mono {p : List Nat} {k k' : Nat} (h : ZeroFrom p k) (hk : k ≤ k') : ZeroFrom p k' := fun t z ht hz => h t z (by omega) hz
theorem ZeroFrom.set {p : List Nat} {k t d : Nat} (h : ZeroFrom p k) (ht : t < k) : ZeroFrom (p.set t d) k := by
  intro s z hs hz
  rw [List.getElem?_set_ne (by omega)] at hz
  exact h s z hs hz
theorem ZeroFrom.zeros (n k : Nat) : ZeroFrom (List.replicate n 0) k := by
  intro t z _ hz
  have := List.mem_of_getElem? hz
  exact List.eq_of_mem_replicate this
theorem ZeroFrom.at_ {p : List Nat} {k : Nat} (h : ZeroFrom p k) (hk : k < p.length) : p[k]? = some 0 := by
  have h1 : p[k]? = some p[k] := List.getElem?_eq_getElem hk
  rw [h k _ (Nat.le_refl _) h1] at h1
  exact h1
theorem prod_lt {x y : Nat} (hx : x < 4294967296) (hy : y < 4294967296) : x * y ≤ 18446744065119617025 := by
  have := Nat.mul_le_mul (show x ≤ 4294967295 by omega) (show y ≤ 4294967295 by omega)
  omega
theorem mul_step {p b : List Nat} {i j x y z cy s M : Nat} (hz : p[i + j]? = some z) (hy : b[j]? = some y) (hs : s = x * y + z + cy)
    (h : val p + 4294967296 ^ (i + j) * cy = M + 4294967296 ^ i * (x * val (b.take j))) :
    val (p.set (i + j) (s % 4294967296)) + 4294967296 ^ (i + (j + 1)) * (s / 4294967296) = M + 4294967296 ^ i * (x * val (b.take (j + 1))) := by
  have h1 := val_set (y := s % 4294967296) hz
  rw [val_take_succ hy, show i + (j + 1) = (i + j) + 1 by omega, Nat.pow_succ, Nat.mul_assoc]
  have e : 4294967296 ^ (i + j) * (s % 4294967296) + 4294967296 ^ (i + j) * (4294967296 * (s / 4294967296)) = 4294967296 ^ (i + j) * s := by
    rw [← Nat.mul_add]; congr 1; omega
  have e2 : 4294967296 ^ (i + j) * s = 4294967296 ^ (i + j) * (x * y) + 4294967296 ^ (i + j) * z + 4294967296 ^ (i + j) * cy := by rw [hs, Nat.mul_add, Nat.mul_add]
  have e3 : 4294967296 ^ i * (x * (val (b.take j) + 4294967296 ^ j * y)) = 4294967296 ^ i * (x * val (b.take j)) + 4294967296 ^ (i + j) * (x * y) := by
    rw [Nat.mul_add, Nat.mul_add, Nat.pow_add]
    congr 1
    rw [Nat.mul_left_comm x, Nat.mul_assoc]
  omega
theorem mul_end {p a b : List Nat} {i m x cy : Nat} (hz : p[i + m]? = some 0) (hx : a[i]? = some x) (hb : b.length = m)
    (h : val p + 4294967296 ^ (i + m) * cy = val (a.take i) * val b + 4294967296 ^ i * (x * val (b.take m))) : val (p.set (i + m) cy) = val (a.take (i + 1)) * val b := by
  have h1 := val_set (y := cy) hz
  have e0 : b.take m = b := List.take_of_length_le (by omega)
  rw [e0] at h
  rw [val_take_succ hx, Nat.add_mul]
  have e : 4294967296 ^ i * (x * val b) = 4294967296 ^ i * x * val b := by rw [Nat.mul_assoc]
  omega

/-- A row of digits in a block of its own. -/
def RowD (w : World) (g : Nat) (p : List Nat) : Prop := Blk w g 34 (mg p).toArray ∧ Dig p
theorem RowD.at_ {w : World} {g k : Nat} {p : List Nat} (h : RowD w g p) (hk : k < p.length) : ∃ z, p[k]? = some z ∧ z < 4294967296 ∧ w.cell? ⟨g, k, none⟩ = some (.int .u32 (z : Int)) ∧ w.frozen? ⟨g, k, none⟩ = false := by
  have h1 : p[k]? = some p[k] := List.getElem?_eq_getElem hk
  refine ⟨p[k], h1, h.2.at_ h1, ?_, h.1.frozen k⟩
  rw [h.1.cell]
  have := mg_get h1
  simpa using this
theorem RowD.set {w : World} {g k d : Nat} {p : List Nat} {z : Int} (h : RowD w g p) (hz : z = (d : Int)) (hd : d < 4294967296) : RowD (w.setCell ⟨g, k, none⟩ (.int .u32 z)) g (p.set k d) := by
  have := h.1.setL (i := k) (.int .u32 z)
  rw [mg_set' hz] at this
  exact ⟨this, h.2.set k hd⟩
theorem RowD.drewN {w : World} {g : Nat} {p : List Nat} (h : RowD w g p) (n : Nat) : RowD (w.drewN n) g p := ⟨h.1.drewN n, h.2⟩
theorem RowD.far {w w' : World} {g : Nat} {p : List Nat} (h : RowD w g p) (e : Ext w w') : RowD w' g p := ⟨h.1.ext e, h.2⟩
theorem RowD.rm {w : World} {g n : Nat} {p : List Nat} (h : RowD w g p) (hn : p.length = n) (hm : n ≤ 9223372036854775807) : RM w (some ⟨g, 0, none⟩) n n p := RM.blk h.1 h.2 hn hm

def mulMag_ok (n m : Nat) : Prop := 0 < n ∧ 0 < m
def rtimes_ok (n m : Nat) : Prop := True
theorem mulMag_ok1 {n m : Nat} (h : mulMag_ok n m) : ((n : Int) == 0) = false := by have := h.1; simp; omega
theorem mulMag_ok2 {n m : Nat} (h : mulMag_ok n m) : ((m : Int) == 0) = false := by have := h.2; simp; omega
theorem rtimes_ok1 {n m : Nat} (h : rtimes_ok n m) : True := trivial
theorem rtimes_ok2 {n m : Nat} (h : rtimes_ok n m) : True := trivial
set_option maxRecDepth 100000 in
set_option maxHeartbeats 1600000 in
theorem mulMag_pos (A B : Option Addr) (n m c d : Nat) (a b : List Nat) (w : World) (hA : RM w A n c a) (hB : RM w B m d b) (hn : n ≤ 100000) (hm : m ≤ 100000) (hpos : mulMag_ok n m) :
    Calls Tryd.prog 68 #[.slice A n c, .slice B m d] w fun e w' => ∃ v, e = .returned v ∧ SlM (digs (val a * val b)) v w' ∧ Ext w w' := by
  have hz1 := mulMag_ok1 hpos
  have hz2 := mulMag_ok2 hpos
  clear hpos
  have HA := Lib.hid hA.len
  have HB := Lib.hid hB.len
  have hmk := make_u32 ((n : Int) + m) (n + m) (by omega) (by omega)
  go_enter Tryd.func68, Tryd.ntmps68
  go_wp2
  clear hmk
  go_loopw [26] (fun i wr => ∃ (k : Nat) (p : List Nat), k ≤ n ∧ i = .int .i64 k ∧ p.length = n + m ∧ ZeroFrom p (k + m) ∧ val p = val (a.take k) * val b ∧ RowD wr w.heap.size p ∧ Ext w wr) (fun i _ => n - (intOf i).toNat)
  case atStart => exact ⟨0, List.replicate (n + m) 0, Nat.zero_le _, rfl, by simp, ZeroFrom.zeros _ _, by simp [val, val_replicate], ⟨Blk.new w _ _, Dig.replicate _⟩, Ext.new _ _⟩
  case round =>
    obtain ⟨k, p, hk, rfl, hl, hz, hv, hrow, hex⟩ := hrel
    have HL := Lib.hid hl; clear hl
    have HZ := Lib.hid hz; clear hz
    have HV := Lib.hid hv; clear hv
    have HR := Lib.hid hrow; clear hrow
    by_cases hlt : k < n
    · obtain ⟨ad, x, rfl, _, hx, hx32, hcx⟩ := (hA.ext hex).at_ hlt
      have HX := Lib.hid hx; clear hx hcx
      obtain ⟨wo, rfl⟩ : ∃ wo : World, wo = wr := ⟨_, rfl⟩
      go_wp2
      go_loopw [31, 7] (fun iv cv wr => ∃ (j cy : Nat) (p : List Nat), j ≤ m ∧ iv = .int .i64 j ∧ cv = .int .u64 (cy : Int) ∧ cy < 4294967296 ∧ p.length = n + m ∧ ZeroFrom p (k + m) ∧ val p + 4294967296 ^ (k + j) * cy = val (a.take k) * val b + 4294967296 ^ k * (x * val (b.take j)) ∧ RowD wr w.heap.size p ∧ Ext w wr) (fun iv _ _ => m - (intOf iv).toNat)
      case atStart => exact ⟨0, 0, p, Nat.zero_le _, rfl, rfl, by omega, HL.out, HZ.out, by have := HV.out; simp [val, this], HR.out, hex⟩
      case round =>
        clear HR HV HZ HL hex
        obtain ⟨j, cy, p, hj, rfl, rfl, hcy, hl, hz, hv, hrow, hex⟩ := hrel
        have HL := Lib.hid hl; clear hl
        have HZ := Lib.hid hz; clear hz
        have HV := Lib.hid hv; clear hv
        by_cases hlj : j < m
        · obtain ⟨bd, y, rfl, _, hy, hy32, hcy'⟩ := (hB.ext hex).at_ hlj
          obtain ⟨ad', x', e1, _, hx', _, hcx⟩ := (hA.ext hex).at_ hlt
          cases e1
          obtain rfl : x' = x := by have := HX.out; rw [hx'] at this; injection this
          have HY := Lib.hid hy; clear hy hx'
          obtain ⟨z, hz, hz32, hcz, hfz⟩ := hrow.at_ (k := k + j) (by rw [HL.out]; omega)
          have HZZ := Lib.hid hz; clear hz
          have HR := Lib.hid hrow; clear hrow
          obtain ⟨t, ht⟩ : ∃ t, t = x' * y := ⟨_, rfl⟩
          have htb : t ≤ 18446744065119617025 := by rw [ht]; exact prod_lt hx32 hy32
          have q1 : (0 : Int) ≤ (k : Int) := by omega
          have q2 : (k : Int) < (n : Int) := by omega
          have q3 : (0 : Int) ≤ (j : Int) := by omega
          have q4 : (j : Int) < (m : Int) := by omega
          have q5 : (0 : Int) ≤ (k : Int) + (j : Int) := by omega
          have q6 : (k : Int) + (j : Int) < (n : Int) + (m : Int) := by omega
          have q7 : (k : Int) + (j : Int) < ((n + m : Nat) : Int) := by omega
          have e1 : IntKind.u64.wrap ((x' : Int) * (y : Int)) = (t : Int) := by rw [IntWalk.u64_in _ (by rw [show ((x' : Int) * (y : Int)) = ((x' * y : Nat) : Int) by simp, ← ht]; omega), ht]; simp
          have e2 : IntKind.u64.wrap ((t : Int) + (z : Int)) = (t : Int) + z := IntWalk.u64_in _ (by omega)
          have e3 : IntKind.u64.wrap ((t : Int) + (z : Int) + (cy : Int)) = (t : Int) + z + cy := IntWalk.u64_in _ (by omega)
          have e4 : IntKind.i64.wrap ((k : Int) + (j : Int)) = (k : Int) + j := IntWalk.i64_in _ (by omega)
          have e5 : ((k : Int) + (j : Int)).toNat = k + j := by omega
          have HT := Lib.hid ht; clear ht
          go_wp2
          go_quiet (fail)
          clear e1 e2 e3 e4 e5
          go_wp2
          go_roundw
          case rel => exact ⟨j + 1, (t + z + cy) / 4294967296, p.set (k + j) ((t + z + cy) % 4294967296), by omega, by go_num, by go_num, by omega, by simp [HL.out], HZ.out.set (by omega), mul_step HZZ.out HY.out (by rw [HT.out]) HV.out, (HR.out.drewN _).set (by omega) (by omega), (hex.drewN _).setCell (Nat.le_refl _) _⟩
          case measure => simp [intOf] <;> omega
        · obtain rfl : j = m := by omega
          obtain ⟨z, hz, hz32, hcz, hfz⟩ := hrow.at_ (k := k + j) (by rw [HL.out]; omega)
          have hz0 := HZ.out.at_ (by rw [HL.out]; omega)
          have HZ0 := Lib.hid hz0; clear hz0 hz
          have HR := Lib.hid hrow; clear hrow
          go_wp2
          go_roundw
          case rel => exact ⟨k + 1, p.set (k + j) cy, by omega, by go_num, by simp [HL.out], (HZ.out.mono (by omega)).set (by omega), mul_end HZ0.out HX.out HB.out HV.out, HR.out.set rfl hcy, hex.setCell (Nat.le_refl _) _⟩
          case measure => simp [intOf] <;> omega
    · obtain rfl : k = n := by omega
      have hrow := HR.out
      have hl := HL.out
      go_wp2_with fail
      refine (trim_ext _ _ _ p _ (hrow.rm hl (by omega))).mono ?_
      rintro e w1 ⟨v1, rfl, hR, hx1⟩
      have hval : val p = val a * val b := by rw [HV.out, List.take_of_length_le (by rw [HA.out]; omega)]
      rw [hval] at hR
      go_wp2
      go_ret
      exact ⟨_, rfl, hR, hex.trans hx1⟩
set_option maxRecDepth 100000 in
set_option maxHeartbeats 1600000 in
theorem rtimes_pos (A B : Option Addr) (n m c d : Nat) (a b : List Nat) (w : World) (hA : RM w A n c a) (hB : RM w B m d b) (hn : n ≤ 100000) (hm : m ≤ 100000) (hpos : rtimes_ok n m) :
    Calls Tryd.prog 69 #[.slice A n c, .slice B m d] w fun e w' => ∃ v, e = .returned v ∧ SlM (digs (val a * val b)) v w' ∧ Ext w w' := by
  have hz1 := rtimes_ok1 hpos
  have hz2 := rtimes_ok2 hpos
  clear hpos
  have HA := Lib.hid hA.len
  have HB := Lib.hid hB.len
  have hmk := make_u32 ((n : Int) + m) (n + m) (by omega) (by omega)
  go_enter Tryd.func69, Tryd.ntmps69
  go_wp2
  clear hmk
  go_loopw [6] (fun i wr => ∃ (k : Nat) (p : List Nat), k ≤ n ∧ i = .int .i64 k ∧ p.length = n + m ∧ ZeroFrom p (k + m) ∧ val p = val (a.take k) * val b ∧ RowD wr w.heap.size p ∧ Ext w wr) (fun i _ => n - (intOf i).toNat)
  case atStart => exact ⟨0, List.replicate (n + m) 0, Nat.zero_le _, rfl, by simp, ZeroFrom.zeros _ _, by simp [val, val_replicate], ⟨Blk.new w _ _, Dig.replicate _⟩, Ext.new _ _⟩
  case round =>
    obtain ⟨k, p, hk, rfl, hl, hz, hv, hrow, hex⟩ := hrel
    have HL := Lib.hid hl; clear hl
    have HZ := Lib.hid hz; clear hz
    have HV := Lib.hid hv; clear hv
    have HR := Lib.hid hrow; clear hrow
    by_cases hlt : k < n
    · obtain ⟨ad, x, rfl, _, hx, hx32, hcx⟩ := (hA.ext hex).at_ hlt
      have HX := Lib.hid hx; clear hx hcx
      obtain ⟨wo, rfl⟩ : ∃ wo : World, wo = wr := ⟨_, rfl⟩
      go_wp2
      go_loopw [8, 7] (fun iv cv wr => ∃ (j cy : Nat) (p : List Nat), j ≤ m ∧ iv = .int .i64 j ∧ cv = .int .u64 (cy : Int) ∧ cy < 4294967296 ∧ p.length = n + m ∧ ZeroFrom p (k + m) ∧ val p + 4294967296 ^ (k + j) * cy = val (a.take k) * val b + 4294967296 ^ k * (x * val (b.take j)) ∧ RowD wr w.heap.size p ∧ Ext w wr) (fun iv _ _ => m - (intOf iv).toNat)
      case atStart => exact ⟨0, 0, p, Nat.zero_le _, rfl, rfl, by omega, HL.out, HZ.out, by have := HV.out; simp [val, this], HR.out, hex⟩
      case round =>
        clear HR HV HZ HL hex
        obtain ⟨j, cy, p, hj, rfl, rfl, hcy, hl, hz, hv, hrow, hex⟩ := hrel
        have HL := Lib.hid hl; clear hl
        have HZ := Lib.hid hz; clear hz
        have HV := Lib.hid hv; clear hv
        by_cases hlj : j < m
        · obtain ⟨bd, y, rfl, _, hy, hy32, hcy'⟩ := (hB.ext hex).at_ hlj
          obtain ⟨ad', x', e1, _, hx', _, hcx⟩ := (hA.ext hex).at_ hlt
          cases e1
          obtain rfl : x' = x := by have := HX.out; rw [hx'] at this; injection this
          have HY := Lib.hid hy; clear hy hx'
          obtain ⟨z, hz, hz32, hcz, hfz⟩ := hrow.at_ (k := k + j) (by rw [HL.out]; omega)
          have HZZ := Lib.hid hz; clear hz
          have HR := Lib.hid hrow; clear hrow
          obtain ⟨t, ht⟩ : ∃ t, t = x' * y := ⟨_, rfl⟩
          have htb : t ≤ 18446744065119617025 := by rw [ht]; exact prod_lt hx32 hy32
          have q1 : (0 : Int) ≤ (k : Int) := by omega
          have q2 : (k : Int) < (n : Int) := by omega
          have q3 : (0 : Int) ≤ (j : Int) := by omega
          have q4 : (j : Int) < (m : Int) := by omega
          have q5 : (0 : Int) ≤ (k : Int) + (j : Int) := by omega
          have q6 : (k : Int) + (j : Int) < (n : Int) + (m : Int) := by omega
          have q7 : (k : Int) + (j : Int) < ((n + m : Nat) : Int) := by omega
          have e1 : IntKind.u64.wrap ((x' : Int) * (y : Int)) = (t : Int) := by rw [IntWalk.u64_in _ (by rw [show ((x' : Int) * (y : Int)) = ((x' * y : Nat) : Int) by simp, ← ht]; omega), ht]; simp
          have e2 : IntKind.u64.wrap ((t : Int) + (z : Int)) = (t : Int) + z := IntWalk.u64_in _ (by omega)
          have e3 : IntKind.u64.wrap ((t : Int) + (z : Int) + (cy : Int)) = (t : Int) + z + cy := IntWalk.u64_in _ (by omega)
          have e4 : IntKind.i64.wrap ((k : Int) + (j : Int)) = (k : Int) + j := IntWalk.i64_in _ (by omega)
          have e5 : ((k : Int) + (j : Int)).toNat = k + j := by omega
          have HT := Lib.hid ht; clear ht
          go_wp2
          go_quiet (fail)
          clear e1 e2 e3 e4 e5
          go_wp2
          go_roundw
          case rel => exact ⟨j + 1, (t + z + cy) / 4294967296, p.set (k + j) ((t + z + cy) % 4294967296), by omega, by go_num, by go_num, by omega, by simp [HL.out], HZ.out.set (by omega), mul_step HZZ.out HY.out (by rw [HT.out]) HV.out, (HR.out.drewN _).set (by omega) (by omega), (hex.drewN _).setCell (Nat.le_refl _) _⟩
          case measure => simp [intOf] <;> omega
        · obtain rfl : j = m := by omega
          obtain ⟨z, hz, hz32, hcz, hfz⟩ := hrow.at_ (k := k + j) (by rw [HL.out]; omega)
          have hz0 := HZ.out.at_ (by rw [HL.out]; omega)
          have HZ0 := Lib.hid hz0; clear hz0 hz
          have HR := Lib.hid hrow; clear hrow
          go_wp2
          go_roundw
          case rel => exact ⟨k + 1, p.set (k + j) cy, by omega, by go_num, by simp [HL.out], (HZ.out.mono (by omega)).set (by omega), mul_end HZ0.out HX.out HB.out HV.out, HR.out.set rfl hcy, hex.setCell (Nat.le_refl _) _⟩
          case measure => simp [intOf] <;> omega
    · obtain rfl : k = n := by omega
      have hrow := HR.out
      have hl := HL.out
      go_wp2_with fail
      refine (rtrim_any _ _ _ p _ (hrow.rm hl (by omega)) (by omega)).mono ?_
      rintro e w1 ⟨v1, rfl, hR, hx1⟩
      have hval : val p = val a * val b := by rw [HV.out, List.take_of_length_le (by rw [HA.out]; omega)]
      rw [hval] at hR
      go_wp2
      go_ret
      exact ⟨_, rfl, hR, hex.trans hx1⟩

set_option maxRecDepth 100000 in
set_option maxHeartbeats 400000 in
theorem mulMag_any (A B : Option Addr) (n m c d : Nat) (a b : List Nat) (w : World) (hA : RM w A n c a) (hB : RM w B m d b) (hn : n ≤ 100000) (hm : m ≤ 100000) :
    Calls Tryd.prog 68 #[.slice A n c, .slice B m d] w fun e w' => ∃ v, e = .returned v ∧ SlM (digs (val a * val b)) v w' ∧ Ext w w' := by
  by_cases h1 : n = 0
  · subst h1
    obtain rfl := hA.empty
    go_enter Tryd.func68, Tryd.ntmps68
    go_wp2
    go_ret
    exact ⟨_, rfl, ⟨_, _, _, rfl, by simpa [val, digs_zero] using RM.nil⟩, Ext.refl _⟩
  · have h1' : ((n : Int) == 0) = false := by simp; omega
    by_cases h2 : m = 0
    · subst h2
      obtain rfl := hB.empty
      go_enter Tryd.func68, Tryd.ntmps68
      go_wp2
      go_ret
      exact ⟨_, rfl, ⟨_, _, _, rfl, by simpa [val, digs_zero] using RM.nil⟩, Ext.refl _⟩
    · exact mulMag_pos A B n m c d a b w hA hB hn hm ⟨by omega, by omega⟩
theorem rtimes_any (A B : Option Addr) (n m c d : Nat) (a b : List Nat) (w : World) (hA : RM w A n c a) (hB : RM w B m d b) (hn : n ≤ 100000) (hm : m ≤ 100000) :
    Calls Tryd.prog 69 #[.slice A n c, .slice B m d] w fun e w' => ∃ v, e = .returned v ∧ SlM (digs (val a * val b)) v w' ∧ Ext w w' := rtimes_pos A B n m c d a b w hA hB hn hm trivial
end Go.Proofs.YtfdpbcjcinchgaaDoor
