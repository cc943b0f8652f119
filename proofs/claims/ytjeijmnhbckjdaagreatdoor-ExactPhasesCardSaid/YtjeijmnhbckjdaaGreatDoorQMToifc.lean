/- Words and contracts that the laws share, several texts in one. -/
import Derived.Test.YtjeijmnhbckjdaaGreatDoorQMCdknp
import Derived.Lib.Builder
import Derived.Lib.AppendStr
import Derived.Lib.Strings
import Derived.Lib.Walk
import Derived.Laws.Externs
import Derived.Test.YtjeijmnhbckjdaaGreatDoorQMEdcmc
import Derived.Test.YtjeijmnhbckjdaaGreatDoorQMDiaoo
import Derived.Test.YtjeijmnhbckjdaaGreatDoorQShelfficl
import Derived.Lib.ItoaNum
import Derived.Lib.UnsafeStr
import Derived.Lib.Repeat
import Derived.Deep.LoopGhost
import Derived.Test.YtjeijmnhbckjdaaGreatDoorQMGeemb
import Derived.Lib.ItoaMem
import Derived.Lib.AppendIntMem
import Derived.Laws.IdiomStrings
/- Contracts: a strings.Builder of the call's own: copyCheck, WriteByte, WriteString. -/
namespace Go.Proofs.YtjeijmnhbckjdaaGreatDoor
open Go.RowKit
set_option linter.unusedVariables false

theorem bInfo : (Tryz.prog.info? 5).map (fun i => (i.zero, i.size, i.bytes)) = some (some (.int .u8 0), 1, 1) := by kernel_rfl
theorem bInfoB : (Tryz.prog.info? 109).map (fun i => i.size) = some 2 := by kernel_rfl
theorem bLies : liesAt Tryz.prog Tryz.prog.depth 109 (2 / Tryz.prog.cellsOf 109) 0 109 1 = true := by kernel_rfl
theorem info_split {P : Program} {e : TypeId} {z : Value} {s b : Nat} (h : (P.info? e).map (fun i => (i.zero, i.size, i.bytes)) = some (some z, s, b)) : ∃ i, P.info? e = some i ∧ i.zero = some z ∧ i.size = s ∧ i.bytes = b := by
  obtain ⟨i, hi, he⟩ := Option.map_eq_some_iff.1 h
  simp at he
  exact ⟨i, hi, he.1, he.2.1, he.2.2⟩

set_option maxHeartbeats 1000000 in
set_option maxRecDepth 100000 in
theorem copyCheck_used (b : Nat) (w : World) (h0 : w.cell? ⟨b, 0, none⟩ = some (.pointer (some ⟨b, 0, none⟩))) :
    Calls Tryz.prog 136 #[.pointer (some ⟨b, 0, none⟩)] w fun e w' => e = .returned (.tuple #[]) ∧ w' = w := by
  obtain ⟨j, hj, _⟩ := Option.map_eq_some_iff.1 bInfoB
  go_enter Tryz.func136, Tryz.ntmps136
  go_wp2
  rw [Lib.run_neq_ptr_same w _ Tryz.underlying106 hj]
  go_wp2
  go_end0
  exact ⟨rfl, rfl⟩

set_option maxHeartbeats 1000000 in
set_option maxRecDepth 100000 in
theorem copyCheck_fresh (b : Nat) (w : World) (h0 : w.cell? ⟨b, 0, none⟩ = some (.pointer none)) (hsh : w.shape? b = some (109, 2)) (hfz : w.frozen? ⟨b, 0, none⟩ = false) :
    Calls Tryz.prog 136 #[.pointer (some ⟨b, 0, none⟩)] w fun e w' => e = .returned (.tuple #[]) ∧ w' = w.setCell ⟨b, 0, none⟩ (.pointer (some ⟨b, 0, none⟩)) := by
  obtain ⟨j, hj, hjs⟩ := Option.map_eq_some_iff.1 bInfoB
  go_enter Tryz.func136, Tryz.ntmps136
  go_wp2
  rw [Lib.run_to_unsafe w ⟨b, 0, none⟩ Tryz.underlying106 Tryz.underlying134 hj (by rw [hjs]; decide) hsh (Nat.zero_lt_succ 1)]
  simp only [Result.andThen]
  rw [Oper.upon_value]
  go_wp2
  rw [run_callFunc_extern Tryz.func148 (by kernel_rfl) (by kernel_rfl) (by kernel_rfl) (e := Extern.AbiNoEscape.same) (by kernel_rfl)]
  rw [Lib.run_noEscape]
  simp only [Result.andThen]
  rw [Oper.upon_value]
  go_wp2
  rw [Lib.run_from_unsafe w ⟨b, 0, none⟩ Tryz.underlying134 Tryz.underlying106 hj hsh bLies]
  simp only [Result.andThen]
  rw [Oper.upon_value]
  go_wp2
  go_end0
  exact ⟨rfl, rfl⟩

theorem copyCheck_any (B b : Nat) (bs : List Value) (w : World) (h : Lib.IsBuilder 109 5 B b bs w) :
    Calls Tryz.prog 136 #[.pointer (some ⟨b, 0, none⟩)] w fun e w' => e = .returned (.tuple #[]) ∧ (Lib.BuilderAt 109 5 B b (.pointer (some ⟨b, 0, none⟩)) bs w' ∧ Below B w w') := by
  rcases h with h | h
  · refine (copyCheck_fresh b w h.cell0 h.shape h.frozen0).mono ?_
    rintro e w' ⟨rfl, rfl⟩
    exact ⟨rfl, h.used _, (Below.refl B w).setCell (p := ⟨b, 0, none⟩) h.1 _⟩
  · refine (copyCheck_used b w h.cell0).mono ?_
    rintro e w' ⟨rfl, rfl⟩
    exact ⟨rfl, h, Below.refl B _⟩

set_option maxHeartbeats 2000000 in
set_option maxRecDepth 100000 in
theorem wByte_any (B b : Nat) (bs : List Value) (c : Int) (w : World) (h : Lib.IsBuilder 109 5 B b bs w) (hlen : bs.length + 1 ≤ 140737488355328) (hBw : B ≤ w.heap.size) :
    Calls Tryz.prog 110 #[.pointer (some ⟨b, 0, none⟩), .int .u8 c] w fun e w' => e = .returned .nilIface ∧ (Lib.BuilderAt 109 5 B b (.pointer (some ⟨b, 0, none⟩)) (bs ++ [.int .u8 c]) w' ∧ Below B w w') := by
  obtain ⟨i0, hi, hz0, hz1, hz2⟩ := info_split bInfo
  go_enter Tryz.func110, Tryz.ntmps110
  go_wp2_with (go_at_call 136; refine (copyCheck_any B b bs _ h).mono ?_)
  rintro e w1 ⟨rfl, h1, hb1⟩
  obtain ⟨hB, v, hbk, hown, hne⟩ := h1
  have c0 : w1.cell? ⟨b, 0, none⟩ = some (.pointer (some ⟨b, 0, none⟩)) := by rw [Lib.cell_of_heap hbk]; rfl
  have c1 : w1.cell? ⟨b, 1, none⟩ = some v := by rw [Lib.cell_of_heap hbk]; rfl
  go_wp2_with (at_builtin; refine wpList_append_own _ rfl _ _ 107 rfl B 5 i0 (.int .u8 0) 1 1 Tryz.underlying107 hi hz0 hz1 hz2 rfl (by decide) _ _ _ rfl (hown.alloc _) ⟨w1.heap.size, 0, none⟩ 1 1 [.int .u8 c] rfl rfl ?c1 ?c2 ?c3 ?c4 ?c5 ?_)
  case c1 =>
    intro j u hj
    match j, hj with
    | 0, hj => simp at hj; subst hj; simp [Addr.add]
  case c2 => intro u hu; simp at hu; subst hu; rfl
  case c3 => unfold maxLen; omega
  case c4 => omega
  case c5 => have := hb1.size; simp; omega
  intro v' w2 hown' hgrow _
  have hlt : b < w1.heap.size := by
    rcases Nat.lt_or_ge b w1.heap.size with h' | h'
    · exact h'
    · simp [Array.getElem?_eq_none h'] at hbk
  have hb2 : w2.heap[b]? = some (.cells #[.pointer (some ⟨b, 0, none⟩), v] 109 (0, 0)) := by
    rw [hgrow.block b (by simp; omega) (fun e => hne e.symm), Lib.alloc_old w1 _ b hlt]
    exact hbk
  have d0 : w2.cell? ⟨b, 0, none⟩ = some (.pointer (some ⟨b, 0, none⟩)) := by rw [Lib.cell_of_heap hb2]; rfl
  have d1 : w2.cell? ⟨b, 1, none⟩ = some v := by rw [Lib.cell_of_heap hb2]; rfl
  have f1 : w2.frozen? ⟨b, 1, none⟩ = false := Lib.frozen_of_heap hb2 1
  obtain ⟨g, cap, rfl⟩ : ∃ g cap, v' = .slice (some ⟨g, 0, none⟩) (bs.length + 1) cap := by
    rcases hown'.2 with ⟨_, h0⟩ | ⟨g, cap, cur, hv, _⟩
    · omega
    · exact ⟨g, cap, hv⟩
  go_wp2
  go_ret
  refine ⟨rfl, ?_, ?_⟩
  · exact Lib.BuilderAt.put (T := 109) (e := 5) hB hb2 (bs' := bs ++ [.int .u8 c]) (by simpa using hown') (by decide)
  · exact ((hb1.alloc (by have := hb1.size; omega) _).grown hgrow (by have := hb1.size; simp; omega) (fun k hk => (hown.lt k hk).1)).setCell (p := ⟨b, 1, none⟩) hB _

set_option maxHeartbeats 2000000 in
set_option maxRecDepth 100000 in
theorem wString_any (B b : Nat) (bs : List Value) (s : ByteArray) (w : World) (h : Lib.IsBuilder 109 5 B b bs w) (hlen : bs.length + s.size ≤ 140737488355328) (hBw : B ≤ w.heap.size) :
    Calls Tryz.prog 112 #[.pointer (some ⟨b, 0, none⟩), .string s] w fun e w' => e = .returned (.tuple #[.int .i64 s.size, .nilIface]) ∧ (Lib.BuilderAt 109 5 B b (.pointer (some ⟨b, 0, none⟩)) (bs ++ Lib.strCells s) w' ∧ Below B w w') := by
  obtain ⟨i0, hi, hz0, hz1, hz2⟩ := info_split bInfo
  go_enter Tryz.func112, Tryz.ntmps112
  go_wp2_with (go_at_call 136; refine (copyCheck_any B b bs _ h).mono ?_)
  rintro e w1 ⟨rfl, h1, hb1⟩
  obtain ⟨hB, v, hbk, hown, hne⟩ := h1
  have c0 : w1.cell? ⟨b, 0, none⟩ = some (.pointer (some ⟨b, 0, none⟩)) := by rw [Lib.cell_of_heap hbk]; rfl
  have c1 : w1.cell? ⟨b, 1, none⟩ = some v := by rw [Lib.cell_of_heap hbk]; rfl
  go_wp2_with (at_builtin; refine Lib.wpList_append_own_string _ rfl _ _ 107 9 rfl B 5 i0 Tryz.underlying107 Tryz.underlying9 hi hz0 hz1 hz2 _ _ _ rfl hown s rfl ?c3 ?c4 ?c5 ?_)
  case c3 => unfold maxLen; omega
  case c4 => omega
  case c5 => have := hb1.size; omega
  intro v' w2 hown' hgrow _
  have hlt : b < w1.heap.size := by
    rcases Nat.lt_or_ge b w1.heap.size with h' | h'
    · exact h'
    · simp [Array.getElem?_eq_none h'] at hbk
  have hb2 : w2.heap[b]? = some (.cells #[.pointer (some ⟨b, 0, none⟩), v] 109 (0, 0)) := by
    rw [hgrow.block b hlt (fun e => hne e.symm)]
    exact hbk
  have d0 : w2.cell? ⟨b, 0, none⟩ = some (.pointer (some ⟨b, 0, none⟩)) := by rw [Lib.cell_of_heap hb2]; rfl
  have d1 : w2.cell? ⟨b, 1, none⟩ = some v := by rw [Lib.cell_of_heap hb2]; rfl
  have f1 : w2.frozen? ⟨b, 1, none⟩ = false := Lib.frozen_of_heap hb2 1
  obtain ⟨ao, n', cap, rfl⟩ : ∃ ao n' cap, v' = .slice ao n' cap := by
    rcases hown'.2 with ⟨hv, _⟩ | ⟨g, cap, cur, hv, _⟩
    · exact ⟨_, _, _, hv⟩
    · exact ⟨_, _, _, hv⟩
  go_wp2
  go_ret2
  refine ⟨rfl, ?_, ?_⟩
  · exact Lib.BuilderAt.put (T := 109) (e := 5) hB hb2 (bs' := bs ++ Lib.strCells s) (by simpa [Lib.strCells_length] using hown') (by decide)
  · exact (hb1.grown hgrow (by have := hb1.size; omega) (fun k hk => (hown.lt k hk).1)).setCell (p := ⟨b, 1, none⟩) hB _
end Go.Proofs.YtjeijmnhbckjdaaGreatDoor

/- Contract: the decimal text of an integer. -/
namespace Go.Proofs.YtjeijmnhbckjdaaGreatDoor
open Go.RowKit
set_option linter.unusedVariables false

/-- Groups of nine decimal digits, the lowest first. -/
def grpF : Nat → Nat → List Nat
  | 0, _ => []
  | f + 1, n => if n = 0 then [] else n % 1000000000 :: grpF f (n / 1000000000)
def grp (n : Nat) : List Nat := grpF n n
theorem grpF_any : ∀ (f g n : Nat), n ≤ f → n ≤ g → grpF f n = grpF g n
  | 0, g, n, h1, _ => by
    obtain rfl : n = 0 := by omega
    cases g <;> simp [grpF]
  | f + 1, 0, n, _, h2 => by
    obtain rfl : n = 0 := by omega
    simp [grpF]
  | f + 1, g + 1, n, h1, h2 => by
    unfold grpF
    split
    · rfl
    · rw [grpF_any f g (n / 1000000000) (by omega) (by omega)]
theorem grp_zero : grp 0 = [] := rfl
theorem grp_pos {n : Nat} (h : 0 < n) : grp n = n % 1000000000 :: grp (n / 1000000000) := by
  unfold grp
  obtain ⟨m, rfl⟩ : ∃ m, n = m + 1 := ⟨n - 1, by omega⟩
  rw [grpF, if_neg (by omega), grpF_any m ((m + 1) / 1000000000) _ (by omega) (Nat.le_refl _)]
theorem grp_len : ∀ (k n : Nat), n < 1000000000 ^ k → (grp n).length ≤ k
  | 0, n, h => by
    obtain rfl : n = 0 := by simpa using h
    simp [grp_zero]
  | k + 1, n, h => by
    rcases Nat.eq_zero_or_pos n with h0 | h0
    · subst h0; simp [grp_zero]
    · rw [grp_pos h0, List.length_cons]
      have : n / 1000000000 < 1000000000 ^ k := by
        rw [Nat.div_lt_iff_lt_mul (by omega), ← Nat.pow_succ]; exact h
      have := grp_len k _ this
      omega
theorem grp_len_digs {n m : Nat} (h : (digs n).length = m) : (grp n).length ≤ 2 * m := by
  have h1 : n < 4294967296 ^ m := by have := val_lt (dig_digs n); rw [val_digs, h] at this; exact this
  refine grp_len _ _ (Nat.lt_of_lt_of_le h1 ?_)
  rw [Nat.pow_mul]
  exact Nat.pow_le_pow_left (by decide) m
theorem grp_lt : ∀ (f n : Nat), ∀ g ∈ grpF f n, g < 1000000000
  | 0, n, g, h => by simp [grpF] at h
  | f + 1, n, g, h => by
    unfold grpF at h
    split at h
    · cases h
    · rcases List.mem_cons.1 h with h | h
      · subst h; omega
      · exact grp_lt f _ g h

theorem digs_some0 {k n : Nat} (h : (digs k).length = n) : 0 < n ↔ 0 < k := by
  rcases Nat.eq_zero_or_pos k with h0 | h0
  · subst h0; rw [digs_zero] at h; simp at h; omega
  · have : digs k ≠ [] := fun e => by rw [digs_nil] at e; omega
    have := List.length_pos_iff.2 this
    omega

/-- The text of groups. -/
def gtxt : List Nat → List UInt8
  | [] => []
  | [g] => Lib.decDigits g
  | g :: h :: t => gtxt (h :: t) ++ (List.replicate (9 - (Lib.decDigits g).length) 48 ++ Lib.decDigits g)
/-- The text of an integer. -/
def txt (z : Int) : List UInt8 := if z = 0 then [48] else (if z < 0 then [45] else []) ++ gtxt (grp z.natAbs)

theorem nDigits_le : ∀ (k u : Nat), u < 10 ^ (k + 1) → Lib.nDigits u ≤ k + 1
  | 0, u, h => by rw [Lib.nDigits_small (by simpa using h)]; omega
  | k + 1, u, h => by
    by_cases h10 : u < 10
    · rw [Lib.nDigits_small h10]; omega
    · rw [Lib.nDigits_big h10]
      have := nDigits_le k (u / 10) (by rw [Nat.div_lt_iff_lt_mul (by omega), ← Nat.pow_succ]; exact h)
      omega
theorem dec_len {g : Nat} (h : g < 1000000000) : (Lib.decDigits g).length ≤ 9 := by
  rw [Lib.decDigits_length]; exact nDigits_le 8 g h
theorem gtxt_len : ∀ (l : List Nat), (∀ g ∈ l, g < 1000000000) → (gtxt l).length ≤ 9 * l.length
  | [], _ => by simp [gtxt]
  | [g], h => by
    have := dec_len (h g (by simp))
    simp [gtxt]; omega
  | g :: h :: t, hl => by
    have h1 := gtxt_len (h :: t) (fun x hx => hl x (by simp [hx]))
    have h2 := dec_len (hl g (by simp))
    simp [gtxt] at h1 ⊢
    omega

theorem gtxt_more {l : List Nat} {j g : Nat} (hg : l[j]? = some g) (h : j + 1 < l.length) : gtxt (l.drop j) = gtxt (l.drop (j + 1)) ++ (List.replicate (9 - (Lib.decDigits g).length) 48 ++ Lib.decDigits g) := by
  obtain ⟨hj, rfl⟩ := List.getElem?_eq_some_iff.1 hg
  rw [List.drop_eq_getElem_cons hj, List.drop_eq_getElem_cons h, gtxt]
theorem gtxt_last {l : List Nat} {j g : Nat} (hg : l[j]? = some g) (h : ¬ j + 1 < l.length) : gtxt (l.drop j) = gtxt (l.drop (j + 1)) ++ Lib.decDigits g := by
  obtain ⟨hj, rfl⟩ := List.getElem?_eq_some_iff.1 hg
  rw [List.drop_eq_getElem_cons hj, List.drop_eq_nil_of_le (by omega), gtxt, gtxt, List.nil_append]
theorem pre_len {sg : Bool} {l : List Nat} {k : Nat} (hl : l.length ≤ 800) (h : ∀ g ∈ l, g < 1000000000) : (Lib.byteCells ((if sg then [45] else []) ++ gtxt (l.drop k))).length ≤ 8000 := by
  have h1 := gtxt_len (l.drop k) (fun g hg => h g (List.mem_of_mem_drop hg))
  rw [Lib.byteCells_length, List.length_append]
  have h2 : (if sg then [45] else [] : List UInt8).length ≤ 1 := by cases sg <;> simp
  simp at h1
  omega

theorem isB_ext {T e : TypeId} {B b : Nat} {bs : List Value} {w w' : World} (h : Lib.IsBuilder T e B b bs w) (x : Ext w w') : Lib.IsBuilder T e B b bs w' := by
  have go : ∀ p, Lib.BuilderAt T e B b p bs w → Lib.BuilderAt T e B b p bs w' := by
    rintro p ⟨h1, v, h2, h3, h4⟩
    exact ⟨h1, v, Blk.ext h2 x, own_ext h3 x, h4⟩
  rcases h with h | h
  · exact .inl (go _ h)
  · exact .inr (go _ h)
theorem Ext.below {w0 w w' : World} (h : Ext w0 w) (b : Below w0.heap.size w w') : Ext w0 w' := Below.trans h b

/-- trim, told of its slice. -/
def TrimR (A : Option Addr) (l : List Nat) (v : Value) : Prop := (digs (val l) = [] ∧ v = .slice none 0 0) ∨ (0 < (digs (val l)).length ∧ v = .slice A (digs (val l)).length (digs (val l)).length)
theorem trim_at (A : Option Addr) (n c : Nat) (l : List Nat) (w : World) (h : RM w A n c l) :
    Calls Tryz.prog 86 #[.slice A n c] w fun e w' => (∃ v, e = .returned v ∧ TrimR A l v) ∧ w = w' := by
  have hn : n ≤ 9223372036854775807 := Nat.le_trans h.nc h.cm
  have hnc := h.nc
  have hcm := h.cm
  have HL := Lib.hid h.len
  have HT := Lib.hid (trim_eq h.dg)
  have HLL := Lib.hid (show (digs (val l)).length = trimN l n by rw [← HT.out, HL.out, List.length_take, HL.out]; have := trimN_le l n; omega)
  go_enter Tryz.func86, Tryz.ntmps86
  go_wp2
  go_loop [3] (fun i => ∃ k : Nat, k ≤ n ∧ i = .int .i64 k ∧ trimN l n = trimN l k) (fun i => (intOf i).toNat)
  case atStart => exact ⟨n, Nat.le_refl _, rfl, rfl⟩
  case round =>
    obtain ⟨k, hk, rfl, ht⟩ := hrel
    have HK := Lib.hid ht; clear ht
    by_cases h0 : k = 0
    · subst h0
      go_wp2
      go_ret
      refine ⟨⟨_, rfl, .inl ⟨List.eq_nil_of_length_eq_zero ?_, rfl⟩⟩, rfl⟩
      rw [HLL.out, HK.out]
      rfl
    · obtain ⟨j, rfl⟩ : ∃ j, k = j + 1 := ⟨k - 1, by omega⟩
      obtain ⟨ad, x, rfl, hb, hx, hx32, hcx⟩ := h.at_ (k := j) (by omega)
      have HX := Lib.hid hx; clear hx
      by_cases hx0 : x = 0
      · subst hx0
        go_wp2
        go_round
        case rel => exact ⟨j, by omega, by go_num, by rw [HK.out, trimN_zero HX.out]⟩
        case measure => simp [intOf] <;> omega
      · have hne : ((x : Int) == 0) = false := by simp; omega
        go_wp2
        go_ret
        refine ⟨⟨_, rfl, .inr ?_⟩, rfl⟩
        rw [HLL.out, HK.out, trimN_stop HX.out hx0]
        exact ⟨by omega, rfl⟩

/-- The digits that are left, in a row of the call's own, apart from the groups. -/
def MRow (B gk : Nat) (gv mv : Value) (wr : World) : Prop := (mv = .slice none 0 0 ∧ gk = 0) ∨ ∃ g n c p r, mv = .slice (some ⟨g, 0, none⟩) n c ∧ B ≤ g ∧ RowX wr g p r ∧ p.length = n ∧ 0 < n ∧ n ≤ c ∧ n ≤ 400 ∧ c ≤ 9223372036854775807 ∧ val p = gk ∧ 0 < gk ∧ gv.ownBlock ≠ some g

/-- What FormatUint is asked for. -/
def FmtOk (w : World) (u : Nat) : Prop := ∀ w', Ext w w' → Calls Tryz.prog 111 #[.int .u64 (u : Int), .int .i64 10] w' fun e w'' => e = .returned (.string ⟨(Lib.decDigits u).toArray⟩) ∧ Ext w' w''

set_option maxRecDepth 100000 in
set_option maxHeartbeats 1600000 in
theorem Text_ok (v : Value) (z : Int) (w : World) (hX : RI w v z) (az : z.natAbs < lim) (hF : ∀ g ∈ grp z.natAbs, FmtOk w g) :
    Calls Tryz.prog 82 #[v] w fun e w' => e = .returned (.string ⟨(txt z).toArray⟩) ∧ Ext w w' := by
  have HV1 := Lib.hid (RI.valid hX az)
  have HF := Lib.hid hF; clear hF
  obtain ⟨A, n, c, rfl, hx⟩ := hX
  have hn := hx.le400 az
  have hlen := hx.len
  have HS := Lib.hid (digs_some0 hlen)
  have HGL := Lib.hid (grp_len_digs hlen)
  have HL := Lib.hid hlen; clear hlen
  generalize hsg : decide (z < 0) = sg at *
  have HSG := Lib.hid hsg; clear hsg
  go_enter Tryz.func82, Tryz.ntmps82
  go_wp2_with fail
  refine (Valid_any _ A n c _ _ (hx.ext (Ext.new w _))).mono ?_
  rintro e w1 ⟨rfl, hx1⟩
  rw [HV1.out]
  have b1 := (Blk.new w 24 #[.bool sg, .slice A n c]).ext hx1
  have c0 := b1.cell
  by_cases h0 : n = 0
  · subst h0
    go_wp2
    go_ret
    refine ⟨?_, (Ext.new w _).trans hx1⟩
    have hz : z = 0 := by
      rcases Nat.eq_zero_or_pos z.natAbs with h | h
      · omega
      · exact absurd (HS.out.2 h) (by omega)
    subst hz
    rfl
  · have t1 : ((n : Int) == 0) = false := by simp; omega
    have t2 : (n == 0) = false := by simp; omega
    go_wp2_with fail
    refine (clone_own A n c _ _ ((hx.ext (Ext.new w _)).ext hx1) (by omega)).mono ?_
    rintro e w2 ⟨v2, rfl, hown, hx2⟩
    rcases RowX.of_own hown hx.dg with ⟨_, hn0, _⟩ | ⟨g, cap, r, rfl, hg, hrow, hnc, hcm⟩
    · omega
    have hz0 := HS.out.1 (by omega)
    have hex0 : Ext w1 w2 := hx2
    clear hown hx2
    go_wp2_with fail
    go_loopg [3, 4] z.natAbs (fun gk gv mv wr => ∃ gs : List Nat, gs ++ grp gk = grp z.natAbs ∧ wr.ownsRow w1.heap.size 90 1 gv gs.length (mg gs) ∧ Ext w1 wr ∧ MRow w1.heap.size gk gv mv wr)
    case atStart => exact ⟨[], rfl, World.ownsRow_nil _ _ _ _, hex0, .inr ⟨g, n, cap, _, r, rfl, hg, hrow, HL.out, by omega, hnc, hn, hcm, val_digs _, hz0, by simp [Value.ownBlock]⟩⟩
    case round =>
      clear hrow hex0 hg hnc hcm
      obtain ⟨gs, hgs, hown, hex, hM⟩ := hrel
      have HGS := Lib.hid hgs; clear hgs
      rcases hM with ⟨rfl, rfl⟩ | ⟨g1, n1, c1, p, r1, rfl, hg1, hrow, hpl, hn1, hnc1, hn4, hcm1, hpv, hgk, hne⟩
      · obtain ⟨wb, rfl⟩ : ∃ wb, wb = wr := ⟨_, rfl⟩
        obtain rfl : gs = grp z.natAbs := by have := HGS.out; rwa [grp_zero, List.append_nil] at this
        have hd0 : Dig (grp z.natAbs) := fun g hg => by have := grp_lt _ _ g hg; omega
        have hG9 : ∀ g ∈ grp z.natAbs, g < 1000000000 := fun g hg => grp_lt _ _ g hg
        have hl8 : (grp z.natAbs).length ≤ 800 := by have := HGL.out; omega
        have HNE := Lib.hid (show z ≠ 0 by omega)
        have hgm : ∀ g ∈ grp z.natAbs, FmtOk w g := HF.out
        have htx : txt z = (if sg then [45] else []) ++ gtxt (grp z.natAbs) := by
          unfold txt
          rw [if_neg HNE.out, ← HSG.out]
          simp
        have HTX := Lib.hid htx; clear htx
        obtain ⟨GA, GN, GC, rfl, hG⟩ := RM.of_own hown hd0
        have hGL := hG.len
        have hgn8 : GN ≤ 800 := by omega
        generalize grp z.natAbs = gl at *
        have cb := ((b1.ext hex).alloc (.cells #[.pointer none, .slice none 0 0] 109)).cell
        have hB0 : Lib.IsBuilder 109 5 wb.heap.size wb.heap.size [] (wb.alloc (.cells #[.pointer none, .slice none 0 0] 109)) := Lib.fresh_isBuilder _ _ wb
        have HGM := Lib.hid hgm; have HG9 := Lib.hid hG9; have HGL2 := Lib.hid hGL; have HL8 := Lib.hid hl8
        clear hgm hG9 hGL hl8 hown hd0 HGS HF HGL
        have hwE : Ext w wb := (Ext.new w _).trans (hx1.trans hex)
        cases sg
        · go_wp2_with fail
          go_loopw [6] (fun i wx => ∃ k : Nat, k ≤ GN ∧ i = .int .i64 ((k : Int) - 1) ∧ Lib.IsBuilder 109 5 wb.heap.size wb.heap.size (Lib.byteCells ((if false then [45] else []) ++ gtxt (gl.drop k))) wx ∧ Ext wb wx) (fun i _ => (intOf i + 1).toNat)
          case atStart => exact ⟨GN, Nat.le_refl _, rfl, by rw [List.drop_eq_nil_of_le (by rw [HGL2.out]; exact Nat.le_refl _)]; exact hB0, (Ext.new wb _)⟩
          case round => 
            obtain ⟨k, hk, hi, hBx, hwx⟩ := hrel
            rcases Nat.eq_zero_or_pos k with hk0 | hk0
            · subst hk0
              obtain rfl := hi
              go_wp2_with fail
              refine (Tryz.Builder_String_any wb.heap.size wb.heap.size _ _ hBx hwx.size).mono ?_
              rintro e w8 ⟨rfl, hb8⟩
              go_wp2
              go_ret
              refine ⟨?_, hwE.trans (hwx.below hb8)⟩
              rw [HTX.out]
              rfl
            · obtain ⟨j, rfl⟩ : ∃ j, k = j + 1 := ⟨k - 1, by omega⟩
              have hi : _ = Value.int .i64 (j : Int) := hi.trans (by congr 1; omega)
              obtain rfl := hi
              obtain ⟨ad, g9, rfl, had, hg9, hg32, hcell⟩ := (hG.ext hwx).at_ (k := j) (by omega)
              have hmem : g9 ∈ gl := List.mem_of_getElem? hg9
              have hFm := HGM.out g9 hmem
              have hdl := dec_len (HG9.out g9 hmem)
              have hgl9 := Lib.hid hg9; clear hg9
              have hpl := pre_len (sg := false) (k := j + 1) HL8.out HG9.out
              have HPL9 := Lib.hid hpl; clear hpl
              have HDL := Lib.hid hdl; clear hdl
              obtain ⟨s9, hs9⟩ : ∃ s : ByteArray, s = ⟨(Lib.decDigits g9).toArray⟩ := ⟨_, rfl⟩
              have hz9 : s9.size = (Lib.decDigits g9).length := by rw [hs9]; simp [ByteArray.size]
              have hz99 : s9.size ≤ 9 := by rw [hz9]; exact HDL.out
              have hc9 : Lib.strCells s9 = Lib.byteCells (Lib.decDigits g9) := by rw [hs9]; rfl
              have HZ9 := Lib.hid hz9; have HC9 := Lib.hid hc9; have HS9 := Lib.hid hs9; clear hz9 hc9 hs9
              go_wp2_with fail
              refine (hFm _ (hwE.trans hwx)).mono ?_
              rintro e w7 ⟨rfl, hx7⟩
              rw [← HS9.out]
              have hBx7 := isB_ext hBx hx7
              have hwx7 := hwx.trans hx7
              by_cases hlast : j + 1 < GN
              · have t8 : ((j : Int) < (GN : Int) - 1) := by omega
                have t9 : decide ((j : Int) < (GN : Int) - 1) = true := by simp; omega
                have e9 : (9 : Int) - (s9.size : Int) = ((9 - s9.size : Nat) : Int) := by omega
                have HE9 := Lib.hid e9; clear e9
                go_wp2_with fail
                rw [HE9.out]
                refine (Tryz.strings_Repeat ⟨#[48]⟩ (9 - s9.size) _ (by omega) (by have h1 : (⟨#[48]⟩ : ByteArray).size = 1 := rfl; rw [h1]; omega)).mono ?_
                rintro e w8 ⟨rfl, hx8⟩
                have hx8 : Ext w7 w8 := hx8
                have hBx8 := isB_ext hBx7 hx8
                have hwx8 := hwx7.trans hx8
                obtain ⟨s8, hs8⟩ : ∃ s : ByteArray, s = ⟨(Lib.repeatL (⟨#[48]⟩ : ByteArray).data.toList (9 - s9.size)).toArray⟩ := ⟨_, rfl⟩
                have hr8 : Lib.repeatL (⟨#[48]⟩ : ByteArray).data.toList (9 - s9.size) = List.replicate (9 - (Lib.decDigits g9).length) 48 := by
                  rw [← HZ9.out]
                  have := Lib.repeatL_replicate 48 1 (9 - s9.size)
                  simpa using this
                have hz8 : s8.size ≤ 9 := by rw [hs8, hr8]; simp [ByteArray.size]
                have hc8 : Lib.strCells s8 = Lib.byteCells (List.replicate (9 - (Lib.decDigits g9).length) 48) := by rw [hs8, hr8]; rfl
                rw [← hs8]
                have HC8 := Lib.hid hc8; clear hs8 hr8 hc8
                go_wp2_with fail
                refine (wString_any wb.heap.size wb.heap.size _ s8 _ hBx8 (by have := HPL9.out; omega) hwx8.size).mono ?_
                rintro e w10 ⟨rfl, hBx10, hb10⟩
                have hwx10 := hwx8.below hb10
                go_wp2_with fail
                refine (wString_any wb.heap.size wb.heap.size _ s9 _ (.inr hBx10) (by rw [List.length_append, Lib.strCells_length]; have := HPL9.out; omega) hwx10.size).mono ?_
                rintro e w11 ⟨rfl, hBx11, hb11⟩
                have hwx11 := hwx10.below hb11
                go_wp2_with fail
                go_roundw
                case rel =>
                  refine ⟨j, by omega, by go_num, .inr ?_, hwx11⟩
                  rw [HC8.out, HC9.out, ← Lib.byteCells_append, ← Lib.byteCells_append] at hBx11
                  rw [gtxt_more hgl9.out (by rw [HGL2.out]; exact hlast)]
                  simpa using hBx11
                case measure => simp [intOf] <;> omega
              · have t8 : ¬ ((j : Int) < (GN : Int) - 1) := by omega
                have t9 : decide ((j : Int) < (GN : Int) - 1) = false := by simp; omega
                go_wp2_with fail
                refine (wString_any wb.heap.size wb.heap.size _ s9 _ hBx7 (by have := HPL9.out; omega) hwx7.size).mono ?_
                rintro e w11 ⟨rfl, hBx11, hb11⟩
                have hwx11 := hwx7.below hb11
                go_wp2_with fail
                go_roundw
                case rel =>
                  refine ⟨j, by omega, by go_num, .inr ?_, hwx11⟩
                  rw [HC9.out, ← Lib.byteCells_append] at hBx11
                  rw [gtxt_last hgl9.out (by rw [HGL2.out]; exact hlast)]
                  simpa using hBx11
                case measure => simp [intOf] <;> omega
        · go_wp2_with fail
          refine (wByte_any wb.heap.size wb.heap.size [] 45 _ hB0 (by simp) (by simp)).mono ?_
          rintro e w6 ⟨rfl, hB6, hbl6⟩
          have hB6 : Lib.IsBuilder 109 5 wb.heap.size wb.heap.size (Lib.byteCells [45]) w6 := .inr hB6
          have hx6 : Ext wb w6 := (Ext.new wb _).below hbl6
          go_wp2_with fail
          go_loopw [6] (fun i wx => ∃ k : Nat, k ≤ GN ∧ i = .int .i64 ((k : Int) - 1) ∧ Lib.IsBuilder 109 5 wb.heap.size wb.heap.size (Lib.byteCells ((if true then [45] else []) ++ gtxt (gl.drop k))) wx ∧ Ext wb wx) (fun i _ => (intOf i + 1).toNat)
          case atStart => exact ⟨GN, Nat.le_refl _, rfl, by rw [List.drop_eq_nil_of_le (by rw [HGL2.out]; exact Nat.le_refl _)]; exact hB6, hx6⟩
          case round => 
            obtain ⟨k, hk, hi, hBx, hwx⟩ := hrel
            rcases Nat.eq_zero_or_pos k with hk0 | hk0
            · subst hk0
              obtain rfl := hi
              go_wp2_with fail
              refine (Tryz.Builder_String_any wb.heap.size wb.heap.size _ _ hBx hwx.size).mono ?_
              rintro e w8 ⟨rfl, hb8⟩
              go_wp2
              go_ret
              refine ⟨?_, hwE.trans (hwx.below hb8)⟩
              rw [HTX.out]
              rfl
            · obtain ⟨j, rfl⟩ : ∃ j, k = j + 1 := ⟨k - 1, by omega⟩
              have hi : _ = Value.int .i64 (j : Int) := hi.trans (by congr 1; omega)
              obtain rfl := hi
              obtain ⟨ad, g9, rfl, had, hg9, hg32, hcell⟩ := (hG.ext hwx).at_ (k := j) (by omega)
              have hmem : g9 ∈ gl := List.mem_of_getElem? hg9
              have hFm := HGM.out g9 hmem
              have hdl := dec_len (HG9.out g9 hmem)
              have hgl9 := Lib.hid hg9; clear hg9
              have hpl := pre_len (sg := true) (k := j + 1) HL8.out HG9.out
              have HPL9 := Lib.hid hpl; clear hpl
              have HDL := Lib.hid hdl; clear hdl
              obtain ⟨s9, hs9⟩ : ∃ s : ByteArray, s = ⟨(Lib.decDigits g9).toArray⟩ := ⟨_, rfl⟩
              have hz9 : s9.size = (Lib.decDigits g9).length := by rw [hs9]; simp [ByteArray.size]
              have hz99 : s9.size ≤ 9 := by rw [hz9]; exact HDL.out
              have hc9 : Lib.strCells s9 = Lib.byteCells (Lib.decDigits g9) := by rw [hs9]; rfl
              have HZ9 := Lib.hid hz9; have HC9 := Lib.hid hc9; have HS9 := Lib.hid hs9; clear hz9 hc9 hs9
              go_wp2_with fail
              refine (hFm _ (hwE.trans hwx)).mono ?_
              rintro e w7 ⟨rfl, hx7⟩
              rw [← HS9.out]
              have hBx7 := isB_ext hBx hx7
              have hwx7 := hwx.trans hx7
              by_cases hlast : j + 1 < GN
              · have t8 : ((j : Int) < (GN : Int) - 1) := by omega
                have t9 : decide ((j : Int) < (GN : Int) - 1) = true := by simp; omega
                have e9 : (9 : Int) - (s9.size : Int) = ((9 - s9.size : Nat) : Int) := by omega
                have HE9 := Lib.hid e9; clear e9
                go_wp2_with fail
                rw [HE9.out]
                refine (Tryz.strings_Repeat ⟨#[48]⟩ (9 - s9.size) _ (by omega) (by have h1 : (⟨#[48]⟩ : ByteArray).size = 1 := rfl; rw [h1]; omega)).mono ?_
                rintro e w8 ⟨rfl, hx8⟩
                have hx8 : Ext w7 w8 := hx8
                have hBx8 := isB_ext hBx7 hx8
                have hwx8 := hwx7.trans hx8
                obtain ⟨s8, hs8⟩ : ∃ s : ByteArray, s = ⟨(Lib.repeatL (⟨#[48]⟩ : ByteArray).data.toList (9 - s9.size)).toArray⟩ := ⟨_, rfl⟩
                have hr8 : Lib.repeatL (⟨#[48]⟩ : ByteArray).data.toList (9 - s9.size) = List.replicate (9 - (Lib.decDigits g9).length) 48 := by
                  rw [← HZ9.out]
                  have := Lib.repeatL_replicate 48 1 (9 - s9.size)
                  simpa using this
                have hz8 : s8.size ≤ 9 := by rw [hs8, hr8]; simp [ByteArray.size]
                have hc8 : Lib.strCells s8 = Lib.byteCells (List.replicate (9 - (Lib.decDigits g9).length) 48) := by rw [hs8, hr8]; rfl
                rw [← hs8]
                have HC8 := Lib.hid hc8; clear hs8 hr8 hc8
                go_wp2_with fail
                refine (wString_any wb.heap.size wb.heap.size _ s8 _ hBx8 (by have := HPL9.out; omega) hwx8.size).mono ?_
                rintro e w10 ⟨rfl, hBx10, hb10⟩
                have hwx10 := hwx8.below hb10
                go_wp2_with fail
                refine (wString_any wb.heap.size wb.heap.size _ s9 _ (.inr hBx10) (by rw [List.length_append, Lib.strCells_length]; have := HPL9.out; omega) hwx10.size).mono ?_
                rintro e w11 ⟨rfl, hBx11, hb11⟩
                have hwx11 := hwx10.below hb11
                go_wp2_with fail
                go_roundw
                case rel =>
                  refine ⟨j, by omega, by go_num, .inr ?_, hwx11⟩
                  rw [HC8.out, HC9.out, ← Lib.byteCells_append, ← Lib.byteCells_append] at hBx11
                  rw [gtxt_more hgl9.out (by rw [HGL2.out]; exact hlast)]
                  simpa using hBx11
                case measure => simp [intOf] <;> omega
              · have t8 : ¬ ((j : Int) < (GN : Int) - 1) := by omega
                have t9 : decide ((j : Int) < (GN : Int) - 1) = false := by simp; omega
                go_wp2_with fail
                refine (wString_any wb.heap.size wb.heap.size _ s9 _ hBx7 (by have := HPL9.out; omega) hwx7.size).mono ?_
                rintro e w11 ⟨rfl, hBx11, hb11⟩
                have hwx11 := hwx7.below hb11
                go_wp2_with fail
                go_roundw
                case rel =>
                  refine ⟨j, by omega, by go_num, .inr ?_, hwx11⟩
                  rw [HC9.out, ← Lib.byteCells_append] at hBx11
                  rw [gtxt_last hgl9.out (by rw [HGL2.out]; exact hlast)]
                  simpa using hBx11
                case measure => simp [intOf] <;> omega
      · have HPV := Lib.hid hpv; clear hpv
        have HPL := Lib.hid hpl; clear hpl
        have hglen : gs.length ≤ 800 := by
          have h1 := HGL.out
          rw [← HGS.out, List.length_append] at h1
          omega
        have HG2 := Lib.hid (show (gs ++ [gk % 1000000000]) ++ grp (gk / 1000000000) = grp z.natAbs by rw [← HGS.out, grp_pos hgk]; simp)
        have hlt := Nat.div_lt_self hgk (show 1 < 1000000000 by omega)
        have hmod := Nat.mod_lt gk (show 0 < 1000000000 by omega)
        go_wp2_with fail
        refine (divWord_any g1 n1 c1 1000000000 p r1 _ hrow HPL.out (by omega) (by omega) (by omega)).mono ?_
        rintro e w3 ⟨rfl, q, hq, hql, hqv, ho3⟩
        rw [HPV.out] at hqv
        rw [HPV.out]
        have hown3 := own_only hown ho3 hne
        have hex3 := ho3.ext hex hg1
        have hgl3 : g1 < w3.heap.size := hq.1.lt
        have HQV := Lib.hid hqv; have HQL := Lib.hid hql; clear hqv hql
        clear hrow hown hex ho3
        generalize gk % 1000000000 = gm at *
        go_wp2_with (at_builtin; refine wpList_app elem_u32 rfl (.tmp 23) (.tmp 26) rfl w1.heap.size _ gs.length (mg gs) (by rfl) (hown3.alloc _) w3.heap.size 1 1 [.int .u32 (gm : Int)] (by rfl) (Blk.new _ _ _) rfl (by simp [Value.oneCell']) (by omega) (by omega) (by omega) (by have := hex3.size; simp; omega) ?_)
        intro g4 cap4 w4 ho4 hg4 hg4' _
        have hex4 := own_grown hg4 (hex3.alloc _) (fun g h => (hown3.lt g h).1)
        have hq4 : RowX w4 g1 q r1 := ⟨grown_blk hg4 (hq.1.alloc _) hne, hq.2⟩
        have hne4 : g4 ≠ g1 := by
          rintro rfl
          rcases hg4' with h | h
          · exact hne h
          · omega
        have HO4 := Lib.hid ho4; clear ho4 hg4 hg4' hown3 hq hex3 hne
        go_wp2_with fail
        refine (trim_at (some ⟨g1, 0, none⟩) n1 c1 q _ (hq4.rm HQL.out hnc1 hcm1)).mono ?_
        rintro e w5 ⟨⟨v5, rfl, ht⟩, rfl⟩
        unfold TrimR at ht
        rw [show val q = gk / 1000000000 from HQV.out] at ht
        have hM5 : MRow w1.heap.size (gk / 1000000000) (.slice (some ⟨g4, 0, none⟩) (gs.length + 1) cap4) v5 w4 := by
          rcases ht with ⟨h1, rfl⟩ | ⟨h1, rfl⟩
          · exact .inl ⟨rfl, digs_nil.1 h1⟩
          · have h2 := (digs_some0 (k := gk / 1000000000) rfl).1 h1
            have e1 := trim_eq hq4.2
            rw [show val q = gk / 1000000000 from HQV.out] at e1
            have e2 : (digs (gk / 1000000000)).length = trimN q q.length := by
              rw [← e1, List.length_take]
              have := trimN_le q q.length
              omega
            have e3 : q.take (digs (gk / 1000000000)).length = digs (gk / 1000000000) := by rw [e2, e1]
            have e4 : (digs (gk / 1000000000)).length ≤ n1 := by
              rw [e2, ← HQL.out]; exact trimN_le q q.length
            have h4 := hq4.head (digs (gk / 1000000000)).length
            rw [e3] at h4
            exact .inr ⟨g1, _, _, _, _, rfl, hg1, h4, rfl, h1, Nat.le_refl _, by omega, by omega, val_digs _, h2, by simpa [Value.ownBlock] using hne4⟩
        obtain ⟨A5, n5, c5, rfl⟩ : ∃ A n c, v5 = .slice A n c := by
          rcases ht with ⟨_, rfl⟩ | ⟨_, rfl⟩
          · exact ⟨_, _, _, rfl⟩
          · exact ⟨_, _, _, rfl⟩
        clear ht
        go_wp2_with fail
        go_roundg (gk / 1000000000)
        case measure => exact hlt
        case rel => exact ⟨gs ++ [gm], HG2.out, by simpa [mg] using HO4.out, hex4, by simpa using hM5⟩
end Go.Proofs.YtjeijmnhbckjdaaGreatDoor

/- Contracts: FormatUint in decimal; the sanity check of the laws. -/
namespace Go.Proofs.YtjeijmnhbckjdaaGreatDoor
open Go.RowKit
set_option linter.unusedVariables false

set_option maxRecDepth 100000 in
set_option maxHeartbeats 400000 in
theorem iFmt_small (u : Nat) (hu : u < 100) (w : World) :
    Calls Tryz.prog 137 #[.int .u64 (u : Int), .int .i64 10] w fun e w' => e = .returned (.string ⟨(Lib.decDigits u).toArray⟩) ∧ w' = w := by
  have h1 : decide ((u : Int) < 100) = true := by simp; omega
  go_enter Tryz.func137, Tryz.ntmps137
  go_wp2_with fail
  refine (Tryz.internal_strconv_small u hu _).mono ?_
  rintro e w1 ⟨rfl, hw⟩
  rw [hw]; clear hw
  go_wp2
  go_ret
  exact ⟨rfl, rfl⟩
set_option maxRecDepth 100000 in
theorem fmt_small {w : World} {u : Nat} (hu : u < 100) : FmtOk w u := by
  intro w' _
  go_enter Tryz.func111, Tryz.ntmps111
  go_wp2_with fail
  refine (iFmt_small u hu _).mono ?_
  rintro e w1 ⟨rfl, hw⟩
  rw [hw]; clear hw
  go_wp2
  go_ret
  exact ⟨rfl, Ext.refl _⟩

end Go.Proofs.YtjeijmnhbckjdaaGreatDoor

/- Contract: FormatUint in decimal, whatever the number: the table of powers of ten is laid. -/
namespace Go.Proofs.YtjeijmnhbckjdaaGreatDoor
open Go.RowKit Go.Sort
set_option linter.unusedVariables false

theorem holds_zero0 (w : World) (T : TypeId) (nd : Nat) (hs : nd ≤ 24) : Holds (fun (b : UInt8) => Value.int .u8 (b.toNat : Int)) (w.alloc (.cells Lib.zeros24 T)) w.heap.size 0 (Array.replicate nd (0 : UInt8)) := fun j hj => by
  have hj' : j < nd := by simpa using hj
  refine ⟨?_, World.frozen?_alloc_new _ _ _ _⟩
  rw [World.cell?_alloc_new, Lib.zeros24_at _ (by omega), getElem!_pos _ j hj]
  simp
theorem fin0 (w : World) (o : Obj) (dk : Array UInt8) (k : Nat) : Ext w ((putRow (fun (b : UInt8) => Value.int .u8 (b.toNat : Int)) (w.alloc o) w.heap.size 0 dk).drewN k) := by
  rw [alloc_eq_grow]
  obtain ⟨os', _, e⟩ := putRow_grow_new (fun (b : UInt8) => Value.int .u8 (b.toNat : Int)) w #[o] w.heap.size 0 dk (Nat.le_refl _)
  rw [e]
  exact Lib.below_grow _ w (Nat.le_refl _) k os'
theorem tab_ext {P : Program} {w w' : World} {name : String} {k : IntKind} {zs : List Int} (h : Lib.TabIs P w name k zs) (x : Ext w w') : Lib.TabIs P w' name k zs := by
  unfold Lib.TabIs World.var? at *
  cases hg : P.globalNamed name with
  | none => simp [hg] at h
  | some g =>
    simp only [hg, Option.bind_some] at h ⊢
    have hlt : g < w.heap.size := by
      rcases Nat.lt_or_ge g w.heap.size with h' | h'
      · exact h'
      · rw [Array.getElem?_eq_none h'] at h; simp at h
    rw [x.block g hlt]
    exact h

set_option maxHeartbeats 6400000 in
set_option maxRecDepth 100000 in
theorem iFmt_big (u : Nat) (hu : 100 ≤ u) (hu64 : u < 18446744073709551616) (w : World) (htab : Lib.TabIs Tryz.prog w "internal/strconv.uint64pow10" .u64 Lib.pow10Tab) :
    Calls Tryz.prog 137 #[.int .u64 (u : Int), .int .i64 10] w fun e w' => e = .returned (.string ⟨(Lib.decDigits u).toArray⟩) ∧ Ext w w' := by
  have hu1 : 1 ≤ u := by omega
  have hnd20 : Lib.nDigits u ≤ 20 := by have := Lib.numDigits_eq u hu1 hu64; split at this <;> omega
  have h100 : decide ((u : Int) < 100) = false := by simp; omega
  have hal : Tryz.prog.arrayLen 137 = 24 := by simp [Program.arrayLen, Tryz.underlying137]
  have hsl1 : ∀ W, (Instr.sliceAt 137 (.pointer (some ⟨w.heap.size, 0, none⟩)) none (some (.int .i64 (Lib.nDigits u : Int))) none).run Tryz.prog W = .ok (.slice (some ⟨w.heap.size, 0, none⟩) (Lib.nDigits u) 24) W := fun W => by
    rw [run_sliceAt_array_h W 137 ⟨w.heap.size, 0, none⟩ (by simp [Program.arrayLen, Program.elem, Tryz.underlying137]) .i64 (Lib.nDigits u : Int) (by omega) (by rw [hal]; omega)]
    go_simp
  have hH0 := holds_zero0 w 137 (Lib.nDigits u) (by omega)
  have hfmt := Tryz.internal_strconv_formatBase10 w.heap.size 0 24 u (Array.replicate (Lib.nDigits u) 0) (w.alloc (.cells Lib.zeros24 137)) hH0 (by rw [Array.size_replicate]; exact Lib.lt_pow_nDigits u) hu64 (by rw [Array.size_replicate]; omega)
  rw [Array.size_replicate] at hfmt
  have HH0 := Lib.hid hH0
  clear hH0 hal
  go_enter Tryz.func137, Tryz.ntmps137
  go_wp2_with (go_at_call 150; refine (Tryz.internal_strconv_numDigits u hu1 hu64 _ (Lib.tabIs_alloc htab _)).mono ?_; rintro e w' ⟨rfl, rfl⟩)
  refine hfmt.mono ?_
  rintro e w' ⟨rfl, k, v', dk, rfl, hF⟩
  have hcv : (convert 107 9 (.slice (some ⟨w.heap.size, 0, none⟩) (Lib.nDigits u) 24)).run Tryz.prog ((putRow (fun (b : UInt8) => Value.int .u8 (b.toNat : Int)) (w.alloc (.cells Lib.zeros24 137)) w.heap.size 0 dk).drewN k) = .ok (.string ⟨(Lib.decDigits u).toArray⟩) ((putRow (fun (b : UInt8) => Value.int .u8 (b.toNat : Int)) (w.alloc (.cells Lib.zeros24 137)) w.heap.size 0 dk).drewN k) := by
    have h := run_convert_bytes_back (P := Tryz.prog) ((putRow (fun (b : UInt8) => Value.int .u8 (b.toNat : Int)) (w.alloc (.cells Lib.zeros24 137)) w.heap.size 0 dk).drewN k) 107 9 5 ⟨w.heap.size, 0, none⟩ 24 (Lib.decDigits u) Tryz.underlying107 Tryz.underlying5 Tryz.underlying9 (fun j hj => by
      rw [Lib.row_is_numeral hF j hj, Lib.add_plain, World.cell?_drewN]
      exact cell?_putRow (fun (b : UInt8) => Value.int .u8 (b.toNat : Int)) _ w.heap.size 0 _ dk HH0.out (by rw [hF.size, Array.size_replicate]) j (by rw [hF.size]; rw [Lib.decDigits_length] at hj; exact hj))
    rw [Lib.decDigits_length] at h
    exact h
  go_wp2
  go_ret
  exact ⟨rfl, fin0 w _ dk k⟩
set_option maxRecDepth 100000 in
theorem fmt_any {w : World} {u : Nat} (hu64 : u < 18446744073709551616) (htab : Lib.TabIs Tryz.prog w "internal/strconv.uint64pow10" .u64 Lib.pow10Tab) : FmtOk w u := by
  by_cases hu : u < 100
  · exact fmt_small hu
  · intro w' x
    go_enter Tryz.func111, Tryz.ntmps111
    go_wp2_with fail
    refine (iFmt_big u (by omega) hu64 _ (tab_ext htab x)).mono ?_
    rintro e w1 ⟨rfl, hx1⟩
    go_wp2
    go_ret
    exact ⟨rfl, hx1⟩
theorem Text_all (v : Value) (z : Int) (w : World) (hX : RI w v z) (az : z.natAbs < lim) (htab : Lib.TabIs Tryz.prog w "internal/strconv.uint64pow10" .u64 Lib.pow10Tab) :
    Calls Tryz.prog 82 #[v] w fun e w' => e = .returned (.string ⟨(txt z).toArray⟩) ∧ Ext w w' :=
  Text_ok v z w hX az (fun g hg => fmt_any (by have := grp_lt _ _ g hg; omega) htab)
end Go.Proofs.YtjeijmnhbckjdaaGreatDoor

/- Decimal digits: the reference's text is the program's. -/
namespace Go.Proofs.YtjeijmnhbckjdaaGreatDoor
open Go.RowKit
set_option linter.unusedVariables false

end Go.Proofs.YtjeijmnhbckjdaaGreatDoor

/- Contract: the reference's text of an integer. -/
namespace Go.Proofs.YtjeijmnhbckjdaaGreatDoor
open Go.RowKit
set_option linter.unusedVariables false

/-- A row of bytes. -/
def RowB (w : World) (g : Nat) (p : List UInt8) (r : List Value) : Prop := Blk w g 5 (Lib.byteCells p ++ r).toArray
theorem RowB.at_ {w : World} {g k : Nat} {p : List UInt8} {r : List Value} {b : UInt8} (h : RowB w g p r) (hb : p[k]? = some b) : w.cell? ⟨g, k, none⟩ = some (.int .u8 (b.toNat : Int)) ∧ w.frozen? ⟨g, k, none⟩ = false := by
  refine ⟨?_, Blk.frozen h k⟩
  have hk : k < p.length := (List.getElem?_eq_some_iff.1 hb).1
  rw [Blk.cell h, List.getElem?_toArray, List.getElem?_append_left (by rw [Lib.byteCells_length]; exact hk)]
  simp [Lib.byteCells, hb]
theorem RowB.set {w : World} {g k : Nat} {p : List UInt8} {r : List Value} {b : UInt8} (h : RowB w g p r) (hk : k < p.length) : RowB (w.setCell ⟨g, k, none⟩ (.int .u8 (b.toNat : Int))) g (p.set k b) r := by
  have := Blk.setL (i := k) h (.int .u8 (b.toNat : Int))
  rw [List.set_append_left _ _ (by rw [Lib.byteCells_length]; exact hk)] at this
  unfold RowB
  rw [show Lib.byteCells (p.set k b) = (Lib.byteCells p).set k (.int .u8 (b.toNat : Int)) by simp [Lib.byteCells, List.map_set]]
  exact this
theorem RowB.of_own {w : World} {base n : Nat} {v : Value} {p : List UInt8} (h : w.ownsRow base 5 1 v n (Lib.byteCells p)) (hn : 0 < n) : ∃ g cap r, v = .slice (some ⟨g, 0, none⟩) n cap ∧ base ≤ g ∧ RowB w g p r ∧ n ≤ cap := by
  rcases h.2 with ⟨h1, h2⟩ | ⟨g, cap, cur, h1, h2, h3, h4, h5, h6, h7⟩
  · omega
  · refine ⟨g, cap, cur.toList.drop n, h1, h2, ?_, h4⟩
    unfold RowB
    have e : Lib.byteCells p = cur.toList.take n := by
      have := h7
      simpa using this.symm
    rw [e, List.take_append_drop]
    exact h3

end Go.Proofs.YtjeijmnhbckjdaaGreatDoor
