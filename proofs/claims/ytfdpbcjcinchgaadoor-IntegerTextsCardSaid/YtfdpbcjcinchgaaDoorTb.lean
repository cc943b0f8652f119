/- Contract: the decimal text of an integer. -/
import Derived.Test.YtfdpbcjcinchgaaDoorIn
import Derived.Test.YtfdpbcjcinchgaaDoorIi
import Derived.Test.YtfdpbcjcinchgaaDoorTa
import Derived.Test.YtfdpbcjcinchgaaDoorShelf
import Derived.Lib.ItoaNum
import Derived.Lib.UnsafeStr
import Derived.Lib.Repeat
import Derived.Deep.LoopGhost
namespace Go.Proofs.YtfdpbcjcinchgaaDoor
open Go.RowKit
set_option linter.unusedVariables false

/-- Groups of nine decimal digits, the lowest first. -/
def grpF : Nat → Nat → List Nat
  | 0, _ => []
  | f + 1, n => if n = 0 then [] else n % 1000000000 :: grpF f (n / 1000000000)
def grp (n : Nat) : List Nat := grpF n n
theorem grpF_any : ∀ (f g n : Nat), n ≤ f → n ≤ g → grpF f n = grpF g n
  | 0, g, n, h1, _ => by
    obtain rfl : n = 0 := by omega
    cases g <;> simp [grpF]
  | f + 1, 0, n, _, h2 => by
    obtain rfl : n = 0 := by omega
    simp [grpF]
  | f + 1, g + 1, n, h1, h2 => by
    unfold grpF
    split
    · rfl
    · rw [grpF_any f g (n / 1000000000) (by omega) (by omega)]
theorem grp_zero : grp 0 = [] := rfl
theorem grp_pos {n : Nat} (h : 0 < n) : grp n = n % 1000000000 :: grp (n / 1000000000) := by
  unfold grp
  obtain ⟨m, rfl⟩ : ∃ m, n = m + 1 := ⟨n - 1, by omega⟩
  rw [grpF, if_neg (by omega), grpF_any m ((m + 1) / 1000000000) _ (by omega) (Nat.le_refl _)]
theorem grp_len : ∀ (k n : Nat), n < 1000000000 ^ k → (grp n).length ≤ k
  | 0, n, h => by
    obtain rfl : n = 0 := by simpa using h
    simp [grp_zero]
  | k + 1, n, h => by
    rcases Nat.eq_zero_or_pos n with h0 | h0
    · subst h0; simp [grp_zero]
    · rw [grp_pos h0, List.length_cons]
      have : n / 1000000000 < 1000000000 ^ k := by
        rw [Nat.div_lt_iff_lt_mul (by omega), ← Nat.pow_succ]; exact h
      have := grp_len k _ this
      omega
theorem grp_len_digs {n m : Nat} (h : (digs n).length = m) : (grp n).length ≤ 2 * m := by
  have h1 : n < 4294967296 ^ m := by have := val_lt (dig_digs n); rw [val_digs, h] at this; exact this
  refine grp_len _ _ (Nat.lt_of_lt_of_le h1 ?_)
  rw [Nat.pow_mul]
  exact Nat.pow_le_pow_left (by decide) m
theorem grp_lt : ∀ (f n : Nat), ∀ g ∈ grpF f n, g < 1000000000
  | 0, n, g, h => by simp [grpF] at h
  | f + 1, n, g, h => by
    unfold grpF at h
    split at h
    · cases h
    · rcases List.mem_cons.1 h with h | h
      · subst h; omega
      · exact grp_lt f _ g h

theorem digs_some0 {k n : Nat} (h : (digs k).length = n) : 0 < n ↔ 0 < k := by
  rcases Nat.eq_zero_or_pos k with h0 | h0
  · subst h0; rw [digs_zero] at h; simp at h; omega
  · have : digs k ≠ [] := fun e => by rw [digs_nil] at e; omega
    have := List.length_pos_iff.2 this
    omega

/-- The text of groups. -/
def gtxt : List Nat → List UInt8
  | [] => []
  | [g] => Lib.decDigits g
  | g :: h :: t => gtxt (h :: t) ++ (List.replicate (9 - (Lib.decDigits g).length) 48 ++ Lib.decDigits g)
/-- The text of an integer. -/
def txt (z : Int) : List UInt8 := if z = 0 then [48] else (if z < 0 then [45] else []) ++ gtxt (grp z.natAbs)

theorem nDigits_le : ∀ (k u : Nat), u < 10 ^ (k + 1) → Lib.nDigits u ≤ k + 1
  | 0, u, h => by rw [Lib.nDigits_small (by simpa using h)]; omega
  | k + 1, u, h => by
    by_cases h10 : u < 10
    · rw [Lib.nDigits_small h10]; omega
    · rw [Lib.nDigits_big h10]
      have := nDigits_le k (u / 10) (by rw [Nat.div_lt_iff_lt_mul (by omega), ← Nat.pow_succ]; exact h)
      omega
theorem dec_len {g : Nat} (h : g < 1000000000) : (Lib.decDigits g).length ≤ 9 := by
  rw [Lib.decDigits_length]; exact nDigits_le 8 g h
theorem gtxt_len : ∀ (l : List Nat), (∀ g ∈ l, g < 1000000000) → (gtxt l).length ≤ 9 * l.length
  | [], _ => by simp [gtxt]
  | [g], h => by
    have := dec_len (h g (by simp))
    simp [gtxt]; omega
  | g :: h :: t, hl => by
    have h1 := gtxt_len (h :: t) (fun x hx => hl x (by simp [hx]))
    have h2 := dec_len (hl g (by simp))
    simp [gtxt] at h1 ⊢
    omega

theorem gtxt_more {l : List Nat} {j g : Nat} (hg : l[j]? = some g) (h : j + 1 < l.length) : gtxt (l.drop j) = gtxt (l.drop (j + 1)) ++ (List.replicate (9 - (Lib.decDigits g).length) 48 ++ Lib.decDigits g) := by
  obtain ⟨hj, rfl⟩ := List.getElem?_eq_some_iff.1 hg
  rw [List.drop_eq_getElem_cons hj, List.drop_eq_getElem_cons h, gtxt]
theorem gtxt_last {l : List Nat} {j g : Nat} (hg : l[j]? = some g) (h : ¬ j + 1 < l.length) : gtxt (l.drop j) = gtxt (l.drop (j + 1)) ++ Lib.decDigits g := by
  obtain ⟨hj, rfl⟩ := List.getElem?_eq_some_iff.1 hg
  rw [List.drop_eq_getElem_cons hj, List.drop_eq_nil_of_le (by omega), gtxt, gtxt, List.nil_append]
theorem pre_len {sg : Bool} {l : List Nat} {k : Nat} (hl : l.length ≤ 800) (h : ∀ g ∈ l, g < 1000000000) : (Lib.byteCells ((if sg then [45] else []) ++ gtxt (l.drop k))).length ≤ 8000 := by
  have h1 := gtxt_len (l.drop k) (fun g hg => h g (List.mem_of_mem_drop hg))
  rw [Lib.byteCells_length, List.length_append]
  have h2 : (if sg then [45] else [] : List UInt8).length ≤ 1 := by cases sg <;> simp
  simp at h1
  omega

theorem isB_ext {T e : TypeId} {B b : Nat} {bs : List Value} {w w' : World} (h : Lib.IsBuilder T e B b bs w) (x : Ext w w') : Lib.IsBuilder T e B b bs w' := by
  have go : ∀ p, Lib.BuilderAt T e B b p bs w → Lib.BuilderAt T e B b p bs w' := by
    rintro p ⟨h1, v, h2, h3, h4⟩
    exact ⟨h1, v, Blk.ext h2 x, own_ext h3 x, h4⟩
  rcases h with h | h
  · exact .inl (go _ h)
  · exact .inr (go _ h)
theorem Ext.below {w0 w w' : World} (h : Ext w0 w) (b : Below w0.heap.size w w') : Ext w0 w' := Below.trans h b

/-- trim, told of its slice. -/
def TrimR (A : Option Addr) (l : List Nat) (v : Value) : Prop := (digs (val l) = [] ∧ v = .slice none 0 0) ∨ (0 < (digs (val l)).length ∧ v = .slice A (digs (val l)).length (digs (val l)).length)
theorem trim_at (A : Option Addr) (n c : Nat) (l : List Nat) (w : World) (h : RM w A n c l) :
    Calls Tryd.prog 53 #[.slice A n c] w fun e w' => (∃ v, e = .returned v ∧ TrimR A l v) ∧ w = w' := by
  have hn : n ≤ 9223372036854775807 := Nat.le_trans h.nc h.cm
  have hnc := h.nc
  have hcm := h.cm
  have HL := Lib.hid h.len
  have HT := Lib.hid (trim_eq h.dg)
  have HLL := Lib.hid (show (digs (val l)).length = trimN l n by rw [← HT.out, HL.out, List.length_take, HL.out]; have := trimN_le l n; omega)
  go_enter Tryd.func53, Tryd.ntmps53
  go_wp2
  go_loop [3] (fun i => ∃ k : Nat, k ≤ n ∧ i = .int .i64 k ∧ trimN l n = trimN l k) (fun i => (intOf i).toNat)
  case atStart => exact ⟨n, Nat.le_refl _, rfl, rfl⟩
  case round =>
    obtain ⟨k, hk, rfl, ht⟩ := hrel
    have HK := Lib.hid ht; clear ht
    by_cases h0 : k = 0
    · subst h0
      go_wp2
      go_ret
      refine ⟨⟨_, rfl, .inl ⟨List.eq_nil_of_length_eq_zero ?_, rfl⟩⟩, rfl⟩
      rw [HLL.out, HK.out]
      rfl
    · obtain ⟨j, rfl⟩ : ∃ j, k = j + 1 := ⟨k - 1, by omega⟩
      obtain ⟨ad, x, rfl, hb, hx, hx32, hcx⟩ := h.at_ (k := j) (by omega)
      have HX := Lib.hid hx; clear hx
      by_cases hx0 : x = 0
      · subst hx0
        go_wp2
        go_round
        case rel => exact ⟨j, by omega, by go_num, by rw [HK.out, trimN_zero HX.out]⟩
        case measure => simp [intOf] <;> omega
      · have hne : ((x : Int) == 0) = false := by simp; omega
        go_wp2
        go_ret
        refine ⟨⟨_, rfl, .inr ?_⟩, rfl⟩
        rw [HLL.out, HK.out, trimN_stop HX.out hx0]
        exact ⟨by omega, rfl⟩

/-- The digits that are left, in a row of the call's own, apart from the groups. -/
def MRow (B gk : Nat) (gv mv : Value) (wr : World) : Prop := (mv = .slice none 0 0 ∧ gk = 0) ∨ ∃ g n c p r, mv = .slice (some ⟨g, 0, none⟩) n c ∧ B ≤ g ∧ RowX wr g p r ∧ p.length = n ∧ 0 < n ∧ n ≤ c ∧ n ≤ 400 ∧ c ≤ 9223372036854775807 ∧ val p = gk ∧ 0 < gk ∧ gv.ownBlock ≠ some g

/-- What FormatUint is asked for. -/
def FmtOk (w : World) (u : Nat) : Prop := ∀ w', Ext w w' → Calls Tryd.prog 56 #[.int .u64 (u : Int), .int .i64 10] w' fun e w'' => e = .returned (.string ⟨(Lib.decDigits u).toArray⟩) ∧ Ext w' w''

set_option maxRecDepth 100000 in
set_option maxHeartbeats 400000 in
theorem Text_bad (v : Value) (s : Bool) (l : List Nat) (w : World) (hX : RX w v s l) (hv : validB s l = false) :
    Calls Tryd.prog 23 #[v] w fun e w' => e = .returned (.string ⟨#[]⟩) ∧ Ext w w' := by
  obtain ⟨A, n, c, rfl, hx⟩ := hX
  have HV1 := Lib.hid hv; clear hv
  go_enter Tryd.func23, Tryd.ntmps23
  go_wp2_with fail
  refine (Valid_any _ A n c _ _ (hx.ext (Ext.new w _))).mono ?_
  rintro e w1 ⟨rfl, hx1⟩
  rw [HV1.out]
  go_wp2
  go_ret
  exact ⟨rfl, (Ext.new w _).trans hx1⟩

set_option maxRecDepth 100000 in
set_option maxHeartbeats 1600000 in
theorem Text_ok (v : Value) (z : Int) (w : World) (hX : RI w v z) (az : z.natAbs < lim) (hF : ∀ g ∈ grp z.natAbs, FmtOk w g) :
    Calls Tryd.prog 23 #[v] w fun e w' => e = .returned (.string ⟨(txt z).toArray⟩) ∧ Ext w w' := by
  have HV1 := Lib.hid (RI.valid hX az)
  have HF := Lib.hid hF; clear hF
  obtain ⟨A, n, c, rfl, hx⟩ := hX
  have hn := hx.le400 az
  have hlen := hx.len
  have HS := Lib.hid (digs_some0 hlen)
  have HGL := Lib.hid (grp_len_digs hlen)
  have HL := Lib.hid hlen; clear hlen
  generalize hsg : decide (z < 0) = sg at *
  have HSG := Lib.hid hsg; clear hsg
  go_enter Tryd.func23, Tryd.ntmps23
  go_wp2_with fail
  refine (Valid_any _ A n c _ _ (hx.ext (Ext.new w _))).mono ?_
  rintro e w1 ⟨rfl, hx1⟩
  rw [HV1.out]
  have b1 := (Blk.new w 24 #[.bool sg, .slice A n c]).ext hx1
  have c0 := b1.cell
  by_cases h0 : n = 0
  · subst h0
    go_wp2
    go_ret
    refine ⟨?_, (Ext.new w _).trans hx1⟩
    have hz : z = 0 := by
      rcases Nat.eq_zero_or_pos z.natAbs with h | h
      · omega
      · exact absurd (HS.out.2 h) (by omega)
    subst hz
    rfl
  · have t1 : ((n : Int) == 0) = false := by simp; omega
    have t2 : (n == 0) = false := by simp; omega
    go_wp2_with fail
    refine (clone_own A n c _ _ ((hx.ext (Ext.new w _)).ext hx1) (by omega)).mono ?_
    rintro e w2 ⟨v2, rfl, hown, hx2⟩
    rcases RowX.of_own hown hx.dg with ⟨_, hn0, _⟩ | ⟨g, cap, r, rfl, hg, hrow, hnc, hcm⟩
    · omega
    have hz0 := HS.out.1 (by omega)
    have hex0 : Ext w1 w2 := hx2
    clear hown hx2
    go_wp2_with fail
    go_loopg [3, 4] z.natAbs (fun gk gv mv wr => ∃ gs : List Nat, gs ++ grp gk = grp z.natAbs ∧ wr.ownsRow w1.heap.size 34 1 gv gs.length (mg gs) ∧ Ext w1 wr ∧ MRow w1.heap.size gk gv mv wr)
    case atStart => exact ⟨[], rfl, World.ownsRow_nil _ _ _ _, hex0, .inr ⟨g, n, cap, _, r, rfl, hg, hrow, HL.out, by omega, hnc, hn, hcm, val_digs _, hz0, by simp [Value.ownBlock]⟩⟩
    case round =>
      clear hrow hex0 hg hnc hcm
      obtain ⟨gs, hgs, hown, hex, hM⟩ := hrel
      have HGS := Lib.hid hgs; clear hgs
      rcases hM with ⟨rfl, rfl⟩ | ⟨g1, n1, c1, p, r1, rfl, hg1, hrow, hpl, hn1, hnc1, hn4, hcm1, hpv, hgk, hne⟩
      · obtain ⟨wb, rfl⟩ : ∃ wb, wb = wr := ⟨_, rfl⟩
        obtain rfl : gs = grp z.natAbs := by have := HGS.out; rwa [grp_zero, List.append_nil] at this
        have hd0 : Dig (grp z.natAbs) := fun g hg => by have := grp_lt _ _ g hg; omega
        have hG9 : ∀ g ∈ grp z.natAbs, g < 1000000000 := fun g hg => grp_lt _ _ g hg
        have hl8 : (grp z.natAbs).length ≤ 800 := by have := HGL.out; omega
        have HNE := Lib.hid (show z ≠ 0 by omega)
        have hgm : ∀ g ∈ grp z.natAbs, FmtOk w g := HF.out
        have htx : txt z = (if sg then [45] else []) ++ gtxt (grp z.natAbs) := by
          unfold txt
          rw [if_neg HNE.out, ← HSG.out]
          simp
        have HTX := Lib.hid htx; clear htx
        obtain ⟨GA, GN, GC, rfl, hG⟩ := RM.of_own hown hd0
        have hGL := hG.len
        have hgn8 : GN ≤ 800 := by omega
        generalize grp z.natAbs = gl at *
        have cb := ((b1.ext hex).alloc (.cells #[.pointer none, .slice none 0 0] 61)).cell
        have hB0 : Lib.IsBuilder 61 5 wb.heap.size wb.heap.size [] (wb.alloc (.cells #[.pointer none, .slice none 0 0] 61)) := Lib.fresh_isBuilder _ _ wb
        have HGM := Lib.hid hgm; have HG9 := Lib.hid hG9; have HGL2 := Lib.hid hGL; have HL8 := Lib.hid hl8
        clear hgm hG9 hGL hl8 hown hd0 HGS HF HGL
        have hwE : Ext w wb := (Ext.new w _).trans (hx1.trans hex)
        cases sg
        · go_wp2_with fail
          go_loopw [6] (fun i wx => ∃ k : Nat, k ≤ GN ∧ i = .int .i64 ((k : Int) - 1) ∧ Lib.IsBuilder 61 5 wb.heap.size wb.heap.size (Lib.byteCells ((if false then [45] else []) ++ gtxt (gl.drop k))) wx ∧ Ext wb wx) (fun i _ => (intOf i + 1).toNat)
          case atStart => exact ⟨GN, Nat.le_refl _, rfl, by rw [List.drop_eq_nil_of_le (by rw [HGL2.out]; exact Nat.le_refl _)]; exact hB0, (Ext.new wb _)⟩
          case round => 
            obtain ⟨k, hk, hi, hBx, hwx⟩ := hrel
            rcases Nat.eq_zero_or_pos k with hk0 | hk0
            · subst hk0
              obtain rfl := hi
              go_wp2_with fail
              refine (Tryd.Builder_String_any wb.heap.size wb.heap.size _ _ hBx hwx.size).mono ?_
              rintro e w8 ⟨rfl, hb8⟩
              go_wp2
              go_ret
              refine ⟨?_, hwE.trans (hwx.below hb8)⟩
              rw [HTX.out]
              rfl
            · obtain ⟨j, rfl⟩ : ∃ j, k = j + 1 := ⟨k - 1, by omega⟩
              have hi : _ = Value.int .i64 (j : Int) := hi.trans (by congr 1; omega)
              obtain rfl := hi
              obtain ⟨ad, g9, rfl, had, hg9, hg32, hcell⟩ := (hG.ext hwx).at_ (k := j) (by omega)
              have hmem : g9 ∈ gl := List.mem_of_getElem? hg9
              have hFm := HGM.out g9 hmem
              have hdl := dec_len (HG9.out g9 hmem)
              have hgl9 := Lib.hid hg9; clear hg9
              have hpl := pre_len (sg := false) (k := j + 1) HL8.out HG9.out
              have HPL9 := Lib.hid hpl; clear hpl
              have HDL := Lib.hid hdl; clear hdl
              obtain ⟨s9, hs9⟩ : ∃ s : ByteArray, s = ⟨(Lib.decDigits g9).toArray⟩ := ⟨_, rfl⟩
              have hz9 : s9.size = (Lib.decDigits g9).length := by rw [hs9]; simp [ByteArray.size]
              have hz99 : s9.size ≤ 9 := by rw [hz9]; exact HDL.out
              have hc9 : Lib.strCells s9 = Lib.byteCells (Lib.decDigits g9) := by rw [hs9]; rfl
              have HZ9 := Lib.hid hz9; have HC9 := Lib.hid hc9; have HS9 := Lib.hid hs9; clear hz9 hc9 hs9
              go_wp2_with fail
              refine (hFm _ (hwE.trans hwx)).mono ?_
              rintro e w7 ⟨rfl, hx7⟩
              rw [← HS9.out]
              have hBx7 := isB_ext hBx hx7
              have hwx7 := hwx.trans hx7
              by_cases hlast : j + 1 < GN
              · have t8 : ((j : Int) < (GN : Int) - 1) := by omega
                have t9 : decide ((j : Int) < (GN : Int) - 1) = true := by simp; omega
                have e9 : (9 : Int) - (s9.size : Int) = ((9 - s9.size : Nat) : Int) := by omega
                have HE9 := Lib.hid e9; clear e9
                go_wp2_with fail
                rw [HE9.out]
                refine (Tryd.strings_Repeat ⟨#[48]⟩ (9 - s9.size) _ (by omega) (by have h1 : (⟨#[48]⟩ : ByteArray).size = 1 := rfl; rw [h1]; omega)).mono ?_
                rintro e w8 ⟨rfl, hx8⟩
                have hx8 : Ext w7 w8 := hx8
                have hBx8 := isB_ext hBx7 hx8
                have hwx8 := hwx7.trans hx8
                obtain ⟨s8, hs8⟩ : ∃ s : ByteArray, s = ⟨(Lib.repeatL (⟨#[48]⟩ : ByteArray).data.toList (9 - s9.size)).toArray⟩ := ⟨_, rfl⟩
                have hr8 : Lib.repeatL (⟨#[48]⟩ : ByteArray).data.toList (9 - s9.size) = List.replicate (9 - (Lib.decDigits g9).length) 48 := by
                  rw [← HZ9.out]
                  have := Lib.repeatL_replicate 48 1 (9 - s9.size)
                  simpa using this
                have hz8 : s8.size ≤ 9 := by rw [hs8, hr8]; simp [ByteArray.size]
                have hc8 : Lib.strCells s8 = Lib.byteCells (List.replicate (9 - (Lib.decDigits g9).length) 48) := by rw [hs8, hr8]; rfl
                rw [← hs8]
                have HC8 := Lib.hid hc8; clear hs8 hr8 hc8
                go_wp2_with fail
                refine (wString_any wb.heap.size wb.heap.size _ s8 _ hBx8 (by have := HPL9.out; omega) hwx8.size).mono ?_
                rintro e w10 ⟨rfl, hBx10, hb10⟩
                have hwx10 := hwx8.below hb10
                go_wp2_with fail
                refine (wString_any wb.heap.size wb.heap.size _ s9 _ (.inr hBx10) (by rw [List.length_append, Lib.strCells_length]; have := HPL9.out; omega) hwx10.size).mono ?_
                rintro e w11 ⟨rfl, hBx11, hb11⟩
                have hwx11 := hwx10.below hb11
                go_wp2_with fail
                go_roundw
                case rel =>
                  refine ⟨j, by omega, by go_num, .inr ?_, hwx11⟩
                  rw [HC8.out, HC9.out, ← Lib.byteCells_append, ← Lib.byteCells_append] at hBx11
                  rw [gtxt_more hgl9.out (by rw [HGL2.out]; exact hlast)]
                  simpa using hBx11
                case measure => simp [intOf] <;> omega
              · have t8 : ¬ ((j : Int) < (GN : Int) - 1) := by omega
                have t9 : decide ((j : Int) < (GN : Int) - 1) = false := by simp; omega
                go_wp2_with fail
                refine (wString_any wb.heap.size wb.heap.size _ s9 _ hBx7 (by have := HPL9.out; omega) hwx7.size).mono ?_
                rintro e w11 ⟨rfl, hBx11, hb11⟩
                have hwx11 := hwx7.below hb11
                go_wp2_with fail
                go_roundw
                case rel =>
                  refine ⟨j, by omega, by go_num, .inr ?_, hwx11⟩
                  rw [HC9.out, ← Lib.byteCells_append] at hBx11
                  rw [gtxt_last hgl9.out (by rw [HGL2.out]; exact hlast)]
                  simpa using hBx11
                case measure => simp [intOf] <;> omega
        · go_wp2_with fail
          refine (wByte_any wb.heap.size wb.heap.size [] 45 _ hB0 (by simp) (by simp)).mono ?_
          rintro e w6 ⟨rfl, hB6, hbl6⟩
          have hB6 : Lib.IsBuilder 61 5 wb.heap.size wb.heap.size (Lib.byteCells [45]) w6 := .inr hB6
          have hx6 : Ext wb w6 := (Ext.new wb _).below hbl6
          go_wp2_with fail
          go_loopw [6] (fun i wx => ∃ k : Nat, k ≤ GN ∧ i = .int .i64 ((k : Int) - 1) ∧ Lib.IsBuilder 61 5 wb.heap.size wb.heap.size (Lib.byteCells ((if true then [45] else []) ++ gtxt (gl.drop k))) wx ∧ Ext wb wx) (fun i _ => (intOf i + 1).toNat)
          case atStart => exact ⟨GN, Nat.le_refl _, rfl, by rw [List.drop_eq_nil_of_le (by rw [HGL2.out]; exact Nat.le_refl _)]; exact hB6, hx6⟩
          case round => 
            obtain ⟨k, hk, hi, hBx, hwx⟩ := hrel
            rcases Nat.eq_zero_or_pos k with hk0 | hk0
            · subst hk0
              obtain rfl := hi
              go_wp2_with fail
              refine (Tryd.Builder_String_any wb.heap.size wb.heap.size _ _ hBx hwx.size).mono ?_
              rintro e w8 ⟨rfl, hb8⟩
              go_wp2
              go_ret
              refine ⟨?_, hwE.trans (hwx.below hb8)⟩
              rw [HTX.out]
              rfl
            · obtain ⟨j, rfl⟩ : ∃ j, k = j + 1 := ⟨k - 1, by omega⟩
              have hi : _ = Value.int .i64 (j : Int) := hi.trans (by congr 1; omega)
              obtain rfl := hi
              obtain ⟨ad, g9, rfl, had, hg9, hg32, hcell⟩ := (hG.ext hwx).at_ (k := j) (by omega)
              have hmem : g9 ∈ gl := List.mem_of_getElem? hg9
              have hFm := HGM.out g9 hmem
              have hdl := dec_len (HG9.out g9 hmem)
              have hgl9 := Lib.hid hg9; clear hg9
              have hpl := pre_len (sg := true) (k := j + 1) HL8.out HG9.out
              have HPL9 := Lib.hid hpl; clear hpl
              have HDL := Lib.hid hdl; clear hdl
              obtain ⟨s9, hs9⟩ : ∃ s : ByteArray, s = ⟨(Lib.decDigits g9).toArray⟩ := ⟨_, rfl⟩
              have hz9 : s9.size = (Lib.decDigits g9).length := by rw [hs9]; simp [ByteArray.size]
              have hz99 : s9.size ≤ 9 := by rw [hz9]; exact HDL.out
              have hc9 : Lib.strCells s9 = Lib.byteCells (Lib.decDigits g9) := by rw [hs9]; rfl
              have HZ9 := Lib.hid hz9; have HC9 := Lib.hid hc9; have HS9 := Lib.hid hs9; clear hz9 hc9 hs9
              go_wp2_with fail
              refine (hFm _ (hwE.trans hwx)).mono ?_
              rintro e w7 ⟨rfl, hx7⟩
              rw [← HS9.out]
              have hBx7 := isB_ext hBx hx7
              have hwx7 := hwx.trans hx7
              by_cases hlast : j + 1 < GN
              · have t8 : ((j : Int) < (GN : Int) - 1) := by omega
                have t9 : decide ((j : Int) < (GN : Int) - 1) = true := by simp; omega
                have e9 : (9 : Int) - (s9.size : Int) = ((9 - s9.size : Nat) : Int) := by omega
                have HE9 := Lib.hid e9; clear e9
                go_wp2_with fail
                rw [HE9.out]
                refine (Tryd.strings_Repeat ⟨#[48]⟩ (9 - s9.size) _ (by omega) (by have h1 : (⟨#[48]⟩ : ByteArray).size = 1 := rfl; rw [h1]; omega)).mono ?_
                rintro e w8 ⟨rfl, hx8⟩
                have hx8 : Ext w7 w8 := hx8
                have hBx8 := isB_ext hBx7 hx8
                have hwx8 := hwx7.trans hx8
                obtain ⟨s8, hs8⟩ : ∃ s : ByteArray, s = ⟨(Lib.repeatL (⟨#[48]⟩ : ByteArray).data.toList (9 - s9.size)).toArray⟩ := ⟨_, rfl⟩
                have hr8 : Lib.repeatL (⟨#[48]⟩ : ByteArray).data.toList (9 - s9.size) = List.replicate (9 - (Lib.decDigits g9).length) 48 := by
                  rw [← HZ9.out]
                  have := Lib.repeatL_replicate 48 1 (9 - s9.size)
                  simpa using this
                have hz8 : s8.size ≤ 9 := by rw [hs8, hr8]; simp [ByteArray.size]
                have hc8 : Lib.strCells s8 = Lib.byteCells (List.replicate (9 - (Lib.decDigits g9).length) 48) := by rw [hs8, hr8]; rfl
                rw [← hs8]
                have HC8 := Lib.hid hc8; clear hs8 hr8 hc8
                go_wp2_with fail
                refine (wString_any wb.heap.size wb.heap.size _ s8 _ hBx8 (by have := HPL9.out; omega) hwx8.size).mono ?_
                rintro e w10 ⟨rfl, hBx10, hb10⟩
                have hwx10 := hwx8.below hb10
                go_wp2_with fail
                refine (wString_any wb.heap.size wb.heap.size _ s9 _ (.inr hBx10) (by rw [List.length_append, Lib.strCells_length]; have := HPL9.out; omega) hwx10.size).mono ?_
                rintro e w11 ⟨rfl, hBx11, hb11⟩
                have hwx11 := hwx10.below hb11
                go_wp2_with fail
                go_roundw
                case rel =>
                  refine ⟨j, by omega, by go_num, .inr ?_, hwx11⟩
                  rw [HC8.out, HC9.out, ← Lib.byteCells_append, ← Lib.byteCells_append] at hBx11
                  rw [gtxt_more hgl9.out (by rw [HGL2.out]; exact hlast)]
                  simpa using hBx11
                case measure => simp [intOf] <;> omega
              · have t8 : ¬ ((j : Int) < (GN : Int) - 1) := by omega
                have t9 : decide ((j : Int) < (GN : Int) - 1) = false := by simp; omega
                go_wp2_with fail
                refine (wString_any wb.heap.size wb.heap.size _ s9 _ hBx7 (by have := HPL9.out; omega) hwx7.size).mono ?_
                rintro e w11 ⟨rfl, hBx11, hb11⟩
                have hwx11 := hwx7.below hb11
                go_wp2_with fail
                go_roundw
                case rel =>
                  refine ⟨j, by omega, by go_num, .inr ?_, hwx11⟩
                  rw [HC9.out, ← Lib.byteCells_append] at hBx11
                  rw [gtxt_last hgl9.out (by rw [HGL2.out]; exact hlast)]
                  simpa using hBx11
                case measure => simp [intOf] <;> omega
      · have HPV := Lib.hid hpv; clear hpv
        have HPL := Lib.hid hpl; clear hpl
        have hglen : gs.length ≤ 800 := by
          have h1 := HGL.out
          rw [← HGS.out, List.length_append] at h1
          omega
        have HG2 := Lib.hid (show (gs ++ [gk % 1000000000]) ++ grp (gk / 1000000000) = grp z.natAbs by rw [← HGS.out, grp_pos hgk]; simp)
        have hlt := Nat.div_lt_self hgk (show 1 < 1000000000 by omega)
        have hmod := Nat.mod_lt gk (show 0 < 1000000000 by omega)
        go_wp2_with fail
        refine (divWord_any g1 n1 c1 1000000000 p r1 _ hrow HPL.out (by omega) (by omega) (by omega)).mono ?_
        rintro e w3 ⟨rfl, q, hq, hql, hqv, ho3⟩
        rw [HPV.out] at hqv
        rw [HPV.out]
        have hown3 := own_only hown ho3 hne
        have hex3 := ho3.ext hex hg1
        have hgl3 : g1 < w3.heap.size := hq.1.lt
        have HQV := Lib.hid hqv; have HQL := Lib.hid hql; clear hqv hql
        clear hrow hown hex ho3
        generalize gk % 1000000000 = gm at *
        go_wp2_with (at_builtin; refine wpList_app elem_u32 rfl (.tmp 23) (.tmp 26) rfl w1.heap.size _ gs.length (mg gs) (by rfl) (hown3.alloc _) w3.heap.size 1 1 [.int .u32 (gm : Int)] (by rfl) (Blk.new _ _ _) rfl (by simp [Value.oneCell']) (by omega) (by omega) (by omega) (by have := hex3.size; simp; omega) ?_)
        intro g4 cap4 w4 ho4 hg4 hg4' _
        have hex4 := own_grown hg4 (hex3.alloc _) (fun g h => (hown3.lt g h).1)
        have hq4 : RowX w4 g1 q r1 := ⟨grown_blk hg4 (hq.1.alloc _) hne, hq.2⟩
        have hne4 : g4 ≠ g1 := by
          rintro rfl
          rcases hg4' with h | h
          · exact hne h
          · omega
        have HO4 := Lib.hid ho4; clear ho4 hg4 hg4' hown3 hq hex3 hne
        go_wp2_with fail
        refine (trim_at (some ⟨g1, 0, none⟩) n1 c1 q _ (hq4.rm HQL.out hnc1 hcm1)).mono ?_
        rintro e w5 ⟨⟨v5, rfl, ht⟩, rfl⟩
        unfold TrimR at ht
        rw [show val q = gk / 1000000000 from HQV.out] at ht
        have hM5 : MRow w1.heap.size (gk / 1000000000) (.slice (some ⟨g4, 0, none⟩) (gs.length + 1) cap4) v5 w4 := by
          rcases ht with ⟨h1, rfl⟩ | ⟨h1, rfl⟩
          · exact .inl ⟨rfl, digs_nil.1 h1⟩
          · have h2 := (digs_some0 (k := gk / 1000000000) rfl).1 h1
            have e1 := trim_eq hq4.2
            rw [show val q = gk / 1000000000 from HQV.out] at e1
            have e2 : (digs (gk / 1000000000)).length = trimN q q.length := by
              rw [← e1, List.length_take]
              have := trimN_le q q.length
              omega
            have e3 : q.take (digs (gk / 1000000000)).length = digs (gk / 1000000000) := by rw [e2, e1]
            have e4 : (digs (gk / 1000000000)).length ≤ n1 := by
              rw [e2, ← HQL.out]; exact trimN_le q q.length
            have h4 := hq4.head (digs (gk / 1000000000)).length
            rw [e3] at h4
            exact .inr ⟨g1, _, _, _, _, rfl, hg1, h4, rfl, h1, Nat.le_refl _, by omega, by omega, val_digs _, h2, by simpa [Value.ownBlock] using hne4⟩
        obtain ⟨A5, n5, c5, rfl⟩ : ∃ A n c, v5 = .slice A n c := by
          rcases ht with ⟨_, rfl⟩ | ⟨_, rfl⟩
          · exact ⟨_, _, _, rfl⟩
          · exact ⟨_, _, _, rfl⟩
        clear ht
        go_wp2_with fail
        go_roundg (gk / 1000000000)
        case measure => exact hlt
        case rel => exact ⟨gs ++ [gm], HG2.out, by simpa [mg] using HO4.out, hex4, by simpa using hM5⟩
end Go.Proofs.YtfdpbcjcinchgaaDoor
