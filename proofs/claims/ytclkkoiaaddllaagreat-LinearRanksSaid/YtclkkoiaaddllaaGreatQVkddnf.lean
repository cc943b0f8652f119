/- Linear: the reference's reduce. -/
import Derived.Test.YtclkkoiaaddllaaGreatQVjjgme
import Derived.Test.YtclkkoiaaddllaaGreatQVelhpc
import Derived.WalkMore
import Derived.Deep.LoopGhost
import Derived.Deep.Cut
import Derived.Deep.CutRange
namespace Go.Proofs.YtclkkoiaaddllaaGreat
open Go.RowKit
set_option linter.unusedVariables false

theorem bp_red {fn : Func} {R : Ending → World → Prop} {a : Act} {w : World} {t u s p g : Nat} {s1 s2 s3 : Bool} {A1 A2 A3 : Option Addr} {n1 c1 n2 c2 n3 c3 : Nat} (hr : fn.results = #[.tmp t, .tmp u, .tmp s, .cell p 32]) (hd : a.defers = []) (hp : a.tmps[p]?.getD undef = .pointer (some ⟨g, 0, none⟩)) (hb : Blk w g 32 #[.bool s1, .slice A1 n1 c1, .bool s2, .slice A2 n2 c2, .bool s3, .slice A3 n3 c3])
    (hR : R (.returned (.tuple #[a.tmps.getD t undef, a.tmps.getD u undef, a.tmps.getD s undef, gv s1 A1 n1 c1 s2 A2 n2 c2 s3 A3 n3 c3])) w) : bodyPost Tryz.prog fn R .ret a w :=
  bodyPost_ret (v := .tuple #[a.tmps.getD t undef, a.tmps.getD u undef, a.tmps.getD s undef, gv s1 A1 n1 c1 s2 A2 n2 c2 s3 A3 n3 c3]) (by simp [results, hr, hp, asAddr, load_gauss hb]) hd hR
theorem gauss_one6 {s1 s2 s3 : Bool} {A1 A2 A3 : Option Addr} {n1 c1 n2 c2 n3 c3 : Nat} : (#[.bool s1, .slice A1 n1 c1, .bool s2, .slice A2 n2 c2, .bool s3, .slice A3 n3 c3] : Array Value).all (·.oneCell') = true := by simp [Value.oneCell']
theorem put_gaussR {w w' : World} {g n : Nat} {q : GQ} {s1 s2 s3 : Bool} {A1 A2 A3 : Option Addr} {n1 c1 n2 c2 n3 c3 : Nat} {old : Array Value} (hx : Ext w w') (ho : w.heap.size ≤ g) (hb : Blk w' g 32 old) (hn : noIntB old = true) (h : GV w' (gv s1 A1 n1 c1 s2 A2 n2 c2 s3 A3 n3 c3) q n) :
    Ext w (w'.setRow g #[.bool s1, .slice A1 n1 c1, .bool s2, .slice A2 n2 c2, .bool s3, .slice A3 n3 c3]) ∧ Blk (w'.setRow g #[.bool s1, .slice A1 n1 c1, .bool s2, .slice A2 n2 c2, .bool s3, .slice A3 n3 c3]) g 32 #[.bool s1, .slice A1 n1 c1, .bool s2, .slice A2 n2 c2, .bool s3, .slice A3 n3 c3] ∧
      GV (w'.setRow g #[.bool s1, .slice A1 n1 c1, .bool s2, .slice A2 n2 c2, .bool s3, .slice A3 n3 c3]) (gv s1 A1 n1 c1 s2 A2 n2 c2 s3 A3 n3 c3) q n := by
  have hm := Only.setRow_mod w' g #[.bool s1, .slice A1 n1 c1, .bool s2, .slice A2 n2 c2, .bool s3, .slice A3 n3 c3]
  have hS : Far (fun k => k = g) w' := fun k hk _ => by subst hk; exact ⟨_, _, hb, hn⟩
  refine ⟨⟨hm.os.trans hx.os, hm.tape.trans hx.tape, hm.output.trans hx.output, Nat.le_trans hx.size hm.size, fun j hj => (hm.block j (Nat.lt_of_lt_of_le hj hx.size) (by show ¬ j = g; omega)).trans (hx.block j hj)⟩, setRow_blk hb, h.mod hm hS⟩
theorem MxC.lt {W : World} {G m n : Nat} {P : Nat → Prop} {R : Nat → Rw} {X : Nat → Nat → GQ} (h : MxC W G m n P R X) : MxC W G m n (fun g => P g ∧ g < W.heap.size) R X :=
  ⟨h.out, h.len, h.row, h.inj, fun i hi hn => ⟨h.mem i hi hn, (h.row i hi hn).2.lt⟩⟩
/-- What the reference returns as the determinant. -/
def rdet (m n : Nat) (X : Nat → Nat → GQ) : GQ := if (rech m X n).r < m ∨ (rech m X n).r < n then GQ.i 0 0 else (rech m X n).d
/-- The rows while the multiples of the pivot row are subtracted: row i in work, its first j numbers done. -/
def XD (Y : Nat → Nat → GQ) (r c j : Nat) : Nat → Nat → GQ := upd Y r (fun q => if q < j then Y r q / Y r c else Y r q)
def XI (Y : Nat → Nat → GQ) (r c i : Nat) : Nat → Nat → GQ := fun p q => if p = r then Y r q / Y r c else if p < i then Y p q - Y p c * (Y r q / Y r c) else Y p q
def XJ (Y : Nat → Nat → GQ) (r c i j : Nat) : Nat → Nat → GQ := upd (XI Y r c i) i (fun q => if q < j then Y i q - Y i c * (Y r q / Y r c) else Y i q)
theorem XD_0 (Y : Nat → Nat → GQ) (r c : Nat) : XD Y r c 0 = Y := by
  funext p q; unfold XD upd; by_cases e : p = r
  · subst e; rw [if_pos rfl]; simp
  · rw [if_neg e]
theorem XD_succ (Y : Nat → Nat → GQ) (r c j : Nat) : upd (XD Y r c j) r (upd (XD Y r c j r) j (Y r j / Y r c)) = XD Y r c (j + 1) := by
  funext p q; unfold XD; by_cases e : p = r
  · subst e; rw [upd_same, upd_same, upd_same]
    by_cases e2 : q = j
    · subst e2; rw [upd_same, if_pos (by omega)]
    · rw [upd_ne e2]
      by_cases h : q < j
      · rw [if_pos h, if_pos (by omega)]
      · rw [if_neg h, if_neg (by omega)]
  · rw [upd_ne e, upd_ne e, upd_ne e]
theorem XD_at (Y : Nat → Nat → GQ) (r c j : Nat) : XD Y r c j r j = Y r j := by
  unfold XD; rw [upd_same, if_neg (by omega)]
theorem XD_n {Y : Nat → Nat → GQ} {r c n q : Nat} (hq : q < n) (p : Nat) : XD Y r c n p q = XI Y r c 0 p q := by
  unfold XD XI upd
  by_cases e : p = r
  · subst e; rw [if_pos rfl, if_pos rfl, if_pos hq]
  · rw [if_neg e, if_neg e, if_neg (by omega)]
theorem XI_r (Y : Nat → Nat → GQ) (r c i q : Nat) : XI Y r c i r q = Y r q / Y r c := by unfold XI; rw [if_pos rfl]
theorem XI_at {Y : Nat → Nat → GQ} {r c i : Nat} (h : i ≠ r) (q : Nat) : XI Y r c i i q = Y i q := by unfold XI; rw [if_neg h, if_neg (by omega)]
theorem XI_skip {Y : Nat → Nat → GQ} {r c i : Nat} (h : i = r ∨ Y i c = GQ.i 0 0) (p q : Nat) : XI Y r c i p q = XI Y r c (i + 1) p q := by
  unfold XI
  by_cases e : p = r
  · rw [if_pos e, if_pos e]
  · rw [if_neg e, if_neg e]
    by_cases e2 : p < i
    · rw [if_pos e2, if_pos (by omega)]
    · rw [if_neg e2]
      by_cases e3 : p = i
      · subst e3
        rcases h with h | h
        · exact absurd h e
        · rw [if_pos (by omega), h, GQ.zero_mul', GQ.sub_zero']
      · rw [if_neg (by omega)]
theorem XJ_0 {Y : Nat → Nat → GQ} {r c i : Nat} (h : i ≠ r) (p q : Nat) : XJ Y r c i 0 p q = XI Y r c i p q := by
  unfold XJ upd
  by_cases e : p = i
  · subst e; rw [if_pos rfl, if_neg (by omega), XI_at h]
  · rw [if_neg e]
theorem XJ_succ (Y : Nat → Nat → GQ) (r c i j : Nat) : upd (XJ Y r c i j) i (upd (XJ Y r c i j i) j (Y i j - Y i c * (Y r j / Y r c))) = XJ Y r c i (j + 1) := by
  funext p q; unfold XJ; by_cases e : p = i
  · subst e; rw [upd_same, upd_same, upd_same]
    by_cases e2 : q = j
    · subst e2; rw [upd_same, if_pos (by omega)]
    · rw [upd_ne e2]
      by_cases h : q < j
      · rw [if_pos h, if_pos (by omega)]
      · rw [if_neg h, if_neg (by omega)]
  · rw [upd_ne e, upd_ne e, upd_ne e]
theorem XJ_at (Y : Nat → Nat → GQ) (r c i j : Nat) : XJ Y r c i j i j = Y i j := by
  unfold XJ; rw [upd_same, if_neg (by omega)]
theorem XJ_r {Y : Nat → Nat → GQ} {r c i : Nat} (h : i ≠ r) (j q : Nat) : XJ Y r c i j r q = Y r q / Y r c := by
  unfold XJ; rw [upd_ne (fun e => h e.symm), XI_r]
theorem XJ_n {Y : Nat → Nat → GQ} {r c i n q : Nat} (h : i ≠ r) (hq : q < n) (p : Nat) : XJ Y r c i n p q = XI Y r c (i + 1) p q := by
  unfold XJ upd XI
  by_cases e : p = i
  · subst e; rw [if_pos rfl, if_pos hq, if_neg h, if_pos (by omega)]
  · rw [if_neg e]
    by_cases e2 : p = r
    · rw [if_pos e2, if_pos e2]
    · rw [if_neg e2, if_neg e2]
      by_cases e3 : p < i
      · rw [if_pos e3, if_pos (by omega)]
      · rw [if_neg e3, if_neg (by omega)]
theorem XI_m {Y : Nat → Nat → GQ} {r c m p : Nat} (hp : p < m) (q : Nat) : XI Y r c m p q = red Y r c p q := by
  unfold XI red
  by_cases e : p = r
  · rw [if_pos e, if_pos e]
  · rw [if_neg e, if_neg e, if_pos hp]
/-- The cells of a number in a block of its own. -/
theorem RS.detc {W : World} {gd Ga Gb m n B0 ND : Nat} {X : Nat → Nat → GQ} {d : GQ} (h : RS W gd Ga Gb m n B0 ND X d) : ∃ e : En, Blk W gd 32 #[.bool e.s1, .slice e.A1 e.n1 e.c1, .bool e.s2, .slice e.A2 e.n2 e.c2, .bool e.s3, .slice e.A3 e.n3 e.c3] ∧ GV W e.v d ND := h.det
theorem RS.swap {W W' : World} {gd Ga Gb m n B0 ND k r : Nat} {X : Nat → Nat → GQ} {d : GQ} {R : Nat → Rw} (h : RS W gd Ga Gb m n B0 ND X d) (hA : MxC W Ga m n (fun g => B0 ≤ g ∧ g < gd) R X) (hk : k < m) (hr : r < m) (hab : Ga ≠ Gb)
    (eW : W' = (W.setCell ⟨Ga, k, none⟩ (.slice (R r).A n (R r).c)).setCell ⟨Ga, r, none⟩ (.slice (R k).A n (R k).c)) :
    RS W' gd Ga Gb m n B0 ND (fun i => X (swp k r i)) d ∧ Mod (fun g => g = Ga) W W' := by
  subst eW
  obtain ⟨⟨e0, h1, h2⟩, _, ⟨T, h4⟩⟩ := h
  obtain ⟨h5, h6⟩ := hA.swap hk hr
  obtain ⟨cs, hb, hi⟩ := hA.blk (by omega)
  have hfar : Far (fun g => g = Ga) W := fun g hg _ => by subst hg; exact ⟨_, _, hb, hi⟩
  exact ⟨⟨⟨e0, h1.mod h6 (fun e => hb.ne_t h1 (by decide) e.symm), h2.mod h6 hfar⟩, ⟨_, h5⟩, ⟨T, (h4.mod h6 hfar (fun e => hab e.symm) fun j hj hn => absurd hn (Nat.lt_irrefl 0)).to0⟩⟩, h6⟩
theorem RS.swapb {W W' : World} {gd Ga Gb m n B0 ND k r : Nat} {X : Nat → Nat → GQ} {d : GQ} {S : Nat → Rw} {Y : Nat → Nat → GQ} {PB : Nat → Prop} (h : RS W gd Ga Gb m n B0 ND X d) (hB : MxC W Gb m 0 PB S Y) (hk : k < m) (hr : r < m) (hab : Ga ≠ Gb)
    (eW : W' = (W.setCell ⟨Gb, k, none⟩ (.slice (S r).A 0 (S r).c)).setCell ⟨Gb, r, none⟩ (.slice (S k).A 0 (S k).c)) :
    RS W' gd Ga Gb m n B0 ND X d ∧ Mod (fun g => g = Gb) W W' := by
  subst eW
  obtain ⟨⟨e0, h1, h2⟩, ⟨R, hA⟩, _⟩ := h
  obtain ⟨h5, h6⟩ := hB.swap hk hr
  obtain ⟨cs, hb, hi⟩ := hB.blk (by omega)
  have hfar : Far (fun g => g = Gb) W := fun g hg _ => by subst hg; exact ⟨_, _, hb, hi⟩
  exact ⟨⟨⟨e0, h1.mod h6 (fun e => hb.ne_t h1 (by decide) e.symm), h2.mod h6 hfar⟩, ⟨R, hA.mod h6 hfar hab fun j hj hn => hA.ne hj hn hb (by decide)⟩, ⟨_, h5.to0⟩⟩, h6⟩
set_option maxRecDepth 100000 in
set_option maxHeartbeats 12800000 in
theorem qreduce_ok {w : World} {A A2 : Option Addr} {B O m c B2 O2 c2 n N ND : Nat} {R R2 : Nat → Rw} {E E2 : Nat → Nat → En} {X : Nat → Nat → GQ} (h : Mem w A B O m R E) (hn : ∀ i, i < m → (R i).n = n) (hv : ∀ i j, i < m → j < n → GV w (E i j).v (X i j) 12800)
    (h2 : Mem w A2 B2 O2 m R2 E2) (hn2 : ∀ i, i < m → (R2 i).n = 0) (h0 : m = 0 → n = 0) (hm : m ≤ 24) (hna : n ≤ 24) (hN : 3 * N + 67 ≤ 12800) (hND : ND + N + 65 ≤ 12800) (hD1 : 64 ≤ ND) (hroom : RoomR N ND m n X) :
    Calls Tryz.prog 32 #[.slice A m c, .slice A2 m c2] w fun e w' => ∃ a b v, e = .returned (.tuple #[a, b, .int .i64 (rech m X n).r, v]) ∧ GV w' v (rdet m n X) 12800 ∧ Ext w w' := by
  have HM := Lib.hid h; have HN := Lib.hid hn; have HV := Lib.hid hv; have HM2 := Lib.hid h2; have HN2 := Lib.hid hn2; have HR := Lib.hid hroom
  clear h hn hv h2 hn2 hroom
  have hE0 := Ext.new w (.cells #[.bool false, .slice none 0 0, .bool false, .slice none 0 0, .bool false, .slice none 0 0] 32)
  have hB0 := Blk.new w 32 #[.bool false, .slice none 0 0, .bool false, .slice none 0 0, .bool false, .slice none 0 0]
  have hs0 : (w.alloc (.cells #[.bool false, .slice none 0 0, .bool false, .slice none 0 0, .bool false, .slice none 0 0] 32)).heap.size = w.heap.size + 1 := by simp
  go_enter Tryz.func32, Tryz.ntmps32
  go_wp2_with fail
  generalize (w.alloc (.cells #[.bool false, .slice none 0 0, .bool false, .slice none 0 0, .bool false, .slice none 0 0] 32)) = w0 at hE0 hB0 hs0 ⊢
  generalize hg7 : w.heap.size = g7 at hB0 hs0 ⊢
  have HG7 := Lib.hid hg7; clear hg7
  refine (copied_ok (HM.out.ext hE0) HN.out (fun i j hi hj => (HV.out i j hi hj).ext hE0) hm hna).mono ?_
  rintro e w1 ⟨A1, Ga, capA, RX, rfl, hA1, hmx1, hga, hx1⟩
  have HE1 := Lib.hid (hE0.trans hx1); have HX1 := Lib.hid hx1; have HMX1 := Lib.hid hmx1.lt; have HGA := Lib.hid hga; have HA1 := Lib.hid hA1
  have HGL : Hid (0 < m → Ga < w1.heap.size) := Lib.hid fun h => by obtain ⟨cs, hb, _⟩ := hmx1.blk h; exact hb.lt
  clear hx1 hmx1 hga hA1 HV HN
  go_wp2_with fail
  refine (copied_ok (n := 0) (X := fun _ _ => GQ.i 0 0) (HM2.out.ext HE1.out) HN2.out (fun i j hi hj => absurd hj (Nat.not_lt_zero j)) hm (by omega)).mono ?_
  rintro e w2 ⟨A1', Gb, capB, RY, rfl, hB1, hmx2, hgb, hx2⟩
  have HX2 := Lib.hid hx2; have HMX2 := Lib.hid hmx2; have HGB := Lib.hid hgb; have HB1 := Lib.hid hB1
  clear hx2 hmx2 hgb hB1 HN2
  go_wp2_with fail
  refine (qI_ok 1 0 _ (by omega) (by omega) (by omega) (by omega)).mono ?_
  rintro e w3 ⟨t1, D1, p1, q1, t2, D2, p2, q2, t3, D3, p3, q3, rfl, hv3, hx3⟩
  have HX3 := Lib.hid hx3; have HV3 := Lib.hid hv3
  clear hx3 hv3
  have hxn := Ext.new w3 (.cells #[.bool t1, .slice D1 p1 q1, .bool t2, .slice D2 p2 q2, .bool t3, .slice D3 p3 q3] 32)
  have hbn := Blk.new w3 32 #[.bool t1, .slice D1 p1 q1, .bool t2, .slice D2 p2 q2, .bool t3, .slice D3 p3 q3]
  go_wp2_with fail
  have HSZ := Lib.hid (Nat.le_trans HX2.out.size HX3.out.size)
  have HSZ1 := Lib.hid HX1.out.size
  have HE4 : Hid (Ext w (w3.alloc (.cells #[.bool t1, .slice D1 p1 q1, .bool t2, .slice D2 p2 q2, .bool t3, .slice D3 p3 q3] 32))) := Lib.hid (HE1.out.trans (HX2.out.trans (HX3.out.trans hxn)))
  have HB4 : Hid (Blk (w3.alloc (.cells #[.bool t1, .slice D1 p1 q1, .bool t2, .slice D2 p2 q2, .bool t3, .slice D3 p3 q3] 32)) g7 32 #[.bool false, .slice none 0 0, .bool false, .slice none 0 0, .bool false, .slice none 0 0]) := Lib.hid (hB0.ext (HX1.out.trans (HX2.out.trans (HX3.out.trans hxn))))
  have HRS : Hid (RS (w3.alloc (.cells #[.bool t1, .slice D1 p1 q1, .bool t2, .slice D2 p2 q2, .bool t3, .slice D3 p3 q3] 32)) w3.heap.size Ga Gb m n (g7 + 1) ND X (GQ.i 1 0)) := Lib.hid (by
    refine ⟨⟨⟨t1, D1, p1, q1, t2, D2, p2, q2, t3, D3, p3, q3⟩, hbn, (HV3.out.ext hxn).up hD1⟩, ⟨RX, (HMX1.out.ext (HX2.out.trans (HX3.out.trans hxn))).mono fun g hg => ⟨by have := hg.1; omega, by have := hg.2; have := HSZ.out; omega⟩⟩, ⟨RY, (HMX2.out.ext (HX3.out.trans hxn)).to0⟩⟩)
  have HGG : Hid (0 < m → Ga ≠ Gb ∧ g7 + 1 ≤ Ga ∧ g7 + 1 ≤ Gb ∧ g7 + 1 ≤ w3.heap.size) := Lib.hid fun h => by
    have h1 := HGL.out h; have h2 := HGB.out h; have h3 := HGA.out h; have h4 := HSZ1.out; have h5 := HSZ.out
    omega
  have HGD : Hid (g7 + 1 ≤ w3.heap.size) := Lib.hid (by have h4 := HSZ1.out; have h5 := HSZ.out; omega)
  clear hxn hbn HX1 HX2 HX3 HV3 HMX1 HMX2 HGL HGB HGA HSZ HSZ1 HE1 hE0 hB0 HM HM2
  generalize (w3.alloc (.cells #[.bool t1, .slice D1 p1 q1, .bool t2, .slice D2 p2 q2, .bool t3, .slice D3 p3 q3] 32)) = w4 at HE4 HB4 HRS ⊢
  generalize w3.heap.size = gd at HRS HGG HGD ⊢
  go_loopw [9, 10] (fun r i wr => ∃ c : Nat, c ≤ n ∧ i = .int .i64 c ∧ r = .int .i64 (rech m X c).r ∧ RS wr gd Ga Gb m n (g7 + 1) ND (rech m X c).X (rech m X c).d ∧ Mod (fun g => g7 + 1 ≤ g) w4 wr) (fun _ i _ => n - (intOf i).toNat)
  case atStart => exact ⟨0, by omega, rfl, rfl, HRS.out, Mod.refl _ _⟩
  case round =>
    obtain ⟨c, hc, rfl, rfl, hrs, hmod⟩ := hrel
    replace HRS := Lib.hid hrs; have HMD := Lib.hid hmod; clear hrs hmod
    obtain ⟨o, P, hI⟩ := rech_inv m X c
    have hrm : (rech m X c).r ≤ m := by rw [hI.re]; exact hI.inv.rm
    have hrc : (rech m X c).r ≤ c := by rw [hI.re]; exact ech_le' m X c
    have hz : ∀ i j, (rech m X c).r ≤ i → i < m → j < c → (rech m X c).X i j = GQ.i 0 0 := fun i j h1 h2 h3 => by
      rw [hI.lo i (by rw [← hI.re]; exact h1) h2]; exact hI.inv.z i j (by rw [← hI.re]; exact h1) h2 h3
    clear hI
    have HBX := Lib.hid (HR.out.x c hc); have HBD := Lib.hid (HR.out.d c hc)
    have HNX := Lib.hid (HR.out.x (c + 1)); have HND := Lib.hid (HR.out.d (c + 1))
    have HST := Lib.hid (rech_stop (m := m) (Z := X) (c := c))
    have hnx : rech m X (c + 1) = rstep m c (rech m X c) := rfl
    have hfin : c = n → rech m X n = rech m X c := fun e => by rw [e]
    rw [hnx] at HNX HND
    generalize rech m X c = s at *
    have HNE := Lib.hid hnx; have HFN := Lib.hid hfin; clear hnx hfin hz
    have HBW := Lib.hid (HB4.out.mod HMD.out (by show ¬ g7 + 1 ≤ g7; omega))
    have HEW := Lib.hid (HMD.out.ext_of HE4.out (by have := HG7.out; omega))
    obtain ⟨RXc, hA⟩ := HRS.out.a
    have hAc : 0 < m → A1 = some ⟨Ga, 0, none⟩ := HA1.out
    have hBc : 0 < m → A1' = some ⟨Gb, 0, none⟩ := HB1.out
    go_wp2_with fail
    refine (qcolumns_own hA hAc h0 (by omega)).mono ?_
    rintro e wc ⟨rfl, hxc⟩
    have HXC := Lib.hid hxc
    have HRSC := Lib.hid (HRS.out.ext hxc); have HMDC := Lib.hid (HMD.out.trans (Mod.of hxc)); have HBWC := Lib.hid (HBW.out.ext hxc); have HEWC := Lib.hid (HEW.out.trans hxc)
    clear hxc HRS HMD HBW HEW hA
    by_cases hlt : c < n
    · have hd : decide ((c : Int) < (n : Int)) = true := by simp; omega
      by_cases hfull : s.r < m
      · have hd2 : decide ((s.r : Int) < (m : Int)) = true := by simp; omega
        have hAe := hAc (by omega); have hBe := hBc (by omega)
        subst hAe; subst hBe
        clear hAc hBc HA1 HB1 HST HFN
        obtain ⟨hab, hga, hgb, hgd⟩ := HGG.out (by omega)
        have HAB := Lib.hid hab; have HLE := Lib.hid (And.intro hga (And.intro hgb hgd)); clear hab hga hgb hgd
        -- MAIN<
        go_wp2_with fail
        go_loopw [11] (fun i w2 => ∃ k : Nat, s.r ≤ k ∧ k ≤ m ∧ i = .int .i64 k ∧ (∀ i, s.r ≤ i → i < k → s.X i c = GQ.i 0 0) ∧ Ext wc w2) (fun i _ => m - (intOf i).toNat)
        case atStart => exact ⟨s.r, Nat.le_refl _, hrm, rfl, by intros; omega, Ext.refl _⟩
        case round =>
          clear hd hd2
          obtain ⟨k, hk1, hk2, rfl, hz, hx⟩ := hrel
          have HX := Lib.hid hx; have HZK := Lib.hid hz; clear hx hz
          by_cases hkm : k < m
          · have d1 : decide ((k : Int) < (m : Int)) = true := by simp; omega
            have d2 : decide ((c : Int) < (n : Int)) = true := by simp; omega
            obtain ⟨RXk, hA⟩ := HRSC.out.a
            obtain ⟨cap, f, hRA, hcap, hf, hv⟩ := hA.at_ hkm hlt
            have k1 := hA.cell hkm
            rw [hRA] at k1
            replace k1 := HX.out.cell_ k1
            obtain ⟨a0, a1, a2, a3, a4, a5⟩ := RowIs.cells (hf.ext HX.out) (show c < cap by omega) rfl
            have HVq := Lib.hid ((hv c hlt).ext HX.out)
            clear hv hf hA
            go_wp2_with fail
            by_cases h0 : s.X k c = GQ.i 0 0
            · refine (qZero_yes _ _ _ _ HVq.out (by omega) h0).mono ?_
              rintro e w3 ⟨rfl, hx3⟩
              have HX3 := Lib.hid (HX.out.trans hx3); clear hx3 k1 a0 a1 a2 a3 a4 a5
              have HZ1 : Hid (∀ i, s.r ≤ i → i < k + 1 → s.X i c = GQ.i 0 0) := Lib.hid fun i h1 h2 => by
                by_cases e : i = k
                · subst e; exact h0
                · exact HZK.out i h1 (by omega)
              clear h0
              go_wp2_with fail
              go_roundw
              case rel => exact ⟨k + 1, by omega, by omega, by go_num, HZ1.out, HX3.out⟩
              case measure => simp [intOf]; omega
            · refine (qZero_no _ _ _ _ HVq.out (by omega) h0).mono ?_
              rintro e w3 ⟨rfl, hx3⟩
              have HX3 := Lib.hid (HX.out.trans hx3); clear hx3 k1 a0 a1 a2 a3 a4 a5
              have hnx : rech m X (c + 1) = ⟨s.r + 1, red (fun i => s.X (swp k s.r i)) s.r c, (if k = s.r then s.d else s.d * GQ.i (-1) 0) * s.X k c⟩ := by
                rw [HNE.out]; exact rstep_some (fp_some hk1 (by omega) HZK.out h0)
              have hb1 := HNX.out (by omega); have hb2 := HND.out (by omega)
              rw [← HNE.out, hnx] at hb1 hb2
              have HNE2 := Lib.hid hnx; have HB1' := Lib.hid hb1; have HB2' := Lib.hid hb2
              clear hnx hb1 hb2 HNE HNX HND
              have HH0 := Lib.hid h0; clear h0 hRA hcap HVq
              have HRS3 := Lib.hid (HRSC.out.ext HX3.out); have HMD3 := Lib.hid (HMDC.out.trans (Mod.of HX3.out))
              have HBY : Hid (∀ i j, i < m → j < n → Bd (s.X (swp k s.r i) j) N) := Lib.hid fun i j hi hj => HBX.out _ j (swp_lt hkm hfull hi) hj
              have HKB := Lib.hid (And.intro hk1 hk2)
              clear HRSC HMDC HBWC HEWC HX HX3 HZK HXC HBX
              have dk : ((k : Int) == (m : Int)) = false := by simp; omega
              go_upto_if 59 with fail
              go_cut [] from 57 to 90 (fun wx => RS wx gd Ga Gb m n (g7 + 1) ND (fun i => s.X (swp k s.r i)) (if k = s.r then s.d else s.d * GQ.i (-1) 0) ∧ Mod (fun g => g7 + 1 ≤ g) w4 wx)
              case first =>
                by_cases hkr : k = s.r
                · have dne : ((k : Int) != (s.r : Int)) = false := by simp [hkr]
                  go_wp2_with fail
                  go_meet
                  case rel =>
                    refine ⟨?_, HMD3.out⟩
                    rw [if_pos hkr, hkr]
                    have e : (fun i => s.X (swp s.r s.r i)) = s.X := by funext i; rw [swp_self]
                    rw [e]; exact HRS3.out
                · have dne : ((k : Int) != (s.r : Int)) = true := by simp; omega
                  obtain ⟨RXs, hA⟩ := HRS3.out.a
                  have k1 := hA.cell hkm; have k2 := hA.cell hfull
                  obtain ⟨capo, Ro, ho1, ho2, ho3⟩ := hA.out (by omega)
                  have f1 := ho2.frozen
                  have q1 : decide ((k : Int) < (m : Int)) = true := by simp; omega
                  have q2 : decide ((s.r : Int) < (m : Int)) = true := by simp; omega
                  have HAs := Lib.hid hA; clear hA ho2 ho3
                  go_wp2_with fail
                  go_region
                  generalize hW : World.setCell _ _ _ = w41
                  obtain ⟨hrs4, hm4⟩ := HRS3.out.swap HAs.out hkm hfull HAB.out hW.symm
                  have HRS4 := Lib.hid hrs4; have HMD4 := Lib.hid (HMD3.out.trans (hm4.mono fun g hg => by subst hg; exact HLE.out.1))
                  clear hrs4 hm4 hW k1 k2 f1 HAs HRS3 HMD3
                  obtain ⟨RYs, hB⟩ := HRS4.out.b
                  have k1 := hB.cell hkm; have k2 := hB.cell hfull
                  obtain ⟨capo2, Ro2, ho1', ho2, ho3⟩ := hB.out (by omega)
                  have f1 := ho2.frozen
                  have HBs := Lib.hid hB; clear hB ho2 ho3
                  go_wp2_with fail
                  go_region
                  generalize hW : World.setCell _ _ _ = w42
                  obtain ⟨hrs4, hm4⟩ := HRS4.out.swapb HBs.out hkm hfull HAB.out hW.symm
                  have HRS42 := Lib.hid hrs4; have HMD42 := Lib.hid (HMD4.out.trans (hm4.mono fun g hg => by subst hg; exact HLE.out.2.1))
                  clear hrs4 hm4 hW k1 k2 f1 HBs HRS4 HMD4
                  replace HRS42 := Lib.hid (HRS42.out.ext (Ext.refl w42).drew.drew); replace HMD42 := Lib.hid (HMD42.out.trans (Mod.of (Ext.refl w42).drew.drew))
                  generalize hdw : w42.drew.drew = w43 at HRS42 HMD42 ⊢
                  clear hdw
                  obtain ⟨e5, hd5, hdv5⟩ := HRS42.out.detc
                  have BD := ExtOf.blk hd5
                  have HD5 := Lib.hid hd5; have HDV5 := Lib.hid hdv5; clear hd5 hdv5
                  go_wp2_with fail
                  refine wp_region_ordE 2 [(true, 0), (false, 1)] (by kernel_rfl) (by kernel_rfl) ?_
                  refine wpOrdT_quiet [0] [(false, 1)] _ (by kernel_rfl) ?_
                  simp only [nthOps, nthOp, List.cons_append, List.nil_append]
                  repeat (go_big_quiet_step (fail))
                  refine wpQuiet_nil ?_
                  refine wpOrdT_act 1 [] (by kernel_rfl) ?_
                  intro K hK
                  simp only [nthOp]
                  go_wp2_with fail
                  refine (qI_ok (-1) 0 _ (by omega) (by omega) (by omega) (by omega)).mono ?_
                  rintro e w9 ⟨t1, D1, p1, q1_, t2, D2, p2, q2_, t3, D3, p3, q3_, rfl, hv9, hx9⟩
                  have HX9 := Lib.hid hx9.undrew; have HV9 := Lib.hid hv9; clear hv9 hx9
                  go_wp2
                  refine hK _ _ ⟨⟨w9, HX9.out⟩, rfl⟩ ?_
                  clear hK K BD
                  simp only [wpOrdT, List.drop_succ_cons, List.drop_zero]
                  go_wp2_with fail
                  refine (qMul_g _ _ s.d (GQ.i (-1) 0) ND 64 _ (HDV5.out.ext HX9.out) HV9.out (by omega)).mono ?_
                  rintro e w10 ⟨v10, rfl, hv10, hx10⟩
                  obtain ⟨u1, F1, m1_, b1_, u2, F2, m2_, b2_, u3, F3, m3_, b3_, rfl⟩ := hv10.opn
                  have HX10 := Lib.hid (HX9.out.trans hx10)
                  have HV10 := Lib.hid (hv10.to (by rw [GQ.mul_m1]; exact HBD.out.neg)); clear hv10 hx10
                  have kd := (HD5.out.ext HX10.out).cell; have fd := (HD5.out.ext HX10.out).frozen
                  have HRS10 := Lib.hid (HRS42.out.ext HX10.out)
                  go_wp2_with fail
                  generalize hW : World.setCell _ _ _ = w5
                  obtain ⟨hrs5, hm5⟩ := HRS10.out.putd (e := ⟨u1, F1, m1_, b1_, u2, F2, m2_, b2_, u3, F3, m3_, b3_⟩) HV10.out (by omega) hW.symm
                  go_meet
                  case rel =>
                    refine ⟨by rw [if_neg hkr]; exact hrs5, (HMD42.out.trans (Mod.of HX10.out)).trans (hm5.mono (T := fun g => g7 + 1 ≤ g) fun g hg => by subst hg; exact HLE.out.2.2)⟩
              case rest =>
                obtain ⟨hrs5, hmd5⟩ := hcut
                have HRS5 := Lib.hid hrs5; have HMD5 := Lib.hid hmd5
                clear hrs5 hmd5 HRS3 HMD3
                obtain ⟨w5, hw5⟩ : ∃ x, x = wc := ⟨_, rfl⟩
                subst hw5
                have HYR : Hid ((fun i => s.X (swp k s.r i)) s.r c = s.X k c) := Lib.hid (by simp only [swp_r])
                generalize hYd : (fun i => s.X (swp k s.r i)) = Y at HYR HNE2 HB1' HB2' HRS5
                have HBYY : Hid (∀ i j, i < m → j < n → Bd (Y i j) N) := Lib.hid fun i j hi hj => by rw [← hYd]; exact HBY.out i j hi hj
                clear HBY hYd
                have hyr := HYR.out
                rw [← hyr] at HNE2 HB2' HH0
                clear hyr HYR
                generalize (if k = s.r then s.d else s.d * GQ.i (-1) 0) = d5 at HNE2 HB1' HB2' HRS5
                have HQ : Hid (∀ j, j < n → Bd (Y s.r j / Y s.r c) N) := Lib.hid fun j hj => by
                  have h1 : Bd (red Y s.r c s.r j) N := HB1'.out s.r j hfull hj
                  unfold red at h1; rw [if_pos rfl] at h1; exact h1
                have HBD2 : Hid (Bd (d5 * Y s.r c) ND) := Lib.hid HB2'.out
                clear HB1' HB2'
                obtain ⟨R5, hA5⟩ := HRS5.out.a
                obtain ⟨cap5, f5, hRA5, hcap5, hf5, hv5⟩ := hA5.at_ hfull hlt
                have k1 := hA5.cell hfull
                rw [hRA5] at k1
                obtain ⟨a0, a1, a2, a3, a4, a5⟩ := RowIs.cells hf5 (show c < cap5 by omega) rfl
                obtain ⟨e5, hd5, hdv5⟩ := HRS5.out.detc
                have q1 : decide ((s.r : Int) < (m : Int)) = true := by simp; omega
                have q2 : decide ((c : Int) < (n : Int)) = true := by simp; omega
                have hxn := Ext.new w5 (.cells #[.bool (f5 c).s1, .slice (f5 c).A1 (f5 c).n1 (f5 c).c1, .bool (f5 c).s2, .slice (f5 c).A2 (f5 c).n2 (f5 c).c2, .bool (f5 c).s3, .slice (f5 c).A3 (f5 c).n3 (f5 c).c3] 32)
                have hbn := Blk.new w5 32 #[.bool (f5 c).s1, .slice (f5 c).A1 (f5 c).n1 (f5 c).c1, .bool (f5 c).s2, .slice (f5 c).A2 (f5 c).n2 (f5 c).c2, .bool (f5 c).s3, .slice (f5 c).A3 (f5 c).n3 (f5 c).c3]
                have kd := (hd5.ext hxn).cell
                have HFV := Lib.hid ((hv5 c hlt).to (HBYY.out s.r c hfull hlt)); have HD5 := Lib.hid hd5; have HDV := Lib.hid hdv5; have HXN := Lib.hid hxn; have HBN := Lib.hid hbn
                clear hv5 hf5 hA5 hd5 hdv5 hxn hbn
                go_wp2_with fail
                refine (qMul_g _ _ d5 (Y s.r c) ND N _ (HDV.out.ext HXN.out) (HFV.out.ext HXN.out) (by omega)).mono ?_
                rintro e w6 ⟨v6, rfl, hv6, hx6⟩
                obtain ⟨u1, F1, m1_, b1_, u2, F2, m2_, b2_, u3, F3, m3_, b3_, rfl⟩ := hv6.opn
                have HX6 := Lib.hid (HXN.out.trans hx6)
                have HV6 := Lib.hid (hv6.to HBD2.out)
                have HBF := Lib.hid (HBN.out.ext hx6)
                have HRS6 := Lib.hid (HRS5.out.ext HX6.out)
                have kd6 := (HD5.out.ext HX6.out).cell; have fd6 := (HD5.out.ext HX6.out).frozen
                have HGF := Lib.hid HD5.out.lt
                clear hx6 hv6 kd k1 a0 a1 a2 a3 a4 a5 hRA5
                go_upto_region 17 with fail
                generalize hW : World.setCell _ _ _ = w7
                obtain ⟨hrs7, hm7⟩ := HRS6.out.putd (e := ⟨u1, F1, m1_, b1_, u2, F2, m2_, b2_, u3, F3, m3_, b3_⟩) HV6.out (by omega) hW.symm
                have hfd := RS.detfar (show Blk w6 gd 32 e5.cells.toArray from HD5.out.ext HX6.out)
                have HRS7 := Lib.hid hrs7
                have HMD7 := Lib.hid ((HMD5.out.trans (Mod.of HX6.out)).trans (hm7.mono (T := fun g => g7 + 1 ≤ g) fun g hg => by subst hg; exact HLE.out.2.2))
                have HBF7 := Lib.hid (HBF.out.mod hm7 (by have := HGF.out; show ¬ w5.heap.size = gd; omega))
                have HFV7 := Lib.hid ((HFV.out.ext HX6.out).mod hm7 hfd)
                clear hrs7 hm7 hfd hW kd6 fd6 HRS6 HV6 HX6 HBF HBN HXN HD5 HDV HFV HRS5 HMD5
                generalize w5.heap.size = gf at HBF7 HGF ⊢
                generalize f5 c = fe at HBF7 HFV7
                clear w6
                obtain ⟨R7, hA7⟩ := HRS7.out.a
                have k1 := hA7.cell hfull
                clear hA7
                go_wp2_with fail
                go_loopw [106] (fun i w2 => ∃ j : Nat, j ≤ n ∧ i = .int .i64 j ∧ RS w2 gd Ga Gb m n (g7 + 1) ND (XD Y s.r c j) (d5 * Y s.r c) ∧ Blk w2 gf 32 #[.bool fe.s1, .slice fe.A1 fe.n1 fe.c1, .bool fe.s2, .slice fe.A2 fe.n2 fe.c2, .bool fe.s3, .slice fe.A3 fe.n3 fe.c3] ∧ GV w2 fe.v (Y s.r c) N ∧ Mod (fun g => g7 + 1 ≤ g) w4 w2) (fun i _ => n - (intOf i).toNat)
                case atStart => exact ⟨0, by omega, rfl, by rw [XD_0]; exact HRS7.out, HBF7.out, HFV7.out, HMD7.out⟩
                case round =>
                  obtain ⟨j, hj, rfl, hrs, hbf, hfv, hmd⟩ := hrel
                  obtain ⟨w2, hw2⟩ : ∃ x, x = wr := ⟨_, rfl⟩
                  subst hw2
                  have HRSj := Lib.hid hrs; have HBFj := Lib.hid hbf; have HFVj := Lib.hid hfv; have HMDj := Lib.hid hmd
                  clear hrs hbf hfv hmd HRS7 HBF7 HFV7 HMD7 k1 d1 d2
                  by_cases hjn : j < n
                  · have hd : decide ((j : Int) < (n : Int)) = true := by simp; omega
                    obtain ⟨Rj, hAj⟩ := HRSj.out.a
                    obtain ⟨capj, fj, hRAj, hcapj, hfj, hvj⟩ := hAj.at_ hfull hjn
                    have k1 := hAj.cell hfull
                    rw [hRAj] at k1
                    obtain ⟨a0, a1, a2, a3, a4, a5⟩ := RowIs.cells hfj (show j < capj by omega) rfl
                    have K1 := ExtOf.cell k1
                    have E0 := ExtOf.cell a0; have E1 := ExtOf.cell a1; have E2 := ExtOf.cell a2; have E3 := ExtOf.cell a3; have E4 := ExtOf.cell a4; have E5 := ExtOf.cell a5
                    have BF := ExtOf.blk HBFj.out
                    have HAj := Lib.hid hAj; have HFj := Lib.hid hfj; have HVj := Lib.hid hvj
                    clear hAj hfj hvj k1 a0 a1 a2 a3 a4 a5
                    go_wp2_with fail
                    refine wp_region_ordE 14 [(true, 0), (true, 1), (true, 2), (true, 3), (true, 4), (true, 5), (true, 6), (true, 7), (true, 8), (true, 9), (true, 10), (true, 11), (true, 12), (false, 13)] (by kernel_rfl) (by kernel_rfl) ?_
                    refine wpOrdT_quiet [0, 1, 2, 3, 4, 5, 6, 7, 8, 9, 10, 11, 12] [(false, 13)] _ (by kernel_rfl) ?_
                    simp only [nthOps, nthOp, List.cons_append, List.nil_append]
                    repeat (go_big_quiet_step (fail))
                    refine wpQuiet_nil ?_
                    refine wpOrdT_act 13 [] (by kernel_rfl) ?_
                    intro K hK
                    simp only [nthOp]
                    go_wp2_with fail
                    have hdr := (Ext.refl w2).drew
                    have hgv := (HVj.out j hjn)
                    rw [XD_at] at hgv
                    refine (qDiv_ok _ _ (Y s.r j) (Y s.r c) N N _ ((hgv.to (HBYY.out s.r j hfull hjn)).ext hdr) (HFVj.out.ext hdr) (by omega) HH0.out).mono ?_
                    rintro e w8 ⟨v8, rfl, hv8, hx8⟩
                    obtain ⟨u1, F1, m1_, b1_, u2, F2, m2_, b2_, u3, F3, m3_, b3_, rfl⟩ := hv8.opn
                    have HX8 := Lib.hid hx8.undrew; have HV8 := Lib.hid (hv8.up (n := 12800) (by omega)); clear hv8 hx8 hgv hdr
                    go_wp2
                    refine hK _ _ ⟨⟨w8, HX8.out⟩, rfl⟩ ?_
                    clear hK K E0 E1 E2 E3 E4 E5 BF K1
                    simp only [wpOrdT, List.drop_succ_cons, List.drop_zero]
                    have hf8 := HFj.out.ext HX8.out
                    obtain ⟨a0, a1, a2, a3, a4, a5⟩ := RowIs.cells hf8 (show j < capj by omega) rfl
                    have f8 := hf8.frozen
                    clear hf8
                    go_wp2_with fail
                    go_roundw
                    case rel =>
                      have hA8 := HAj.out.ext HX8.out
                      have hp := (HRSj.out.ext HX8.out).put (e := ⟨u1, F1, m1_, b1_, u2, F2, m2_, b2_, u3, F3, m3_, b3_⟩) hA8 hfull hjn hcapj (HFj.out.ext HX8.out) (fun j hj => (HVj.out j hj).ext HX8.out) HV8.out
                      have hne : (Rj s.r).b < gd := (HAj.out.mem s.r hfull (by omega)).2
                      have hfar : Far (fun g => g = (Rj s.r).b) w8 := (hA8.row s.r hfull (by omega)).2.far
                      have hge : g7 + 1 ≤ (Rj s.r).b := (HAj.out.mem s.r hfull (by omega)).1
                      refine ⟨j + 1, by omega, by go_num, ?_, (HBFj.out.ext HX8.out).mod hp.2 ?_, (HFVj.out.ext HX8.out).mod hp.2 hfar, (HMDj.out.trans (Mod.of HX8.out)).trans (hp.2.mono (T := fun g => g7 + 1 ≤ g) fun g hg => by subst hg; exact hge)⟩
                      · rw [← XD_succ]; exact hp.1
                      · have := HGF.out; show ¬ gf = (Rj s.r).b; omega
                    case measure => simp [intOf]; omega
                  · obtain rfl : j = n := by omega
                    have hd : decide ((j : Int) < (j : Int)) = false := by simp
                    obtain ⟨RYj, hBj⟩ := HRSj.out.b
                    have k1 := hBj.cell hfull
                    have HRSi : Hid (RS w2 gd Ga Gb m j (g7 + 1) ND (XI Y s.r c 0) (d5 * Y s.r c)) := Lib.hid (HRSj.out.congr fun p q hp hq => XD_n hq p)
                    clear hBj HRSj HBFj HFVj
                    go_wp2_with fail
                    go_loopw [130] (fun i w3 => i = .int .i64 0 ∧ w3 = w2) (fun i _ => 0)
                    case atStart => exact ⟨rfl, rfl⟩
                    case round =>
                      obtain ⟨rfl, rfl⟩ := hrel
                      clear k1 hd
                      have hm0 : (0 : Int) ≤ (m : Int) := by omega
                      go_wp2_with fail
                      go_loopw [151] (fun i w3 => ∃ i' : Nat, i' ≤ m ∧ i = .int .i64 i' ∧ RS w3 gd Ga Gb m j (g7 + 1) ND (XI Y s.r c i') (d5 * Y s.r c) ∧ Mod (fun g => g7 + 1 ≤ g) w4 w3) (fun i _ => m - (intOf i).toNat)
                      case atStart => exact ⟨0, by omega, rfl, HRSi.out, HMDj.out⟩
                      case round =>
                        obtain ⟨i', hi', rfl, hrs, hmd⟩ := hrel
                        obtain ⟨w3, hw3⟩ : ∃ x, x = wr := ⟨_, rfl⟩
                        subst hw3
                        replace HRSi := Lib.hid hrs; replace HMDj := Lib.hid hmd
                        clear hrs hmd
                        by_cases him : i' < m
                        · have hd : decide ((i' : Int) < (m : Int)) = true := by simp; omega
                          by_cases hir : i' = s.r
                          · have dd : ((i' : Int) == (s.r : Int)) = true := by simp [hir]
                            go_wp2_with fail
                            go_roundw
                            case rel => exact ⟨i' + 1, by omega, by go_num, HRSi.out.congr fun p q hp hq => XI_skip (.inl hir) p q, HMDj.out⟩
                            case measure => simp [intOf]; omega
                          · have dd : ((i' : Int) == (s.r : Int)) = false := by simp; omega
                            have q3 : decide ((c : Int) < (j : Int)) = true := by simp; omega
                            obtain ⟨Ri, hAi⟩ := HRSi.out.a
                            obtain ⟨capi, fi, hRAi, hcapi, hfi, hvi⟩ := hAi.at_ him hlt
                            have k1 := hAi.cell him
                            rw [hRAi] at k1
                            obtain ⟨a0, a1, a2, a3, a4, a5⟩ := RowIs.cells hfi (show c < capi by omega) rfl
                            have hgv := hvi c hlt
                            rw [XI_at hir] at hgv
                            have HGVi := Lib.hid (hgv.to (HBYY.out i' c him hlt))
                            clear hgv hvi hAi
                            go_wp2_with fail
                            by_cases h0 : Y i' c = GQ.i 0 0
                            · refine (qZero_yes _ _ _ _ HGVi.out (by omega) h0).mono ?_
                              rintro e w8 ⟨rfl, hx8⟩
                              have HX8 := Lib.hid hx8; clear hx8 k1 a0 a1 a2 a3 a4 a5 hfi
                              have HSK := Lib.hid (XI_skip (r := s.r) (.inr h0)); clear h0
                              go_wp2_with fail
                              go_roundw
                              case rel => exact ⟨i' + 1, by omega, by go_num, (HRSi.out.ext HX8.out).congr fun p q hp hq => HSK.out p q, HMDj.out.trans (Mod.of HX8.out)⟩
                              case measure => simp [intOf]; omega
                            · refine (qZero_no _ _ _ _ HGVi.out (by omega) h0).mono ?_
                              rintro e w8 ⟨rfl, hx8⟩
                              clear h0
                              replace k1 := hx8.cell_ k1; replace a0 := hx8.cell_ a0; replace a1 := hx8.cell_ a1; replace a2 := hx8.cell_ a2; replace a3 := hx8.cell_ a3; replace a4 := hx8.cell_ a4; replace a5 := hx8.cell_ a5
                              have hxn := Ext.new w8 (.cells #[.bool (fi c).s1, .slice (fi c).A1 (fi c).n1 (fi c).c1, .bool (fi c).s2, .slice (fi c).A2 (fi c).n2 (fi c).c2, .bool (fi c).s3, .slice (fi c).A3 (fi c).n3 (fi c).c3] 32)
                              have HBH := Lib.hid (Blk.new w8 32 #[.bool (fi c).s1, .slice (fi c).A1 (fi c).n1 (fi c).c1, .bool (fi c).s2, .slice (fi c).A2 (fi c).n2 (fi c).c2, .bool (fi c).s3, .slice (fi c).A3 (fi c).n3 (fi c).c3])
                              have HX9 := Lib.hid (hx8.trans hxn)
                              have HGH : Hid (gd < w8.heap.size) := Lib.hid (by obtain ⟨e0, hd0, _⟩ := HRSi.out.detc; exact (hd0.ext hx8).lt)
                              have k2 := hxn.cell_ k1
                              clear hx8 hfi
                              go_upto_region 32 with fail
                              have HRS9 := Lib.hid ((HRSi.out.ext HX9.out).congr (Y := XJ Y s.r c i' 0) fun p q hp hq => (XJ_0 hir p q).symm)
                              have HMD9 := Lib.hid (HMDj.out.trans (Mod.of HX9.out))
                              have HGV9 := Lib.hid (HGVi.out.ext HX9.out)
                              clear hxn HX9 k1 a0 a1 a2 a3 a4 a5 HRSi HMDj HGVi
                              generalize (w8.alloc (.cells #[.bool (fi c).s1, .slice (fi c).A1 (fi c).n1 (fi c).c1, .bool (fi c).s2, .slice (fi c).A2 (fi c).n2 (fi c).c2, .bool (fi c).s3, .slice (fi c).A3 (fi c).n3 (fi c).c3] 32)) = w9 at HBH HRS9 HMD9 HGV9 k2 ⊢
                              generalize w8.heap.size = gh at HBH HGH ⊢
                              generalize fi c = fe2 at HBH HGV9
                              clear w8
                              go_wp2_with fail
                              go_loopw [179] (fun i w3 => ∃ t : Nat, t ≤ j ∧ i = .int .i64 t ∧ RS w3 gd Ga Gb m j (g7 + 1) ND (XJ Y s.r c i' t) (d5 * Y s.r c) ∧ Blk w3 gh 32 #[.bool fe2.s1, .slice fe2.A1 fe2.n1 fe2.c1, .bool fe2.s2, .slice fe2.A2 fe2.n2 fe2.c2, .bool fe2.s3, .slice fe2.A3 fe2.n3 fe2.c3] ∧ GV w3 fe2.v (Y i' c) N ∧ Mod (fun g => g7 + 1 ≤ g) w4 w3) (fun i _ => j - (intOf i).toNat)
                              case atStart => exact ⟨0, by omega, rfl, HRS9.out, HBH.out, HGV9.out, HMD9.out⟩
                              case round =>
                                obtain ⟨t, ht, rfl, hrs, hbf, hfv, hmd⟩ := hrel
                                obtain ⟨w3, hw3⟩ : ∃ x, x = wr := ⟨_, rfl⟩
                                subst hw3
                                have HRSt := Lib.hid hrs; have HBFt := Lib.hid hbf; have HFVt := Lib.hid hfv; have HMDt := Lib.hid hmd
                                clear hrs hbf hfv hmd HRS9 HBH HGV9 HMD9 k2 dd q3
                                by_cases htj : t < j
                                · have hd5 : decide ((t : Int) < (j : Int)) = true := by simp; omega
                                  obtain ⟨Rt, hAt⟩ := HRSt.out.a
                                  obtain ⟨capt, ft, hRAt, hcapt, hft, hvt⟩ := hAt.at_ him htj
                                  obtain ⟨capr, fr, hRAr, hcapr, hfr, hvr⟩ := hAt.at_ hfull htj
                                  have k1 := hAt.cell him; have k2 := hAt.cell hfull
                                  rw [hRAt] at k1; rw [hRAr] at k2
                                  obtain ⟨a0, a1, a2, a3, a4, a5⟩ := RowIs.cells hft (show t < capt by omega) rfl
                                  obtain ⟨b0, b1, b2, b3, b4, b5⟩ := RowIs.cells hfr (show t < capr by omega) rfl
                                  have K1 := ExtOf.cell k1; have K2 := ExtOf.cell k2
                                  have E0 := ExtOf.cell a0; have E1 := ExtOf.cell a1; have E2 := ExtOf.cell a2; have E3 := ExtOf.cell a3; have E4 := ExtOf.cell a4; have E5 := ExtOf.cell a5
                                  have D0 := ExtOf.cell b0; have D1 := ExtOf.cell b1; have D2 := ExtOf.cell b2; have D3 := ExtOf.cell b3; have D4 := ExtOf.cell b4; have D5 := ExtOf.cell b5
                                  have BF := ExtOf.blk HBFt.out
                                  have hgr := hvr t htj
                                  rw [XJ_r hir] at hgr
                                  have HAt := Lib.hid hAt; have HFt := Lib.hid hft; have HVt := Lib.hid hvt; have HGr := Lib.hid (hgr.to (HQ.out t htj))
                                  clear hAt hft hvt hfr hvr hgr k1 k2 a0 a1 a2 a3 a4 a5 b0 b1 b2 b3 b4 b5
                                  go_wp2_with fail
                                  refine wp_region_ordE 22 [(true, 0), (true, 1), (true, 2), (true, 3), (true, 4), (true, 5), (true, 6), (true, 7), (true, 8), (true, 9), (true, 10), (true, 11), (true, 12), (true, 13), (true, 14), (true, 15), (true, 16), (true, 17), (true, 18), (true, 19), (false, 20), (false, 21)] (by kernel_rfl) (by kernel_rfl) ?_
                                  refine wpOrdT_quiet [0, 1, 2, 3, 4, 5, 6, 7, 8, 9, 10, 11, 12, 13, 14, 15, 16, 17, 18, 19] [(false, 20), (false, 21)] _ (by kernel_rfl) ?_
                                  simp only [nthOps, nthOp, List.cons_append, List.nil_append]
                                  repeat (go_big_quiet_step (fail))
                                  refine wpQuiet_nil ?_
                                  refine wpOrdT_act 20 [(false, 21)] (by kernel_rfl) ?_
                                  intro K hK
                                  simp only [nthOp]
                                  go_wp2_with fail
                                  have hdr := (Ext.refl w3).drew
                                  refine (qMul_g _ _ (Y i' c) (Y s.r t / Y s.r c) N N _ (HFVt.out.ext hdr) (HGr.out.ext hdr) (by omega)).mono ?_
                                  rintro e w8 ⟨v8, rfl, hv8, hx8⟩
                                  have HX8 := Lib.hid hx8.undrew; have HV8 := Lib.hid hv8; have HXd := Lib.hid (hdr.trans hx8); clear hv8 hx8 hdr
                                  go_wp2
                                  refine hK _ _ ⟨⟨w8, HX8.out⟩, rfl⟩ ?_
                                  clear hK K
                                  refine wpOrdT_act 21 [] (by kernel_rfl) ?_
                                  intro K hK
                                  simp only [nthOp]
                                  go_wp2_with fail
                                  have hgv := HVt.out t htj
                                  rw [XJ_at] at hgv
                                  refine (qSub_ok _ _ (Y i' t) (Y i' c * (Y s.r t / Y s.r c)) N (N + N + 1) _ ((hgv.to (HBYY.out i' t him htj)).ext HXd.out) HV8.out (by omega)).mono ?_
                                  rintro e w10 ⟨v10, rfl, hv10, hx10⟩
                                  obtain ⟨u1, F1, m1_, b1_, u2, F2, m2_, b2_, u3, F3, m3_, b3_, rfl⟩ := hv10.opn
                                  have HX10 := Lib.hid (HX8.out.trans hx10); have HV10 := Lib.hid (hv10.up (n := 12800) (by omega)); clear hv10 hx10 hgv
                                  go_wp2
                                  refine hK _ _ ⟨⟨w10, HX10.out⟩, rfl⟩ ?_
                                  clear hK K E0 E1 E2 E3 E4 E5 D0 D1 D2 D3 D4 D5 BF K1 K2
                                  simp only [wpOrdT, List.drop_succ_cons, List.drop_zero]
                                  have hf8 := HFt.out.ext HX10.out
                                  obtain ⟨a0, a1, a2, a3, a4, a5⟩ := RowIs.cells hf8 (show t < capt by omega) rfl
                                  have f8 := hf8.frozen
                                  clear hf8
                                  go_wp2_with fail
                                  go_roundw
                                  case rel =>
                                    have hA8 := HAt.out.ext HX10.out
                                    have hp := (HRSt.out.ext HX10.out).put (e := ⟨u1, F1, m1_, b1_, u2, F2, m2_, b2_, u3, F3, m3_, b3_⟩) hA8 him htj hcapt (HFt.out.ext HX10.out) (fun j hj => (HVt.out j hj).ext HX10.out) HV10.out
                                    have hne : (Rt i').b < gd := (HAt.out.mem i' him (by omega)).2
                                    have hfar : Far (fun g => g = (Rt i').b) w10 := (hA8.row i' him (by omega)).2.far
                                    have hge : g7 + 1 ≤ (Rt i').b := (HAt.out.mem i' him (by omega)).1
                                    refine ⟨t + 1, by omega, by go_num, ?_, (HBFt.out.ext HX10.out).mod hp.2 ?_, (HFVt.out.ext HX10.out).mod hp.2 hfar, (HMDt.out.trans (Mod.of HX10.out)).trans (hp.2.mono (T := fun g => g7 + 1 ≤ g) fun g hg => by subst hg; exact hge)⟩
                                    · rw [← XJ_succ]; exact hp.1
                                    · have := HGH.out; show ¬ gh = (Rt i').b; omega
                                  case measure => simp [intOf]; omega
                                · obtain rfl : t = j := by omega
                                  have hd5 : decide ((t : Int) < (t : Int)) = false := by simp
                                  obtain ⟨RYt, hBt⟩ := HRSt.out.b
                                  have k1 := hBt.cell him
                                  have HRSn : Hid (RS w3 gd Ga Gb m t (g7 + 1) ND (XI Y s.r c (i' + 1)) (d5 * Y s.r c)) := Lib.hid (HRSt.out.congr fun p q hp hq => XJ_n hir hq p)
                                  clear hBt HRSt HBFt HFVt
                                  go_wp2_with fail
                                  go_loopw [211] (fun i wz => i = .int .i64 0 ∧ wz = w3) (fun i _ => 0)
                                  case atStart => exact ⟨rfl, rfl⟩
                                  case round =>
                                    obtain ⟨rfl, rfl⟩ := hrel
                                    clear k1 hd5
                                    go_wp2_with fail
                                    go_roundw
                                    case rel => exact ⟨i' + 1, by omega, by go_num, HRSn.out, HMDt.out⟩
                                    case measure => simp [intOf]; omega
                        · obtain rfl : i' = m := by omega
                          have hd : decide ((i' : Int) < (i' : Int)) = false := by simp
                          have HRSe : Hid (RS w3 gd Ga Gb i' j (g7 + 1) ND (red Y s.r c) (d5 * Y s.r c)) := Lib.hid (HRSi.out.congr fun p q hp hq => XI_m hp q)
                          go_wp2_with fail
                          refine ⟨⟨c + 1, by omega, by go_num, by rw [HNE2.out]; go_num, by rw [HNE2.out]; exact HRSe.out, HMDj.out⟩, by simp [intOf]; omega⟩
          · obtain rfl : k = m := by omega
            have d1 : decide ((k : Int) < (k : Int)) = false := by simp
            have dk : ((k : Int) == (k : Int)) = true := by simp
            have hnx : rech k X (c + 1) = s := by
              rw [HNE.out]
              exact rstep_none (fp_none fun i h1 h2 => HZK.out i h1 (by omega))
            have HNE2 := Lib.hid hnx; clear hnx
            go_wp2_with fail
            refine ⟨⟨c + 1, by omega, by go_num, by rw [HNE2.out], by rw [HNE2.out]; exact HRSC.out.ext HX.out, HMDC.out.trans (Mod.of HX.out)⟩, by simp [intOf]; omega⟩
        -- MAIN>
      · obtain rfl : m = s.r := by omega
        have hd2 : decide ((s.r : Int) < (s.r : Int)) = false := by simp
        have hst := HST.out rfl n hc
        have HFS := Lib.hid hst; clear hst
        go_wp2_with fail
        obtain ⟨RXf, hAf⟩ := HRSC.out.a
        refine (qcolumns_own hAf hAc h0 (by omega)).mono ?_
        rintro e wf ⟨rfl, hxf⟩
        have HRSF := Lib.hid (HRSC.out.ext hxf); have HMDF := Lib.hid (HMDC.out.trans (Mod.of hxf)); have HBWF := Lib.hid (HBWC.out.ext hxf); have HEWF := Lib.hid (HEWC.out.trans hxf)
        clear hxf HRSC HMDC HBWC HEWC hAf
        clear hd
        by_cases hrn : s.r < n
        · have dn : decide ((s.r : Int) < (n : Int)) = true := by simp; omega
          have HRD : Hid (rdet s.r n X = GQ.i 0 0) := Lib.hid (by unfold rdet; rw [HFS.out, if_pos (.inr hrn)])
          go_wp2_with fail
          refine (qI_ok 0 0 _ (by omega) (by omega) (by omega) (by omega)).mono ?_
          rintro e w9 ⟨t1, D1, p1, q1, t2, D2, p2, q2, t3, D3, p3, q3, rfl, hv9, hx9⟩
          obtain ⟨e0, hd0, _⟩ := HRSF.out.detc
          have HD9 := Lib.hid (hd0.ext hx9)
          have kd := HD9.out.cell; have fd := HD9.out.frozen
          have HE9 := Lib.hid (HEWF.out.trans hx9); have HV9 := Lib.hid hv9; have HB9 := Lib.hid (HBWF.out.ext hx9)
          clear hd0 hv9 hx9 HRSF HMDF HBWF HEWF
          go_upto_region 46 with fail
          generalize hW : World.setCell _ _ _ = w10
          have hm10 : Mod (fun g => g = gd) w9 w10 := by
            rw [← hW]; exact Mod.only (puts_only w9 gd 0 [.bool t1, .slice D1 p1 q1, .bool t2, .slice D2 p2 q2, .bool t3, .slice D3 p3 q3]) rfl
          have hfd := RS.detfar (show Blk w9 gd 32 e0.cells.toArray from HD9.out)
          have hb10 : Blk w10 gd 32 #[.bool t1, .slice D1 p1 q1, .bool t2, .slice D2 p2 q2, .bool t3, .slice D3 p3 q3] := by
            have := puts_blk 0 [.bool t1, .slice D1 p1 q1, .bool t2, .slice D2 p2 q2, .bool t3, .slice D3 p3 q3] HD9.out
            rw [← hW]; exact this
          have hg9 : g7 + 1 ≤ gd := HGD.out
          have HB10 := Lib.hid (HB9.out.mod hm10 (by show ¬ g7 = gd; omega)); have HV10 := Lib.hid (HV9.out.mod hm10 hfd)
          have HE10 : Hid (Ext w w10) := Lib.hid (by
            have hE := HE9.out
            exact ⟨hm10.os.trans hE.os, hm10.tape.trans hE.tape, hm10.output.trans hE.output, Nat.le_trans hE.size hm10.size, fun j hj => (hm10.block j (Nat.lt_of_lt_of_le hj hE.size) (by show ¬ j = gd; have := HG7.out; omega)).trans (hE.block j hj)⟩)
          clear hW hm10 hfd kd fd HD9 HE9 HV9 HB9
          have BD := ExtOf.blk hb10
          have hdr := (Ext.refl w10).drew
          have hb7 := HB10.out.ext hdr
          obtain ⟨x1, x2, x3⟩ := put_gaussR (HE10.out.trans hdr) (by have := HG7.out; omega) hb7 rfl (HV10.out.ext hdr)
          have P1 := Lib.hid x1; have P2 := Lib.hid x2; have P3 := Lib.hid x3
          clear x1 x2 x3 hb10 hdr
          refine wp_region_ordE 7 [(true, 0), (true, 1), (true, 2), (true, 3), (true, 4), (true, 5), (true, 6)] (by kernel_rfl) (by kernel_rfl) ?_
          refine wpOrdT_quiet [0, 1, 2, 3, 4, 5, 6] [] _ (by kernel_rfl) ?_
          simp only [nthOps, nthOp, List.cons_append, List.nil_append]
          repeat (go_big_quiet_step (fail))
          refine wpQuiet_nil ?_
          clear BD
          simp only [wpOrdT, List.drop_succ_cons, List.drop_zero]
          refine wpList_store_row rfl 32 (.tmp 7) (.tmp 255) rfl g7 #[.bool t1, .slice D1 p1 q1, .bool t2, .slice D2 p2 q2, .bool t3, .slice D3 p3 q3] (by rfl) (by rfl) 32 _ hb7 gauss_six rfl gauss_one6 ?_
          go_wp2_with fail
          exact bp_red rfl rfl rfl P2.out ⟨_, _, _, by rw [HFS.out]; rfl, by rw [HRD.out]; exact P3.out.up (by omega), P1.out⟩
        · have dn : decide ((s.r : Int) < (n : Int)) = false := by simp; omega
          have HRD : Hid (rdet s.r n X = s.d) := Lib.hid (by unfold rdet; rw [HFS.out, if_neg (by omega)])
          obtain ⟨e0, hd0, hdv0⟩ := HRSF.out.detc
          have BD := ExtOf.blk hd0
          have hdr := (Ext.refl wf).drew
          have hb7 := HBWF.out.ext hdr
          obtain ⟨x1, x2, x3⟩ := put_gaussR (HEWF.out.trans hdr) (by have := HG7.out; omega) hb7 rfl (show GV wf.drew (gv e0.s1 e0.A1 e0.n1 e0.c1 e0.s2 e0.A2 e0.n2 e0.c2 e0.s3 e0.A3 e0.n3 e0.c3) s.d ND from hdv0.ext hdr)
          have P1 := Lib.hid x1; have P2 := Lib.hid x2; have P3 := Lib.hid x3
          clear x1 x2 x3 hd0 hdv0 hdr
          go_wp2_with fail
          refine wp_region_ordE 7 [(true, 0), (true, 1), (true, 2), (true, 3), (true, 4), (true, 5), (true, 6)] (by kernel_rfl) (by kernel_rfl) ?_
          refine wpOrdT_quiet [0, 1, 2, 3, 4, 5, 6] [] _ (by kernel_rfl) ?_
          simp only [nthOps, nthOp, List.cons_append, List.nil_append]
          repeat (go_big_quiet_step (fail))
          refine wpQuiet_nil ?_
          clear BD
          simp only [wpOrdT, List.drop_succ_cons, List.drop_zero]
          refine wpList_store_row rfl 32 (.tmp 7) (.tmp 255) rfl g7 #[.bool e0.s1, .slice e0.A1 e0.n1 e0.c1, .bool e0.s2, .slice e0.A2 e0.n2 e0.c2, .bool e0.s3, .slice e0.A3 e0.n3 e0.c3] (by rfl) (by rfl) 32 _ hb7 gauss_six rfl gauss_one6 ?_
          go_wp2_with fail
          exact bp_red rfl rfl rfl P2.out ⟨_, _, _, by rw [HFS.out]; rfl, by rw [HRD.out]; exact P3.out.up (by omega), P1.out⟩
    · obtain rfl : c = n := by omega
      have hd : decide ((c : Int) < (c : Int)) = false := by simp
      have hst := HFN.out rfl
      have HFS := Lib.hid hst; clear hst
      by_cases hrm2 : s.r < m
      · have dr : decide ((s.r : Int) < (m : Int)) = true := by simp; omega
        have HRSF := HRSC; have HMDF := HMDC; have HBWF := HBWC; have HEWF := HEWC
        clear HRSC HMDC HBWC HEWC
        generalize hwf : wc = wf at HRSF HMDF HBWF HEWF ⊢
        clear hwf
        have HRD : Hid (rdet m c X = GQ.i 0 0) := Lib.hid (by unfold rdet; rw [HFS.out, if_pos (.inl hrm2)])
        go_wp2_with fail
        refine (qI_ok 0 0 _ (by omega) (by omega) (by omega) (by omega)).mono ?_
        rintro e w9 ⟨t1, D1, p1, q1, t2, D2, p2, q2, t3, D3, p3, q3, rfl, hv9, hx9⟩
        obtain ⟨e0, hd0, _⟩ := HRSF.out.detc
        have HD9 := Lib.hid (hd0.ext hx9)
        have kd := HD9.out.cell; have fd := HD9.out.frozen
        have HE9 := Lib.hid (HEWF.out.trans hx9); have HV9 := Lib.hid hv9; have HB9 := Lib.hid (HBWF.out.ext hx9)
        clear hd0 hv9 hx9 HRSF HMDF HBWF HEWF
        go_upto_region 46 with fail
        generalize hW : World.setCell _ _ _ = w10
        have hm10 : Mod (fun g => g = gd) w9 w10 := by
          rw [← hW]; exact Mod.only (puts_only w9 gd 0 [.bool t1, .slice D1 p1 q1, .bool t2, .slice D2 p2 q2, .bool t3, .slice D3 p3 q3]) rfl
        have hfd := RS.detfar (show Blk w9 gd 32 e0.cells.toArray from HD9.out)
        have hb10 : Blk w10 gd 32 #[.bool t1, .slice D1 p1 q1, .bool t2, .slice D2 p2 q2, .bool t3, .slice D3 p3 q3] := by
          have := puts_blk 0 [.bool t1, .slice D1 p1 q1, .bool t2, .slice D2 p2 q2, .bool t3, .slice D3 p3 q3] HD9.out
          rw [← hW]; exact this
        have hg9 : g7 + 1 ≤ gd := HGD.out
        have HB10 := Lib.hid (HB9.out.mod hm10 (by show ¬ g7 = gd; omega)); have HV10 := Lib.hid (HV9.out.mod hm10 hfd)
        have HE10 : Hid (Ext w w10) := Lib.hid (by
          have hE := HE9.out
          exact ⟨hm10.os.trans hE.os, hm10.tape.trans hE.tape, hm10.output.trans hE.output, Nat.le_trans hE.size hm10.size, fun j hj => (hm10.block j (Nat.lt_of_lt_of_le hj hE.size) (by show ¬ j = gd; have := HG7.out; omega)).trans (hE.block j hj)⟩)
        clear hW hm10 hfd kd fd HD9 HE9 HV9 HB9
        have BD := ExtOf.blk hb10
        have hdr := (Ext.refl w10).drew
        have hb7 := HB10.out.ext hdr
        obtain ⟨x1, x2, x3⟩ := put_gaussR (HE10.out.trans hdr) (by have := HG7.out; omega) hb7 rfl (HV10.out.ext hdr)
        have P1 := Lib.hid x1; have P2 := Lib.hid x2; have P3 := Lib.hid x3
        clear x1 x2 x3 hb10 hdr
        refine wp_region_ordE 7 [(true, 0), (true, 1), (true, 2), (true, 3), (true, 4), (true, 5), (true, 6)] (by kernel_rfl) (by kernel_rfl) ?_
        refine wpOrdT_quiet [0, 1, 2, 3, 4, 5, 6] [] _ (by kernel_rfl) ?_
        simp only [nthOps, nthOp, List.cons_append, List.nil_append]
        repeat (go_big_quiet_step (fail))
        refine wpQuiet_nil ?_
        clear BD
        simp only [wpOrdT, List.drop_succ_cons, List.drop_zero]
        refine wpList_store_row rfl 32 (.tmp 7) (.tmp 255) rfl g7 #[.bool t1, .slice D1 p1 q1, .bool t2, .slice D2 p2 q2, .bool t3, .slice D3 p3 q3] (by rfl) (by rfl) 32 _ hb7 gauss_six rfl gauss_one6 ?_
        go_wp2_with fail
        exact bp_red rfl rfl rfl P2.out ⟨_, _, _, by rw [HFS.out]; rfl, by rw [HRD.out]; exact P3.out.up (by omega), P1.out⟩
      · have dr : decide ((s.r : Int) < (m : Int)) = false := by simp; omega
        go_wp2_with fail
        obtain ⟨RXf, hAf⟩ := HRSC.out.a
        refine (qcolumns_own hAf hAc h0 (by omega)).mono ?_
        rintro e wf ⟨rfl, hxf⟩
        have HRSF := Lib.hid (HRSC.out.ext hxf); have HMDF := Lib.hid (HMDC.out.trans (Mod.of hxf)); have HBWF := Lib.hid (HBWC.out.ext hxf); have HEWF := Lib.hid (HEWC.out.trans hxf)
        clear hxf HRSC HMDC HBWC HEWC hAf
        by_cases hrn : s.r < c
        · have dn : decide ((s.r : Int) < (c : Int)) = true := by simp; omega
          have HRD : Hid (rdet m c X = GQ.i 0 0) := Lib.hid (by unfold rdet; rw [HFS.out, if_pos (.inr hrn)])
          go_wp2_with fail
          refine (qI_ok 0 0 _ (by omega) (by omega) (by omega) (by omega)).mono ?_
          rintro e w9 ⟨t1, D1, p1, q1, t2, D2, p2, q2, t3, D3, p3, q3, rfl, hv9, hx9⟩
          obtain ⟨e0, hd0, _⟩ := HRSF.out.detc
          have HD9 := Lib.hid (hd0.ext hx9)
          have kd := HD9.out.cell; have fd := HD9.out.frozen
          have HE9 := Lib.hid (HEWF.out.trans hx9); have HV9 := Lib.hid hv9; have HB9 := Lib.hid (HBWF.out.ext hx9)
          clear hd0 hv9 hx9 HRSF HMDF HBWF HEWF
          go_upto_region 46 with fail
          generalize hW : World.setCell _ _ _ = w10
          have hm10 : Mod (fun g => g = gd) w9 w10 := by
            rw [← hW]; exact Mod.only (puts_only w9 gd 0 [.bool t1, .slice D1 p1 q1, .bool t2, .slice D2 p2 q2, .bool t3, .slice D3 p3 q3]) rfl
          have hfd := RS.detfar (show Blk w9 gd 32 e0.cells.toArray from HD9.out)
          have hb10 : Blk w10 gd 32 #[.bool t1, .slice D1 p1 q1, .bool t2, .slice D2 p2 q2, .bool t3, .slice D3 p3 q3] := by
            have := puts_blk 0 [.bool t1, .slice D1 p1 q1, .bool t2, .slice D2 p2 q2, .bool t3, .slice D3 p3 q3] HD9.out
            rw [← hW]; exact this
          have hg9 : g7 + 1 ≤ gd := HGD.out
          have HB10 := Lib.hid (HB9.out.mod hm10 (by show ¬ g7 = gd; omega)); have HV10 := Lib.hid (HV9.out.mod hm10 hfd)
          have HE10 : Hid (Ext w w10) := Lib.hid (by
            have hE := HE9.out
            exact ⟨hm10.os.trans hE.os, hm10.tape.trans hE.tape, hm10.output.trans hE.output, Nat.le_trans hE.size hm10.size, fun j hj => (hm10.block j (Nat.lt_of_lt_of_le hj hE.size) (by show ¬ j = gd; have := HG7.out; omega)).trans (hE.block j hj)⟩)
          clear hW hm10 hfd kd fd HD9 HE9 HV9 HB9
          have BD := ExtOf.blk hb10
          have hdr := (Ext.refl w10).drew
          have hb7 := HB10.out.ext hdr
          obtain ⟨x1, x2, x3⟩ := put_gaussR (HE10.out.trans hdr) (by have := HG7.out; omega) hb7 rfl (HV10.out.ext hdr)
          have P1 := Lib.hid x1; have P2 := Lib.hid x2; have P3 := Lib.hid x3
          clear x1 x2 x3 hb10 hdr
          refine wp_region_ordE 7 [(true, 0), (true, 1), (true, 2), (true, 3), (true, 4), (true, 5), (true, 6)] (by kernel_rfl) (by kernel_rfl) ?_
          refine wpOrdT_quiet [0, 1, 2, 3, 4, 5, 6] [] _ (by kernel_rfl) ?_
          simp only [nthOps, nthOp, List.cons_append, List.nil_append]
          repeat (go_big_quiet_step (fail))
          refine wpQuiet_nil ?_
          clear BD
          simp only [wpOrdT, List.drop_succ_cons, List.drop_zero]
          refine wpList_store_row rfl 32 (.tmp 7) (.tmp 255) rfl g7 #[.bool t1, .slice D1 p1 q1, .bool t2, .slice D2 p2 q2, .bool t3, .slice D3 p3 q3] (by rfl) (by rfl) 32 _ hb7 gauss_six rfl gauss_one6 ?_
          go_wp2_with fail
          exact bp_red rfl rfl rfl P2.out ⟨_, _, _, by rw [HFS.out]; rfl, by rw [HRD.out]; exact P3.out.up (by omega), P1.out⟩
        · have dn : decide ((s.r : Int) < (c : Int)) = false := by simp; omega
          have HRD : Hid (rdet m c X = s.d) := Lib.hid (by unfold rdet; rw [HFS.out, if_neg (by omega)])
          obtain ⟨e0, hd0, hdv0⟩ := HRSF.out.detc
          have BD := ExtOf.blk hd0
          have hdr := (Ext.refl wf).drew
          have hb7 := HBWF.out.ext hdr
          obtain ⟨x1, x2, x3⟩ := put_gaussR (HEWF.out.trans hdr) (by have := HG7.out; omega) hb7 rfl (show GV wf.drew (gv e0.s1 e0.A1 e0.n1 e0.c1 e0.s2 e0.A2 e0.n2 e0.c2 e0.s3 e0.A3 e0.n3 e0.c3) s.d ND from hdv0.ext hdr)
          have P1 := Lib.hid x1; have P2 := Lib.hid x2; have P3 := Lib.hid x3
          clear x1 x2 x3 hd0 hdv0 hdr
          go_wp2_with fail
          refine wp_region_ordE 7 [(true, 0), (true, 1), (true, 2), (true, 3), (true, 4), (true, 5), (true, 6)] (by kernel_rfl) (by kernel_rfl) ?_
          refine wpOrdT_quiet [0, 1, 2, 3, 4, 5, 6] [] _ (by kernel_rfl) ?_
          simp only [nthOps, nthOp, List.cons_append, List.nil_append]
          repeat (go_big_quiet_step (fail))
          refine wpQuiet_nil ?_
          clear BD
          simp only [wpOrdT, List.drop_succ_cons, List.drop_zero]
          refine wpList_store_row rfl 32 (.tmp 7) (.tmp 255) rfl g7 #[.bool e0.s1, .slice e0.A1 e0.n1 e0.c1, .bool e0.s2, .slice e0.A2 e0.n2 e0.c2, .bool e0.s3, .slice e0.A3 e0.n3 e0.c3] (by rfl) (by rfl) 32 _ hb7 gauss_six rfl gauss_one6 ?_
          go_wp2_with fail
          exact bp_red rfl rfl rfl P2.out ⟨_, _, _, by rw [HFS.out]; rfl, by rw [HRD.out]; exact P3.out.up (by omega), P1.out⟩
end Go.Proofs.YtclkkoiaaddllaaGreat
