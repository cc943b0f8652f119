/- Linear: Solve. -/
import Derived.Test.YtclkkoiaaddllaaGreatQYpgidi
namespace Go.Proofs.YtclkkoiaaddllaaGreat
open Go.RowKit
set_option linter.unusedVariables false

theorem ech_le (m : Nat) (Z : Nat → Nat → GQ) : ∀ c, (ech m Z c).r ≤ c
  | 0 => Nat.le_refl _
  | c + 1 => by
    have ih := ech_le m Z c
    show (estep m c (ech m Z c)).r ≤ c + 1
    cases hf : fp (ech m Z c).X c (m - (ech m Z c).r) (ech m Z c).r with
    | none => rw [estep_none hf]; omega
    | some k => rw [estep_some hf]; show (ech m Z c).r + 1 ≤ c + 1; omega
theorem ech_diag (m : Nat) (Z : Nat → Nat → GQ) : ∀ c, (ech m Z c).r = c → ∀ i, i < c → (ech m Z c).X i i ≠ GQ.i 0 0
  | 0, _, i, hi => by omega
  | c + 1, h, i, hi => by
    have hle := ech_le m Z c
    have e : ech m Z (c + 1) = estep m c (ech m Z c) := rfl
    rw [e] at h ⊢
    cases hf : fp (ech m Z c).X c (m - (ech m Z c).r) (ech m Z c).r with
    | none => rw [estep_none hf] at h; omega
    | some k =>
      rw [estep_some hf] at h ⊢
      have hr : (ech m Z c).r = c := by have h' : (ech m Z c).r + 1 = c + 1 := h; omega
      have ih := ech_diag m Z c hr
      obtain ⟨h1, h2, h3, h4⟩ := of_fp_some hf
      show clr (fun i => (ech m Z c).X (swp k (ech m Z c).r i)) (ech m Z c).r c i i ≠ _
      rw [hr] at h1 ⊢
      unfold clr
      rw [if_neg (by omega)]
      show (ech m Z c).X (swp k c i) i ≠ _
      by_cases hic : i = c
      · subst hic
        rw [swp_r]; exact h3
      · rw [swp_ne (by omega) hic]; exact ih i (by omega)
theorem side_a {na : Nat} {X Y : Nat → Nat → GQ} {i j : Nat} (h : j < na) : side na X Y i j = X i j := by unfold side; rw [if_pos h]
theorem side_b {na : Nat} {X Y : Nat → Nat → GQ} {i j : Nat} : side na X Y i (na + j) = Y i j := by unfold side; rw [if_neg (by omega), show na + j - na = j by omega]
/-- A matrix that Solve or Product has made. -/
structure Out (W : World) (G m n : Nat) (RX : Nat → Rw) (X : Nat → Nat → GQ) : Prop where
  x : Blk W G 37 (mxc m RX).toArray
  row : ∀ i, i < m → (RX i).A = some ⟨(RX i).b, 0, none⟩ ∧ (RX i).n = n ∧ (RX i).c = n ∧ RowIs W (RX i).b n (X i)
theorem Out.ext {W W' : World} {G m n : Nat} {RX : Nat → Rw} {X : Nat → Nat → GQ} (h : Out W G m n RX X) (x : Ext W W') : Out W' G m n RX X :=
  ⟨h.x.ext x, fun i hi => ⟨(h.row i hi).1, (h.row i hi).2.1, (h.row i hi).2.2.1, (h.row i hi).2.2.2.ext x⟩⟩
set_option maxRecDepth 100000 in
set_option maxHeartbeats 6400000 in
theorem solve_ok {A A2 : Option Addr} {B O B2 O2 m c c2 nb N Ns Nd Nx : Nat} {R R2 : Nat → Rw} {E E2 : Nat → Nat → En} {X Y : Nat → Nat → GQ} {w : World} {vb vb2 : Nat → Nat → Bool} (h : Mem w A B O m R E) (h2 : Mem w A2 B2 O2 m R2 E2)
    (hvb : ∀ i j, i < m → j < (R i).n → VB w (E i j).v (vb i j)) (hvb2 : ∀ i j, i < m → j < (R2 i).n → VB w (E2 i j).v (vb2 i j)) (hM : IsM m R vb) (hM2 : IsM m R2 vb2) (hn : ∀ i, i < m → (R i).n = m) (hn2 : ∀ i, i < m → (R2 i).n = nb) (hnb : nb ≤ 24)
    (hv : ∀ i j, i < m → j < m → GV w (E i j).v (X i j) 12800) (hv2 : ∀ i j, i < m → j < nb → GV w (E2 i j).v (Y i j) 12800) (hN : 4 * N + 67 ≤ 12800) (hroom : Room N m m nb (side m X Y)) (hrb : (ech m (side m X Y) m).r = m → RoomB N Ns Nd Nx m nb (ech m (side m X Y) m).X) :
    Calls Tryz.prog 20 #[.slice A m c, .slice A2 m c2] w fun e w' => ((ech m (side m X Y) m).r < m ∧ e = .returned (.tuple #[.slice none 0 0, .int .i64 45]) ∨ (ech m (side m X Y) m).r = m ∧ ∃ G RX, e = .returned (.tuple #[.slice (some ⟨G, 0, none⟩) m m, .int .i64 0]) ∧ Out w' G m nb RX (bsol (ech m (side m X Y) m).X m m)) ∧ Ext w w' := by
  have hm := hM.1
  have hdg := ech_diag m (side m X Y) m
  have hlem := ech_le m (side m X Y) m
  have HM := Lib.hid h; have HMb := Lib.hid h2; have HV := Lib.hid hv; have HV2 := Lib.hid hv2; have HN := Lib.hid hn; have HN2 := Lib.hid hn2; have HR := Lib.hid hroom; have HRB := Lib.hid hrb; have HDG := Lib.hid hdg
  have HMx := Lib.hid (fun (w' : World) (x : Ext w w') => matrix_any (c := c) (h.ext x) (fun i j hi hj => (hvb i j hi hj).ext x) true ⟨fun _ => hM, fun _ => rfl⟩)
  have HMy := Lib.hid (fun (w' : World) (x : Ext w w') => matrix_any (c := c2) (h2.ext x) (fun i j hi hj => (hvb2 i j hi hj).ext x) true ⟨fun _ => hM2, fun _ => rfl⟩)
  have HWd := Lib.hid (fun (w' : World) (x : Ext w w') => width_any (c := c) (h.ext x))
  have hwd : wd m R = m := by
    unfold wd
    by_cases e : m = 0
    · rw [if_pos e]; exact e.symm
    · rw [if_neg e]; exact hn 0 (by omega)
  rw [hwd] at HWd
  clear h h2 hv hv2 hn hn2 hroom hrb hvb hvb2 hM hM2 hwd hdg
  have hbeq : ((m : Int) != (m : Int)) = false := by simp
  go_enter Tryz.func20, Tryz.ntmps20
  go_wp2_with fail
  refine (HMx.out _ (Ext.refl _)).mono ?_
  rintro e w1 ⟨rfl, hx1⟩
  have HE1 := Lib.hid hx1; clear hx1
  go_wp2_with fail
  refine (HMy.out _ HE1.out).mono ?_
  rintro e w2 ⟨rfl, hx2⟩
  have HE2 := Lib.hid (HE1.out.trans hx2); clear hx2 HE1
  go_wp2_with fail
  refine (HWd.out _ HE2.out).mono ?_
  rintro e w3 ⟨rfl, hx3⟩
  have hE3 := (HE2.out.trans hx3).alloc (.cells #[.int .i64 0] 68)
  have hC3 := calm_new w3
  clear HE2 hx3
  go_wp2_with fail
  generalize (w3.alloc (.cells #[.int .i64 0] 68)) = w4 at hC3 hE3 ⊢
  generalize w3.heap.size = gf at hC3 ⊢
  have HC4 := Lib.hid hC3; have HE4 := Lib.hid hE3; clear hC3 hE3
  refine (dup_w (HM.out.ext HE4.out) HN.out (fun i j hi hj => (HV.out i j hi hj).ext HE4.out) hm hm).mono ?_
  rintro e wa ⟨Ga, Ra, rfl, hDa⟩
  have HEa := Lib.hid (HE4.out.trans hDa.ext); have HDa := Lib.hid hDa; clear hDa
  go_wp2_with fail
  refine (dup_w (HMb.out.ext HEa.out) HN2.out (fun i j hi hj => (HV2.out i j hi hj).ext HEa.out) hm hnb).mono ?_
  rintro e wb ⟨Gb, Rb, rfl, hDb⟩
  have HEb := Lib.hid (HEa.out.trans hDb.ext); have HDb := Lib.hid hDb; clear hDb
  have hPA : ∀ i, i < m → (Ra i).b < wa.heap.size := fun i hi => by
    obtain ⟨cs, hcs⟩ := (HDa.out.row i hi).2.1.blk
    exact hcs.lt
  have hPB : ∀ i, i < m → wa.heap.size ≤ (Rb i).b ∧ (Rb i).b < wb.heap.size := fun i hi => by
    obtain ⟨cs, hcs⟩ := (HDb.out.row i hi).2.1.blk
    exact ⟨(HDb.out.row i hi).2.2, hcs.lt⟩
  have hsz : w4.heap.size ≤ wa.heap.size := HDa.out.ext.size
  have hsz2 : wa.heap.size ≤ wb.heap.size := HDb.out.ext.size
  have HEI := Lib.hid (EI.mk (gf := gf) (Ga := Ga) (Gb := Gb) (m := m) (na := m) (nb := nb) (PA := fun g => ∃ i, i < m ∧ g = (Ra i).b) (PB := fun g => ∃ i, i < m ∧ g = (Rb i).b) (Z := side m X Y) (W := wb) ((HC4.out.ext HDa.out.ext).ext HDb.out.ext) ⟨Ra, (HDa.out.mx HDb.out.ext).congr fun i j hi hj => (side_a hj).symm⟩ ⟨Rb, (HDb.out.mx (Ext.refl _)).congr fun i j hi hj => (side_b).symm⟩)
  have hGab : Ga ≠ Gb := by have h1 := HDa.out.out.lt; have h2 := HDb.out.gx; omega
  have HGab := Lib.hid hGab; clear hGab
  have HPA := Lib.hid hPA; have HPB := Lib.hid hPB; clear hPA hPB
  have HSZ := Lib.hid (And.intro hsz hsz2); clear hsz hsz2
  go_wp2_with fail
  refine (fechelon_w gf Ga Gb m m m m nb N _ _ (fun g => w4.heap.size ≤ g) (side m X Y) wb HEI.out HGab.out ?_ ⟨HDa.out.gx, Nat.le_trans HSZ.out.1 HDb.out.gx, ?_, ?_⟩ (fun h => h) hm hm hnb hN HR.out ?_).mono ?_
  · rintro g ⟨i, hi, rfl⟩ ⟨j, hj, e⟩
    have h1 := HPA.out i hi; have h2 := (HPB.out j hj).1
    omega
  · rintro g ⟨i, hi, rfl⟩
    exact (HDa.out.row i hi).2.2
  · rintro g ⟨i, hi, rfl⟩
    exact Nat.le_trans HSZ.out.1 (HPB.out i hi).1
  · intro w' x
    exact width_own ((HDa.out.mx HDb.out.ext).ext x) (fun h => h) m (by omega)
  rintro e w5 ⟨rfl, hEI5, hM5⟩
  have HEI5 := Lib.hid hEI5
  have HE5 := Lib.hid (HE4.out.trans (hM5.ext_of (HDa.out.ext.trans HDb.out.ext) (Nat.le_refl _)))
  have HS5 := Lib.hid hM5.size
  have e0 := hEI5.calm.cell
  clear hM5
  generalize hs : ech m (side m X Y) m = s at HRB HDG HEI5 hlem ⊢
  have HS := Lib.hid hs; clear hs
  by_cases hr : s.r < m
  · have dr : decide ((s.r : Int) < (m : Int)) = true := by simp; omega
    have HLR := Lib.hid hr; clear hr
    go_wp2_with fail
    refine bp_tmps2 rfl rfl ⟨.inl ⟨?_, rfl⟩, HE5.out⟩
    rw [HS.out]; exact HLR.out
  · have dr : decide ((s.r : Int) < (m : Int)) = false := by simp; omega
    have dr2 : ¬ ((s.r : Int) < (m : Int)) := by omega
    have HLR : Hid (s.r = m) := Lib.hid (by omega)
    clear hr hlem
    go_wp2_with fail
    refine (fback_w gf Ga Gb m m m nb N Ns Nd Nx _ _ s.X _ HEI5.out ?_ ?_ ?_ hm hnb (HDG.out HLR.out) (HRB.out HLR.out)).mono ?_
    · rintro g ⟨i, hi, rfl⟩ ⟨j, hj, e⟩
      have h1 := HPA.out i hi; have h2 := (HPB.out j hj).1
      omega
    · rintro g ⟨i, hi, rfl⟩
      have h1 := HPA.out i hi; have h2 := HSZ.out; have h3 := HS5.out; omega
    · rintro g ⟨i, hi, rfl⟩
      have h1 := (HPB.out i hi).2; have h3 := HS5.out; omega
    rintro e w6 ⟨G, RX, rfl, hBI⟩
    have e1 := hBI.calm.cell
    have hmod := hBI.mod
    have hE6 : Ext w w6 := by
      have hX := HE5.out
      exact ⟨hmod.os.trans hX.os, hmod.tape.trans hX.tape, hmod.output.trans hX.output, Nat.le_trans hX.size hmod.size, fun k' hk' => (hmod.block k' (Nat.lt_of_lt_of_le hk' hX.size) (by
        rintro ⟨i, hi, e⟩
        have h1 := (HPB.out i hi).1; have h2 := HSZ.out; have h3 := HE4.out.size
        omega)).trans (hX.block k' hk')⟩
    have HE6 := Lib.hid hE6; have HBI := Lib.hid hBI; clear hE6 hBI hmod
    go_wp2_with fail
    refine bp_tmps2 rfl rfl ⟨.inr ⟨?_, G, RX, rfl, ?_⟩, HE6.out⟩
    · rw [HS.out]; exact HLR.out
    · rw [HS.out]
      exact ⟨HBI.out.x, fun i hi => ⟨(HBI.out.row i (by omega) hi).1, (HBI.out.row i (by omega) hi).2.1, (HBI.out.row i (by omega) hi).2.2.1, (HBI.out.row i (by omega) hi).2.2.2.2⟩⟩
end Go.Proofs.YtclkkoiaaddllaaGreat
