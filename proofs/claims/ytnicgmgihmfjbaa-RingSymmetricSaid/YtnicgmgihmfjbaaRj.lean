/- Ring: the sort of a slice of arrivals that the call owns. -/
import Derived.Test.YtnicgmgihmfjbaaRi
namespace Go.Proofs.Ytnicgmgihmfjbaa
open Go.RowKit Go.Shelf Go.Sort
open Rg (Arr)

def flatA (l : List Arr) : List Value := l.flatMap encA
theorem flatA_len (l : List Arr) : (flatA l).length = l.length * 4 := by
  induction l with
  | nil => rfl
  | cons x l ih => simp only [flatA, List.flatMap_cons, List.length_append, List.length_cons] at *; rw [ih]; simp [encA]; omega
theorem flatA_get (l : List Arr) : ∀ (t : Nat), t < l.length * 4 → (flatA l)[t]? = some (encA (l.toArray[t / 4]!))[t % 4]! := by
  induction l with
  | nil => intro t h; simp at h
  | cons x l ih =>
    intro t h
    simp only [flatA, List.flatMap_cons]
    rcases Nat.lt_or_ge t 4 with h4 | h4
    · rw [List.getElem?_append_left (by simp [encA]; omega)]
      have e1 : t / 4 = 0 := by omega
      have e2 : t % 4 = t := by omega
      rw [e1, e2]
      have : t = 0 ∨ t = 1 ∨ t = 2 ∨ t = 3 := by omega
      rcases this with rfl | rfl | rfl | rfl <;> simp [encA]
    · rw [List.getElem?_append_right (by simp [encA]; omega)]
      have hl : (encA x).length = 4 := rfl
      rw [hl]
      have h' := ih (t - 4) (by simp at h; omega)
      rw [show (List.flatMap encA l)[t - 4]? = _ from h']
      have e1 : t / 4 = (t - 4) / 4 + 1 := by omega
      have e2 : t % 4 = (t - 4) % 4 := by omega
      rw [e1, e2]
      simp
theorem flatA_flat (l : List Arr) (t : Nat) (h : t < l.length * 4) : (flatA l)[t]? = some (flatK encA 4 l.toArray)[t]! := by
  rw [get_flatK encA 4 l.toArray t (by simpa using h), flatA_get l t h]

theorem grown_sort {w : World} {blk n : Nat} {d : Array Arr} {os : Array Obj} : w.grownBy (sortWorldK encA 4 w blk 0 n d os) (some blk) := by
  unfold sortWorldK putRowK putRow grow mapBlock Sort.ahead
  refine ⟨rfl, rfl, rfl, by simp, fun k hk hne => ?_⟩
  show ((w.heap.modify blk _) ++ os)[k]? = w.heap[k]?
  rw [Array.getElem?_append_left (by simpa using hk), Array.getElem?_modify]
  split
  · rename_i h; subst h; exact absurd rfl hne
  · rfl

/-- What the sort leaves. -/
def Sorted (w : World) (v : Value) (l : List Arr) (e : Ending) (w' : World) : Prop :=
  e = .returned (.tuple #[]) ∧ ∃ l', Rg.Srt l' ∧ l'.Perm l ∧ (∃ A c, v = .slice A l.length c ∧ Reads w' w'.heap.size 4 A l.length (flatA l')) ∧ w.grownBy w' v.ownBlock

theorem srt_of {d : Array Arr} (hn : d.toList.Nodup) (hs : SortedIn (ltOf cf) 0 d.size d) : Rg.Srt d.toList := by
  rw [Rg.Srt, List.pairwise_iff_getElem]
  intro i j hi hj hij
  have h1 := hs i j (Nat.zero_le _) hij (by simpa using hj)
  rw [cf_ltB] at h1
  have hi' : i < d.size := by simpa using hi
  have hj' : j < d.size := by simpa using hj
  rw [getElem!_pos d j hj', getElem!_pos d i hi'] at h1
  have hne : d.toList[i] ≠ d.toList[j] := List.pairwise_iff_getElem.1 hn i j hi hj hij
  exact Rg.lt_of_ne (by simpa using hne) (by simpa using h1)

theorem sort_own (l : List Arr) (v : Value) (base : Nat) (w : World) (hn : l.Nodup) (hl : l.length ≤ 100000) (hown : w.ownsRow base 57 4 v l.length (flatA l)) :
    Calls Try.prog 25 #[v, .func (.func 26) #[] #[]] w (Sorted w v l) := by
  rcases hown.2 with ⟨rfl, h0⟩ | ⟨g, cap, cur, rfl, hb, hg, hcap, hm, hsz, hcur⟩
  · obtain rfl : l = [] := List.eq_nil_of_length_eq_zero h0
    refine (sort_none none 0 w).mono ?_
    rintro e w' ⟨rfl, rfl⟩
    exact ⟨rfl, [], List.Pairwise.nil, .refl _, ⟨none, 0, rfl, Reads.none_⟩, World.grownBy.refl _ _⟩
  · have hlt : g < w.heap.size := (Array.getElem?_eq_some_iff.1 hg).1
    have hH : HoldsK encA 4 w g 0 l.toArray := by
      intro j hj
      rw [size_flatK] at hj
      have hj' : j < l.length * 4 := by simpa using hj
      rw [Nat.zero_add]
      refine ⟨?_, hown.frozenAt j⟩
      rw [hown.cellAt j hj', flatA_flat l j hj']; rfl
    refine (sort_any g cap l.toArray w hH hlt (by simp; omega)).mono ?_
    rintro e w' ⟨rfl, d', n, os, hp, hs, rfl⟩
    obtain ⟨h1, _, h3⟩ := hp
    have hsz' : d'.size = l.length := by simpa using h1
    have hperm : d'.toList.Perm l := by
      have e1 : (d'.extract 0 l.toArray.size).toList = d'.toList := by rw [show l.toArray.size = d'.size by simpa using h1.symm]; simp
      have e2 : (l.toArray.extract 0 l.toArray.size).toList = l := by simp
      rw [e1, e2] at h3; exact h3
    refine ⟨rfl, d'.toList, srt_of (hperm.nodup_iff.2 hn) (by rw [show d'.size = l.toArray.size from h1]; exact hs), hperm, ⟨_, _, rfl, ?_⟩, grown_sort⟩
    have hH' : HoldsK encA 4 (sortWorldK encA 4 w g 0 n d' os) g 0 d' := SWK.holds ⟨n, os, rfl⟩ hlt hH h1
    refine ⟨by rw [flatA_len]; simp [hsz'], fun _ => ⟨⟨g, 0, none⟩, rfl, ?_, fun j u hu => ?_⟩⟩
    · exact Nat.lt_of_lt_of_le hlt grown_sort.size
    · rw [add_plain, Nat.zero_add]
      have hj : j < d'.toList.length * 4 := by
        have := (List.getElem?_eq_some_iff.1 hu).1; rw [flatA_len] at this; exact this
      have h4 := (hH' j (by rw [size_flatK]; simpa using hj)).1
      rw [Nat.zero_add] at h4
      rw [flatA_flat _ j hj] at hu
      rw [h4, ← hu]; simp
end Go.Proofs.Ytnicgmgihmfjbaa
