/- What the stream functions compute, in plain Lean. -/
import Derived.Test.YtmlcmnbjioabiaaLib
namespace Go.Proofs.Ytmlcmnbjioabiaa

def btw (x lo hi : Int) : Bool := decide (lo ≤ x) && decide (x ≤ hi)
theorem btw_iff {x lo hi : Int} : btw x lo hi = true ↔ lo ≤ x ∧ x ≤ hi := by simp [btw]

def checkList : List Int → List Int → Int
  | s :: r, q :: t => if !btw s (-16383) 16383 || !btw q 0 255 then 2 else checkList r t
  | _, _ => 0

/-- A frame as data. -/
structure Fr where
  unit : Int
  count : Int
  sy : Bool
  S : List Int
  Q : List Int

def checkF (f : Fr) : Int :=
  if !btw f.unit 0 999 || !btw f.count 0 599 then 2
  else if !btw f.S.length 1 8 || f.Q.length != f.S.length then 3
  else checkList f.S f.Q

def sameF (a b : Fr) : Bool := a.unit == b.unit && a.count == b.count && a.sy == b.sy && a.S == b.S && a.Q == b.Q
theorem sameF_self (a : Fr) : sameF a a = true := by simp [sameF]

def countF (step k : Int) : Int := if !btw step 0 1099511627776 || !btw k 0 11 then 0 else (12 * step + k) % 600

/-- Two bytes of a number, and the bytes of a frame. -/
def b2 (x : Int) : List Int := [x / 256 % 256, x % 256]
def encBody : List Int → List Int → List Int
  | x :: r, q :: t => b2 x ++ [q % 256] ++ encBody r t
  | _, _ => []
def encHead (f : Fr) : List Int := [136, 186] ++ b2 f.unit ++ b2 f.count ++ [if f.sy then 1 else 0, (f.S.length : Int)]
def encF (f : Fr) : List Int := encHead f ++ encBody f.S f.Q

theorem encBody_nil_right (S : List Int) : encBody S [] = [] := by cases S <;> rfl
theorem encBody_snoc {S Q : List Int} {k : Nat} {x q : Int} (hx : S[k]? = some x) (hq : Q[k]? = some q) :
    encBody (S.take (k + 1)) (Q.take (k + 1)) = encBody (S.take k) (Q.take k) ++ [x / 256 % 256, x % 256, q % 256] := by
  induction k generalizing S Q with
  | zero =>
    cases S with
    | nil => simp at hx
    | cons a r =>
      cases Q with
      | nil => simp at hq
      | cons b t => simp at hx hq; subst hx hq; simp [encBody, b2]
  | succ k ih =>
    cases S with
    | nil => simp at hx
    | cons a r =>
      cases Q with
      | nil => simp at hq
      | cons b t =>
        simp only [List.getElem?_cons_succ] at hx hq
        simp only [List.take_succ_cons, encBody]
        rw [ih hx hq]; simp
theorem encBody_len {S Q : List Int} (h : Q.length = S.length) : (encBody S Q).length = 3 * S.length := by
  induction S generalizing Q with
  | nil => cases Q <;> simp_all [encBody]
  | cons a r ih =>
    cases Q with
    | nil => simp at h
    | cons b t => simp at h; simp [encBody, b2, ih h]; omega
theorem checkF_zero {f : Fr} (h : checkF f = 0) : f.S.length ≤ 8 ∧ f.Q.length = f.S.length ∧ 0 ≤ f.unit ∧ f.unit ≤ 999 ∧ 0 ≤ f.count ∧ f.count ≤ 599 ∧ 1 ≤ f.S.length := by
  unfold checkF at h
  split at h
  · omega
  · split at h
    · omega
    · rename_i h1 h2
      simp [btw] at h1 h2
      refine ⟨by omega, h2.2, ?_⟩
      omega
/-- The row while the bytes of a frame are laid. -/
def encRow (f : Fr) (n k : Nat) : List Int := encHead f ++ (encBody (f.S.take k) (f.Q.take k) ++ List.replicate (3 * (n - k)) 0)

/-- Split, in plain Lean. -/
def splitRow (ch : List (List Int)) (k : Nat) : List Int := ch.map fun r => r.getD k 0
def splitFr (unit step : Int) (sy : Bool) (ch : List (List Int)) (k : Nat) : Fr := ⟨unit, countF step k, sy, splitRow ch k, List.replicate ch.length 0⟩
def splitErr (unit step : Int) (sy : Bool) (ch : List (List Int)) : Nat → Nat → Int
  | 0, _ => 0
  | f + 1, k => if checkF (splitFr unit step sy ch k) = 0 then splitErr unit step sy ch f (k + 1) else checkF (splitFr unit step sy ch k)
def splitE (unit step : Int) (sy : Bool) (ch : List (List Int)) : Int :=
  if btw step 0 1099511627776 = false then 1 else if btw ch.length 1 8 = false then 3 else if ch.all (fun r => r.length == 12) = false then 3 else splitErr unit step sy ch 12 0
def splitL (unit step : Int) (sy : Bool) (ch : List (List Int)) (n : Nat) : List Fr := (List.range n).map (splitFr unit step sy ch)

/-- The samples of an instant while they are laid. -/
def fillRow (ch : List (List Int)) (k c n : Nat) : List Int := splitRow (ch.take c) k ++ List.replicate (n - c) 0
theorem fillRow_set {ch : List (List Int)} {k c n : Nat} {r : List Int} {x : Int} (hl : ch.length = n) (hc : c < n) (hr : ch[c]? = some r) (hx : r[k]? = some x) : (fillRow ch k c n).set c x = fillRow ch k (c + 1) n := by
  obtain ⟨h1, h2⟩ := List.getElem?_eq_some_iff.1 hr
  have e1 : n - c = (n - (c + 1)) + 1 := by omega
  have e2 : (splitRow (ch.take c) k).length = c := by simp [splitRow]; omega
  have e3 : splitRow (ch.take (c + 1)) k = splitRow (ch.take c) k ++ [x] := by
    rw [List.take_succ_eq_append_getElem h1]
    simp only [splitRow, List.map_append, List.map_cons, List.map_nil, h2, List.getD, hx, Option.getD_some]
  unfold fillRow
  rw [e3, e1, List.replicate_succ]
  generalize splitRow (ch.take c) k = L at *
  subst e2
  simp
theorem fillRow_len {ch : List (List Int)} {k c n : Nat} (hl : ch.length = n) (hc : c ≤ n) : (fillRow ch k c n).length = n := by simp [fillRow, splitRow]; omega
theorem fillRow_all {ch : List (List Int)} {k n : Nat} (hl : ch.length = n) : fillRow ch k n n = splitRow ch k := by simp [fillRow, ← hl]
theorem splitRow_snoc {ch : List (List Int)} {k c : Nat} {r : List Int} {x : Int} (hr : ch[c]? = some r) (hx : r[k]? = some x) : splitRow (ch.take (c + 1)) k = splitRow (ch.take c) k ++ [x] := by
  obtain ⟨h1, h2⟩ := List.getElem?_eq_some_iff.1 hr
  rw [List.take_succ_eq_append_getElem h1]
  simp only [splitRow, List.map_append, List.map_cons, List.map_nil, h2, List.getD, hx, Option.getD_some]
def splitFs (unit step : Int) (sy : Bool) (ch : List (List Int)) : List Fr := if splitE unit step sy ch = 0 then splitL unit step sy ch 12 else []

/-- Decode, in plain Lean. -/
def s16 (u : Int) : Int := if 32768 ≤ u then u - 65536 else u
def byt (l : List Int) (k : Nat) : Int := l.getD k 0
def decS (l : List Int) (n : Nat) : List Int := (List.range n).map fun k => s16 (byt l (8 + 3 * k) * 256 + byt l (8 + 3 * k + 1))
def decQ (l : List Int) (n : Nat) : List Int := (List.range n).map fun k => byt l (8 + 3 * k + 2)
def decRaw (l : List Int) : Fr := ⟨byt l 2 * 256 + byt l 3, byt l 4 * 256 + byt l 5, byt l 6 == 1, decS l (byt l 7).toNat, decQ l (byt l 7).toNat⟩
def decE (l : List Int) : Int :=
  if l.length < 8 then 13 else if byt l 0 ≠ 136 ∨ byt l 1 ≠ 186 then 15 else if 1 < byt l 6 then 16
  else if (l.length : Int) < 8 + 3 * byt l 7 then 13 else if 8 + 3 * byt l 7 < (l.length : Int) then 14 else checkF (decRaw l)
def zeroFr : Fr := ⟨0, 0, false, [], []⟩
def decFr (l : List Int) : Fr := if decE l = 0 then decRaw l else zeroFr

/-- A row of m numbers whose first k are laid. -/
def part (f : Nat → Int) (k m : Nat) : List Int := (List.range k).map f ++ List.replicate (m - k) 0
theorem part_set {f : Nat → Int} {k m : Nat} (h : k < m) : (part f k m).set k (f k) = part f (k + 1) m := by
  unfold part
  rw [show m - k = (m - (k + 1)) + 1 by omega, List.replicate_succ, List.range_succ, List.map_append]
  have e : ((List.range k).map f).length = k := by simp
  generalize (List.range k).map f = L at *
  subst e
  simp
theorem part_len {f : Nat → Int} {k m : Nat} (h : k ≤ m) : (part f k m).length = m := by simp [part]; omega
theorem part_all (f : Nat → Int) (m : Nat) : part f m m = (List.range m).map f := by simp [part]
theorem part_zero (f : Nat → Int) (m : Nat) : part f 0 m = List.replicate m 0 := by simp [part]
end Go.Proofs.Ytmlcmnbjioabiaa
