/-
  Valid layouts: the first error, as a plain function.
-/
import Derived.Test.YtbojnnefpapamaaPScan
import Derived.Test.YtbojnnefpapamaaPGen
namespace Go.Hy
set_option linter.unusedVariables false
set_option linter.unusedSimpArgs false
set_option maxHeartbeats 2000000
set_option maxRecDepth 10000
/-! ### Names -/
def chB (b : UInt8) : Bool := decide ((97 ≤ b.toNat ∧ b.toNat ≤ 122) ∨ (48 ≤ b.toNat ∧ b.toNat ≤ 57))
def nmB (s : ByteArray) : Bool := decide (1 ≤ s.size ∧ s.size ≤ 12) && (bl s).all chB
/-! ### Elements -/
def elB (x : Element) : Bool := decide ((1 ≤ x.Kind ∧ x.Kind ≤ 4) ∧ (1 ≤ x.Length ∧ x.Length ≤ 1000000) ∧ (-10000 ≤ x.Grade ∧ x.Grade ≤ 10000) ∧ (0 ≤ x.Curve ∧ x.Curve ≤ 5000) ∧ (0 ≤ x.Side ∧ x.Side ≤ 2) ∧ (x.Kind = 2 → 1 ≤ x.Power ∧ x.Power ≤ 1000000000) ∧ (x.Kind ≠ 2 → x.Power = 0))
def crB (x : Element) : Bool := decide (x.Parent = -1 ∧ x.Side = 0 ∧ x.Length = 0 ∧ x.Grade = 0 ∧ x.Curve = 0 ∧ x.Power = 0)
def sdB (x : Element) : Bool := nmB x.Name && (if x.Kind = 0 then crB x else elB x)
/-- Names that fit into memory. -/
abbrev Nms (l : List Element) : Prop := ∀ x ∈ l, x.Name.size ≤ 9223372036854775807
/-! ### One element among those before it -/
abbrev NmFree (l : List Element) (i : Nat) (x : Element) : Prop := ∀ j, j < i → l[j]?.map (·.Name) ≠ some x.Name
abbrev PlFree (l : List Element) (i : Nat) (x : Element) : Prop := ∀ j, j < i → 1 ≤ j → l[j]?.map (fun z => (z.Parent, z.Side)) ≠ some (x.Parent, x.Side)
abbrev Snd (i : Nat) (x : Element) : Prop := sdB x = true ∧ (x.Kind = 0 ↔ i = 0)
def ftE (l : List Element) (i : Nat) : Int :=
  match l[i]? with
  | none => 0
  | some x =>
    if ¬ Snd i x then 1
    else if ¬ NmFree l i x then 8
    else if i = 0 then 0
    else if x.Parent < 0 ∨ (i : Int) ≤ x.Parent then 12
    else match l[x.Parent.toNat]? with
      | none => 0
      | some y => if y.Kind = 4 ∨ (y.Kind = 3 ↔ x.Side = 0) then 17 else if ¬ PlFree l i x then 17 else 0
/-! ### The layout -/
def fE (l : List Element) : Nat → Int
  | 0 => 0
  | k + 1 => if fE l k ≠ 0 then fE l k else ftE l k
theorem fE_stays {l : List Element} {k e : Nat} (h : fE l k ≠ 0) : fE l (k + e) = fE l k := by
  induction e with
  | zero => rfl
  | succ e ih => rw [← Nat.add_assoc, fE, if_pos (by rw [ih]; exact h), ih]
/-- Tracks among the first. -/
def trk (l : List Element) : Nat → Nat
  | 0 => 0
  | k + 1 => trk l k + (if l[k]?.map (·.Kind) = some 4 then 1 else 0)
/-- Children among the first. -/
def kds (l : List Element) (i : Int) : Nat → Nat
  | 0 => 0
  | k + 1 => kds l i k + (if 1 ≤ k ∧ l[k]?.map (·.Parent) = some i then 1 else 0)
def wantK (x : Element) : Nat := if x.Kind = 3 then 2 else if x.Kind = 4 then 0 else 1
abbrev Kidd (l : List Element) (i : Nat) : Prop := ∀ x, l[i]? = some x → wantK x ≤ kds l i l.length
instance {l : List Element} {i : Nat} : Decidable (Kidd l i) := by
  unfold Kidd
  cases h : l[i]? with
  | none => exact .isTrue fun x hx => by cases hx
  | some y => exact decidable_of_iff (wantK y ≤ kds l i l.length) ⟨fun h x hx => by cases hx; exact h, fun h => h y rfl⟩
def lE (l : List Element) : Int :=
  if 128 < l.length then 3 else if l.length = 0 then 13 else if fE l l.length ≠ 0 then fE l l.length
  else if ¬ (∀ i, i < l.length → Kidd l i) then 13 else if 32 < trk l l.length then 3 else 0
theorem trk_le (l : List Element) (k : Nat) : trk l k ≤ k := by
  induction k with
  | zero => exact Nat.le_refl _
  | succ k ih => unfold trk; split <;> omega
theorem kds_le (l : List Element) (i : Int) (k : Nat) : kds l i k ≤ k := by
  induction k with
  | zero => exact Nat.le_refl _
  | succ k ih => unfold kds; split <;> omega
end Go.Hy
