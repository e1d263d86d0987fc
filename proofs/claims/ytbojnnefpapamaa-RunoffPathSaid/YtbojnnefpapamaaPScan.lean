/-
  Scans of a list; bytes of names.
-/
import Derived.Test.YtbojnnefpapamaaP0
namespace Go.Hy
set_option linter.unusedVariables false
set_option linter.unusedSimpArgs false
set_option maxHeartbeats 2000000
set_option maxRecDepth 10000
theorem sc_mem {α : Type} {l : List α} {i : Nat} {a : α} (h : l[i]? = some a) : a ∈ l := List.mem_of_getElem? h
theorem sc_take {α : Type} {l : List α} {i : Nat} {a : α} (h : l[i]? = some a) : l.take (i + 1) = l.take i ++ [a] := by
  have hk := (List.getElem?_eq_some_iff.1 h).1
  rw [List.take_succ_eq_append_getElem hk, (List.getElem?_eq_some_iff.1 h).2]
theorem sc_lt {α : Type} {l : List α} {i : Nat} {a : α} (h : l[i]? = some a) : i < l.length := (List.getElem?_eq_some_iff.1 h).1
theorem nodup_at {α : Type} {l : List α} {i : Nat} {a : α} (h : l.Nodup) (ha : l[i]? = some a) : a ∉ l.take i := by
  intro hm
  have h2 : (l.take (i + 1)).Nodup := h.sublist (List.take_sublist ..)
  rw [sc_take ha, List.nodup_append] at h2
  exact h2.2.2 a hm a (List.mem_singleton.2 rfl) rfl
/-- All before z are such. -/
abbrev Scan {α : Type} (f : α → Bool) (l : List α) (z : Int) : Prop := 0 ≤ z ∧ (l.take z.toNat).all f = true
theorem Scan.zero {α : Type} {f : α → Bool} {l : List α} : Scan f l 0 := ⟨Int.le_refl 0, by simp⟩
theorem Scan.step {α : Type} {f : α → Bool} {l : List α} {z : Int} {a : α} (h : Scan f l z) (ha : l[z.toNat]? = some a) (hf : f a = true) : Scan f l (z + 1) := by
  obtain ⟨h0, h1⟩ := h
  have e : (z + 1).toNat = z.toNat + 1 := by omega
  refine ⟨by omega, ?_⟩
  rw [e, sc_take ha, List.all_append, h1]
  simp [hf]
theorem Scan.done {α : Type} {f : α → Bool} {l : List α} {z : Int} (h : Scan f l z) (hz : ¬ z < (l.length : Int)) : l.all f = true := by
  have := h.2
  rwa [List.take_of_length_le (by omega)] at this
theorem scan_no {α : Type} {f : α → Bool} {l : List α} {i : Nat} {a : α} (ha : l[i]? = some a) (hf : f a = false) : l.all f = false := by
  rw [Bool.eq_false_iff]
  intro h
  rw [List.all_eq_true] at h
  have := h a (sc_mem ha)
  rw [hf] at this
  cases this
/-- The bytes of a text. -/
def bl (s : ByteArray) : List UInt8 := s.data.toList
theorem bl_len (s : ByteArray) : (bl s).length = s.size := rfl
theorem bl_at {s : ByteArray} {z : Int} (h0 : 0 ≤ z) (h1 : z < (s.size : Int)) : ∃ b, (bl s)[z.toNat]? = some b ∧ byteAt s z = (b.toNat : Int) := by
  have h : z.toNat < (bl s).length := by rw [bl_len]; omega
  refine ⟨_, List.getElem?_eq_getElem h, ?_⟩
  unfold byteAt
  have : s.data[z.toNat]? = some ((bl s)[z.toNat]) := by
    have := List.getElem?_eq_getElem h
    unfold bl at this ⊢
    simpa using this
  rw [this]
theorem u8_wrap {n : Int} (h : 0 ≤ n ∧ n < 256) : IntKind.wrap .u8 n = n := by
  have hs : IntKind.u8.signed = false := rfl
  simp [IntKind.wrap, IntKind.bits, hs]
  omega
end Go.Hy
