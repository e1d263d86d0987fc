/-
  Plain rules for models: what a model answers.
-/
import Derived.Test.YtdgminllobhncaaGreatMod
namespace Go.Hy
set_option linter.unusedVariables false
set_option linter.unusedSimpArgs false
set_option maxHeartbeats 2000000
set_option maxRecDepth 10000

def Ok {α : Type} (m : Option α) (Q : α → Prop) : Prop := ∃ a, m = some a ∧ Q a
section
variable {α β σ : Type} {Q : β → Prop}
theorem Ok.mono {m : Option β} {R : β → Prop} (h : Ok m R) (k : ∀ a, R a → Q a) : Ok m Q := let ⟨a, h1, h2⟩ := h; ⟨a, h1, k a h2⟩
theorem Ok.eq {m : Option β} {v : β} (h : Ok m (· = v)) : m = some v := by obtain ⟨a, h1, rfl⟩ := h; exact h1
theorem ok_eq {m : Option β} {v : β} (h : m = some v) : Ok m (· = v) := ⟨v, h, rfl⟩
theorem ok_of {m : Option β} {v : β} (h : m = some v) (hq : Q v) : Ok m Q := ⟨v, h, hq⟩
theorem ok_some {a : β} (h : Q a) : Ok (some a) Q := ⟨a, rfl, h⟩
theorem ok_bd {m : Option α} {f : α → Option β} {R : α → Prop} (h : Ok m R) (k : ∀ a, R a → Ok (f a) Q) : Ok (bd m f) Q := by
  obtain ⟨a, rfl, h2⟩ := h
  unfold bd
  exact k a h2
theorem ok_bde {m : Option α} {f : α → Option β} {v : α} (h : m = some v) (k : Ok (f v) Q) : Ok (bd m f) Q := by
  subst h
  unfold bd
  exact k
theorem ok_vl {a : α} {f : α → Option β} (k : ∀ x, x = a → Ok (f x) Q) : Ok (vl a f) Q := by
  unfold vl
  exact k a rfl
theorem ok_ck {c : Prop} [Decidable c] {m : Option β} (h : c) (k : Ok m Q) : Ok (ck (decide c) m) Q := by
  rw [decide_eq_true h]
  unfold ck
  exact k
theorem ok_ix {l : List α} {i : Int} {f : α → Option β} (h0 : 0 ≤ i) (h1 : i < l.length) (k : ∀ a, l[i.toNat]? = some a → Ok (f a) Q) : Ok (ix l i f) Q := by
  have h2 : i.toNat < l.length := by omega
  have := k _ (List.getElem?_eq_getElem h2)
  unfold ix
  rw [if_pos h0, List.getElem?_eq_getElem h2]
  exact this
theorem ok_ixe {l : List α} {i : Int} {f : α → Option β} {a : α} (h0 : 0 ≤ i) (h1 : l[i.toNat]? = some a) (k : Ok (f a) Q) : Ok (ix l i f) Q := by
  unfold ix
  rw [if_pos h0, h1]
  exact k
theorem ok_if {c : Prop} [Decidable c] {m1 m2 : Option β} (h1 : c → Ok m1 Q) (h2 : ¬ c → Ok m2 Q) : Ok (cond (decide c) m1 m2) Q := by
  by_cases h : c
  · rw [decide_eq_true h]; exact h1 h
  · rw [decide_eq_false h]; exact h2 h
theorem ok_if1 {c : Prop} [Decidable c] {m1 m2 : Option β} (h : c) (h1 : Ok m1 Q) : Ok (cond (decide c) m1 m2) Q := by
  rw [decide_eq_true h]; exact h1
theorem ok_if0 {c : Prop} [Decidable c] {m1 m2 : Option β} (h : ¬ c) (h2 : Ok m2 Q) : Ok (cond (decide c) m1 m2) Q := by
  rw [decide_eq_false h]; exact h2
theorem ok_b {c : Bool} {m1 m2 : Option β} (h1 : c = true → Ok m1 Q) (h2 : c = false → Ok m2 Q) : Ok (cond c m1 m2) Q := by
  cases c with
  | true => exact h1 rfl
  | false => exact h2 rfl
theorem ok_nb {c : Bool} {m1 m2 : Option β} (h1 : c = false → Ok m1 Q) (h2 : c = true → Ok m2 Q) : Ok (cond (!c) m1 m2) Q := by
  cases c with
  | true => exact h2 rfl
  | false => exact h1 rfl
theorem ok_nd {c : Prop} [Decidable c] {m : Option Bool} {A B : Option β} (h : m = some (decide c)) (hA : ¬ c → Ok A Q) (hB : c → Ok B Q) : Ok (bd m fun v => cond (!v) A B) Q := by
  subst h
  by_cases hc : c
  · rw [decide_eq_true hc]; unfold bd; exact hB hc
  · rw [decide_eq_false hc]; unfold bd; exact hA hc
theorem ok_pd {c : Prop} [Decidable c] {m : Option Bool} {A B : Option β} (h : m = some (decide c)) (hA : c → Ok A Q) (hB : ¬ c → Ok B Q) : Ok (bd m fun v => cond v A B) Q := by
  subst h
  by_cases hc : c
  · rw [decide_eq_true hc]; unfold bd; exact hA hc
  · rw [decide_eq_false hc]; unfold bd; exact hB hc
theorem ok_lp {body : σ → (σ → Option β) → Option β} (I : σ → Prop) (μ : σ → Nat) {n : Nat} {s : σ} (h0 : I s) (hm : μ s < n)
    (h : ∀ s k, I s → (∀ s', I s' → μ s' < μ s → Ok (k s') Q) → Ok (body s k) Q) : Ok (lp body n s) Q := by
  induction n generalizing s with
  | zero => omega
  | succ n ih =>
    rw [lp_succ]
    exact h s _ h0 fun s' h1 h2 => ih h1 (by omega)
theorem ok_jp {k : σ → Option β} {f : (σ → Option β) → Option β} (R : σ → Prop) (h1 : ∀ s, R s → Ok (k s) Q) (h2 : ∀ k', (∀ s, R s → Ok (k' s) Q) → Ok (f k') Q) : Ok (jp k f) Q := by
  unfold jp
  exact h2 k h1
theorem ok_jp0 {k : σ → Option β} {f : (σ → Option β) → Option β} (h : Ok (f k) Q) : Ok (jp k f) Q := by
  unfold jp
  exact h
end
theorem w64_eq {n : Int} (h : -9223372036854775808 ≤ n ∧ n ≤ 9223372036854775807) : w64 n = n := IntWalk.i64_in n h
theorem w64_in (n : Int) : -9223372036854775808 ≤ w64 n ∧ w64 n ≤ 9223372036854775807 := by
  unfold w64; rw [IntKind.wrap_i64]; omega
theorem tmod_rng (x m : Int) (h : 1 ≤ m) : -m < x.tmod m ∧ x.tmod m < m := by
  have h1 := Int.natAbs_tmod x m
  have h2 : x.natAbs % m.natAbs < m.natAbs := Nat.mod_lt _ (by omega)
  omega
theorem tmod_nn {x m : Int} (h0 : 0 ≤ x) (h : 1 ≤ m) : 0 ≤ x.tmod m ∧ x.tmod m < m := by
  have := tmod_rng x m h
  exact ⟨Int.tmod_nonneg _ h0, this.2⟩
theorem tdiv_nn {x m : Int} (h0 : 0 ≤ x) (h : 1 ≤ m) : 0 ≤ x.tdiv m ∧ x.tdiv m ≤ x := by
  rw [Int.tdiv_eq_ediv_of_nonneg h0]
  exact ⟨Int.ediv_nonneg h0 (by omega), Int.ediv_le_self _ h0⟩
theorem big_eq : big = 18446744073709551616 := rfl
end Go.Hy
