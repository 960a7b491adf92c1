/- The frame behind a drawn region, written out. -/
import Derived.Test.YtgdhbmdhgejnkaaCalm
namespace Go.Proofs.Ytgdhbmdhgejnkaa.Calm
open Go.RowKit

section
variable {P : Program} {ops : Array Oper}
/-- The frame with all that the operations leave. -/
def puts (vs : Nat → Value) : Nat → List Oper → Act → Act
  | _, [], a => a
  | k, o :: r, a => puts vs (k + 1) r (a.put o.dst (vs k))
theorem put_size (a : Act) (d : Option Tmp) (v : Value) : (a.put d v).tmps.size = a.tmps.size := by
  cases d <;> simp [Act.put]
theorem put_defers (a : Act) (d : Option Tmp) (v : Value) : (a.put d v).defers = a.defers := by
  cases d <;> rfl
theorem puts_size (vs : Nat → Value) : ∀ (l : List Oper) (k : Nat) (a : Act), (puts vs k l a).tmps.size = a.tmps.size
  | [], _, _ => rfl
  | o :: r, k, a => by rw [puts, puts_size vs r, put_size]
theorem puts_defers (vs : Nat → Value) : ∀ (l : List Oper) (k : Nat) (a : Act), (puts vs k l a).defers = a.defers
  | [], _, _ => rfl
  | o :: r, k, a => by rw [puts, puts_defers vs r, put_defers]
theorem puts_old (vs : Nat → Value) (t : Tmp) : ∀ (l : List Oper) (k : Nat) (a : Act), (∀ o ∈ l, o.dst ≠ some t) → (puts vs k l a).tmps.getD t undef = a.tmps.getD t undef
  | [], _, _, _ => rfl
  | o :: r, k, a, h => by
    rw [puts, puts_old vs t r _ _ (fun x hx => h x (List.mem_cons_of_mem _ hx)), getD_put_ne (h o List.mem_cons_self)]
theorem puts_new (vs : Nat → Value) (t : Tmp) : ∀ (l : List Oper) (k i : Nat) (o : Oper) (a : Act), l[i]? = some o → o.dst = some t → t < a.tmps.size → (∀ j x, l[j]? = some x → x.dst = some t → j = i) →
    (puts vs k l a).tmps.getD t undef = vs (k + i)
  | [], _, _, _, _, h, _, _, _ => by simp at h
  | x :: r, k, 0, o, a, h, hd, ht, hu => by
    simp only [List.getElem?_cons_zero, Option.some.injEq] at h
    subst h
    rw [puts, puts_old vs t r _ _ (fun y hy e => by
      obtain ⟨j, hj, rfl⟩ := List.getElem_of_mem hy
      have := hu (j + 1) _ (by simp [List.getElem?_eq_getElem hj]) e
      omega), hd, getD_put_same ht]
    rfl
  | x :: r, k, i + 1, o, a, h, hd, ht, hu => by
    rw [puts, puts_new vs t r (k + 1) i o _ (by simpa using h) hd (by rw [put_size]; exact ht) (fun j y hj hy => by
      have := hu (j + 1) y (by simpa using hj) hy
      omega)]
    congr 1
    omega
theorem Inv.frame {S : World → Prop} {V : Nat → Value → World → Prop} {a0 a : Act} {w : World} (h : Inv ops S V a0 (Array.replicate ops.size true) a w) (hf : formOk ops a0.tmps.size = true)
    (vs : Nat → Value) (hv : ∀ i v, V i v w → i < ops.size → (∀ o : Oper, ops[i]? = some o → o.dst.isSome = true) → v = vs i) : a = puts vs 0 ops.toList a0 := by
  have hd : a.defers = (puts vs 0 ops.toList a0).defers := by rw [puts_defers, h.d]
  have ht : a.tmps = (puts vs 0 ops.toList a0).tmps := by
    apply Array.ext
    · rw [puts_size, h.n]
    · intro t h1 h2
      have e : a.tmps.getD t undef = (puts vs 0 ops.toList a0).tmps.getD t undef := by
        by_cases hs : ∃ (i : Nat) (o : Oper), ops[i]? = some o ∧ o.dst = some t
        · obtain ⟨i, o, ho, hot⟩ := hs
          have hi : i < ops.size := (Array.getElem?_eq_some_iff.1 ho).1
          have h3 := h.v i o ho (by simp [hi])
          unfold Left at h3
          rw [hot] at h3
          dsimp only at h3
          rw [puts_new vs t ops.toList 0 i o a0 (by simpa using ho) hot (by rw [← h.n]; exact h1) (fun j x hj hx => ((formOk_at hf ho).2 t hot).2 j x (by simpa using hj) hx), Nat.zero_add]
          exact hv i _ h3 hi (fun x hx => by rw [ho] at hx; obtain rfl := Option.some.inj hx; rw [hot]; rfl)
        · rw [puts_old vs t ops.toList 0 a0 (fun (o : Oper) ho e => hs (by
            obtain ⟨i, hi, rfl⟩ := List.getElem_of_mem ho
            exact ⟨i, _, by simp, e⟩))]
          refine h.f t ?_
          unfold still
          rw [Array.all_eq_true_iff_forall_mem]
          intro o ho
          cases hx : o.dst with
          | none => rfl
          | some u =>
            dsimp only
            have : u ≠ t := fun e => hs (by
              obtain ⟨i, hi, rfl⟩ := Array.mem_iff_getElem.1 ho
              exact ⟨i, _, Array.getElem?_eq_getElem hi, by rw [hx, e]⟩)
            simp [this]
      simpa [Array.getD, h1, h2] using e
  cases a
  cases hp : puts vs 0 ops.toList a0
  rw [hp] at hd ht
  simp_all
end
end Go.Proofs.Ytgdhbmdhgejnkaa.Calm
