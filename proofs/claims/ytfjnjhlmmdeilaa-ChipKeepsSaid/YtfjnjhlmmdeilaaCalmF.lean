/- The frame behind a drawn region, written out. -/
import Derived.Test.YtfjnjhlmmdeilaaCalm
namespace Go.Proofs.Ytfjnjhlmmdeilaa.Calm
open Go.RowKit

section
variable {P : Program} {ops : Array Oper}
/-- The frame with all that the operations leave. -/
def puts (vs : Nat → Value) : Nat → List Oper → Act → Act
  | _, [], a => a
  | k, o :: r, a => puts vs (k + 1) r (a.put o.dst (vs k))
theorem put_size (a : Act) (d : Option Tmp) (v : Value) : (a.put d v).tmps.size = a.tmps.size := by
  cases d <;> simp [Act.put]
theorem put_defers (a : Act) (d : Option Tmp) (v : Value) : (a.put d v).defers = a.defers := by
  cases d <;> rfl
theorem puts_size (vs : Nat → Value) : ∀ (l : List Oper) (k : Nat) (a : Act), (puts vs k l a).tmps.size = a.tmps.size
  | [], _, _ => rfl
  | o :: r, k, a => by rw [puts, puts_size vs r, put_size]
theorem puts_defers (vs : Nat → Value) : ∀ (l : List Oper) (k : Nat) (a : Act), (puts vs k l a).defers = a.defers
  | [], _, _ => rfl
  | o :: r, k, a => by rw [puts, puts_defers vs r, put_defers]
theorem puts_old (vs : Nat → Value) (t : Tmp) : ∀ (l : List Oper) (k : Nat) (a : Act), (∀ o ∈ l, o.dst ≠ some t) → (puts vs k l a).tmps.getD t undef = a.tmps.getD t undef
  | [], _, _, _ => rfl
  | o :: r, k, a, h => by
    rw [puts, puts_old vs t r _ _ (fun x hx => h x (List.mem_cons_of_mem _ hx)), getD_put_ne (h o List.mem_cons_self)]
theorem puts_new (vs : Nat → Value) (t : Tmp) : ∀ (l : List Oper) (k i : Nat) (o : Oper) (a : Act), l[i]? = some o → o.dst = some t → t < a.tmps.size → (∀ j x, l[j]? = some x → x.dst = some t → j = i) →
    (puts vs k l a).tmps.getD t undef = vs (k + i)
  | [], _, _, _, _, h, _, _, _ => by simp at h
  | x :: r, k, 0, o, a, h, hd, ht, hu => by
    simp only [List.getElem?_cons_zero, Option.some.injEq] at h
    subst h
    rw [puts, puts_old vs t r _ _ (fun y hy e => by
      obtain ⟨j, hj, rfl⟩ := List.getElem_of_mem hy
      have := hu (j + 1) _ (by simp [List.getElem?_eq_getElem hj]) e
      omega), hd, getD_put_same ht]
    rfl
  | x :: r, k, i + 1, o, a, h, hd, ht, hu => by
    rw [puts, puts_new vs t r (k + 1) i o _ (by simpa using h) hd (by rw [put_size]; exact ht) (fun j y hj hy => by
      have := hu (j + 1) y (by simpa using hj) hy
      omega)]
    congr 1
    omega
theorem Inv.frame {S : World → Prop} {V : Nat → Value → World → Prop} {a0 a : Act} {w : World} (h : Inv ops S V a0 (Array.replicate ops.size true) a w) (hf : formOk ops a0.tmps.size = true)
    (vs : Nat → Value) (hv : ∀ i v, V i v w → i < ops.size → (∀ o : Oper, ops[i]? = some o → o.dst.isSome = true) → v = vs i) : a = puts vs 0 ops.toList a0 := by
  have hd : a.defers = (puts vs 0 ops.toList a0).defers := by rw [puts_defers, h.d]
  have ht : a.tmps = (puts vs 0 ops.toList a0).tmps := by
    apply Array.ext
    · rw [puts_size, h.n]
    · intro t h1 h2
      have e : a.tmps.getD t undef = (puts vs 0 ops.toList a0).tmps.getD t undef := by
        by_cases hs : ∃ (i : Nat) (o : Oper), ops[i]? = some o ∧ o.dst = some t
        · obtain ⟨i, o, ho, hot⟩ := hs
          have hi : i < ops.size := (Array.getElem?_eq_some_iff.1 ho).1
          have h3 := h.v i o ho (by simp [hi])
          unfold Left at h3
          rw [hot] at h3
          dsimp only at h3
          rw [puts_new vs t ops.toList 0 i o a0 (by simpa using ho) hot (by rw [← h.n]; exact h1) (fun j x hj hx => ((formOk_at hf ho).2 t hot).2 j x (by simpa using hj) hx), Nat.zero_add]
          exact hv i _ h3 hi (fun x hx => by rw [ho] at hx; obtain rfl := Option.some.inj hx; rw [hot]; rfl)
        · rw [puts_old vs t ops.toList 0 a0 (fun (o : Oper) ho e => hs (by
            obtain ⟨i, hi, rfl⟩ := List.getElem_of_mem ho
            exact ⟨i, _, by simp, e⟩))]
          refine h.f t ?_
          unfold still
          rw [Array.all_eq_true_iff_forall_mem]
          intro o ho
          cases hx : o.dst with
          | none => rfl
          | some u =>
            dsimp only
            have : u ≠ t := fun e => hs (by
              obtain ⟨i, hi, rfl⟩ := Array.mem_iff_getElem.1 ho
              exact ⟨i, _, Array.getElem?_eq_getElem hi, by rw [hx, e]⟩)
            simp [this]
      simpa [Array.getD, h1, h2] using e
  cases a
  cases hp : puts vs 0 ops.toList a0
  rw [hp] at hd ht
  simp_all

/-- A guarded operation whose guard has not yielded what it wants. -/
theorem wanted_off {o : Oper} {a : Act} {g : Nat} {u : Bool} {og : Oper} {t : Tmp} {x : Value} (hg : o.guard = some (g, u)) (ho : ops[g]? = some og) (hd : og.dst = some t) (hv : a.tmps.getD t undef = x) (hx : x ≠ .bool u) : Region.wanted o (yielded ops a.tmps) = false := by
  cases hw : Region.wanted o (yielded ops a.tmps) with
  | false => rfl
  | true =>
    exfalso
    apply hx
    rw [← hv]
    simp only [Region.wanted, hg, yielded, ho, hd, Option.bind_some] at hw
    simp at hw
    split at hw
    · rename_i b hb
      simp at hw
      subst hw
      simp [hb]
    · cases hw
theorem step_off {Q : Exit → Act → World → Prop} {S : World → Prop} {E : World → World → Prop} {V : Nat → Value → World → Prop} {o : Oper} {a : Act} {w : World} {i : Nat} (hw : Region.wanted o (yielded ops a.tmps) = false) (h : V i undef w) :
    if Region.wanted o (yielded ops a.tmps) = true then ∀ K : Act → World → Prop, (∀ v w', S w' → E w w' → V i v w' → K (a.put o.dst v) w') → o.wp P a w K Q else V i undef w := by
  rw [if_neg (by rw [hw]; simp)]
  exact h

/-- A walk stops at a plain region: by hiding it. -/
structure Stop (p : Prop) : Prop where mk :: (out : p)
theorem stop_plain {Q : Exit → Act → World → Prop} {id : Nat} {a : Act} {w : World} (h : Stop ((Code.region id ops false).wp P Q a w)) : (Code.region id ops false).wp P Q a w := h.out

/-! ### A plain region, in the program's order, told the same way -/
theorem calm_plain_from {Q : Exit → Act → World → Prop} {S : World → Prop} {E : World → World → Prop} {V : Nat → Value → World → Prop} {fr : List Tmp} {a0 : Act} (hf : formOk ops a0.tmps.size = true) (hfr : (fr.all (still ops)) = true)
    (hV : ∀ j u x y, V j u x → E x y → V j u y) (hE : ∀ w, E w w) (hs : Steps (Step P ops Q S E V fr a0) 0 ops.toList)
    (hend : ∀ a w, Inv ops S V a0 (Array.replicate ops.size true) a w → Q .normal a w) :
    ∀ (m k : Nat) (l : Array Bool) (a : Act) (w : World), k + m = ops.size → (∀ i, i < k → l.getD i true = true) → (∀ i, k ≤ i → i < ops.size → l.getD i true = false) → Inv ops S V a0 l a w → wpOps P ops Q (List.range' k m) a w
  | 0, k, l, a, w, hk, h1, _, hI => by
    have hl : l = Array.replicate ops.size true := by
      apply Array.ext
      · simpa using hI.z
      · intro i h2 h3
        have := h1 i (by have := hI.z; omega)
        simp only [Array.getD_eq_getD_getElem?, Array.getElem?_eq_getElem h2, Option.getD_some] at this
        simpa using this
    subst hl
    exact hend a w hI
  | m + 1, k, l, a, w, hk, h1, h2, hI => by
    have hks : k < ops.size := by omega
    have ho : ops[k]? = some ops[k] := Array.getElem?_eq_getElem hks
    have hlk := h2 k (Nat.le_refl _) hks
    have hN : needs ops V a w ops[k].after.toList := needs_of _ fun e he hb x hx => hI.v e.on x hx (h1 e.on ((formOk_at hf ho).1 e (by simpa using he) hb))
    have hst := Steps.at_ hs (i := k) (o := ops[k]) (by simp) a w hI.s hN (same_of fr fun t ht => hI.f t (List.all_eq_true.1 hfr t ht))
    rw [Nat.zero_add] at hst
    have hgo : ∀ (v : Value) (w' : World), S w' → E w w' → V k v w' → wpOps P ops Q (List.range' (k + 1) m) (a.put ops[k].dst v) w' := fun v w' hS' hE' hv' => by
      refine calm_plain_from hf hfr hV hE hs hend m (k + 1) (l.setIfInBounds k true) _ w' (by omega) (fun i hi => ?_) (fun i hi hi2 => ?_) (hI.next hf hV ho hlk hS' hE' hv')
      · by_cases hik : i = k
        · subst hik
          have : i < l.size := by rw [hI.z]; exact hks
          simp [Array.getD_eq_getD_getElem?, this]
        · have := h1 i (by omega)
          rwa [getD_set_ne true (Ne.symm hik)]
      · have := h2 i (by omega) hi2
        rwa [getD_set_ne true (by omega)]
    rw [List.range'_succ, wpOps_cons]
    unfold wpOp
    rw [ho]
    dsimp only
    by_cases hw : Region.wanted ops[k] (yielded ops a.tmps) = true
    · rw [if_pos hw] at hst
      rw [if_pos hw]
      exact .inl (hst _ hgo)
    · rw [if_neg hw] at hst
      rw [if_neg hw]
      exact hgo _ _ hI.s (hE w) hst
theorem calm_plain {Q : Exit → Act → World → Prop} {id : Nat} {a0 : Act} {w : World} (S : World → Prop) (E : World → World → Prop) (V : Nat → Value → World → Prop) (fr : List Tmp)
    (hf : formOk ops a0.tmps.size = true) (hfr : (fr.all (still ops)) = true) (hV : ∀ j u x y, V j u x → E x y → V j u y) (hE : ∀ w, E w w) (hS : S w)
    (hs : Steps (Step P ops Q S E V fr a0) 0 ops.toList)
    (hend : ∀ a w, Inv ops S V a0 (Array.replicate ops.size true) a w → Q .normal a w) : (Code.region id ops false).wp P Q a0 w := by
  refine wp_region ?_
  rw [List.range_eq_range']
  refine calm_plain_from hf hfr hV hE hs hend ops.size 0 (Array.replicate ops.size false) a0 w (by omega) (fun i hi => by omega) (fun i _ hi => by simp [hi]) ⟨hS, rfl, rfl, by simp, fun i o ho hl => ?_, fun _ _ => rfl⟩
  have hi : i < ops.size := (Array.getElem?_eq_some_iff.1 ho).1
  simp [hi] at hl
end
end Go.Proofs.Ytfjnjhlmmdeilaa.Calm
