/- A region that draws its order, walked operation by operation, where what holds of the world hangs on which operations are done, and on their slots. -/
import Derived.Test.YtfjnjhlmmdeilaaCalmF
namespace Go.Proofs.Ytfjnjhlmmdeilaa.Calm3
open Go.RowKit Go.Proofs.Ytfjnjhlmmdeilaa.Calm

section
variable {P : Program} {ops : Array Oper} {Q : Exit → Act → World → Prop}

/-- With one more done. -/
def up (l : Nat → Bool) (i : Nat) : Nat → Bool := fun j => if j = i then true else l j
/-- What it waits for is done. -/
def done (l : Nat → Bool) : List Edge → Prop
  | [] => True
  | e :: r => (Region.binds .any e = true → l e.on = true) ∧ done l r
theorem done_of {l : Nat → Bool} : ∀ es : List Edge, (∀ e ∈ es, Region.binds .any e = true → l e.on = true) → done l es
  | [], _ => trivial
  | e :: r, h => ⟨h e List.mem_cons_self, done_of r fun x hx => h x (List.mem_cons_of_mem _ hx)⟩
/-- One step. -/
def Step (P : Program) (ops : Array Oper) (Q : Exit → Act → World → Prop) (S : (Nat → Bool) → Act → World → Prop) (E : World → World → Prop) (V : Nat → Value → World → Prop) (fr : List Tmp) (a0 : Act) (i : Nat) (o : Oper) : Prop :=
  ∀ l a w, l i = false → done l o.after.toList → S l a w → needs ops V a w o.after.toList → same a0 a fr →
    if Region.wanted o (yielded ops a.tmps) = true then ∀ K : Act → World → Prop, (∀ v w', S (up l i) (a.put o.dst v) w' → E w w' → V i v w' → K (a.put o.dst v) w') → o.wp P a w K Q
    else V i undef w ∧ S (up l i) (a.put o.dst undef) w
/-- What holds on the way. -/
structure Inv2 (ops : Array Oper) (S : (Nat → Bool) → Act → World → Prop) (V : Nat → Value → World → Prop) (a0 : Act) (l : Array Bool) (a : Act) (w : World) : Prop where
  s : S (fun j => l.getD j true) a w
  d : a.defers = a0.defers
  n : a.tmps.size = a0.tmps.size
  z : l.size = ops.size
  v : ∀ i o, ops[i]? = some o → l.getD i true = true → Calm.Left V i o.dst a w
  f : ∀ t, still ops t = true → a.tmps.getD t undef = a0.tmps.getD t undef
theorem Inv2.next {S : (Nat → Bool) → Act → World → Prop} {E : World → World → Prop} {V : Nat → Value → World → Prop} {a0 a : Act} {l : Array Bool} {w w' : World} {i : Nat} {o : Oper} {v : Value}
    (hf : formOk ops a0.tmps.size = true) (hV : ∀ j u x y, V j u x → E x y → V j u y) (h : Inv2 ops S V a0 l a w) (ho : ops[i]? = some o) (hl : l.getD i true = false)
    (hS : S (up (fun j => l.getD j true) i) (a.put o.dst v) w') (hE : E w w') (hv : V i v w') : Inv2 ops S V a0 (l.setIfInBounds i true) (a.put o.dst v) w' := by
  obtain ⟨_, hd⟩ := formOk_at hf ho
  have hil : i < l.size := by
    rw [h.z]; exact (Array.getElem?_eq_some_iff.1 ho).1
  have hup : (fun j => (l.setIfInBounds i true).getD j true) = up (fun j => l.getD j true) i := by
    funext j
    unfold up
    by_cases e : j = i
    · subst e
      simp [hil]
    · rw [if_neg e, getD_set_ne true (Ne.symm e)]
  refine ⟨by rw [hup]; exact hS, ?_, ?_, by simpa using h.z, fun j x hj hjl => ?_, fun t ht => ?_⟩
  · cases ho2 : o.dst with
    | none => exact h.d
    | some t => exact h.d
  · cases ho2 : o.dst with
    | none => exact h.n
    | some t => simpa [Act.put] using h.n
  · by_cases hji : j = i
    · subst hji
      rw [ho] at hj
      obtain rfl := Option.some.inj hj
      unfold Calm.Left
      cases hx : o.dst with
      | none => exact ⟨v, hv⟩
      | some t =>
        dsimp only
        rw [getD_put_same (by rw [h.n]; exact (hd t hx).1)]
        exact hv
    · have hl2 : l.getD j true = true := by rwa [getD_set_ne true (Ne.symm hji)] at hjl
      have h1 := h.v j x hj hl2
      unfold Calm.Left at h1 ⊢
      cases hx : x.dst with
      | none =>
        rw [hx] at h1
        obtain ⟨u, hu⟩ := h1
        exact ⟨u, hV _ _ _ _ hu hE⟩
      | some t =>
        rw [hx] at h1
        dsimp only at h1 ⊢
        rw [getD_put_ne (fun e => hji ((hd t e).2 j x hj hx))]
        exact hV _ _ _ _ h1 hE
  · rw [getD_put_ne (still_ne ht ho)]
    exact h.f t ht
theorem calm_any {S : (Nat → Bool) → Act → World → Prop} {E : World → World → Prop} {V : Nat → Value → World → Prop} {fr : List Tmp} {a0 : Act} (hf : formOk ops a0.tmps.size = true) (hfr : (fr.all (still ops)) = true)
    (hV : ∀ j u x y, V j u x → E x y → V j u y) (hE : ∀ w, E w w) (hs : Calm.Steps (Step P ops Q S E V fr a0) 0 ops.toList)
    (hend : ∀ a w, Inv2 ops S V a0 (Array.replicate ops.size true) a w → Q .normal a w) :
    ∀ (fuel : Nat) (l : Array Bool) (a : Act) (w : World), (l.toList.filter (! ·)).length = fuel → Inv2 ops S V a0 l a w → wpAny P .any ops Q fuel l a w := by
  have hnone : ∀ (l : Array Bool) (a : Act) (w : World), Inv2 ops S V a0 l a w → Region.ready .any ops l = [] → Q .normal a w := by
    intro l a w hI hr
    have hall : ∀ i, i < l.size → l.getD i true = true := by
      intro i
      induction i using Nat.strongRecOn with
      | _ i ih =>
        intro hi
        cases hb : l.getD i true with
        | true => rfl
        | false =>
          have hi2 : i < ops.size := by rw [← hI.z]; exact hi
          have ho : ops[i]? = some ops[i] := Array.getElem?_eq_getElem hi2
          have hin : i ∈ Region.ready .any ops l := mem_ready.2 ⟨hb, ops[i], ho, fun e he hbn => by
            have hlt := (formOk_at hf ho).1 e he hbn
            have h1 := ih e.on hlt (by omega)
            simp only [Array.getD_eq_getD_getElem?] at h1 ⊢
            rw [Array.getElem?_eq_getElem (by omega)] at h1 ⊢
            simpa using h1⟩
          rw [hr] at hin
          cases hin
    have hl : l = Array.replicate ops.size true := by
      apply Array.ext
      · simpa using hI.z
      · intro i h1 h2
        have := hall i h1
        simp only [Array.getD_eq_getD_getElem?, Array.getElem?_eq_getElem h1, Option.getD_some] at this
        simpa using this
    subst hl
    exact hend a w hI
  intro fuel
  induction fuel with
  | zero =>
    intro l a w hm hI
    have hr : Region.ready .any ops l = [] := by
      refine List.eq_nil_iff_forall_not_mem.2 fun i hi => ?_
      obtain ⟨h1, _⟩ := mem_ready.1 hi
      have hil : i < l.size := by
        rcases Nat.lt_or_ge i l.size with h | h
        · exact h
        · simp [Array.getElem?_eq_none h] at h1
      have : (false : Bool) ∈ l.toList.filter (! ·) := by
        refine List.mem_filter.2 ⟨?_, rfl⟩
        simp only [Array.getD_eq_getD_getElem?, Array.getElem?_eq_getElem hil, Option.getD_some] at h1
        rw [← h1]
        exact Array.getElem_mem_toList hil
      rw [List.eq_nil_of_length_eq_zero hm] at this
      cases this
    exact ⟨hr, hnone l a w hI hr⟩
  | succ fuel ih =>
    intro l a w hm hI
    refine ⟨fun hr => hnone l a w hI hr, fun i hi => ?_⟩
    obtain ⟨hl, o, ho, hneed⟩ := mem_ready.1 hi
    have hil : i < l.size := by
      rcases Nat.lt_or_ge i l.size with h | h
      · exact h
      · simp [Array.getElem?_eq_none h] at hl
    have hcount : ((l.setIfInBounds i true).toList.filter (! ·)).length = fuel := by
      have h1 : l[i] = false := by simpa [hil] using hl
      have hL : l.toList = l.toList.take i ++ false :: l.toList.drop (i + 1) := by
        have h2 : l.toList[i]'(by simpa using hil) = false := by simpa using h1
        rw [← h2, List.getElem_cons_drop, List.take_append_drop]
      rw [Array.toList_setIfInBounds, List.set_eq_take_append_cons_drop, if_pos (by simpa using hil)]
      rw [hL] at hm
      simp only [List.filter_append, List.filter_cons, Bool.not_false, Bool.not_true, if_true, List.length_append, List.length_cons] at hm ⊢
      simp only [Bool.false_eq_true, if_false]
      omega
    have hN : needs ops V a w o.after.toList := needs_of _ fun e he hb x hx => by
      have h1 := hneed e (by simpa using he) hb
      refine hI.v e.on x hx ?_
      have hlt : e.on < l.size := by
        rcases Nat.lt_or_ge e.on l.size with h | h
        · exact h
        · simp [Array.getElem?_eq_none h] at h1
      simp only [Array.getD_eq_getD_getElem?, Array.getElem?_eq_getElem hlt, Option.getD_some] at h1 ⊢
      exact h1
    have hdn : done (fun j => l.getD j true) o.after.toList := done_of _ fun e he hb => by
      have h1 := hneed e (by simpa using he) hb
      have hlt : e.on < l.size := by
        rcases Nat.lt_or_ge e.on l.size with h | h
        · exact h
        · simp [Array.getElem?_eq_none h] at h1
      simp only [Array.getD_eq_getD_getElem?, Array.getElem?_eq_getElem hlt, Option.getD_some] at h1 ⊢
      exact h1
    have hst := Calm.Steps.at_ hs (i := i) (o := o) (by simpa using ho) (fun j => l.getD j true) a w (by rw [Nat.zero_add]; exact hl) hdn hI.s hN (same_of fr fun t ht => hI.f t (List.all_eq_true.1 hfr t ht))
    rw [Nat.zero_add] at hst
    unfold wpOp
    rw [ho]
    dsimp only
    by_cases hw : Region.wanted o (yielded ops a.tmps) = true
    · rw [if_pos hw] at hst
      rw [if_pos hw]
      exact .inl (hst _ fun v w' hS' hE' hv' => ih _ _ _ hcount (hI.next hf hV ho hl hS' hE' hv'))
    · rw [if_neg hw] at hst
      rw [if_neg hw]
      exact ih _ _ _ hcount (hI.next hf hV ho hl hst.2 (hE w) hst.1)
/-- THE REGION. S: what holds of the world all the way; E: what a step leaves alone; V: what each operation's value is. -/
theorem calm_region {id : Nat} {a0 : Act} {w : World} (S : (Nat → Bool) → Act → World → Prop) (E : World → World → Prop) (V : Nat → Value → World → Prop) (fr : List Tmp) (hm : P.follows .mixedOrders = true)
    (hf : formOk ops a0.tmps.size = true) (hfr : (fr.all (still ops)) = true) (hV : ∀ j u x y, V j u x → E x y → V j u y) (hE : ∀ w, E w w) (hS : S (fun j => (Array.replicate ops.size false).getD j true) a0 w.drew)
    (hs : Calm.Steps (Step P ops Q S E V fr a0) 0 ops.toList)
    (hend : ∀ a w, Inv2 ops S V a0 (Array.replicate ops.size true) a w → Q .normal a w) : (Code.region id ops true).wp P Q a0 w := by
  refine wp_region_any hm ?_
  refine calm_any hf hfr hV hE hs hend ops.size _ _ _ (by simp) ⟨hS, rfl, rfl, by simp, fun i o ho hl => ?_, fun _ _ => rfl⟩
  have hi : i < ops.size := (Array.getElem?_eq_some_iff.1 ho).1
  simp [hi] at hl
/-- What an operation has left, at the end. -/
theorem Inv2.left {S : (Nat → Bool) → Act → World → Prop} {V : Nat → Value → World → Prop} {a0 a : Act} {w : World} (h : Inv2 ops S V a0 (Array.replicate ops.size true) a w) (i : Nat) {o : Oper} (ho : ops[i]? = some o) : Calm.Left V i o.dst a w := by
  have hi : i < ops.size := (Array.getElem?_eq_some_iff.1 ho).1
  exact h.v i o ho (by simp [hi])

/-! ### Single steps -/
variable {S : (Nat → Bool) → Act → World → Prop} {E : World → World → Prop} {V : Nat → Value → World → Prop} {i : Nat} {o : Oper} {a : Act} {w : World} {l : Nat → Bool}
theorem step_val (hw : Region.wanted o (yielded ops a.tmps) = true) (v : Value) {w' : World} (hr : (execOp a.eval o).run P w = .ok (.value v) w') (hS : S (up l i) (a.put o.dst v) w') (hE : E w w') (hv : V i v w') :
    if Region.wanted o (yielded ops a.tmps) = true then ∀ K : Act → World → Prop, (∀ v w', S (up l i) (a.put o.dst v) w' → E w w' → V i v w' → K (a.put o.dst v) w') → o.wp P a w K Q else V i undef w ∧ S (up l i) (a.put o.dst undef) w := by
  rw [if_pos hw]
  intro K hK
  unfold Oper.wp
  rw [hr]
  exact hK _ _ hS hE hv
theorem step_skip (hw : Region.wanted o (yielded ops a.tmps) = true) {w' : World} (hr : (execOp a.eval o).run P w = .ok .skip w') (hS : S (up l i) (a.put o.dst undef) w') (hE : E w w') (hv : V i undef w') :
    if Region.wanted o (yielded ops a.tmps) = true then ∀ K : Act → World → Prop, (∀ v w', S (up l i) (a.put o.dst v) w' → E w w' → V i v w' → K (a.put o.dst v) w') → o.wp P a w K Q else V i undef w ∧ S (up l i) (a.put o.dst undef) w := by
  rw [if_pos hw]
  intro K hK
  unfold Oper.wp
  rw [hr]
  exact hK _ _ hS hE hv
theorem step_call (hw : Region.wanted o (yielded ops a.tmps) = true) {f : FuncId} {args : Array Value} {w1 : World} (hr : (execOp a.eval o).run P w = .ok (.enter f args) w1)
    (hc : Calls P f args w1 fun e w' => ∃ v, e = .returned v ∧ S (up l i) (a.put o.dst v) w' ∧ E w w' ∧ V i v w') :
    if Region.wanted o (yielded ops a.tmps) = true then ∀ K : Act → World → Prop, (∀ v w', S (up l i) (a.put o.dst v) w' → E w w' → V i v w' → K (a.put o.dst v) w') → o.wp P a w K Q else V i undef w ∧ S (up l i) (a.put o.dst undef) w := by
  rw [if_pos hw]
  intro K hK
  unfold Oper.wp
  rw [hr]
  refine Calls.mono hc ?_
  rintro e w' ⟨v, rfl, h1, h2, h3⟩
  exact hK _ _ h1 h2 h3
theorem step_off (hw : Region.wanted o (yielded ops a.tmps) = false) (h : V i undef w) (hS : S (up l i) (a.put o.dst undef) w) :
    if Region.wanted o (yielded ops a.tmps) = true then ∀ K : Act → World → Prop, (∀ v w', S (up l i) (a.put o.dst v) w' → E w w' → V i v w' → K (a.put o.dst v) w') → o.wp P a w K Q else V i undef w ∧ S (up l i) (a.put o.dst undef) w := by
  rw [if_neg (by rw [hw]; simp)]
  exact ⟨h, hS⟩
/-- What stands in the operations' slots. -/
def fits (vs : Nat → Value) (a : Act) : Nat → List Oper → Prop
  | _, [] => True
  | k, o :: r => (match o.dst with
    | some t => a.tmps.getD t undef = vs k
    | none => True) ∧ fits vs a (k + 1) r
theorem fits_at {vs : Nat → Value} {a : Act} : ∀ {l : List Oper} {k i : Nat} {o : Oper} {t : Tmp}, fits vs a k l → l[i]? = some o → o.dst = some t → a.tmps.getD t undef = vs (k + i)
  | [], _, _, _, _, _, h, _ => by simp at h
  | x :: r, k, 0, o, t, hf, h, hd => by
    simp only [List.getElem?_cons_zero, Option.some.injEq] at h
    subst h
    have := hf.1
    rw [hd] at this
    exact this
  | x :: r, k, i + 1, o, t, hf, h, hd => by
    have := fits_at hf.2 (by simpa using h) hd
    rwa [Nat.add_assoc, Nat.add_comm 1 i] at this
theorem Inv2.frame {S : (Nat → Bool) → Act → World → Prop} {V : Nat → Value → World → Prop} {a0 a : Act} {w : World} (h : Inv2 ops S V a0 (Array.replicate ops.size true) a w) (hf : formOk ops a0.tmps.size = true)
    (vs : Nat → Value) (hv : fits vs a 0 ops.toList) : a = puts vs 0 ops.toList a0 := by
  have hd : a.defers = (puts vs 0 ops.toList a0).defers := by rw [puts_defers, h.d]
  have ht : a.tmps = (puts vs 0 ops.toList a0).tmps := by
    apply Array.ext
    · rw [puts_size, h.n]
    · intro t h1 h2
      have e : a.tmps.getD t undef = (puts vs 0 ops.toList a0).tmps.getD t undef := by
        by_cases hs : ∃ (i : Nat) (o : Oper), ops[i]? = some o ∧ o.dst = some t
        · obtain ⟨i, o, ho, hot⟩ := hs
          have hi : i < ops.size := (Array.getElem?_eq_some_iff.1 ho).1
          have h3 := fits_at hv (by simpa using ho) hot
          rw [puts_new vs t ops.toList 0 i o a0 (by simpa using ho) hot (by rw [← h.n]; exact h1) (fun j x hj hx => ((formOk_at hf ho).2 t hot).2 j x (by simpa using hj) hx), Nat.zero_add]
          rw [h3, Nat.zero_add]
        · rw [puts_old vs t ops.toList 0 a0 (fun (o : Oper) ho e => hs (by
            obtain ⟨i, hi, rfl⟩ := List.getElem_of_mem ho
            exact ⟨i, _, by simp, e⟩))]
          refine h.f t ?_
          unfold still
          rw [Array.all_eq_true_iff_forall_mem]
          intro o ho
          cases hx : o.dst with
          | none => rfl
          | some u =>
            dsimp only
            have : u ≠ t := fun e => hs (by
              obtain ⟨i, hi, rfl⟩ := Array.mem_iff_getElem.1 ho
              exact ⟨i, _, Array.getElem?_eq_getElem hi, by rw [hx, e]⟩)
            simp [this]
      simpa [Array.getD, h1, h2] using e
  cases a
  cases hp : puts vs 0 ops.toList a0
  rw [hp] at hd ht
  simp_all

end
end Go.Proofs.Ytfjnjhlmmdeilaa.Calm3
