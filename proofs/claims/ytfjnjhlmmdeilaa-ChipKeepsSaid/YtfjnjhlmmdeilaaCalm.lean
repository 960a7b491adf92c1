/- A region that draws its order, walked operation by operation: each one told by what its value is, in whatever order they come. -/
import Derived.Orders
import Derived.Below
import Derived.WalkKit
namespace Go.Proofs.Ytfjnjhlmmdeilaa.Calm
open Go.RowKit

section
variable {P : Program} {ops : Array Oper} {Q : Exit → Act → World → Prop}

/-- What operation number i has left: its value in its slot, or somewhere, if it has none. -/
def Left (V : Nat → Value → World → Prop) (i : Nat) (d : Option Tmp) (a : Act) (w : World) : Prop :=
  match d with
  | some t => V i (a.tmps.getD t undef) w
  | none => ∃ v, V i v w
/-- What stands behind the edges of an operation. -/
def needs (ops : Array Oper) (V : Nat → Value → World → Prop) (a : Act) (w : World) : List Edge → Prop
  | [] => True
  | e :: r => (Region.binds .any e = true → match ops[e.on]? with
    | some o => Left V e.on o.dst a w
    | none => True) ∧ needs ops V a w r
theorem needs_of {V : Nat → Value → World → Prop} {a : Act} {w : World} : ∀ l : List Edge, (∀ e ∈ l, Region.binds .any e = true → ∀ o, ops[e.on]? = some o → Left V e.on o.dst a w) → needs ops V a w l
  | [], _ => trivial
  | e :: r, h => by
    refine ⟨fun hb => ?_, needs_of r fun x hx => h x (List.mem_cons_of_mem _ hx)⟩
    cases ho : ops[e.on]? with
    | none => trivial
    | some o => exact h e List.mem_cons_self hb o ho
/-- No operation fills this slot. -/
def still (ops : Array Oper) (t : Tmp) : Bool := ops.all fun o => match o.dst with
  | some u => !(u == t)
  | none => true
/-- The slots that the region leaves alone. -/
def same (a0 a : Act) : List Tmp → Prop
  | [] => True
  | t :: r => a.tmps.getD t undef = a0.tmps.getD t undef ∧ same a0 a r
/-- One step. -/
def Step (P : Program) (ops : Array Oper) (Q : Exit → Act → World → Prop) (S : World → Prop) (E : World → World → Prop) (V : Nat → Value → World → Prop) (fr : List Tmp) (a0 : Act) (i : Nat) (o : Oper) : Prop :=
  ∀ a w, S w → needs ops V a w o.after.toList → same a0 a fr →
    if Region.wanted o (yielded ops a.tmps) = true then ∀ K : Act → World → Prop, (∀ v w', S w' → E w w' → V i v w' → K (a.put o.dst v) w') → o.wp P a w K Q
    else V i undef w
def Steps (f : Nat → Oper → Prop) : Nat → List Oper → Prop
  | _, [] => True
  | k, o :: r => f k o ∧ Steps f (k + 1) r
theorem Steps.at_ {f : Nat → Oper → Prop} : ∀ {l : List Oper} {k i : Nat} {o : Oper}, Steps f k l → l[i]? = some o → f (k + i) o
  | [], _, _, _, _, h => by simp at h
  | x :: r, k, 0, o, hs, h => by
    simp only [List.getElem?_cons_zero, Option.some.injEq] at h
    subst h
    exact hs.1
  | x :: r, k, i + 1, o, hs, h => by
    have := Steps.at_ (k := k + 1) hs.2 (by simpa using h)
    rwa [Nat.add_assoc, Nat.add_comm 1 i] at this
/-- The region is in form: edges lead back; each slot is filled once, and is there. -/
def formOk (ops : Array Oper) (n : Nat) : Bool :=
  (List.range ops.size).all fun i => match ops[i]? with
    | some o => (o.after.all fun e => !Region.binds .any e || decide (e.on < i)) && (match o.dst with
      | some t => decide (t < n) && ((List.range ops.size).all fun j => j == i || (match ops[j]? with
        | some x => !(x.dst == some t)
        | none => true))
      | none => true)
    | none => true
theorem formOk_at {n i : Nat} {o : Oper} (h : formOk ops n = true) (ho : ops[i]? = some o) :
    (∀ e ∈ o.after, Region.binds .any e = true → e.on < i) ∧ ∀ t, o.dst = some t → t < n ∧ ∀ j x, ops[j]? = some x → x.dst = some t → j = i := by
  have hi : i < ops.size := (Array.getElem?_eq_some_iff.1 ho).1
  have h1 := List.all_eq_true.1 h i (List.mem_range.2 hi)
  rw [ho] at h1
  simp only [Bool.and_eq_true] at h1
  refine ⟨fun e he hb => by have := Array.all_eq_true_iff_forall_mem.1 h1.1 e he; rw [hb] at this; simpa using this, fun t ht => ?_⟩
  have h2 := h1.2
  rw [ht] at h2
  simp only [Bool.and_eq_true, decide_eq_true_eq] at h2
  refine ⟨h2.1, fun j x hj hx => ?_⟩
  have hjl : j < ops.size := (Array.getElem?_eq_some_iff.1 hj).1
  have h3 := List.all_eq_true.1 h2.2 j (List.mem_range.2 hjl)
  rw [hj] at h3
  dsimp only at h3
  rw [hx] at h3
  simpa using h3
/-- What holds on the way. -/
structure Inv (ops : Array Oper) (S : World → Prop) (V : Nat → Value → World → Prop) (a0 : Act) (l : Array Bool) (a : Act) (w : World) : Prop where
  s : S w
  d : a.defers = a0.defers
  n : a.tmps.size = a0.tmps.size
  z : l.size = ops.size
  v : ∀ i o, ops[i]? = some o → l.getD i true = true → Left V i o.dst a w
  f : ∀ t, still ops t = true → a.tmps.getD t undef = a0.tmps.getD t undef
theorem getD_put_ne {a : Act} {d : Option Tmp} {v : Value} {t : Tmp} (h : d ≠ some t) : (a.put d v).tmps.getD t undef = a.tmps.getD t undef := by
  cases d with
  | none => rfl
  | some u =>
    have hu : u ≠ t := fun e => h (by rw [e])
    simp [Act.put, Array.getElem?_setIfInBounds_ne hu]
theorem getD_put_same {a : Act} {t : Tmp} {v : Value} (h : t < a.tmps.size) : (a.put (some t) v).tmps.getD t undef = v := by
  simp [Act.put, h]
theorem still_ne {t : Tmp} {i : Nat} {o : Oper} (h : still ops t = true) (ho : ops[i]? = some o) : o.dst ≠ some t := by
  have hm : o ∈ ops := by
    obtain ⟨hi, rfl⟩ := Array.getElem?_eq_some_iff.1 ho
    exact Array.getElem_mem hi
  have := Array.all_eq_true_iff_forall_mem.1 h o hm
  intro e
  rw [e] at this
  simp at this
theorem Inv.next {S : World → Prop} {E : World → World → Prop} {V : Nat → Value → World → Prop} {a0 a : Act} {l : Array Bool} {w w' : World} {i : Nat} {o : Oper} {v : Value}
    (hf : formOk ops a0.tmps.size = true) (hV : ∀ j u x y, V j u x → E x y → V j u y) (h : Inv ops S V a0 l a w) (ho : ops[i]? = some o) (hl : l.getD i true = false)
    (hS : S w') (hE : E w w') (hv : V i v w') : Inv ops S V a0 (l.setIfInBounds i true) (a.put o.dst v) w' := by
  obtain ⟨_, hd⟩ := formOk_at hf ho
  refine ⟨hS, ?_, ?_, by simpa using h.z, fun j x hj hjl => ?_, fun t ht => ?_⟩
  · cases ho2 : o.dst with
    | none => exact h.d
    | some t => exact h.d
  · cases ho2 : o.dst with
    | none => exact h.n
    | some t => simpa [Act.put] using h.n
  · by_cases hji : j = i
    · subst hji
      rw [ho] at hj
      obtain rfl := Option.some.inj hj
      unfold Left
      cases hx : o.dst with
      | none => exact ⟨v, hv⟩
      | some t =>
        dsimp only
        rw [getD_put_same (by rw [h.n]; exact (hd t hx).1)]
        exact hv
    · have hl2 : l.getD j true = true := by rwa [getD_set_ne true (Ne.symm hji)] at hjl
      have h1 := h.v j x hj hl2
      unfold Left at h1 ⊢
      cases hx : x.dst with
      | none =>
        rw [hx] at h1
        obtain ⟨u, hu⟩ := h1
        exact ⟨u, hV _ _ _ _ hu hE⟩
      | some t =>
        rw [hx] at h1
        dsimp only at h1 ⊢
        rw [getD_put_ne (fun e => hji ((hd t e).2 j x hj hx))]
        exact hV _ _ _ _ h1 hE
  · rw [getD_put_ne (still_ne ht ho)]
    exact h.f t ht
theorem same_of {a0 a : Act} : ∀ fr : List Tmp, (∀ t ∈ fr, a.tmps.getD t undef = a0.tmps.getD t undef) → same a0 a fr
  | [], _ => trivial
  | t :: r, h => ⟨h t List.mem_cons_self, same_of r fun x hx => h x (List.mem_cons_of_mem _ hx)⟩
theorem calm_any {S : World → Prop} {E : World → World → Prop} {V : Nat → Value → World → Prop} {fr : List Tmp} {a0 : Act} (hf : formOk ops a0.tmps.size = true) (hfr : (fr.all (still ops)) = true)
    (hV : ∀ j u x y, V j u x → E x y → V j u y) (hE : ∀ w, E w w) (hs : Steps (Step P ops Q S E V fr a0) 0 ops.toList)
    (hend : ∀ a w, Inv ops S V a0 (Array.replicate ops.size true) a w → Q .normal a w) :
    ∀ (fuel : Nat) (l : Array Bool) (a : Act) (w : World), (l.toList.filter (! ·)).length = fuel → Inv ops S V a0 l a w → wpAny P .any ops Q fuel l a w := by
  have hnone : ∀ (l : Array Bool) (a : Act) (w : World), Inv ops S V a0 l a w → Region.ready .any ops l = [] → Q .normal a w := by
    intro l a w hI hr
    have hall : ∀ i, i < l.size → l.getD i true = true := by
      intro i
      induction i using Nat.strongRecOn with
      | _ i ih =>
        intro hi
        cases hb : l.getD i true with
        | true => rfl
        | false =>
          have hi2 : i < ops.size := by rw [← hI.z]; exact hi
          have ho : ops[i]? = some ops[i] := Array.getElem?_eq_getElem hi2
          have hin : i ∈ Region.ready .any ops l := mem_ready.2 ⟨hb, ops[i], ho, fun e he hbn => by
            have hlt := (formOk_at hf ho).1 e he hbn
            have h1 := ih e.on hlt (by omega)
            simp only [Array.getD_eq_getD_getElem?] at h1 ⊢
            rw [Array.getElem?_eq_getElem (by omega)] at h1 ⊢
            simpa using h1⟩
          rw [hr] at hin
          cases hin
    have hl : l = Array.replicate ops.size true := by
      apply Array.ext
      · simpa using hI.z
      · intro i h1 h2
        have := hall i h1
        simp only [Array.getD_eq_getD_getElem?, Array.getElem?_eq_getElem h1, Option.getD_some] at this
        simpa using this
    subst hl
    exact hend a w hI
  intro fuel
  induction fuel with
  | zero =>
    intro l a w hm hI
    have hr : Region.ready .any ops l = [] := by
      refine List.eq_nil_iff_forall_not_mem.2 fun i hi => ?_
      obtain ⟨h1, _⟩ := mem_ready.1 hi
      have hil : i < l.size := by
        rcases Nat.lt_or_ge i l.size with h | h
        · exact h
        · simp [Array.getElem?_eq_none h] at h1
      have : (false : Bool) ∈ l.toList.filter (! ·) := by
        refine List.mem_filter.2 ⟨?_, rfl⟩
        simp only [Array.getD_eq_getD_getElem?, Array.getElem?_eq_getElem hil, Option.getD_some] at h1
        rw [← h1]
        exact Array.getElem_mem_toList hil
      rw [List.eq_nil_of_length_eq_zero hm] at this
      cases this
    exact ⟨hr, hnone l a w hI hr⟩
  | succ fuel ih =>
    intro l a w hm hI
    refine ⟨fun hr => hnone l a w hI hr, fun i hi => ?_⟩
    obtain ⟨hl, o, ho, hneed⟩ := mem_ready.1 hi
    have hil : i < l.size := by
      rcases Nat.lt_or_ge i l.size with h | h
      · exact h
      · simp [Array.getElem?_eq_none h] at hl
    have hcount : ((l.setIfInBounds i true).toList.filter (! ·)).length = fuel := by
      have h1 : l[i] = false := by simpa [hil] using hl
      have hL : l.toList = l.toList.take i ++ false :: l.toList.drop (i + 1) := by
        have h2 : l.toList[i]'(by simpa using hil) = false := by simpa using h1
        rw [← h2, List.getElem_cons_drop, List.take_append_drop]
      rw [Array.toList_setIfInBounds, List.set_eq_take_append_cons_drop, if_pos (by simpa using hil)]
      rw [hL] at hm
      simp only [List.filter_append, List.filter_cons, Bool.not_false, Bool.not_true, if_true, List.length_append, List.length_cons] at hm ⊢
      simp only [Bool.false_eq_true, if_false]
      omega
    have hN : needs ops V a w o.after.toList := needs_of _ fun e he hb x hx => by
      have h1 := hneed e (by simpa using he) hb
      refine hI.v e.on x hx ?_
      have hlt : e.on < l.size := by
        rcases Nat.lt_or_ge e.on l.size with h | h
        · exact h
        · simp [Array.getElem?_eq_none h] at h1
      simp only [Array.getD_eq_getD_getElem?, Array.getElem?_eq_getElem hlt, Option.getD_some] at h1 ⊢
      exact h1
    have hst := Steps.at_ hs (i := i) (o := o) (by simpa using ho) a w hI.s hN (same_of fr fun t ht => hI.f t (List.all_eq_true.1 hfr t ht))
    rw [Nat.zero_add] at hst
    unfold wpOp
    rw [ho]
    dsimp only
    by_cases hw : Region.wanted o (yielded ops a.tmps) = true
    · rw [if_pos hw] at hst
      rw [if_pos hw]
      exact .inl (hst _ fun v w' hS' hE' hv' => ih _ _ _ hcount (hI.next hf hV ho hl hS' hE' hv'))
    · rw [if_neg hw] at hst
      rw [if_neg hw]
      exact ih _ _ _ hcount (hI.next hf hV ho hl hI.s (hE w) hst)
/-- THE REGION. S: what holds of the world all the way; E: what a step leaves alone; V: what each operation's value is. -/
theorem calm_region {id : Nat} {a0 : Act} {w : World} (S : World → Prop) (E : World → World → Prop) (V : Nat → Value → World → Prop) (fr : List Tmp) (hm : P.follows .mixedOrders = true)
    (hf : formOk ops a0.tmps.size = true) (hfr : (fr.all (still ops)) = true) (hV : ∀ j u x y, V j u x → E x y → V j u y) (hE : ∀ w, E w w) (hS : S w.drew)
    (hs : Steps (Step P ops Q S E V fr a0) 0 ops.toList)
    (hend : ∀ a w, Inv ops S V a0 (Array.replicate ops.size true) a w → Q .normal a w) : (Code.region id ops true).wp P Q a0 w := by
  refine wp_region_any hm ?_
  refine calm_any hf hfr hV hE hs hend ops.size _ _ _ (by simp) ⟨hS, rfl, rfl, by simp, fun i o ho hl => ?_, fun _ _ => rfl⟩
  have hi : i < ops.size := (Array.getElem?_eq_some_iff.1 ho).1
  simp [hi] at hl
/-- What an operation has left, at the end. -/
theorem Inv.left {S : World → Prop} {V : Nat → Value → World → Prop} {a0 a : Act} {w : World} (h : Inv ops S V a0 (Array.replicate ops.size true) a w) (i : Nat) {o : Oper} (ho : ops[i]? = some o) : Left V i o.dst a w := by
  have hi : i < ops.size := (Array.getElem?_eq_some_iff.1 ho).1
  exact h.v i o ho (by simp [hi])

/-! ### Single steps -/
variable {S : World → Prop} {E : World → World → Prop} {V : Nat → Value → World → Prop} {i : Nat} {o : Oper} {a : Act} {w : World}
theorem wanted_none (hg : o.guard = none) : Region.wanted o (yielded ops a.tmps) = true := by simp [Region.wanted, hg]
/-- A guarded operation whose guard has yielded what it wants. -/
theorem wanted_on {g : Nat} {u : Bool} {og : Oper} {t : Tmp} (hg : o.guard = some (g, u)) (ho : ops[g]? = some og) (hd : og.dst = some t) (hv : a.tmps.getD t undef = .bool u) : Region.wanted o (yielded ops a.tmps) = true := by
  have h : a.tmps[t]?.getD undef = .bool u := by simpa using hv
  cases h2 : a.tmps[t]? with
  | none => rw [h2] at h; cases h
  | some x =>
    rw [h2] at h
    simp at h
    subst h
    simp [Region.wanted, hg, yielded, ho, hd, h2]
theorem run_op_load {ty : TypeId} {x : Operand} {u v : Value} {w' : World} (ho : o.op = .load ty x) (hx : a.eval x = u) (h : (Instr.loadAt ty u).run P w = .ok v w') : (execOp a.eval o).run P w = .ok (.value v) w' := by
  unfold execOp
  simp only [ho, hx, Sem.run_bind, h, Result.andThen, Sem.run_pure]
theorem run_op_store {ty : TypeId} {x y : Operand} {u v : Value} {w' : World} (ho : o.op = .store ty x y) (hx : a.eval x = u) (hy : a.eval y = v) (h : (Instr.storeAt ty u v).run P w = .ok () w') : (execOp a.eval o).run P w = .ok .skip w' := by
  unfold execOp
  simp only [ho, hx, hy, Sem.run_bind, h, Result.andThen, Sem.run_pure]
theorem run_op_build {t : TypeId} {parts : Array (Nat × Operand)} {ps : Array (Nat × Value)} {v : Value} {w' : World} (ho : o.op = .build t parts) (hp : parts.map (fun (i, x) => (i, a.eval x)) = ps) (h : (Instr.build t ps).run P w = .ok v w') : (execOp a.eval o).run P w = .ok (.value v) w' := by
  unfold execOp
  subst hp
  simp only [ho, Sem.run_bind, h, Result.andThen, Sem.run_pure]
/-- One operation of a plain region, by its run. -/
theorem wpList_val {rest : List Oper} {v : Value} {w' : World} (hg : o.guard = none) (hr : (execOp a.eval o).run P w = .ok (.value v) w') (h : wpList P ops Q rest (a.put o.dst v) w') : wpList P ops Q (o :: rest) a w :=
  wpList_plain hg fun K hK => by
    unfold Oper.wp
    rw [hr]
    exact hK _ _ h
theorem eval_tmp {t : Tmp} {v : Value} (h : a.tmps[t]?.getD undef = v) : a.eval (.tmp t) = v := by simpa [Act.eval] using h
theorem step_val (hw : Region.wanted o (yielded ops a.tmps) = true) (v : Value) {w' : World} (hr : (execOp a.eval o).run P w = .ok (.value v) w') (hS : S w') (hE : E w w') (hv : V i v w') :
    if Region.wanted o (yielded ops a.tmps) = true then ∀ K : Act → World → Prop, (∀ v w', S w' → E w w' → V i v w' → K (a.put o.dst v) w') → o.wp P a w K Q else V i undef w := by
  rw [if_pos hw]
  intro K hK
  unfold Oper.wp
  rw [hr]
  exact hK _ _ hS hE hv
theorem step_skip (hw : Region.wanted o (yielded ops a.tmps) = true) {w' : World} (hr : (execOp a.eval o).run P w = .ok .skip w') (hS : S w') (hE : E w w') (hv : V i undef w') :
    if Region.wanted o (yielded ops a.tmps) = true then ∀ K : Act → World → Prop, (∀ v w', S w' → E w w' → V i v w' → K (a.put o.dst v) w') → o.wp P a w K Q else V i undef w := by
  rw [if_pos hw]
  intro K hK
  unfold Oper.wp
  rw [hr]
  exact hK _ _ hS hE hv
theorem step_call (hw : Region.wanted o (yielded ops a.tmps) = true) {f : FuncId} {args : Array Value} {w1 : World} (hr : (execOp a.eval o).run P w = .ok (.enter f args) w1)
    (hc : Calls P f args w1 fun e w' => ∃ v, e = .returned v ∧ S w' ∧ E w w' ∧ V i v w') :
    if Region.wanted o (yielded ops a.tmps) = true then ∀ K : Act → World → Prop, (∀ v w', S w' → E w w' → V i v w' → K (a.put o.dst v) w') → o.wp P a w K Q else V i undef w := by
  rw [if_pos hw]
  intro K hK
  unfold Oper.wp
  rw [hr]
  refine Calls.mono hc ?_
  rintro e w' ⟨v, rfl, h1, h2, h3⟩
  exact hK _ _ h1 h2 h3
end
end Go.Proofs.Ytfjnjhlmmdeilaa.Calm
