/- PageApart: it returns true, whatever it is given. -/
import Derived.Test.YtobkeakbahkglaaLwApart
import Derived.Test.YtobkeakbahkglaaPageN
import Derived.Test.YtobkeakbahkglaaRowP
set_option linter.unusedVariables false
namespace Go.Proofs.Ytobkeakbahkglaa.PageApart
open Go.RowKit Go.Proofs.Ytobkeakbahkglaa.Fn Go.Proofs.YtobkeakbahkglaaW.PrintWords Go.Proofs.Ytobkeakbahkglaa.WireM Go.Proofs.Ytobkeakbahkglaa.WireP Go.Proofs.Ytobkeakbahkglaa.PageM Go.Proofs.Ytobkeakbahkglaa.PageN Go.Proofs.Ytobkeakbahkglaa.RowP Go.Proofs.Ytobkeakbahkglaa.PageG

theorem toList_beq (a b : ByteArray) : (a.toList == b.toList) = decide (a = b) := by
  rw [toList_L, toList_L]
  by_cases h : a = b
  · rw [h, decide_eq_true rfl]
    simp
  · rw [decide_eq_false h]
    exact beq_eq_false_iff_ne.2 fun e => h (L_inj e)
theorem apart_pure {k s o l k' s' o' l' : Int} {t t' : ByteArray} (h : valid k s o l t = true) (h' : valid k' s' o' l' t' = true) :
    ((PageM.put k s o l t).toList == (PageM.put k' s' o' l' t').toList) = (k == k' && (s == s' && (o == o' && (l == l' && (t.toList == t'.toList))))) := by
  rw [toList_beq, toList_beq]
  by_cases e : PageM.put k s o l t = PageM.put k' s' o' l' t'
  · have g := got_put h
    rw [e, got_put h'] at g
    simp only [Prod.mk.injEq] at g
    obtain ⟨rfl, rfl, rfl, rfl, rfl, _⟩ := g
    simp
  · rw [decide_eq_false e]
    symm
    refine Bool.eq_false_iff.2 fun hh => e ?_
    simp only [Bool.and_eq_true, beq_iff_eq, decide_eq_true_eq] at hh
    obtain ⟨rfl, rfl, rfl, rfl, rfl⟩ := hh
    rfl
theorem apart_ev (k s o l : Int) (t : ByteArray) (k' s' o' l' : Int) (t' : ByteArray) : Ev (fun f => cenotaphlaw14_PageApart.f f k s o l t k' s' o' l' t') true := by
  unfold cenotaphlaw14_PageApart.f
  refine Ev.bind (a := true) (Ev.now true) ?_
  have hj : ∀ (k s o l : Int) (t : ByteArray) (k' s' o' l' : Int) (t' : ByteArray), Ev (fun f => cenotaphlaw14_PageApart.j0 f true true k s o l t k' s' o' l' t') true := fun _ _ _ _ _ _ _ _ _ _ => Ev.step (fun _ => rfl) (Ev.now true)
  simp only [if_true]
  by_cases h1 : (t.size : Int) > 400
  · simp only [if_pos h1]
    exact hj _ _ _ _ _ _ _ _ _ _
  · simp only [if_neg h1]
    by_cases h2 : (t'.size : Int) > 400
    · simp only [if_pos h2]
      exact hj _ _ _ _ _ _ _ _ _ _
    · simp only [if_neg h2]
      refine Ev.bind (valid_ev k s o l t) ?_
      cases h : valid k s o l t with
      | false =>
        simp only [Bool.false_eq_true, if_false]
        exact hj _ _ _ _ _ _ _ _ _ _
      | true =>
        simp only [if_true]
        refine Ev.bind (valid_ev k' s' o' l' t') ?_
        cases h' : valid k' s' o' l' t' with
        | false => exact hj _ _ _ _ _ _ _ _ _ _
        | true =>
          refine Ev.step (f := fun _ => some true) (fun f => ?_) (Ev.now true)
          show cenotaphlaw14_PageApart.j0 (f + 1) true false k s o l t k' s' o' l' t' = some true
          unfold cenotaphlaw14_PageApart.j0 page_Put.f
          simp only [Bool.false_eq_true, if_false, if_true, Option.bind_some]
          rw [apart_pure h h', beq_self_eq_true]
theorem apart_row {v0 v1 : Value} (a : Pag) (h : PageArg v0 a) (b : Pag) (h' : PageArg v1 b) (W : World) : Calls Try.prog 7 #[v0, v1] W fun e w' => e = .returned (.bool true) ∧ Below W.heap.size W w' := by
  unfold PageArg at h h'
  subst h h'
  obtain ⟨f, hf⟩ := (apart_ev a.1 a.2.1 a.2.2.1 a.2.2.2.1 a.2.2.2.2 b.1 b.2.1 b.2.2.1 b.2.2.2.1 b.2.2.2.2).rounds
  exact cenotaphlaw14_PageApart.calls f _ _ _ _ _ _ _ _ _ _ true W hf
end Go.Proofs.Ytobkeakbahkglaa.PageApart
