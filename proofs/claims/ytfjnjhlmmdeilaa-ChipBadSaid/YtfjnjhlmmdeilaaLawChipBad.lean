/- The row ChipBad: its walk and its plain law laid together. -/
import Derived.Test.YtfjnjhlmmdeilaaRows
import Derived.Test.YtfjnjhlmmdeilaaBadR
import Derived.WalkKit
import Derived.ProofKit
import Derived.OpenShut
import Derived.ShutString
import Derived.ChangeOld
import Derived.Below
import Derived.SizedLaws
import Derived.Carry
namespace Go.Proofs.Ytfjnjhlmmdeilaa.chipBad
open Go.ChangeShapes Go.WideShapes Go.ChangeAt Go.RowKit
open Go.ChangeMaps (open_string shut_string)
set_option linter.unusedVariables false
theorem own : ownKnob Try.prog.godebug = none := by kernel_rfl
theorem laid : laidOutB Try.prog = true := by kernel_rfl
set_option maxRecDepth 100000 in
theorem lifted (os : Os) (started : os.Started) (H : Type) (enc : TypeId × Value → H) :
    ReturnsInHanded {} Try.checked os 8 .any (Rows.chipBadSpec.pre6 enc Try.prog Try.f8 Rows.chipBadRow.domain false) (Rows.chipBadSpec.post enc Try.prog Try.f8 false true false false) := by
  refine returnsInHanded_of_change_sized (C := Try.checked) own started (by kernel_rfl) Try.func8
    (ChangeSpec.witness6 (enc := enc) (C := Try.checked) false ⟨#[], #[.slice none 0 0, .slice none 0 0], []⟩ 8 (by kernel_rfl) (by kernel_rfl) (by kernel_rfl) (by kernel_rfl)) ?_
  intro W base args ds gs before hval0 hW hcnd hsz0 _
  have hsz : (DataW.weightsEach Try.prog (Try.f8.params.toList ++ Rows.chipBadSpec.plain.varTypes Try.prog) (ds ++ gs)).all (· ≤ reachBytes) = true := hsz0
  have hval : ∀ (j : Nat) t v, Try.f8.params[j]? = some t → args[j]? = some v → Value.okWide Try.prog W .any base t v := hval0
  have hW' := hW
  obtain ⟨p, q, hA0, hV, rfl, hfz, hnd⟩ := hW
  have hA : DataW.TrodAll enc Try.prog W 0 (fun _ => true) true Try.f8.params.toList args.toList ds p := hA0
  rw [Try.params8] at hA hval hsz
  obtain ⟨v0, vs0, d0, ds0, p0, q0, hargs, rfl, rfl, h0, r0⟩ := trodAll_cons hA
  obtain ⟨v1, vs1, d1, ds1, p1, q1, rfl, rfl, rfl, h1, r1⟩ := trodAll_cons r0
  obtain ⟨rfl, rfl, rfl⟩ := trodAll_nil r1
  obtain rfl : args = #[v0, v1] := by cases args; simp_all
  obtain ⟨rfl, rfl⟩ := trodVars_none hV
  obtain ⟨a0, w0⟩ := OpenB.open_acts (fun el sp he => sized_slice hsz (j := 0) (t := 39) rfl (by rw [he]; rfl) Try.underlying39) Try.underlying39 (hval 0 39 v0 rfl rfl) h0
  obtain ⟨a1, w1⟩ := OpenB.open_acts (fun el sp he => sized_slice hsz (j := 1) (t := 39) rfl (by rw [he]; rfl) Try.underlying39) Try.underlying39 (hval 1 39 v1 rfl rfl) h1
  clear hA0 hval0 hsz0 hsz
  refine (BadR.bad_row a0 w0 a1 w1).mono fun e W' ⟨he, bel⟩ => ?_
  subst he
  exact ⟨_, rfl, _, _, _, [], _, [], hW', trodAll_mk1 (shut_bool Try.underlying4 _), (trodAll_cons_mk (Below.trod laid (by kernel_rfl) (of_decide_eq_true (by kernel_rfl)) h0 bel (fun x hx => DataW.TrodAll.lt (trodAll_cons_mk h0 trodAll_mk0) x (List.mem_append_left _ hx))) (trodAll_cons_mk (Below.trod laid (by kernel_rfl) (of_decide_eq_true (by kernel_rfl)) h1 bel (fun x hx => DataW.TrodAll.lt (trodAll_cons_mk h1 trodAll_mk0) x (List.mem_append_left _ hx))) trodAll_mk0)), rfl, bel.frame _, fun h => by cases h⟩
theorem over : Rows.chipBadRow.holds Try.pinned (OpenSpec.ofChange Rows.chipBadSpec) :=
  OpenClaim.holds_of_wide 8 Try.f8 rfl rfl rfl rfl rfl rfl rfl ⟨rfl, rfl, rfl, rfl, rfl⟩ rfl rfl rfl rfl rfl (by kernel_rfl) Try.func8 (by kernel_rfl)
    (of_decide_eq_true (by kernel_rfl)) (by unfold Func.isWrapper; first | (rw [if_pos (by decide +kernel)]; kernel_rfl) | (rw [if_neg (by decide +kernel)]; exact ⟨rfl, rfl⟩))
    (fun os started H enc _ => lifted os started H enc)
theorem proved : Rows.ChipBadSaid := over
#print axioms proved
end Go.Proofs.Ytfjnjhlmmdeilaa.chipBad
namespace Go.Proofs.Ytfjnjhlmmdeilaa
/-- The row, under a short name, for the claim. -/
theorem chipBad_holds : Rows.ChipBadSaid := chipBad.proved
end Go.Proofs.Ytfjnjhlmmdeilaa
