/- How a slice of acts stands. -/
import Derived.Test.YtfjnjhlmmdeilaaOpen
import Derived.ChangeArms
import Derived.ChangeSame
namespace Go.Proofs.Ytfjnjhlmmdeilaa.OpenA
open Go.RowKit Go.ChangeShapes Go.WideShapes
set_option linter.unusedVariables false

section
variable {H : Type} {enc : TypeId × Value → H} {w : World} {base : Nat} {spare : Nat → Bool} {held : Bool}
structure Cells (w : World) (x : Addr) (i : Nat) (a : Int × Int × Int × ByteArray) : Prop where
  c0 : w.cell? (x.add (i * 4)) = some (.int .i64 a.1)
  c1 : w.cell? ((x.add (i * 4)).add 1) = some (.int .i64 a.2.1)
  c2 : w.cell? ((x.add (i * 4)).add 2) = some (.int .i64 a.2.2.1)
  c3 : w.cell? ((x.add (i * 4)).add 3) = some (.string a.2.2.2)
  p : -9223372036854775808 ≤ a.2.2.1 ∧ a.2.2.1 ≤ 9223372036854775807
/-- A slice of acts. -/
def ActsAt (w : World) (v : Value) (a : Option Addr × Nat × Nat × (Nat → Int × Int × Int × ByteArray)) : Prop :=
  v = .slice a.1 a.2.1 a.2.2.1 ∧ ∀ i, i < a.2.1 → ∃ x, a.1 = some x ∧ Cells w x i (a.2.2.2 i)
theorem actInfo : (Try.prog.underlying 44).map (fun d => match d with | .struct fs => fs.toList.map (fun f => (f.type, f.offset)) | _ => []) = some [(3, 0), (3, 1), (3, 2), (9, 3)] := by kernel_rfl
theorem open_acts {t : TypeId} {v : Value} {d : DataW H} {ps : List MemPlace} {b0 : Nat} (ht : Try.prog.underlying t = some (.slice 44))
    (hv : Value.okWide Try.prog w .any b0 t v) (h : DataW.Trod enc Try.prog w base spare held t v d ps) : ∃ a, ActsAt w v a := by
  obtain ⟨a, len, cap, rfl, hel⟩ := Open.slice_elems ht hv h
  have hc : Try.prog.cellsOf 44 = 4 := by kernel_rfl
  have hn : ∀ i, ∃ n : Int × Int × Int × ByteArray, i < len → ∃ x, a = some x ∧ Cells w x i n := fun i => by
    by_cases hi : i < len
    · obtain ⟨x, cs, n, y, rfl, h1, h2⟩ := hel i hi
      obtain ⟨xs, m, _, rfl, hl, hlen, hf⟩ := DataW.trod_struct Try.underlying44 h2
      rw [hc] at h1
      obtain ⟨v0, v1, v2, v3, rfl⟩ : ∃ v0 v1 v2 v3, cs = [v0, v1, v2, v3] := by
        rw [hc] at hl
        match cs, hl with
        | [v0, v1, v2, v3], _ => exact ⟨v0, v1, v2, v3, rfl⟩
      obtain ⟨y0, y1, y2, y3, rfl⟩ : ∃ y0 y1 y2 y3, xs = [y0, y1, y2, y3] := by
        have hlen2 : xs.length = 4 := hlen
        match xs, hlen2 with
        | [y0, y1, y2, y3], _ => exact ⟨y0, y1, y2, y3, rfl⟩
      have ci : Try.prog.cellsOf 3 = 1 := by kernel_rfl
      have cS : Try.prog.cellsOf 9 = 1 := by kernel_rfl
      have hf0 : DataW.trod enc Try.prog w base spare held m 3 (([v0, v1, v2, v3].drop 0).take (Try.prog.cellsOf 3)) = some y0 := hf 0 _ rfl
      have hf1 : DataW.trod enc Try.prog w base spare held m 3 (([v0, v1, v2, v3].drop 1).take (Try.prog.cellsOf 3)) = some y1 := hf 1 _ rfl
      have hf2 : DataW.trod enc Try.prog w base spare held m 3 (([v0, v1, v2, v3].drop 2).take (Try.prog.cellsOf 3)) = some y2 := hf 2 _ rfl
      have hf3 : DataW.trod enc Try.prog w base spare held m 9 (([v0, v1, v2, v3].drop 3).take (Try.prog.cellsOf 9)) = some y3 := hf 3 _ rfl
      rw [ci] at hf0 hf1 hf2
      rw [cS] at hf3
      simp only [List.drop_succ_cons, List.drop_zero, List.take_succ_cons, List.take_zero] at hf0 hf1 hf2 hf3
      obtain ⟨n0, e0, _⟩ := DataW.trod_int Try.underlying3 hf0
      obtain ⟨n1, e1, _⟩ := DataW.trod_int Try.underlying3 hf1
      obtain ⟨n2, e2, _, hw2⟩ := DataW.trod_int Try.underlying3 hf2
      obtain ⟨n3, e3, _⟩ := DataW.trod_string Try.underlying9 hf3
      simp only [List.cons.injEq, and_true] at e0 e1 e2 e3
      subst e0 e1 e2 e3
      have g := fun j hj => Open.cell_at h1 j hj
      have g0 := g 0 (by omega)
      refine ⟨(n0, n1, n2, n3), fun _ => ⟨x, rfl, ?_, g 1 (by omega), g 2 (by omega), g 3 (by omega), ?_⟩⟩
      · have ex : (x.add (i * 4)).add 0 = x.add (i * 4) := by unfold Addr.add; split <;> simp_all
        rw [ex] at g0
        exact g0
      · have h3 : (decide ((-9223372036854775808 : Int) ≤ n2) && decide (n2 ≤ (9223372036854775807 : Int))) = true := hw2
        simpa using h3
    · exact ⟨(0, 0, 0, ByteArray.empty), fun h => absurd h hi⟩
  refine ⟨(a, len, cap, fun i => (hn i).choose), rfl, fun i hi => ?_⟩
  exact (hn i).choose_spec hi
end
end Go.Proofs.Ytfjnjhlmmdeilaa.OpenA
