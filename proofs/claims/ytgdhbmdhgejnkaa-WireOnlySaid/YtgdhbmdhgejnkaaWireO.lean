/- What is read, written again, is what it was read from: of texts that are variables. -/
import Derived.Test.YtgdhbmdhgejnkaaWireC
namespace Go.Proofs.Ytgdhbmdhgejnkaa.WireO
open Go.RowKit Go.Proofs.Ytgdhbmdhgejnkaa.Fn Go.Proofs.YtgdhbmdhgejnkaaW.PrintWords Go.Proofs.YtgdhbmdhgejnkaaW.PrintLast Go.Proofs.Ytgdhbmdhgejnkaa.WireD Go.Proofs.Ytgdhbmdhgejnkaa.WireM Go.Proofs.Ytgdhbmdhgejnkaa.WireP Go.Proofs.Ytgdhbmdhgejnkaa.WireC

/-- One operation of a plain region whose guard says yes, by its run. -/
theorem wpList_on {P : Program} {ops : Array Oper} {Q : Exit → Act → World → Prop} {a : Act} {w : World} {rest : List Oper} {o : Oper} {v : Value} (hw : Region.wanted o (yielded ops a.tmps) = true) (hr : (execOp a.eval o).run P w = .ok (.value v) w)
    (h : wpList P ops Q rest (a.put o.dst v) w) : wpList P ops Q (o :: rest) a w :=
  wpList_step fun K hK => by
    rw [if_pos hw]
    unfold Oper.wp
    rw [hr]
    exact hK _ _ h
theorem num_back {s a : ByteArray} {n : Int} {p : Bool} (h : numT (getNum (L s)) = (n, a, p)) : p = true → B (numB (clampN n)) ++ a = s := by
  intro hp
  subst hp
  unfold numT at h
  split at h
  · rename_i x hx
    obtain ⟨m, r⟩ := x
    simp only [Prod.mk.injEq, and_true] at h
    obtain ⟨rfl, rfl⟩ := h
    obtain ⟨h1, h2⟩ := getNum_some hx
    apply L_inj
    rw [L_append, L_B, L_B, ← h1]
    have e : clampN (m : Int) = m := by
      unfold maxN at h2
      unfold clampN mn mx
      split <;> split <;> omega
    rw [e]
  · simp at h
theorem num_none {s a : ByteArray} {n : Int} {p : Bool} (h : numT (getNum (L s)) = (n, a, p)) : p = false → a = ⟨#[]⟩ ∧ n = 0 := by
  intro hp
  subst hp
  unfold numT at h
  split at h
  · simp at h
  · simp only [Prod.mk.injEq, and_true] at h
    exact ⟨h.2.symm, h.1.symm⟩
theorem text_back {s t b : ByteArray} {most : Int} {q : Bool} (h : tr (getText (L s) most) = (t, b, q)) : q = true → B (text (L t)) ++ b = s ∧ (t.size : Int) ≤ most ∧ t.size ≤ maxN := by
  intro hq
  subst hq
  unfold tr at h
  split at h
  · rename_i x hx
    obtain ⟨m, r⟩ := x
    simp only [Prod.mk.injEq, and_true] at h
    obtain ⟨rfl, rfl⟩ := h
    obtain ⟨h1, h2, h3⟩ := getText_some hx
    refine ⟨?_, by rw [size_L, L_B]; exact h2, by rw [size_L, L_B]; exact h3⟩
    apply L_inj
    rw [L_append, L_B, L_B, L_B, ← h1]
  · simp at h
theorem frame_back {s t b : ByteArray} {q : Bool} (h : tr (getFrame (L s)) = (t, b, q)) : q = true → B (frame (L t)) ++ b = s ∧ t.size ≤ 5000 := by
  intro hq
  subst hq
  unfold tr at h
  split at h
  · rename_i x hx
    obtain ⟨m, r⟩ := x
    simp only [Prod.mk.injEq, and_true] at h
    obtain ⟨rfl, rfl⟩ := h
    obtain ⟨h1, h2⟩ := getFrame_some hx
    refine ⟨?_, by rw [size_L, L_B]; exact h2⟩
    apply L_inj
    rw [L_append, L_B, L_B, L_B, ← h1]
  · simp at h
theorem sum_back {s d b : ByteArray} {q : Bool} (h : sumT s = (d, b, q)) : q = true → d ++ b = s := by
  intro hq
  subst hq
  unfold sumT at h
  split at h
  · simp at h
  · simp only [Prod.mk.injEq, and_true] at h
    obtain ⟨rfl, rfl⟩ := h
    apply L_inj
    rw [L_append, L_extract, L_extract, List.drop_zero, Nat.sub_zero, size_L, ← List.length_drop, List.take_length, List.take_append_drop]

end Go.Proofs.Ytgdhbmdhgejnkaa.WireO
