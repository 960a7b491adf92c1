/- PageTells: what the reference's functions of pages come to. -/
import Derived.Test.YtobkeakbahkglaaPageR
import Derived.Test.YtobkeakbahkglaaPageN
set_option linter.unusedVariables false
namespace Go.Proofs.Ytobkeakbahkglaa.PageS
open Go.RowKit Go.Proofs.Ytobkeakbahkglaa.Fn Go.Proofs.YtobkeakbahkglaaW.PrintWords Go.Proofs.YtobkeakbahkglaaW.PrintLast Go.Proofs.YtobkeakbahkglaaW.PrintMore Go.Proofs.Ytobkeakbahkglaa.WireM Go.Proofs.Ytobkeakbahkglaa.WireP Go.Proofs.Ytobkeakbahkglaa.PageM Go.Proofs.Ytobkeakbahkglaa.PageN Go.Proofs.Ytobkeakbahkglaa.PageP

theorem refget_num (s : ByteArray) (hz : s.size ≤ 9223372036854775807) : Ev (fun f => cenotaphref04_GetNum.f f s) (numT (getNum (L s))) := by
  have h := refgetnum_ev s hz
  unfold numT
  cases hg : getNum (L s) with
  | none => rw [hg] at h; exact h
  | some x => rw [hg] at h; exact h
theorem j2_false (f : Nat) (x : ByteArray) (a b c d : Int) (t : ByteArray) : cenotaphref14_Get.j2 (f + 1) x false a b c d t = some noPage := rfl
theorem numT_cases (o : Option (Nat × List UInt8)) : (o = none ∧ numT o = (0, ⟨#[]⟩, false)) ∨ ∃ a l, o = some (a, l) ∧ numT o = ((a : Int), B l, true) := by
  cases o with
  | none => exact Or.inl ⟨rfl, rfl⟩
  | some x => exact Or.inr ⟨x.1, x.2, rfl, rfl⟩
theorem rest_size {s : ByteArray} {a : Nat} {l : List UInt8} (h : getNum (L s) = some (a, l)) (hz : s.size ≤ 9223372036854775807) : (B l).size ≤ 9223372036854775807 := by
  have := congrArg List.length (getNum_some h).1
  rw [List.length_append, ← size_L s] at this
  rw [B_size]
  omega
theorem j1_false (x : ByteArray) (a b c d : Int) (t : ByteArray) : Ev (fun f => cenotaphref14_Get.j1 f x false a b c d t) noPage := by
  refine Ev.step (f := fun f => cenotaphref14_Get.j2 f x false a b c d t) (fun f => rfl) ?_
  exact Ev.step (f := fun _ => some noPage) (fun f => rfl) (Ev.now _)
theorem j2_ev (s : ByteArray) (hz : s.size ≤ 9223372036854775807) (a b c : Int) : Ev (fun f => cenotaphref14_Get.j2 f s true a b c 0 ⟨#[]⟩) (match getNum (L s) with
    | none => noPage
    | some (l, t4) => ofNums a b c (l : Int) (B t4)) := by
  refine Ev.step (f := fun f => (cenotaphref04_GetNum.f f s).bind fun bt191 => (if bt191.2.2 = true then ((cenotaphref14_Valid.f a b c bt191.1 bt191.2.1).bind fun t194 => (if t194 = true then (some (a, b, c, bt191.1, bt191.2.1, true)) else (some (0, 0, 0, 0, (⟨#[]⟩ : ByteArray), false)))) else (some (0, 0, 0, 0, (⟨#[]⟩ : ByteArray), false)))) (fun f => rfl) ?_
  refine Ev.bind (refget_num s hz) ?_
  rcases numT_cases (getNum (L s)) with ⟨h, e⟩ | ⟨l, t4, h, e⟩
  · rw [e, h]
    exact Ev.now _
  · rw [e, h]
    dsimp only
    simp only [if_true]
    rw [refvalid_eq]
    unfold ofNums
    cases valid a b c (l : Int) (B t4) with
    | true => exact Ev.now _
    | false => exact Ev.now _
theorem refget_ev (b : ByteArray) (hz : b.size ≤ 9223372036854775807) : Ev (fun f => cenotaphref14_Get.f f b) (got b) := by
  refine Ev.bind (refgetframe_ev b hz) ?_
  unfold got
  cases hf : getFrame (L b) with
  | none => exact Ev.step (f := fun _ => some noPage) (fun f => rfl) (Ev.now _)
  | some x =>
    obtain ⟨t, r⟩ := x
    show Ev (fun f => if true = true then cenotaphref14_Get.j0 f (B t) ((B r).toList != []) else cenotaphref14_Get.j0 f (B t) true) _
    simp only [if_true]
    rw [toList_L, L_B]
    by_cases hr : r = []
    · subst hr
      rw [if_pos rfl]
      simp only [bne_self_eq_false]
      have htz : (B t).size ≤ 9223372036854775807 := by
        have := (getFrame_some hf).2
        rw [B_size]
        omega
      refine Ev.step (f := fun f => (cenotaphref04_GetNum.f f (B t)).bind fun bt182 => (if bt182.2.2 = true then ((cenotaphref04_GetNum.f f bt182.2.1).bind fun bt185 => (cenotaphref14_Get.j1 f bt185.2.1 bt185.2.2 bt182.1 bt185.1 0 0 (⟨#[]⟩ : ByteArray))) else (cenotaphref14_Get.j1 f bt182.2.1 bt182.2.2 bt182.1 0 0 0 (⟨#[]⟩ : ByteArray)))) (fun f => rfl) ?_
      refine Ev.bind (refget_num (B t) htz) ?_
      unfold inside
      rw [L_B]
      rcases numT_cases (getNum t) with ⟨h, e⟩ | ⟨k, t1, h, e⟩
      · rw [e, h]
        exact j1_false _ _ _ _ _ _
      · rw [e, h]
        dsimp only
        simp only [if_true]
        have h1 := rest_size (s := B t) h htz
        refine Ev.bind (refget_num (B t1) h1) ?_
        rw [L_B]
        rcases numT_cases (getNum t1) with ⟨g, e1⟩ | ⟨s, t2, g, e1⟩
        · rw [e1, g]
          exact j1_false _ _ _ _ _ _
        · rw [e1, g]
          dsimp only
          have h2 := rest_size (s := B t1) g h1
          refine Ev.step (f := fun f => (cenotaphref04_GetNum.f f (B t2)).bind fun bt188 => (cenotaphref14_Get.j2 f bt188.2.1 bt188.2.2 (k : Int) (s : Int) bt188.1 0 ⟨#[]⟩)) (fun f => rfl) ?_
          refine Ev.bind (refget_num (B t2) h2) ?_
          rw [L_B]
          rcases numT_cases (getNum t2) with ⟨g2, e2⟩ | ⟨o, t3, g2, e2⟩
          · rw [e2, g2]
            exact Ev.step (f := fun _ => some noPage) (fun f => rfl) (Ev.now _)
          · rw [e2, g2]
            dsimp only
            have h3 := rest_size (s := B t2) g2 h2
            exact j2_ev (B t3) h3 (k : Int) (s : Int) (o : Int)
    · rw [if_neg hr]
      have : (r != []) = true := by simpa using hr
      rw [this]
      exact Ev.step (f := fun _ => some noPage) (fun f => rfl) (Ev.now _)
theorem refput_ev (k s o l : Int) (t : ByteArray) : Ev (fun f => cenotaphref14_Put.f f k s o l t) (PageM.put k s o l t) := by
  unfold cenotaphref14_Put.f
  rw [refvalid_eq]
  simp only [Option.bind_some]
  cases hv : valid k s o l t with
  | false =>
    have : PageM.put k s o l t = ⟨#[]⟩ := by unfold PageM.put; rw [hv]; rfl
    rw [this]
    exact Ev.now _
  | true =>
    simp only [if_true]
    have z0 := numB_small k
    have z1 := numB_small s
    have z2 := numB_small o
    have z3 := numB_small l
    have hp := (valid_parts hv).2.2.2.2
    have hl := body_len hv
    refine Ev.bind (refnum_ev k) ?_
    refine Ev.bind (refnum_ev s) ?_
    simp only [B_append, B_size, List.length_append]
    simp only [if_pos (show (numB (clampN k)).length + (numB (clampN s)).length ≤ 9223372036854775807 by omega)]
    refine Ev.bind (refnum_ev o) ?_
    simp only [B_append, B_size, List.length_append]
    simp only [if_pos (show (numB (clampN k)).length + (numB (clampN s)).length + (numB (clampN o)).length ≤ 9223372036854775807 by omega)]
    refine Ev.bind (refnum_ev l) ?_
    simp only [B_append, B_size, List.length_append]
    simp only [if_pos (show (numB (clampN k)).length + (numB (clampN s)).length + (numB (clampN o)).length + (numB (clampN l)).length ≤ 9223372036854775807 by omega), if_pos (show (numB (clampN k)).length + (numB (clampN s)).length + (numB (clampN o)).length + (numB (clampN l)).length + t.size ≤ 9223372036854775807 by omega)]
    have hb : B (numB (clampN k) ++ numB (clampN s) ++ numB (clampN o) ++ numB (clampN l)) ++ t = B (body k s o l t) := L_inj (by rw [L_append]; rfl)
    rw [hb]
    have e : PageM.put k s o l t = B (frame (L (B (body k s o l t)))) := by unfold PageM.put; rw [if_pos hv, L_B]
    rw [e]
    exact Ev.bind (refframe_ev (B (body k s o l t)) (by rw [B_size]; unfold maxN; omega)) (Ev.now _)
theorem room_f (d : Int) : page_Room.f d = some (mn (wrap64 (mx d 32 - 32)) 224) := rfl
theorem refroom_f (d : Int) : cenotaphref14_Room.f d = some (mn (wrap64 (mx d 32 - 32)) 224) := rfl
end Go.Proofs.Ytobkeakbahkglaa.PageS
