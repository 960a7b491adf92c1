/- PageBack: it returns true, whatever it is given. -/
import Derived.Test.YtobkeakbahkglaaLwBack
import Derived.Test.YtobkeakbahkglaaPageX
import Derived.Test.YtobkeakbahkglaaRowP
set_option linter.unusedVariables false
namespace Go.Proofs.Ytobkeakbahkglaa.PageBack
open Go.RowKit Go.Proofs.Ytobkeakbahkglaa.Fn Go.Proofs.YtobkeakbahkglaaW.PrintWords Go.Proofs.YtobkeakbahkglaaW.PrintLast Go.Proofs.YtobkeakbahkglaaW.PrintMore Go.Proofs.Ytobkeakbahkglaa.WireM Go.Proofs.Ytobkeakbahkglaa.WireP Go.Proofs.Ytobkeakbahkglaa.PageM Go.Proofs.Ytobkeakbahkglaa.PageN Go.Proofs.Ytobkeakbahkglaa.RowP Go.Proofs.Ytobkeakbahkglaa.PageG

theorem numB_le6 {n : Int} (h0 : 0 ≤ n) (h1 : n ≤ 1099511627776) : (numB (clampN n)).length ≤ 6 := by
  refine numB_len _ 5 ?_
  rw [clampN_in h0 (by omega)]
  omega
/-- A page's bytes need no more room than its text, and some. -/
theorem put_room {k s o l : Int} {t : ByteArray} (h : valid k s o l t = true) : (PageM.put k s o l t).size ≤ t.size + 32 := by
  have hv := valid_parts h
  have h0 : (numB (clampN k)).length ≤ 1 := by
    refine numB_len _ 0 ?_
    rw [clampN_in hv.1.1 (by omega)]
    omega
  have h1 := numB_le6 hv.2.1.1 hv.2.1.2
  have h2 := numB_le6 hv.2.2.1.1 hv.2.2.1.2
  have h3 := numB_le6 hv.2.2.2.1.1 hv.2.2.2.1.2
  have hl := body_len h
  have h4 := PageX.numB_le1 (body k s o l t).length (by omega)
  unfold PageM.put
  rw [if_pos h, B_size]
  have hb : (body k s o l t).length ≤ 19 + t.size := by
    unfold body
    simp only [List.length_append]
    rw [← size_L]
    omega
  unfold frame text
  simp only [List.length_append, le4_length]
  omega
theorem put_none {k s o l : Int} {t : ByteArray} (h : valid k s o l t = false) : PageM.put k s o l t = ⟨#[]⟩ := by
  unfold PageM.put
  rw [h]
  rfl
theorem get_f {b : ByteArray} (h : b.size ≤ 9223372036854775807) : page_Get.f b = some (got b) := if_pos h
theorem j1_ev (b : ByteArray) (hb : b.size ≤ 400) : Ev (fun f => cenotaphlaw14_PageBack.j1 f b true false) true := by
  refine Ev.step (f := fun f => (page_Get.f b).bind fun bt251 => (if bt251.2.2.2.2.2 = true then ((page_Put.f bt251.1 bt251.2.1 bt251.2.2.1 bt251.2.2.2.1 bt251.2.2.2.2.1).bind fun t258 => (if t258.toList = b.toList then ((page_Valid.f f bt251.1 bt251.2.1 bt251.2.2.1 bt251.2.2.2.1 bt251.2.2.2.2.1).bind fun t259 => (some t259)) else (some false))) else (some true))) (fun f => rfl) ?_
  simp only [get_f (show b.size ≤ 9223372036854775807 by omega), Option.bind_some]
  rcases got_shape b with h | h
  · obtain ⟨k, s, o, l, t, ok, hg⟩ : ∃ k s o l t ok, got b = (k, s, o, l, t, ok) := ⟨_, _, _, _, _, _, rfl⟩
    rw [hg] at h ⊢
    dsimp only at h ⊢
    subst h
    obtain ⟨hv, hp⟩ := got_some hg
    simp only [if_true]
    unfold page_Put.f
    simp only [Option.bind_some, hp, if_true]
    refine Ev.bind (valid_ev k s o l t) ?_
    rw [hv]
    exact Ev.now true
  · rw [h]
    exact Ev.now true
theorem j0_ev (k s o l : Int) (t : ByteArray) (b : ByteArray) (hb : b.size ≤ 400) (d : Int) (hd : d ≤ 9223372036854775807) : Ev (fun f => cenotaphlaw14_PageBack.j0 f b d true false k s o l t) true := by
  have hj := j1_ev b hb
  have hsz := PageX.put_size k s o l t
  refine Ev.step (f := fun f => (page_Put.f k s o l t).bind fun t241 => ((page_Get.f t241).bind fun bt242 => ((page_Valid.f f k s o l t).bind fun t249 => (if (t249 != bt242.2.2.2.2.2) = true then (cenotaphlaw14_PageBack.j1 f b true true) else (if bt242.2.2.2.2.2 = true then (if (!(bt242.1 == k) || (!(bt242.2.1 == s) || (!(bt242.2.2.1 == o) || (!(bt242.2.2.2.1 == l) || (!(bt242.2.2.2.2.1.toList == t.toList)))))) = true then (cenotaphlaw14_PageBack.j1 f b true true) else (if d ≥ 32 then ((page_Room.f d).bind fun t250 => (if (t.size : Int) ≤ t250 then (cenotaphlaw14_PageBack.j1 f b true (decide ((t241.size : Int) > d))) else (cenotaphlaw14_PageBack.j1 f b true false))) else (cenotaphlaw14_PageBack.j1 f b true false))) else (if t241.toList = ([] : List UInt8) then (cenotaphlaw14_PageBack.j1 f b true false) else (cenotaphlaw14_PageBack.j1 f b true true))))))) (fun f => rfl) ?_
  unfold page_Put.f
  simp only [Option.bind_some]
  rw [get_f (by omega)]
  simp only [Option.bind_some]
  refine Ev.bind (valid_ev k s o l t) ?_
  cases hv : valid k s o l t with
  | true =>
    rw [got_put hv]
    simp only [bne_self_eq_false, Bool.false_eq_true, if_false, if_true, beq_self_eq_true, Bool.not_true, Bool.or_false]
    by_cases h32 : d ≥ 32
    · simp only [if_pos h32]
      unfold page_Room.f
      simp only [Option.bind_some]
      by_cases hr : (t.size : Int) ≤ mn (wrap64 (mx d 32 - 32)) 224
      · simp only [if_pos hr]
        have e1 : mx d 32 = d := by unfold mx; rw [if_neg (by omega)]
        rw [e1, w64 (by omega) (by omega)] at hr
        have e2 : (t.size : Int) ≤ d - 32 := by
          unfold mn at hr
          split at hr <;> omega
        have e3 := put_room hv
        rw [decide_eq_false (by omega)]
        exact hj
      · simp only [if_neg hr]
        exact hj
    · simp only [if_neg h32]
      exact hj
  | false =>
    rw [put_none hv, got_none]
    have e : (⟨#[]⟩ : ByteArray).toList = [] := by rw [toList_L, L_empty]
    simp only [noPage, bne_self_eq_false, Bool.false_eq_true, if_false, if_pos e]
    exact hj
theorem back_ev (k s o l : Int) (t : ByteArray) (b : ByteArray) (d : Int) (hd : d ≤ 9223372036854775807) : Ev (fun f => cenotaphlaw14_PageBack.f f k s o l t b d) true := by
  unfold cenotaphlaw14_PageBack.f
  refine Ev.bind (a := true) (Ev.now true) ?_
  simp only [if_true]
  by_cases h1 : (t.size : Int) > 400
  · simp only [if_pos h1]
    exact Ev.step (fun _ => rfl) (Ev.now true)
  · simp only [if_neg h1]
    by_cases h2 : (b.size : Int) > 400
    · rw [decide_eq_true h2]
      exact Ev.step (fun _ => rfl) (Ev.now true)
    · rw [decide_eq_false h2]
      exact j0_ev k s o l t b (by omega) d hd
theorem back_row {v0 : Value} (a : Pag) (h : PageArg v0 a) (b : ByteArray) (hb : b.size ≤ 140737488351232) (d : Int) (hd : (Lit.int .i64 d).wf = true) (W : World) : Calls Try.prog 4 #[v0, .string b, .int .i64 d] W fun e w' => e = .returned (.bool true) ∧ Below W.heap.size W w' := by
  unfold PageArg at h
  subst h
  have hd2 : d ≤ 9223372036854775807 := by
    simp [Lit.wf, IntKind.min, IntKind.max, IntKind.signed, IntKind.bits] at hd
    omega
  obtain ⟨f, hf⟩ := (back_ev a.1 a.2.1 a.2.2.1 a.2.2.2.1 a.2.2.2.2 b d hd2).rounds
  exact cenotaphlaw14_PageBack.calls f _ _ _ _ _ _ _ true W hf
end Go.Proofs.Ytobkeakbahkglaa.PageBack
