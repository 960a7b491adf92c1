/- Texts, one behind the other, are read again, one by one, and nothing is left: the plain law. -/
import Derived.Test.YtgdhbmdhgejnkaaWireP
import Derived.Test.YtgdhbmdhgejnkaaFn7
namespace Go.Proofs.Ytgdhbmdhgejnkaa.Pure
open Go.RowKit Go.Proofs.Ytgdhbmdhgejnkaa.Fn Go.Proofs.YtgdhbmdhgejnkaaW.PrintWords Go.Proofs.YtgdhbmdhgejnkaaW.PrintLast Go.Proofs.Ytgdhbmdhgejnkaa.WireP Go.Proofs.Ytgdhbmdhgejnkaa.WireM

def joined (l : List ByteArray) : List UInt8 := l.flatMap fun x => text (L x)
theorem joined_cons (x : ByteArray) (l : List ByteArray) : joined (x :: l) = text (L x) ++ joined l := rfl
theorem text_len (t : ByteArray) (h : t.size ≤ 300) : (text (L t)).length ≤ 308 := by
  have h2 : (numB (L t).length).length ≤ 8 := numB_len8 (by rw [← size_L]; unfold maxN; omega)
  rw [text, List.length_append, ← size_L t]
  rw [← size_L t] at h2
  omega
theorem joined_len : ∀ l : List ByteArray, (∀ x ∈ l, x.size ≤ 300) → (joined l).length ≤ 308 * l.length
  | [], _ => by simp [joined]
  | x :: r, h => by
    rw [joined_cons, List.length_append, List.length_cons]
    have h1 := text_len x (h x List.mem_cons_self)
    have h2 := joined_len r fun y hy => h y (List.mem_cons_of_mem _ hy)
    omega
theorem rd_at (l : List ByteArray) (i : Nat) (h : i < l.length) : rdOf ByteArray.empty l (i : Int) = l[i] := by
  simp [rdOf, List.getD_eq_getElem?_getD, List.getElem?_eq_getElem h]
theorem rows_l1 (l : List ByteArray) (h20 : l.length ≤ 20) (hl : ∀ x ∈ l, x.size ≤ 300) : ∀ m i : Nat, i + m = l.length → Ev (fun k => cenotaphlaw04_WireRows.l1 k l true (B (joined (l.drop i))) (i : Int)) true
  | 0, i, h => by
    refine Ev.step (f := fun _ => some true) (fun k => ?_) (Ev.now true)
    simp only [cenotaphlaw04_WireRows.l1]
    rw [if_neg (by omega), if_pos trivial, List.drop_eq_nil_of_le (by omega), toList_L, L_B]
    rfl
  | m + 1, i, h => by
    have hi : i < l.length := by omega
    have hx : (l[i]).size ≤ 300 := hl _ (List.getElem_mem hi)
    have hd : l.drop i = l[i] :: l.drop (i + 1) := (List.getElem_cons_drop hi).symm
    have hs : (B (joined (l.drop i))).size ≤ 9223372036854775807 := by
      rw [B_size]
      have := joined_len (l.drop i) fun x hx => hl x (List.mem_of_mem_drop hx)
      rw [List.length_drop] at this
      omega
    have hg := gettext_ev (B (joined (l.drop i))) hs 300
    have e : tr (getText (L (B (joined (l.drop i)))) 300) = (l[i], B (joined (l.drop (i + 1))), true) := by
      rw [L_B, hd, joined_cons, getText_text _ _ _ (by rw [← size_L]; unfold maxN; omega) (by rw [← size_L]; omega)]
      rfl
    rw [e] at hg
    refine Ev.step (f := fun k => (wire_GetText.f k (B (joined (l.drop i))) 300).bind fun bt193 => (if bt193.2.2 = true then (if (0 : Int) ≤ (i : Int) then (if bt193.1.toList = (rdOf ByteArray.empty l (i : Int)).toList then (cenotaphlaw04_WireRows.l1 k l true bt193.2.1 (wrap64 ((i : Int) + 1))) else (some false)) else (none)) else (some false))) (fun k => ?_) (Ev.bind hg ?_)
    · simp only [cenotaphlaw04_WireRows.l1]
      rw [if_pos (by omega)]
    · refine Ev.congr (fun k => ?_) (rows_l1 l h20 hl m (i + 1) (by omega))
      rw [if_pos rfl, if_pos (by omega), if_pos (by rw [rd_at l i hi]), w64 (by omega) (by omega)]
      rfl
theorem rows_l0 (l : List ByteArray) (h20 : l.length ≤ 20) : ∀ m i : Nat, i + m = l.length → (∀ x ∈ l.take i, x.size ≤ 300) → Ev (fun k => cenotaphlaw04_WireRows.l0 k l true (B (joined (l.take i))) (i : Int)) true
  | 0, i, h, hl => by
    rw [List.take_of_length_le (by omega)] at hl
    refine Ev.step (f := fun k => cenotaphlaw04_WireRows.l1 k l true (B (joined (l.take i))) 0) (fun k => ?_) ?_
    · simp only [cenotaphlaw04_WireRows.l0]
      rw [if_neg (by omega)]
    · have := rows_l1 l h20 hl l.length 0 (by omega)
      rw [List.take_of_length_le (by omega)]
      exact this
  | m + 1, i, h, hl => by
    have hi : i < l.length := by omega
    by_cases hx : (l[i]).size ≤ 300
    · have ht := text_ev (l[i]) (by unfold maxN; omega)
      have hj : joined (l.take i) ++ text (L l[i]) = joined (l.take (i + 1)) := by
        unfold joined
        rw [List.take_succ_eq_append_getElem hi, List.flatMap_append]
        simp only [List.flatMap_cons, List.flatMap_nil, List.append_nil]
      have hs : (B (joined (l.take i))).size + (B (text (L l[i]))).size ≤ 9223372036854775807 := by
        rw [B_size, B_size]
        have h1 := joined_len _ hl
        have h2 := text_len _ hx
        rw [List.length_take] at h1
        omega
      refine Ev.step (f := fun k => (wire_Text.f k (rdOf ByteArray.empty l (i : Int))).bind fun t192 => (if (B (joined (l.take i))).size + t192.size ≤ 9223372036854775807 then (cenotaphlaw04_WireRows.l0 k l true (B (joined (l.take i)) ++ t192) (wrap64 ((i : Int) + 1))) else (none))) (fun k => ?_) ?_
      · simp only [cenotaphlaw04_WireRows.l0]
        rw [if_pos (by omega), if_pos (by omega), if_neg (by rw [rd_at l i hi]; omega)]
      · rw [rd_at l i hi]
        refine Ev.bind ht (Ev.congr (fun k => ?_) (rows_l0 l h20 m (i + 1) (by omega) ?_))
        · rw [if_pos hs, w64 (by omega) (by omega)]
          have : B (joined (l.take i)) ++ B (text (L l[i])) = B (joined (l.take (i + 1))) := by
            apply L_inj
            rw [L_append, L_B, L_B, L_B, hj]
          rw [this]
          rfl
        · intro x hm
          rw [List.take_succ_eq_append_getElem hi] at hm
          rcases List.mem_append.1 hm with h1 | h1
          · exact hl x h1
          · rw [List.mem_singleton.1 h1]; exact hx
    · refine Ev.step (f := fun _ => some true) (fun k => ?_) (Ev.now true)
      simp only [cenotaphlaw04_WireRows.l0]
      rw [if_pos (by omega), if_pos (by omega), if_pos (by rw [rd_at l i hi]; omega)]
theorem WireRows (l : List ByteArray) : ∃ k, cenotaphlaw04_WireRows.f k l = some true := by
  refine Ev.rounds (Ev.bind (f := fun k t189 => (if t189 = true then (if (l.length : Int) > 20 then (some t189) else (cenotaphlaw04_WireRows.l0 k l t189 (⟨#[]⟩ : ByteArray) 0)) else (some false))) (g := fun _ => cenotaphlaw04_works.f) (Ev.now true) ?_)
  by_cases h : (l.length : Int) > 20
  · exact Ev.congr (fun k => by rw [if_pos rfl, if_pos h]) (Ev.now true)
  · exact Ev.congr (fun k => by rw [if_pos rfl, if_neg h]; rfl) (rows_l0 l (by omega) l.length 0 (by omega) (by simp))
end Go.Proofs.Ytgdhbmdhgejnkaa.Pure
