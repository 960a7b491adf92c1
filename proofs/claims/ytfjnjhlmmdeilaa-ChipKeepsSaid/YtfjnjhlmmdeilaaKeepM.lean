/- What becomes of the pages by an act. -/
import Derived.Test.YtfjnjhlmmdeilaaBadM
set_option linter.unusedVariables false
namespace Go.Proofs.Ytfjnjhlmmdeilaa.KeepM
open Go.Proofs.Ytfjnjhlmmdeilaa.ChipM Go.Proofs.Ytfjnjhlmmdeilaa.Both

/-- No text is longer than a page has data. -/
def TextOk (m : Chp) : Prop := ∀ b, ∀ t ∈ (m.blk b).text, t.size ≤ m.data
theorem cut_size (m : Chp) (s : ByteArray) : (cut m s).size ≤ m.data := by
  unfold cut
  rw [ByteArray.size_extract]
  omega
theorem fell_text (m : Chp) (k j : Nat) : ((fell m k).blk j).text = (m.blk j).text := by
  unfold fell setB
  dsimp only
  split
  · rename_i e
    rw [e]
  · rfl
theorem put_text (m : Chp) (k : Nat) (t : ByteArray) (j : Nat) : ((put m k t).blk j).text = if j = k then (m.blk j).text ++ [cut m t] else (m.blk j).text := by
  unfold put setB
  dsimp only
  split
  · rename_i e
    rw [e]
  · rfl
theorem blank_text (m : Chp) (k j : Nat) : ((ChipM.blank m k).blk j).text = if j = k then [] else (m.blk j).text := by
  unfold ChipM.blank setB
  dsimp only
  split <;> rfl
/-- A deed leaves a block's text, or does what one of the three does. -/
theorem deed_text (m : Chp) (k j : Nat) (do_ : Chp → Chp) (dies fails : Chp → ByteArray → Chp) (R : List ByteArray → Prop) (h0 : R (m.blk j).text) (h1 : R ((do_ (burn m)).blk j).text) (h2 : ∀ t, R ((dies (dieM m) t).blk j).text) (h3 : ∀ t, R ((fails (burn m) t).blk j).text) :
    R (((deed m k do_ dies fails).2.blk j).text) := by
  unfold deed
  split
  · exact h0
  · split
    · dsimp only
      split
      · exact h0
      · exact h2 _
    · split
      · dsimp only
        rw [fell_text]
        exact h3 _
      · exact h1
theorem there_nonneg {m : Chp} {b : Int} (h : there m b = true) : ((b.toNat : Nat) : Int) = b := by
  unfold there within at h
  simp at h
  omega
/-- A block's pages after an act. -/
theorem act_text (m : Chp) (k b p : Int) (s : ByteArray) (j : Nat) : ((act m k b p s).blk j).text = (m.blk j).text ∨
    (k = 0 ∧ b = (j : Int) ∧ p = next m b ∧ ∃ t : ByteArray, t.size ≤ m.data ∧ ((act m k b p s).blk j).text = (m.blk j).text ++ [t]) ∨ (k = 1 ∧ b = (j : Int) ∧ ((act m k b p s).blk j).text = []) := by
  unfold act
  split
  · rename_i hk
    unfold doProgram
    split
    · exact Or.inl rfl
    · split
      · rename_i hm
        unfold mayPut at hm
        simp only [Bool.and_eq_true, decide_eq_true_eq] at hm
        have hb := there_nonneg hm.1.1.1
        by_cases e : j = b.toNat
        · refine deed_text m b.toNat j _ _ _ (fun x => x = (m.blk j).text ∨ (k = 0 ∧ b = (j : Int) ∧ p = next m b ∧ ∃ t : ByteArray, t.size ≤ m.data ∧ x = (m.blk j).text ++ [t]) ∨ (k = 1 ∧ b = (j : Int) ∧ x = [])) (Or.inl rfl) ?_ (fun t => ?_) (fun t => ?_)
          · rw [put_text, if_pos e]
            exact Or.inr (Or.inl ⟨hk, by rw [e, hb], hm.2, _, cut_size (burn m) _, rfl⟩)
          · rw [put_text, if_pos e]
            exact Or.inr (Or.inl ⟨hk, by rw [e, hb], hm.2, _, cut_size (dieM m) _, rfl⟩)
          · rw [put_text, if_pos e]
            exact Or.inr (Or.inl ⟨hk, by rw [e, hb], hm.2, _, cut_size (burn m) _, rfl⟩)
        · refine deed_text m b.toNat j _ _ _ (fun x => x = (m.blk j).text ∨ (k = 0 ∧ b = (j : Int) ∧ p = next m b ∧ ∃ t : ByteArray, t.size ≤ m.data ∧ x = (m.blk j).text ++ [t]) ∨ (k = 1 ∧ b = (j : Int) ∧ x = [])) (Or.inl rfl) ?_ (fun t => ?_) (fun t => ?_)
          · rw [put_text, if_neg e]
            exact Or.inl rfl
          · rw [put_text, if_neg e]
            exact Or.inl rfl
          · rw [put_text, if_neg e]
            exact Or.inl rfl
      · exact Or.inl rfl
  · split
    · rename_i hk
      unfold doErase
      split
      · exact Or.inl rfl
      · split
        · rename_i hm
          have hb := there_nonneg hm
          by_cases e : j = b.toNat
          · refine deed_text m b.toNat j _ _ _ (fun x => x = (m.blk j).text ∨ (k = 0 ∧ b = (j : Int) ∧ p = next m b ∧ ∃ t : ByteArray, t.size ≤ m.data ∧ x = (m.blk j).text ++ [t]) ∨ (k = 1 ∧ b = (j : Int) ∧ x = [])) (Or.inl rfl) ?_ (fun t => ?_) (fun t => Or.inl rfl)
            · rw [blank_text, if_pos e]
              exact Or.inr (Or.inr ⟨hk, by rw [e, hb], rfl⟩)
            · rw [blank_text, if_pos e]
              exact Or.inr (Or.inr ⟨hk, by rw [e, hb], rfl⟩)
          · refine deed_text m b.toNat j _ _ _ (fun x => x = (m.blk j).text ∨ (k = 0 ∧ b = (j : Int) ∧ p = next m b ∧ ∃ t : ByteArray, t.size ≤ m.data ∧ x = (m.blk j).text ++ [t]) ∨ (k = 1 ∧ b = (j : Int) ∧ x = [])) (Or.inl rfl) ?_ (fun t => ?_) (fun t => Or.inl rfl)
            · rw [blank_text, if_neg e]
              exact Or.inl rfl
            · rw [blank_text, if_neg e]
              exact Or.inl rfl
        · exact Or.inl rfl
    · split
      · exact Or.inl (BadM.fail_same m b s j).2
      · split
        · exact Or.inl rfl
        · split <;> exact Or.inl rfl
theorem deed_data {m : Chp} (k : Nat) (do_ : Chp → Chp) (dies fails : Chp → ByteArray → Chp) (hdo : ∀ m, (do_ m).data = m.data) (hdies : ∀ m t, (dies m t).data = m.data) (hfails : ∀ m t, (fails m t).data = m.data) : (deed m k do_ dies fails).2.data = m.data := by
  unfold deed
  split
  · rfl
  · split
    · show (if _ then dieM m else _ : Chp).data = m.data
      split
      · rfl
      · rw [hdies]; rfl
    · split
      · show (fails (burn m) _).data = m.data
        rw [hfails]; rfl
      · show (do_ (burn m)).data = m.data
        rw [hdo]; rfl
theorem act_data (m : Chp) (k b p : Int) (s : ByteArray) : (act m k b p s).data = m.data := by
  unfold act
  split
  · unfold doProgram
    split
    · rfl
    · split
      · exact deed_data _ _ _ _ (fun m => rfl) (fun m t => rfl) (fun m t => rfl)
      · rfl
  · split
    · unfold doErase
      split
      · rfl
      · split
        · exact deed_data _ _ _ _ (fun m => rfl) (fun m t => rfl) (fun m t => rfl)
        · rfl
    · split
      · unfold fail
        split <;> rfl
      · split
        · rfl
        · split <;> rfl
theorem act_textOk {m : Chp} (h : TextOk m) (k b p : Int) (s : ByteArray) : TextOk (act m k b p s) := by
  intro j t ht
  rw [act_data]
  rcases act_text m k b p s j with e | ⟨_, _, _, x, hx, e⟩ | ⟨_, _, e⟩
  · rw [e] at ht
    exact h j t ht
  · rw [e] at ht
    rcases List.mem_append.1 ht with h1 | h1
    · exact h j t h1
    · rw [List.mem_singleton.1 h1]
      exact hx
  · rw [e] at ht
    cases ht
theorem readAt_size {m : Chp} (h : TextOk m) (b p : Int) : (readAt m b p).1.size ≤ m.data := by
  unfold readAt
  split
  · rename_i hb
    have h2 : p.toNat < (at_ m b).text.length := by
      have := hb.2
      unfold within at this
      simp at this
      omega
    rw [List.getD_eq_getElem?_getD, List.getElem?_eq_getElem h2]
    exact h _ _ (List.getElem_mem h2)
  · exact Nat.zero_le _
theorem read_in {m : Chp} {j p : Nat} (hj : j < m.n) : readAt m (j : Int) (p : Int) = if p < (m.blk j).text.length then ((m.blk j).text.getD p ⟨#[]⟩, true) else (⟨#[]⟩, false) := by
  have ht : there m (j : Int) = true := by
    unfold there within
    simp
    omega
  unfold readAt at_
  rw [ht, Int.toNat_natCast, Int.toNat_natCast]
  by_cases h : p < (m.blk j).text.length
  · rw [if_pos h, if_pos ⟨rfl, by unfold within; simp; omega⟩]
  · rw [if_neg h, if_neg]
    rintro ⟨_, h2⟩
    unfold within at h2
    simp at h2
    omega
theorem next_in {m : Chp} {j : Nat} (hj : j < m.n) : next m (j : Int) = ((m.blk j).text.length : Int) := by
  have ht : there m (j : Int) = true := by
    unfold there within
    simp
    omega
  unfold next at_
  rw [if_pos ht, Int.toNat_natCast]
/-- A page after an act: as it was; or it was the next one, and is programmed; or its block is erased. -/
theorem page_after (m : Chp) (k b q : Int) (s : ByteArray) {j p : Nat} (hj : j < m.n) : readAt (act m k b q s) (j : Int) (p : Int) = readAt m (j : Int) (p : Int) ∨
    (k = 0 ∧ b = (j : Int) ∧ q = next m b ∧ (p : Int) = next m b ∧ (readAt m (j : Int) (p : Int)).2 = false) ∨ (k = 1 ∧ b = (j : Int) ∧ (readAt (act m k b q s) (j : Int) (p : Int)).2 = false) := by
  have hn := BadM.act_n m k b q s
  rcases act_text m k b q s j with e | ⟨e1, e2, e3, t, _, e⟩ | ⟨e1, e2, e⟩
  · exact Or.inl (BadM.text_eq hn e _)
  · have hnx := next_in hj
    rw [read_in (m := act m k b q s) (by rw [hn]; exact hj), read_in hj, e]
    rcases Nat.lt_trichotomy p (m.blk j).text.length with h | h | h
    · left
      rw [if_pos h, if_pos (by rw [List.length_append]; omega)]
      simp only [List.getD_eq_getElem?_getD, List.getElem?_append_left h]
    · right
      left
      refine ⟨e1, e2, e3, ?_, by rw [if_neg (by omega)]⟩
      rw [e2, hnx, h]
    · left
      rw [if_neg (show ¬ p < ((m.blk j).text ++ [t]).length by rw [List.length_append, List.length_singleton]; omega), if_neg (by omega)]
  · right
    right
    refine ⟨e1, e2, ?_⟩
    rw [read_in (m := act m k b q s) (by rw [hn]; exact hj), e]
    simp
/-- A page is there just ahead of the next one. -/
theorem ok_next {m : Chp} {j p : Nat} (hj : j < m.n) : (readAt m (j : Int) (p : Int)).2 = decide ((p : Int) < next m (j : Int)) := by
  rw [read_in hj, next_in hj]
  by_cases h : p < (m.blk j).text.length
  · rw [if_pos h, decide_eq_true (by omega)]
  · rw [if_neg h, decide_eq_false (by omega)]
end Go.Proofs.Ytfjnjhlmmdeilaa.KeepM
