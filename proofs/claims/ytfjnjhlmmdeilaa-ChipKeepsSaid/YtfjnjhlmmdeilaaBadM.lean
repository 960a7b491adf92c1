/- What an act leaves alone: a bad block; a dead chip. -/
import Derived.Test.YtfjnjhlmmdeilaaBoth
set_option linter.unusedVariables false
namespace Go.Proofs.Ytfjnjhlmmdeilaa.BadM
open Go.Proofs.Ytfjnjhlmmdeilaa.ChipM Go.Proofs.Ytfjnjhlmmdeilaa.Both

theorem put_other (m : Chp) (k : Nat) (t : ByteArray) {j : Nat} (h : j ≠ k) : (put m k t).blk j = m.blk j := if_neg h
theorem blank_other (m : Chp) (k : Nat) {j : Nat} (h : j ≠ k) : (ChipM.blank m k).blk j = m.blk j := if_neg h
theorem fell_other (m : Chp) (k : Nat) {j : Nat} (h : j ≠ k) : (fell m k).blk j = m.blk j := if_neg h
/-- A deed changes its own block alone. -/
theorem deed_other {m : Chp} {k j : Nat} (h : j ≠ k) {do_ : Chp → Chp} {dies fails : Chp → ByteArray → Chp} (h1 : ∀ m, (do_ m).blk j = m.blk j) (h2 : ∀ m t, (dies m t).blk j = m.blk j) (h3 : ∀ m t, (fails m t).blk j = m.blk j) :
    (deed m k do_ dies fails).2.blk j = m.blk j := by
  unfold deed
  split
  · rfl
  · split
    · dsimp only
      split
      · rfl
      · rw [h2]; rfl
    · split
      · dsimp only
        rw [fell_other _ _ h, h3]; rfl
      · dsimp only
        rw [h1]; rfl
theorem deed_bad {m : Chp} {k : Nat} {do_ : Chp → Chp} {dies fails : Chp → ByteArray → Chp} (h : (m.blk k).bad = true) : deed m k do_ dies fails = (15, m) := by
  unfold deed
  rw [if_pos h]
theorem program_bad {m : Chp} {j : Nat} (hj : (m.blk j).bad = true) (b p : Int) (s : ByteArray) : (doProgram m b p s).2.blk j = m.blk j := by
  unfold doProgram
  split
  · rfl
  · split
    · by_cases e : j = b.toNat
      · subst e
        rw [deed_bad hj]
      · exact deed_other e (fun m => put_other _ _ _ e) (fun m t => put_other _ _ _ e) (fun m t => put_other _ _ _ e)
    · rfl
theorem erase_bad {m : Chp} {j : Nat} (hj : (m.blk j).bad = true) (b : Int) : (doErase m b).2.blk j = m.blk j := by
  unfold doErase
  split
  · rfl
  · split
    · by_cases e : j = b.toNat
      · subst e
        rw [deed_bad hj]
      · exact deed_other e (fun m => blank_other _ _ e) (fun m t => blank_other _ _ e) (fun m t => rfl)
    · rfl
theorem fail_same (m : Chp) (b : Int) (t : ByteArray) (j : Nat) : ((fail m b t).blk j).bad = (m.blk j).bad ∧ ((fail m b t).blk j).text = (m.blk j).text := by
  unfold fail
  split
  · unfold setB
    dsimp only
    split
    · rename_i e
      rw [e]
      exact ⟨rfl, rfl⟩
    · exact ⟨rfl, rfl⟩
  · exact ⟨rfl, rfl⟩
theorem act_bad {m : Chp} {j : Nat} (hj : (m.blk j).bad = true) (k b p : Int) (s : ByteArray) : ((act m k b p s).blk j).bad = true ∧ ((act m k b p s).blk j).text = (m.blk j).text := by
  unfold act
  split
  · rw [program_bad hj]; exact ⟨hj, rfl⟩
  · split
    · rw [erase_bad hj]; exact ⟨hj, rfl⟩
    · split
      · have := fail_same m b s j
        rw [this.1, this.2]
        exact ⟨hj, rfl⟩
      · split
        · exact ⟨hj, rfl⟩
        · split
          · exact ⟨hj, rfl⟩
          · exact ⟨hj, rfl⟩
theorem act_dead {m : Chp} (hd : m.dead = true) (k b p : Int) (hk : k ≠ 4) (s : ByteArray) : (act m k b p s).dead = true ∧ ∀ j, ((act m k b p s).blk j).text = (m.blk j).text := by
  unfold act
  split
  · unfold doProgram
    rw [if_pos hd]
    exact ⟨hd, fun _ => rfl⟩
  · split
    · unfold doErase
      rw [if_pos hd]
      exact ⟨hd, fun _ => rfl⟩
    · split
      · refine ⟨?_, fun j => (fail_same m b s j).2⟩
        unfold fail
        split
        · exact hd
        · exact hd
      · split
        · exact ⟨hd, fun _ => rfl⟩
        · first
            | exact ⟨hd, fun _ => rfl⟩
            | (rw [if_neg hk]; exact ⟨hd, fun _ => rfl⟩)
/-- A bad block takes no page, and is not erased. -/
theorem bad_refuses {m : Chp} {j : Nat} (hj : (m.blk j).bad = true) (p : Int) (s : ByteArray) : (doProgram m (j : Int) p s).1 ≠ 0 ∧ (doProgram m (j : Int) p s).2 = m ∧ (doErase m (j : Int)).1 ≠ 0 ∧ (doErase m (j : Int)).2 = m := by
  unfold doProgram doErase
  rw [Int.toNat_natCast, deed_bad hj, deed_bad hj]
  split
  · exact ⟨by show (14 : Int) ≠ 0; decide, rfl, by show (14 : Int) ≠ 0; decide, rfl⟩
  · split <;> split <;> refine ⟨?_, rfl, ?_, rfl⟩ <;> first | (show (15 : Int) ≠ 0; decide) | (show (1 : Int) ≠ 0; decide)
theorem text_eq {m m' : Chp} {j : Nat} (hn : m'.n = m.n) (h : (m'.blk j).text = (m.blk j).text) (p : Int) : readAt m' (j : Int) p = readAt m (j : Int) p := by
  unfold readAt there at_
  rw [hn, Int.toNat_natCast, h]
theorem act_n (m : Chp) (k b p : Int) (s : ByteArray) : (act m k b p s).n = m.n := by
  unfold act
  split
  · unfold doProgram
    split
    · rfl
    · split
      · exact deed_n _ _ _ _ (fun m => rfl) (fun m t => rfl) (fun m t => rfl)
      · rfl
  · split
    · unfold doErase
      split
      · rfl
      · split
        · exact deed_n _ _ _ _ (fun m => rfl) (fun m t => rfl) (fun m t => rfl)
        · rfl
    · split
      · unfold fail
        split <;> rfl
      · split
        · rfl
        · split <;> rfl
end Go.Proofs.Ytfjnjhlmmdeilaa.BadM
