/- The contracts of the reference's chip. -/
import Derived.Test.YtfjnjhlmmdeilaaRefE
set_option linter.unusedVariables false
namespace Go.Proofs.Ytfjnjhlmmdeilaa.RefA
open Go.RowKit Go.Proofs.Ytfjnjhlmmdeilaa.ChipM Go.Proofs.Ytfjnjhlmmdeilaa.ChipA

section
variable {own : Nat → Prop} {w w' : World} {m : Chp} {r K : Nat}
/-- What a deed leaves: an answer, the chip, all else as it was. -/
structure ToldR (own : Nat → Prop) (w : World) (r : Nat) (q : Int × Chp) (e : Ending) (w' : World) : Prop where
  e : e = .returned (.int .i64 q.1)
  h : ∃ own', RefAt own' w' r q.2 ∧ ∀ k, own' k → own k ∨ w.heap.size ≤ k
  f : Foot own w w'
theorem ToldR.mk' {q1 : Int} {q2 : Chp} {e : Ending} (he : e = .returned (.int .i64 q1)) {own' : Nat → Prop} (h : RefAt own' w' r q2) (ho : ∀ k, own' k → own k ∨ w.heap.size ≤ k) (hf : Foot own w w') : ToldR own w r (q1, q2) e w' := ⟨he, ⟨own', h, ho⟩, hf⟩
theorem more_le (own : Nat → Prop) (w w1 : World) (h : w1.heap.size = w.heap.size) : ∀ k, more own w1 k → own k ∨ w.heap.size ≤ k := fun k hk => hk.imp id fun e => by omega
theorem RO.ref {rb cap : Nat} {cs : Array Value} {pg : Nat → Nat} {fu : Int} {tx : ByteArray} (h : RO own w m r rb cap cs pg fu tx) : RefAt own w r m := ⟨_, _, _, _, _, _, h⟩
theorem RefAt.same (h : RefAt own w r m) (hs : w.heap.size ≤ w'.heap.size) (hk : ∀ k, own k → w'.heap[k]? = w.heap[k]?) : RefAt own w' r m := by
  obtain ⟨rb, cap, cs, pg, fu, tx, h⟩ := h
  exact ⟨_, _, _, _, _, _, h.same hs hk⟩
theorem RefAt.lt (h : RefAt own w r m) : ∀ k, own k → k < w.heap.size := by
  obtain ⟨rb, cap, cs, pg, fu, tx, h⟩ := h
  exact h.lt
theorem RefAt.mem (h : RefAt own w r m) : own r := by
  obtain ⟨rb, cap, cs, pg, fu, tx, h⟩ := h
  exact h.oc
theorem RefAt.foot {own2 : Nat → Prop} (h : RefAt own w r m) (hf : Foot own2 w w') (hd : ∀ k, own k → ¬ own2 k) : RefAt own w' r m :=
  h.same hf.size fun k ho => hf.block k (h.lt k ho) (hd k ho)
theorem RefAt.drewN (h : RefAt own w r m) (n : Nat) : RefAt own (w.drewN n) r m := h.same (Nat.le_refl _) fun _ _ => rfl
theorem next_r (h : RefAt own w r m) (ok : Ok m K) (b : Int) : Calls Try.prog 38 #[.pointer (some ⟨r, 0, none⟩), .int .i64 b] w fun e w' => e = .returned (.int .i64 (next m b)) ∧ w' = w := by
  obtain ⟨rb, cap, cs, pg, fu, tx, h⟩ := h
  exact next_rany h ok b
theorem there_r (h : RefAt own w r m) (ok : Ok m K) (b : Int) : Calls Try.prog 36 #[.pointer (some ⟨r, 0, none⟩), .int .i64 b] w fun e w' => e = .returned (.bool (there m b)) ∧ w' = w := by
  obtain ⟨rb, cap, cs, pg, fu, tx, h⟩ := h
  exact there_rany h ok.n1 b
theorem read_r (h : RefAt own w r m) (ok : Ok m K) (b p : Int) : Calls Try.prog 37 #[.pointer (some ⟨r, 0, none⟩), .int .i64 b, .int .i64 p] w fun e w' => e = .returned (.tuple #[.string (readAt m b p).1, .bool (readAt m b p).2]) ∧ w' = w := by
  obtain ⟨rb, cap, cs, pg, fu, tx, h⟩ := h
  exact read_rany h ok b p
theorem Foot.putR {own : Nat → Prop} {w : World} {g p : Nat} {s : ByteArray} (h : own g) : Foot own w (putR w g p s) := (Foot.setCell w _ _ h).trans (Foot.setCell _ _ _ h)
theorem Foot.fellR {own : Nat → Prop} {w : World} {rb k : Nat} (h : own rb) : Foot own w (fellR w rb k) := (Foot.setCell w _ _ h).trans (Foot.setCell _ _ _ h)
theorem Foot.blankR {own : Nat → Prop} {w : World} {rb k p n : Nat} (h : own rb) : Foot own w (blankR w rb k p n) := ((Foot.alloc own w _).trans (Foot.setCell _ _ _ h)).trans (Foot.setCell _ _ _ h)
theorem mayPut_out {b p : Int} {s : ByteArray} (h : there m b = false ∨ p < 0 ∨ (m.pages : Int) ≤ p ∨ ¬ s.size ≤ m.data ∨ ¬ p = next m b) : mayPut m b p s = false := by
  unfold mayPut within
  rcases h with h | h | h | h | h
  · rw [h]; rfl
  · have : decide (0 ≤ p) = false := decide_eq_false (by omega)
    rw [this]; simp
  · have : decide (p ≤ (m.pages : Int) - 1) = false := decide_eq_false (by omega)
    rw [this]; simp
  · rw [decide_eq_false h]; simp
  · rw [decide_eq_false h]; simp
theorem program_r (h : RefAt own w r m) (ok : Ok m K) (b p : Int) (s : ByteArray) : Calls Try.prog 33 #[.pointer (some ⟨r, 0, none⟩), .int .i64 b, .int .i64 p, .string s] w (ToldR own w r (doProgram m b p s)) := by
  have hR := h
  obtain ⟨rb, cap, cs, pg, fu, tx, h⟩ := h
  have keep : ∀ {e : Ending} {w' : World} {n : Int}, e = .returned (.int .i64 n) ∧ w' = w → ToldR own w r (n, m) e w' := by
    rintro e w' n ⟨rfl, rfl⟩
    exact .mk' rfl hR (fun _ hk => Or.inl hk) (Foot.refl _ _)
  have hid : ∀ k, own k → own k ∨ w.heap.size ≤ k := fun _ hk => Or.inl hk
  unfold doProgram
  cases hd : m.dead with
  | true =>
    rw [if_pos rfl]
    exact (prog_dead h hd b p s).mono fun _ _ hh => keep hh
  | false =>
    rw [if_neg (by simp)]
    cases ht : there m b with
    | false =>
      rw [mayPut_out (Or.inl ht), if_neg (by simp)]
      exact (prog_none h ok hd ht p s).mono fun _ _ hh => keep hh
    | true =>
      obtain ⟨k, rfl, hk⟩ := there_of ht
      by_cases hp : p < 0
      · rw [mayPut_out (Or.inr (Or.inl hp)), if_neg (by simp)]
        exact (prog_neg h ok hd hk hp s).mono fun _ _ hh => keep hh
      · by_cases hp2 : (m.pages : Int) ≤ p
        · rw [mayPut_out (Or.inr (Or.inr (Or.inl hp2))), if_neg (by simp)]
          exact (prog_out h ok hd hk hp hp2 s).mono fun _ _ hh => keep hh
        · by_cases hs : s.size ≤ m.data
          · have hnx : next m (k : Int) = ((m.blk k).text.length : Int) := by unfold next at_; rw [ht, if_pos rfl, Int.toNat_natCast]
            by_cases hne : p = ((m.blk k).text.length : Int)
            · subst hne
              have hl : (m.blk k).text.length < m.pages := by omega
              have hcs : cut m s = s := by unfold cut; exact cut_short (by omega)
              have hm : mayPut m (k : Int) ((m.blk k).text.length : Int) s = true := by
                unfold mayPut within
                rw [ht, hnx]
                simp
                omega
              rw [hm, if_pos rfl, Int.toNat_natCast]
              have og := h.og k hk
              unfold deed
              cases hb : (m.blk k).bad with
              | true =>
                rw [if_pos rfl]
                exact (prog_bad h ok hd hk hl s hs hb).mono fun _ _ hh => keep hh
              | false =>
                rw [if_neg (by simp)]
                cases hf : m.fuse with
                | none =>
                  have hbm := burn_none hf
                  cases hfl : (m.blk k).fails with
                  | none =>
                    refine (prog_do0 h ok hd hk hl s hs hb hf hfl).mono ?_
                    rintro e w' ⟨rfl, rfl⟩
                    refine .mk' rfl (own' := own) ?_ hid (Foot.putR og)
                    show RefAt own _ r (put (burn m) k s)
                    rw [hbm]
                    unfold put
                    rw [hcs]
                    exact (h.put hk hl s).ref
                  | some u =>
                    refine (prog_fails0 h ok hd hk hl s hs hb hf hfl).mono ?_
                    rintro e w' ⟨rfl, rfl⟩
                    have h1 := h.put hk hl (cut m u)
                    obtain ⟨cs', h2⟩ := h1.fell (k := k) hk
                    refine .mk' rfl (own' := own) ?_ hid (((Foot.putR og).trans (Foot.fellR h.ob)).trans (Foot.drew _ _))
                    show RefAt own _ r (fell (put (burn m) k u) k)
                    rw [hbm]
                    exact (h2.drew).ref
                | some nt =>
                  obtain ⟨n, t⟩ := nt
                  cases n with
                  | zero =>
                    have h1 : RO own (w.setCell ⟨r, 3, none⟩ (.bool true)) (dieM m) r rb cap cs pg fu tx := h.dead true
                    cases hte : t.toList.isEmpty with
                    | true =>
                      refine (prog_dead0 h ok hd hk hl s hs hb hf hte).mono ?_
                      rintro e w' ⟨rfl, rfl⟩
                      refine .mk' rfl (own' := own) ?_ hid (Foot.setCell _ _ _ h.oc)
                      rw [if_pos hte]
                      exact (h1).ref
                    | false =>
                      refine (prog_dies h ok hd hk hl s hs hb hf hte).mono ?_
                      rintro e w' ⟨rfl, rfl⟩
                      refine .mk' rfl (own' := own) ?_ hid (((Foot.setCell _ _ _ h.oc).trans (Foot.putR og)).trans (Foot.drew _ _))
                      rw [if_neg (by simp [hte])]
                      exact ((h1.put hk hl (cut m t)).drew).ref
                  | succ n =>
                    have h1 := h.burn hf
                    cases hfl : (m.blk k).fails with
                    | none =>
                      refine (prog_do1 h ok hd hk hl s hs hb hf hfl).mono ?_
                      rintro e w' ⟨rfl, rfl⟩
                      refine .mk' rfl (own' := own) ?_ hid ((Foot.setCell _ _ _ h.oc).trans (Foot.putR og))
                      show RefAt own _ r (put (burn m) k s)
                      unfold put
                      rw [show cut (burn m) s = s from hcs]
                      exact (h1.put hk hl s).ref
                    | some u =>
                      refine (prog_fails1 h ok hd hk hl s hs hb hf hfl).mono ?_
                      rintro e w' ⟨rfl, rfl⟩
                      obtain ⟨cs', h2⟩ := (h1.put hk hl (cut m u)).fell (k := k) hk
                      exact .mk' rfl (own' := own) (h2.drew).ref hid ((((Foot.setCell _ _ _ h.oc).trans (Foot.putR og)).trans (Foot.fellR h.ob)).trans (Foot.drew _ _))
            · rw [mayPut_out (Or.inr (Or.inr (Or.inr (Or.inr (by rw [hnx]; exact hne))))), if_neg (by simp)]
              exact (prog_other h ok hd hk hp hp2 s hs hne).mono fun _ _ hh => keep hh
          · rw [mayPut_out (Or.inr (Or.inr (Or.inr (Or.inl hs)))), if_neg (by simp)]
            exact (prog_long h ok hd hk hp hp2 s hs).mono fun _ _ hh => keep hh
theorem erase_r (h : RefAt own w r m) (ok : Ok m K) (hK : K < 9223372036854775807) (b : Int) : Calls Try.prog 34 #[.pointer (some ⟨r, 0, none⟩), .int .i64 b] w (ToldR own w r (doErase m b)) := by
  have hR := h
  obtain ⟨rb, cap, cs, pg, fu, tx, h⟩ := h
  have keep : ∀ {e : Ending} {w' : World} {n : Int}, e = .returned (.int .i64 n) ∧ w' = w → ToldR own w r (n, m) e w' := by
    rintro e w' n ⟨rfl, rfl⟩
    exact .mk' rfl hR (fun _ hk => Or.inl hk) (Foot.refl _ _)
  have hid : ∀ k, own k → own k ∨ w.heap.size ≤ k := fun _ hk => Or.inl hk
  unfold doErase
  cases hd : m.dead with
  | true =>
    rw [if_pos rfl]
    exact (erase_rdead h hd b).mono fun _ _ hh => keep hh
  | false =>
    rw [if_neg (by simp)]
    cases ht : there m b with
    | false =>
      rw [if_neg (by simp)]
      exact (erase_rnone h ok hd ht).mono fun _ _ hh => keep hh
    | true =>
      obtain ⟨k, rfl, hk⟩ := there_of ht
      rw [if_pos rfl, Int.toNat_natCast]
      have hwk : (m.blk k).worn < 9223372036854775807 := by have := ok.w k; omega
      unfold deed
      cases hb : (m.blk k).bad with
      | true =>
        rw [if_pos rfl]
        exact (erase_rbad h ok hd hk hwk hb).mono fun _ _ hh => keep hh
      | false =>
        rw [if_neg (by simp)]
        cases hf : m.fuse with
        | none =>
          have hbm := burn_none hf
          cases hfl : (m.blk k).fails with
          | none =>
            refine (erase_rdo0 h ok hd hk hwk hb hf hfl).mono ?_
            rintro e w' ⟨rfl, rfl⟩
            obtain ⟨cs', pg', h2⟩ := h.blank hk
            refine .mk' rfl (own' := more own w) ?_ (more_le own w w rfl) (Foot.blankR h.ob)
            show RefAt (more own w) _ r (ChipM.blank (burn m) k)
            rw [hbm]
            exact (h2).ref
          | some u =>
            refine (erase_rfails0 h ok hd hk hwk hb hf hfl).mono ?_
            rintro e w' ⟨rfl, rfl⟩
            obtain ⟨cs', h2⟩ := h.fell hk
            refine .mk' rfl (own' := own) ?_ hid (Foot.fellR h.ob)
            show RefAt own _ r (fell (burn m) k)
            rw [hbm]
            exact (h2).ref
        | some nt =>
          obtain ⟨n, t⟩ := nt
          cases n with
          | zero =>
            have h1 : RO own (w.setCell ⟨r, 3, none⟩ (.bool true)) (dieM m) r rb cap cs pg fu tx := h.dead true
            cases hte : t.toList.isEmpty with
            | true =>
              refine (erase_rdead0 h ok hd hk hwk hb hf hte).mono ?_
              rintro e w' ⟨rfl, rfl⟩
              refine .mk' rfl (own' := own) ?_ hid (Foot.setCell _ _ _ h.oc)
              rw [if_pos hte]
              exact (h1).ref
            | false =>
              refine (erase_rdies h ok hd hk hwk hb hf hte).mono ?_
              rintro e w' ⟨rfl, rfl⟩
              obtain ⟨cs', pg', h2⟩ := h1.blank hk
              refine .mk' rfl (own' := more own (w.setCell ⟨r, 3, none⟩ (.bool true))) ?_ (more_le own w _ (setCell_size _ _ _)) ((Foot.setCell _ _ _ h.oc).trans (Foot.blankR h.ob))
              rw [if_neg (by simp [hte])]
              exact (h2).ref
          | succ n =>
            have h1 := h.burn hf
            cases hfl : (m.blk k).fails with
            | none =>
              refine (erase_rdo1 h ok hd hk hwk hb hf hfl).mono ?_
              rintro e w' ⟨rfl, rfl⟩
              obtain ⟨cs', pg', h2⟩ := h1.blank hk
              exact .mk' rfl (own' := more own (w.setCell ⟨r, 5, none⟩ (.int .i64 (n : Int)))) h2.ref (more_le own w _ (setCell_size _ _ _)) ((Foot.setCell _ _ _ h.oc).trans (Foot.blankR h.ob))
            | some u =>
              refine (erase_rfails1 h ok hd hk hwk hb hf hfl).mono ?_
              rintro e w' ⟨rfl, rfl⟩
              obtain ⟨cs', h2⟩ := h1.fell (k := k) hk
              exact .mk' rfl (own' := own) h2.ref hid ((Foot.setCell _ _ _ h.oc).trans (Foot.fellR h.ob))
end
end Go.Proofs.Ytfjnjhlmmdeilaa.RefA
