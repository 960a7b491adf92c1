/- What holds of every chip stays so. -/
import Derived.Test.YtfjnjhlmmdeilaaChipM
namespace Go.Proofs.Ytfjnjhlmmdeilaa.ChipM

theorem Ok.mono {m : Chp} {K L : Nat} (h : Ok m K) (hl : K ≤ L) : Ok m L := ⟨h.n0, h.n1, h.p0, h.p1, h.d0, h.d1, h.t, fun b => Nat.le_trans (h.w b) hl, h.f⟩
theorem Ok.setB {m : Chp} {K : Nat} (h : Ok m K) {k : Nat} {x : Blk} (ht : x.text.length ≤ m.pages) (hw : x.worn ≤ K) : Ok (setB m k x) K := by
  refine ⟨h.n0, h.n1, h.p0, h.p1, h.d0, h.d1, fun b => ?_, fun b => ?_, h.f⟩
  · show (if b = k then x else m.blk b).text.length ≤ m.pages
    split
    · exact ht
    · exact h.t b
  · show (if b = k then x else m.blk b).worn ≤ K
    split
    · exact hw
    · exact h.w b
theorem Ok.die {m : Chp} {K : Nat} (h : Ok m K) : Ok (dieM m) K := ⟨h.n0, h.n1, h.p0, h.p1, h.d0, h.d1, h.t, h.w, h.f⟩
theorem Ok.burn {m : Chp} {K : Nat} (h : Ok m K) : Ok (burn m) K := by
  refine ⟨h.n0, h.n1, h.p0, h.p1, h.d0, h.d1, h.t, h.w, fun n t e => ?_⟩
  simp only [ChipM.burn, Option.map_eq_some_iff, Prod.mk.injEq, Prod.exists] at e
  obtain ⟨n', t', e1, e2, e3⟩ := e
  have := h.f n' t' e1
  omega
theorem Ok.put {m : Chp} {K : Nat} (h : Ok m K) {k : Nat} (hl : (m.blk k).text.length < m.pages) (t : ByteArray) : Ok (put m k t) K :=
  h.setB (by simp; omega) (h.w k)
theorem Ok.blank {m : Chp} {K : Nat} (h : Ok m K) (k : Nat) : Ok (blank m k) (K + 1) :=
  (h.mono (Nat.le_succ K)).setB (by simp) (by have := h.w k; simp; omega)
theorem Ok.fell {m : Chp} {K : Nat} (h : Ok m K) (k : Nat) : Ok (fell m k) K := h.setB (h.t k) (h.w k)
/-- A deed keeps it. -/
theorem Ok.deed {m : Chp} {K L : Nat} (h : Ok m K) (hKL : K ≤ L) (k : Nat) (do_ : Chp → Chp) (dies fails : Chp → ByteArray → Chp)
    (hdo : Ok (do_ (ChipM.burn m)) L) (hdies : ∀ t, Ok (dies (dieM m) t) L) (hfails : ∀ t, Ok (fails (ChipM.burn m) t) L) : Ok (deed m k do_ dies fails).2 L := by
  unfold ChipM.deed
  split
  · exact h.mono hKL
  · split
    · show Ok (if _ then dieM m else _) L
      split
      · exact (h.mono hKL).die
      · exact hdies _
    · split
      · exact (hfails _).fell k
      · exact hdo
theorem Ok.program {m : Chp} {K : Nat} (h : Ok m K) (b p : Int) (s : ByteArray) : Ok (doProgram m b p s).2 K := by
  unfold doProgram
  split
  · exact h
  · split
    · rename_i hm
      have hl : (m.blk b.toNat).text.length < m.pages := by
        unfold mayPut next at_ within at hm
        simp only [Bool.and_eq_true, decide_eq_true_eq] at hm
        obtain ⟨⟨⟨ht, hp⟩, _⟩, he⟩ := hm
        rw [if_pos ht] at he
        omega
      exact h.deed (Nat.le_refl K) _ _ _ _ (h.burn.put hl _) (fun t => h.die.put hl t) (fun t => h.burn.put hl t)
    · exact h
theorem Ok.erase {m : Chp} {K : Nat} (h : Ok m K) (b : Int) : Ok (doErase m b).2 (K + 1) := by
  unfold doErase
  split
  · exact h.mono (Nat.le_succ K)
  · split
    · exact h.deed (Nat.le_succ K) _ _ _ _ (h.burn.blank _) (fun _ => h.die.blank _) (fun _ => h.burn.mono (Nat.le_succ K))
    · exact h.mono (Nat.le_succ K)
theorem Ok.fail {m : Chp} {K : Nat} (h : Ok m K) (b : Int) (t : ByteArray) : Ok (fail m b t) K := by
  unfold ChipM.fail
  split
  · exact h.setB (h.t _) (h.w _)
  · exact h
theorem Ok.fuse {m : Chp} {K : Nat} (h : Ok m K) (n : Int) (t : ByteArray) : Ok (setFuse m n t) K := by
  refine ⟨h.n0, h.n1, h.p0, h.p1, h.d0, h.d1, h.t, h.w, fun n' t' e => ?_⟩
  simp only [setFuse] at e
  split at e
  · simp only [Option.some.injEq, Prod.mk.injEq] at e
    omega
  · cases e
theorem Ok.revive {m : Chp} {K : Nat} (h : Ok m K) : Ok (revive m) K := ⟨h.n0, h.n1, h.p0, h.p1, h.d0, h.d1, h.t, h.w, fun _ _ e => by cases e⟩
theorem Ok.new {n p d : Nat} (hn : 2 ≤ n ∧ n ≤ 64) (hp : 2 ≤ p ∧ p ≤ 32) (hd : 32 ≤ d ∧ d ≤ 256) : Ok (new n p d) 0 :=
  ⟨hn.1, hn.2, hp.1, hp.2, hd.1, hd.2, fun _ => Nat.zero_le _, fun _ => Nat.le_refl _, fun _ _ e => by cases e⟩
theorem deed_n {m : Chp} (k : Nat) (do_ : Chp → Chp) (dies fails : Chp → ByteArray → Chp) (hdo : ∀ m, (do_ m).n = m.n) (hdies : ∀ m t, (dies m t).n = m.n) (hfails : ∀ m t, (fails m t).n = m.n) : (deed m k do_ dies fails).2.n = m.n := by
  unfold deed
  split
  · rfl
  · split
    · show (if _ then dieM m else _ : Chp).n = m.n
      split
      · rfl
      · rw [hdies]; rfl
    · split
      · show (fails (burn m) _).n = m.n
        rw [hfails]; rfl
      · show (do_ (burn m)).n = m.n
        rw [hdo]; rfl
end Go.Proofs.Ytfjnjhlmmdeilaa.ChipM
