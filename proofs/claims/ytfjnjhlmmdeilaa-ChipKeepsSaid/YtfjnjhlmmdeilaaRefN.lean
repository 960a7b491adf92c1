/- The walk of the reference's New. -/
import Derived.Test.YtfjnjhlmmdeilaaRefC
import Derived.Test.YtfjnjhlmmdeilaaCalm3
import Derived.Laws.AppendOwn
set_option linter.unusedVariables false
namespace Go.Proofs.Ytfjnjhlmmdeilaa.RefN
open Go.RowKit Go.Proofs.Ytfjnjhlmmdeilaa.ChipM Go.Proofs.Ytfjnjhlmmdeilaa.ChipA Go.Proofs.Ytfjnjhlmmdeilaa.RefA

def blkL (p g : Nat) : List Value := [.slice (some ⟨g, 0, none⟩) p p, .int .i64 0, .bool false, .bool false, .string ⟨#[]⟩]
def rowsL (p : Nat) (pg : Nat → Nat) (k : Nat) : List Value := (List.range k).flatMap fun b => blkL p (pg b)
theorem rowsL_succ (p : Nat) (pg : Nat → Nat) (k : Nat) : rowsL p pg (k + 1) = rowsL p pg k ++ blkL p (pg k) := by
  unfold rowsL
  rw [List.range_succ, List.flatMap_append]
  simp
theorem rowsL_length (p : Nat) (pg : Nat → Nat) : ∀ k, (rowsL p pg k).length = k * 5
  | 0 => rfl
  | k + 1 => by rw [rowsL_succ, List.length_append, rowsL_length p pg k]; simp [blkL]; omega
theorem rowsL_congr (p : Nat) {pg pg' : Nat → Nat} : ∀ k, (∀ b, b < k → pg b = pg' b) → rowsL p pg k = rowsL p pg' k
  | 0, _ => rfl
  | k + 1, h => by rw [rowsL_succ, rowsL_succ, rowsL_congr p k (fun b hb => h b (by omega)), h k (by omega)]
theorem rowsL_get (p : Nat) (pg : Nat → Nat) : ∀ n b q, b < n → q < 5 → (rowsL p pg n)[b * 5 + q]? = (blkL p (pg b))[q]?
  | 0, b, _, h, _ => absurd h (by omega)
  | n + 1, b, q, h, hq => by
    rw [rowsL_succ]
    by_cases e : b = n
    · subst e
      rw [List.getElem?_append_right (by rw [rowsL_length]; omega), rowsL_length, show b * 5 + q - b * 5 = q by omega]
    · rw [List.getElem?_append_left (by rw [rowsL_length]; omega)]
      exact rowsL_get p pg n b q (by omega) hq
/-- What holds at each round's head. -/
structure NW (w1 : World) (p d k : Nat) (vc v : Value) (pg : Nat → Nat) (W : World) : Prop where
  b : Below w1.heap.size w1 W
  c : W.heap[w1.heap.size]? = some (.cells #[vc, .int .i64 p, .int .i64 d, .bool false, .bool false, .int .i64 0, .string ⟨#[]⟩] 70 (0, 0))
  o : W.ownsRow (w1.heap.size + 1) 73 5 v k (rowsL p pg k)
  g : ∀ b, b < k → w1.heap.size < pg b ∧ W.heap[pg b]? = some (.cells (pageN p) 76 (0, 0)) ∧ v.ownBlock ≠ some (pg b)
  inj : ∀ b b', b < k → b' < k → pg b = pg b' → b = b'
section
variable {w1 W W' : World} {p d k : Nat} {vc v : Value} {pg : Nat → Nat}
theorem NW.lt (h : NW w1 p d k vc v pg W) {b : Nat} (hb : b < k) : pg b < W.heap.size := (Array.getElem?_eq_some_iff.1 (h.g b hb).2.1).1
theorem NW.rlt (h : NW w1 p d k vc v pg W) : w1.heap.size < W.heap.size := (Array.getElem?_eq_some_iff.1 h.c).1
theorem NW.olt (h : NW w1 p d k vc v pg W) {j : Nat} (hj : v.ownBlock = some j) : w1.heap.size < j ∧ j < W.heap.size := by
  rcases h.o.2 with ⟨rfl, _⟩ | ⟨g, cap, cur, rfl, hg, hh, _⟩
  · cases hj
  · simp only [Value.ownBlock, Option.some.injEq] at hj
    subst hj
    exact ⟨by omega, (Array.getElem?_eq_some_iff.1 hh).1⟩
theorem ownsRow_same {w w' : World} {base : Nat} {e : TypeId} {size n : Nat} {v : Value} {xs : List Value} (h : w.ownsRow base e size v n xs) (hk : ∀ j, v.ownBlock = some j → w'.heap[j]? = w.heap[j]?) : w'.ownsRow base e size v n xs := by
  refine ⟨h.1, ?_⟩
  rcases h.2 with h0 | ⟨g, cap, cur, hv, hg, hh, r⟩
  · exact Or.inl h0
  · exact Or.inr ⟨g, cap, cur, hv, hg, (hk g (by rw [hv]; rfl)).trans hh, r⟩
theorem NW.alloc (h : NW w1 p d k vc v pg W) (o : Obj) : NW w1 p d k vc v pg (W.alloc o) where
  b := h.b.alloc h.b.size o
  c := (Below.heap_alloc _ _ _ h.rlt).trans h.c
  o := ownsRow_same h.o fun j hj => Below.heap_alloc _ _ _ (h.olt hj).2
  g := fun b hb => ⟨(h.g b hb).1, (Below.heap_alloc _ _ _ (h.lt hb)).trans (h.g b hb).2.1, (h.g b hb).2.2⟩
  inj := h.inj
theorem NW.drew (h : NW w1 p d k vc v pg W) : NW w1 p d k vc v pg W.drew := ⟨h.b.drew, h.c, ownsRow_same h.o fun _ _ => rfl, h.g, h.inj⟩
theorem NW.refat {n : Nat} (hn : n ≤ 64) (h0 : 0 < n) (h : NW w1 p d n v v pg W) : RefAt (fun j => w1.heap.size ≤ j ∧ j < W.heap.size) W w1.heap.size (new n p d) := by
  rcases h.o.2 with ⟨_, e⟩ | ⟨rb, cap, cur, rfl, hg, hh, _, _, hz, ht⟩
  · omega
  have hget : ∀ b q, b < n → q < 5 → cur[b * 5 + q]? = (blkL p (pg b))[q]? := fun b q hb hq => by
    rw [← rowsL_get p pg n b q hb hq, ← ht, List.getElem?_take, if_pos (by omega)]
    simp
  have hrb := (Array.getElem?_eq_some_iff.1 hh).1
  refine RO.ref (rb := rb) (cap := cap) (cs := cur) (pg := pg) (fu := 0) (tx := ⟨#[]⟩) ⟨⟨Nat.le_refl _, h.rlt⟩, ⟨by omega, hrb⟩, fun b hb => ⟨Nat.le_of_lt (h.g b hb).1, h.lt hb⟩, fun j hj => hj.2, by omega, fun b hb => ⟨?_, ?_⟩, h.inj, h.c, hh, fun b hb => ⟨?_, ?_, ?_, ?_, ⟨⟨#[]⟩, ?_, fun v e => by cases e⟩, pageN p, (h.g b hb).2.1, fun q hq => ?_⟩, fun _ _ e => by cases e⟩
  · have := (h.g b hb).1; omega
  · intro e
    exact (h.g b hb).2.2 (congrArg some e.symm)
  · have := hget b 0 hb (by omega); exact this
  · have := hget b 1 hb (by omega); exact this
  · have := hget b 2 hb (by omega); exact this
  · have := hget b 3 hb (by omega); exact this
  · have := hget b 4 hb (by omega); exact this
  · have g0 := pageN_get p q 0 hq (by omega)
    have g1 := pageN_get p q 1 hq (by omega)
    exact ⟨g0, _, g1, fun hl => by simp [new, Blk.blank] at hl⟩
end
/-! ### The round's region -/
theorem infoB : (Try.prog.info? 73).map (fun i => (i.zero, i.size, i.bytes)) = some (some (.agg #[.slice none 0 0, .int .i64 0, .bool false, .bool false, .string ⟨#[]⟩]), 5, 56) := by kernel_rfl
theorem buildB (g p : Nat) (W : World) : (Instr.build 73 #[(0, .slice (some ⟨g, 0, none⟩) p p)]).run Try.prog W = .ok (.agg (blkL p g).toArray) W := by kernel_rfl
theorem buildS (g p : Nat) (W : World) : (Instr.buildSlice 68 1 #[(0, .agg (blkL p g).toArray)]).run Try.prog W = .ok (.slice (some ⟨W.heap.size, 0, none⟩) 1 1) (W.alloc (.cells (blkL p g).toArray 73)) := by
  simp [go_sem, blkL]
/-- A row of pages that was just made. -/
def Fr (w1 : World) (p k : Nat) (v : Value) (pg : Nat → Nat) (g : Nat) (W : World) : Prop :=
  w1.heap.size < g ∧ W.heap[g]? = some (.cells (pageN p) 76 (0, 0)) ∧ v.ownBlock ≠ some g ∧ ∀ b, b < k → pg b ≠ g
def Stage (w1 : World) (p d k : Nat) (v : Value) (pg : Nat → Nat) (x46 x47 x48 x49 : Value) (W : World) : Bool → Bool → Bool → Bool → Bool → Prop
  | false, false, false, false, false => NW w1 p d k v v pg W
  | true, false, false, false, false => NW w1 p d k v v pg W ∧ ∃ g, x46 = .slice (some ⟨g, 0, none⟩) p p ∧ Fr w1 p k v pg g W
  | true, true, false, false, false => NW w1 p d k v v pg W ∧ ∃ g, x47 = .agg (blkL p g).toArray ∧ Fr w1 p k v pg g W
  | true, true, true, false, false => NW w1 p d k v v pg W ∧ ∃ g h, x48 = .slice (some ⟨h, 0, none⟩) 1 1 ∧ Fr w1 p k v pg g W ∧ W.heap[h]? = some (.cells (blkL p g).toArray 73 (0, 0))
  | true, true, true, true, false => ∃ pg', NW w1 p d (k + 1) v x49 pg' W
  | true, true, true, true, true => ∃ v' pg', NW w1 p d (k + 1) v' v' pg' W
  | _, _, _, _, _ => False
def SR (w1 : World) (p d k : Nat) (v : Value) (pg : Nat → Nat) (l : Nat → Bool) (a : Act) (W : World) : Prop :=
  (l 9 = true → l 4 = true) ∧ Stage w1 p d k v pg (a.tmps.getD 46 undef) (a.tmps.getD 47 undef) (a.tmps.getD 48 undef) (a.tmps.getD 49 undef) W (l 6) (l 7) (l 8) (l 9) (l 12)
def VC (r p : Nat) (v : Value) : Nat → Value
  | 3 => .pointer (some ⟨r, 0, none⟩)
  | 4 => v
  | 5 => .int .i64 p
  | 11 => .pointer (some ⟨r, 0, none⟩)
  | _ => .pointer (some ⟨r, 0, none⟩)
def VR (r p : Nat) (v : Value) (i : Nat) (x : Value) (_ : World) : Prop := i = 6 ∨ i = 7 ∨ i = 8 ∨ i = 9 ∨ i = 12 ∨ x = VC r p v i
section
variable {w1 W W' : World} {p d k : Nat} {v : Value} {pg : Nat → Nat} {l : Nat → Bool} {a : Act}
open Go.Proofs.Ytfjnjhlmmdeilaa.Calm3
theorem up_ne {i j : Nat} (h : j ≠ i) : up l i j = l j := if_neg h
theorem up_eq {i : Nat} : up l i i = true := if_pos rfl
theorem SR.simple {i t : Nat} {x : Value} (hi : i ≠ 4 ∧ i ≠ 6 ∧ i ≠ 7 ∧ i ≠ 8 ∧ i ≠ 9 ∧ i ≠ 12) (ht : t ≠ 46 ∧ t ≠ 47 ∧ t ≠ 48 ∧ t ≠ 49) (h : SR w1 p d k v pg l a W) : SR w1 p d k v pg (up l i) (a.put (some t) x) W := by
  unfold SR at h ⊢
  rw [up_ne hi.1.symm, up_ne hi.2.1.symm, up_ne hi.2.2.1.symm, up_ne hi.2.2.2.1.symm, up_ne hi.2.2.2.2.1.symm, up_ne hi.2.2.2.2.2.symm,
    Calm.getD_put_ne (by simp [ht.1]), Calm.getD_put_ne (by simp [ht.2.1]), Calm.getD_put_ne (by simp [ht.2.2.1]), Calm.getD_put_ne (by simp [ht.2.2.2])]
  exact h
theorem SR.at4 (h : SR w1 p d k v pg l a W) (h4 : l 4 = false) : W.cell? ⟨w1.heap.size, 0, none⟩ = some v ∧ SR w1 p d k v pg (up l 4) (a.put (some 44) v) W := by
  have h9 : l 9 = false := by
    cases e : l 9 with
    | false => rfl
    | true => rw [h.1 e] at h4; cases h4
  have hs := h.2
  have hc : ∃ pg', NW w1 p d k v v pg' W := by
    rw [h9] at hs
    revert hs
    cases l 6 <;> cases l 7 <;> cases l 8 <;> cases l 12 <;> simp only [Stage] <;> intro hs
    all_goals first
      | exact ⟨_, hs⟩
      | exact ⟨_, hs.1⟩
      | exact hs.elim
  refine ⟨?_, ?_, ?_⟩
  · obtain ⟨pg', hc⟩ := hc
    rw [cell_of_row _ _ _ _ _ _ hc.c]
    rfl
  · intro _
    exact up_eq
  · rw [up_ne (by decide), up_ne (by decide), up_ne (by decide), up_ne (by decide), up_ne (by decide), Calm.getD_put_ne (by decide), Calm.getD_put_ne (by decide), Calm.getD_put_ne (by decide), Calm.getD_put_ne (by decide)]
    exact hs
theorem fr_alloc {g : Nat} (h : Fr w1 p k v pg g W) (o : Obj) : Fr w1 p k v pg g (W.alloc o) := ⟨h.1, (Below.heap_alloc _ _ _ (Array.getElem?_eq_some_iff.1 h.2.1).1).trans h.2.1, h.2.2⟩
theorem SR.at6 (h : SR w1 p d k v pg l a W) (h6 : l 6 = false) (hz : 46 < a.tmps.size) :
    SR w1 p d k v pg (up l 6) (a.put (some 46) (.slice (some ⟨W.heap.size, 0, none⟩) p p)) (W.alloc (.cells (pageN p) 76)) := by
  have hs := h.2
  rw [h6] at hs
  have e : l 7 = false ∧ l 8 = false ∧ l 9 = false ∧ l 12 = false ∧ NW w1 p d k v v pg W := by
    revert hs
    cases l 7 <;> cases l 8 <;> cases l 9 <;> cases l 12 <;> simp only [Stage] <;> intro hs
    all_goals first
      | exact ⟨trivial, trivial, trivial, trivial, hs⟩
      | exact hs.elim
  obtain ⟨e7, e8, e9, e12, hn⟩ := e
  refine ⟨fun e => ?_, ?_⟩
  · rw [up_ne (by decide), e9] at e; cases e
  · rw [up_eq, up_ne (by decide), up_ne (by decide), up_ne (by decide), up_ne (by decide), e7, e8, e9, e12]
    refine ⟨hn.alloc _, W.heap.size, Calm.getD_put_same hz, hn.rlt, heap_alloc_new _ _, fun e => ?_, fun b hb e => ?_⟩
    · have := (hn.olt e).2; omega
    · have := hn.lt hb; omega
theorem SR.at7 (h : SR w1 p d k v pg l a W) (h6 : l 6 = true) (h7 : l 7 = false) (hz : 47 < a.tmps.size) :
    ∃ g, a.tmps.getD 46 undef = .slice (some ⟨g, 0, none⟩) p p ∧ SR w1 p d k v pg (up l 7) (a.put (some 47) (.agg (blkL p g).toArray)) W := by
  have hs := h.2
  rw [h6, h7] at hs
  have e : l 8 = false ∧ l 9 = false ∧ l 12 = false ∧ NW w1 p d k v v pg W ∧ ∃ g, a.tmps.getD 46 undef = .slice (some ⟨g, 0, none⟩) p p ∧ Fr w1 p k v pg g W := by
    revert hs
    cases l 8 <;> cases l 9 <;> cases l 12 <;> simp only [Stage] <;> intro hs
    all_goals first
      | exact ⟨trivial, trivial, trivial, hs⟩
      | exact hs.elim
  obtain ⟨e8, e9, e12, hn, g, hg, hf⟩ := e
  refine ⟨g, hg, fun e => ?_, ?_⟩
  · rw [up_ne (by decide), e9] at e; cases e
  · rw [up_eq, up_ne (by decide), up_ne (by decide), up_ne (by decide), up_ne (by decide), h6, e8, e9, e12]
    exact ⟨hn, g, Calm.getD_put_same hz, hf⟩
theorem SR.at8 (h : SR w1 p d k v pg l a W) (h7 : l 7 = true) (h8 : l 8 = false) (hz : 48 < a.tmps.size) :
    ∃ g, a.tmps.getD 47 undef = .agg (blkL p g).toArray ∧ SR w1 p d k v pg (up l 8) (a.put (some 48) (.slice (some ⟨W.heap.size, 0, none⟩) 1 1)) (W.alloc (.cells (blkL p g).toArray 73)) := by
  have hs := h.2
  rw [h7, h8] at hs
  have e : l 6 = true ∧ l 9 = false ∧ l 12 = false ∧ NW w1 p d k v v pg W ∧ ∃ g, a.tmps.getD 47 undef = .agg (blkL p g).toArray ∧ Fr w1 p k v pg g W := by
    revert hs
    cases l 6 <;> cases l 9 <;> cases l 12 <;> simp only [Stage] <;> intro hs
    all_goals first
      | exact ⟨trivial, trivial, trivial, hs⟩
      | exact hs.elim
  obtain ⟨e6, e9, e12, hn, g, hg, hf⟩ := e
  refine ⟨g, hg, fun e => ?_, ?_⟩
  · rw [up_ne (by decide), e9] at e; cases e
  · rw [up_eq, up_ne (by decide), up_ne (by decide), up_ne (by decide), up_ne (by decide), e6, h7, e9, e12]
    exact ⟨hn.alloc _, g, W.heap.size, Calm.getD_put_same hz, fr_alloc hf _, heap_alloc_new _ _⟩
theorem SR.at9 (h : SR w1 p d k v pg l a W) (h4 : l 4 = true) (h8 : l 8 = true) (h9 : l 9 = false) (hz : 49 < a.tmps.size) (hk : k < 64) :
    ∃ x v' w', a.tmps.getD 48 undef = .slice (some ⟨x, 0, none⟩) 1 1 ∧ (Builtin.append_ #[68, 68] 68 #[v, .slice (some ⟨x, 0, none⟩) 1 1]).run Try.prog W = .ok v' w' ∧ SR w1 p d k v pg (up l 9) (a.put (some 49) v') w' := by
  have hs := h.2
  rw [h8, h9] at hs
  have e : l 6 = true ∧ l 7 = true ∧ l 12 = false ∧ NW w1 p d k v v pg W ∧ ∃ g x, a.tmps.getD 48 undef = .slice (some ⟨x, 0, none⟩) 1 1 ∧ Fr w1 p k v pg g W ∧ W.heap[x]? = some (.cells (blkL p g).toArray 73 (0, 0)) := by
    revert hs
    cases l 6 <;> cases l 7 <;> cases l 12 <;> simp only [Stage] <;> intro hs
    all_goals first
      | exact ⟨trivial, trivial, trivial, hs⟩
      | exact hs.elim
  obtain ⟨e6, e7, e12, hn, g, x, hx, hf, hxr⟩ := e
  obtain ⟨i, hi, hz0, hz1, hz2⟩ := info_parts infoB
  obtain ⟨v', w', hr, hown, hgr, _⟩ := run_append_own (P := Try.prog) (w := W) (w1.heap.size + 1) 68 68 73 i _ 5 56 Try.underlying68 hi hz0 hz1 hz2 rfl (by decide) v k (rowsL p pg k) hn.o
    ⟨x, 0, none⟩ 1 1 (blkL p g) rfl (fun j u hj => by
      have : (⟨x, 0, none⟩ : Addr).add j = ⟨x, j, none⟩ := by unfold Addr.add; split <;> simp_all
      rw [this, cell_of_row _ _ _ _ _ _ hxr]
      simpa using hj) (by simp [blkL, Value.oneCell']) (by simp only [maxLen]; omega) (by omega) hn.rlt
  refine ⟨x, v', w', hx, hr, fun _ => ?_, ?_⟩
  · rw [up_ne (by decide)]; exact h4
  · rw [up_eq, up_ne (by decide), up_ne (by decide), up_ne (by decide), up_ne (by decide), e6, e7, h8, e12, Calm.getD_put_same hz]
    have hk2 : ∀ b, b < k → (fun b => if b = k then g else pg b) b = pg b := fun b hb => if_neg (by omega)
    have hrows : rowsL p (fun b => if b = k then g else pg b) (k + 1) = rowsL p pg k ++ blkL p g := by
      rw [rowsL_succ, rowsL_congr p k hk2, if_pos rfl]
    have hpk : ∀ b, b < k + 1 → w1.heap.size < (if b = k then g else pg b) ∧ W.heap[(if b = k then g else pg b)]? = some (.cells (pageN p) 76 (0, 0)) ∧ v.ownBlock ≠ some (if b = k then g else pg b) := fun b hb => by
      by_cases e : b = k
      · rw [if_pos e]; exact ⟨hf.1, hf.2.1, hf.2.2.1⟩
      · rw [if_neg e]; exact hn.g b (by omega)
    refine ⟨fun b => if b = k then g else pg b, ⟨?_, ?_, by rw [hrows]; exact hown, fun b hb => ⟨(hpk b hb).1, ?_, fun e => ?_⟩, fun b b' h1 h2 e => ?_⟩⟩
    · exact hn.b.grown hgr hn.b.size (fun j hj => Nat.le_of_lt (hn.olt hj).1)
    · rw [hgr.block _ hn.rlt (fun e => by have := (hn.olt e.symm).1; omega)]
      exact hn.c
    · have hlt := (Array.getElem?_eq_some_iff.1 (hpk b hb).2.1).1
      exact (hgr.block _ hlt (fun e => (hpk b hb).2.2 e.symm)).trans (hpk b hb).2.1
    · rcases hown.2 with ⟨_, e0⟩ | ⟨g2, cap2, cur2, ev, _, hh2, _⟩
      · omega
      · have hlt := (Array.getElem?_eq_some_iff.1 (hpk b hb).2.1).1
        have h1 := (hgr.block _ hlt (fun e => (hpk b hb).2.2 e.symm)).trans (hpk b hb).2.1
        rw [ev] at e
        simp only [Value.ownBlock, Option.some.injEq] at e
        try dsimp only at h1 e
        rw [← e, hh2] at h1
        injection h1 with h1
        injection h1 with _ h1
        exact absurd h1 (by decide)
    · by_cases e1 : b = k <;> by_cases e2 : b' = k
      · rw [e1, e2]
      · simp only [e1, e2, if_true, if_false] at e
        exact absurd e.symm (hf.2.2.2 b' (by omega))
      · simp only [e1, e2, if_true, if_false] at e
        exact absurd e (hf.2.2.2 b (by omega))
      · simp only [e1, e2, if_false] at e
        exact hn.inj b b' (by omega) (by omega) e
theorem NW.store {vc : Value} (h : NW w1 p d k vc v pg W) : NW w1 p d k v v pg (W.setCell ⟨w1.heap.size, 0, none⟩ v) where
  b := h.b.setCell (Nat.le_refl _) v
  c := by rw [heap_setCell_same _ _ _ _ _ _ h.c]; rfl
  o := ownsRow_same h.o fun j hj => heap_setCell_other _ _ _ _ (by have := (h.olt hj).1; show j ≠ w1.heap.size; omega)
  g := fun b hb => ⟨(h.g b hb).1, (heap_setCell_other _ _ _ _ (by have := (h.g b hb).1; show pg b ≠ w1.heap.size; omega)).trans (h.g b hb).2.1, (h.g b hb).2.2⟩
  inj := h.inj
theorem SR.at12 (h : SR w1 p d k v pg l a W) (h9 : l 9 = true) (h12 : l 12 = false) : ∃ x c, a.tmps.getD 49 undef = x ∧ (∃ o i j, x = .slice o i j) ∧ W.heap[w1.heap.size]? = some (.cells c 70 (0, 0)) ∧ 0 < c.size ∧ SR w1 p d k v pg (up l 12) a (W.setCell ⟨w1.heap.size, 0, none⟩ x) := by
  have hs := h.2
  rw [h9, h12] at hs
  have e : l 6 = true ∧ l 7 = true ∧ l 8 = true ∧ ∃ pg', NW w1 p d (k + 1) v (a.tmps.getD 49 undef) pg' W := by
    revert hs
    cases l 6 <;> cases l 7 <;> cases l 8 <;> simp only [Stage] <;> intro hs
    all_goals first
      | exact ⟨trivial, trivial, trivial, hs⟩
      | exact hs.elim
  obtain ⟨e6, e7, e8, pg', hn⟩ := e
  refine ⟨_, _, rfl, ?_, hn.c, by simp, fun _ => ?_, ?_⟩
  · rcases hn.o.2 with ⟨e, _⟩ | ⟨_, _, _, e, _⟩
    · exact ⟨_, _, _, e⟩
    · exact ⟨_, _, _, e⟩
  · rw [up_ne (by decide)]
    exact h.1 h9
  · rw [up_eq, up_ne (by decide), up_ne (by decide), up_ne (by decide), up_ne (by decide), e6, e7, e8, h9]
    exact ⟨_, pg', hn.store⟩
def SZ (w1 : World) (p d k : Nat) (v : Value) (pg : Nat → Nat) (l : Nat → Bool) (a : Act) (W : World) : Prop := a.tmps.size = 53 ∧ SR w1 p d k v pg l a W
theorem SZ.simple {i t : Nat} {x : Value} (hi : i ≠ 4 ∧ i ≠ 6 ∧ i ≠ 7 ∧ i ≠ 8 ∧ i ≠ 9 ∧ i ≠ 12) (ht : t ≠ 46 ∧ t ≠ 47 ∧ t ≠ 48 ∧ t ≠ 49) (h : SZ w1 p d k v pg l a W) : SZ w1 p d k v pg (up l i) (a.put (some t) x) W :=
  ⟨by simpa [Act.put] using h.1, h.2.simple hi ht⟩
theorem SZ.of {i t : Nat} {x : Value} (h : SZ w1 p d k v pg l a W) (h2 : SR w1 p d k v pg (up l i) (a.put (some t) x) W') : SZ w1 p d k v pg (up l i) (a.put (some t) x) W' :=
  ⟨by simpa [Act.put] using h.1, h2⟩
end
def VF (r p : Nat) (v x6 x7 x8 x9 : Value) : Nat → Value
  | 3 => .pointer (some ⟨r, 0, none⟩)
  | 4 => v
  | 5 => .int .i64 p
  | 6 => x6
  | 7 => x7
  | 8 => x8
  | 9 => x9
  | 11 => .pointer (some ⟨r, 0, none⟩)
  | _ => .pointer (some ⟨r, 0, none⟩)
theorem NW.first (w : World) (n p d : Nat) : NW w p d 0 (.slice none 0 0) (.slice none 0 0) (fun _ => 0) (w.alloc (.cells #[.slice none 0 0, .int .i64 p, .int .i64 d, .bool false, .bool false, .int .i64 0, .string ⟨#[]⟩] 70)) where
  b := (Below.refl _ _).alloc (Nat.le_refl _) _
  c := heap_alloc_new _ _
  o := ⟨rfl, Or.inl ⟨rfl, rfl⟩⟩
  g := fun b hb => absurd hb (by omega)
  inj := fun b b' hb => absurd hb (by omega)
theorem makeN (p : Nat) (h : p ≤ 32) (W : World) : (Instr.makeSlice 71 (.int .i64 (p : Int)) (.int .i64 (p : Int))).run Try.prog W = .ok (.slice (some ⟨W.heap.size, 0, none⟩) p p) (W.alloc (.cells (pageN p) 76)) := madeP p h W
theorem new_r (n p d : Nat) (h0 : 2 ≤ n) (hn : n ≤ 64) (hp0 : 2 ≤ p) (hp : p ≤ 32) (hd0 : 32 ≤ d) (hd : d ≤ 256) (w : World) :
    Calls Try.prog 19 #[.int .i64 (n : Int), .int .i64 (p : Int), .int .i64 (d : Int)] w fun e w' => ∃ r v pg, e = .returned (.pointer (some ⟨r, 0, none⟩)) ∧ r = w.heap.size ∧ NW w p d n v v pg w' := by
  go_enter Try.func19, Try.ntmps19
  go_wp2_with fail
  go_loopw [8] (fun i wr => ∃ (k : Nat) (v : Value) (pg : Nat → Nat), k ≤ n ∧ i = .int .i64 (k : Int) ∧ NW w p d k v v pg wr) (fun i _ => n - (intOf i).toNat)
  case atStart => exact ⟨0, .slice none 0 0, fun _ => 0, by omega, rfl, NW.first w n p d⟩
  case round =>
    obtain ⟨k, v, pg, hk, rfl, hN⟩ := hrel
    by_cases hlk : k < n
    · go_wp2_with fail
      refine Calm3.calm_region (SZ w p d k v pg) (fun _ _ => True) (VR w.heap.size p v) [1, 7] (by kernel_rfl) (by kernel_rfl) (by kernel_rfl) (fun _ _ _ _ h _ => h) (fun _ => trivial) ⟨rfl, (fun h => by cases h), hN.drew⟩ ?_ ?_
      · simp only [Calm.Steps, Calm3.Step]
        refine ⟨?_, ?_, ?_, ?_, ?_, ?_, ?_, ?_, ?_, ?_, ?_, ?_, ?_, trivial⟩ <;> intro l a W hl hdn hS hNd hF <;> simp [Calm.needs, Calm.same, Calm.Left, VR, VC, Region.binds, Calm3.done] at hNd hF hdn
        · refine Calm3.step_val (i := 0) (S := SZ w p d k v pg) (E := fun _ _ => True) (V := VR w.heap.size p v) (Calm.wanted_none rfl) (VC w.heap.size p v 0) ?_ (hS.simple (by decide) (by decide)) trivial (Or.inr (Or.inr (Or.inr (Or.inr (Or.inr rfl)))))
          simp [go_sem, Act.eval, hF, VC]
        · refine Calm3.step_val (i := 1) (S := SZ w p d k v pg) (E := fun _ _ => True) (V := VR w.heap.size p v) (Calm.wanted_none rfl) (VC w.heap.size p v 1) ?_ (hS.simple (by decide) (by decide)) trivial (Or.inr (Or.inr (Or.inr (Or.inr (Or.inr rfl)))))
          simp [go_sem, Act.eval, hF, VC]
        · refine Calm3.step_val (i := 2) (S := SZ w p d k v pg) (E := fun _ _ => True) (V := VR w.heap.size p v) (Calm.wanted_none rfl) (VC w.heap.size p v 2) ?_ (hS.simple (by decide) (by decide)) trivial (Or.inr (Or.inr (Or.inr (Or.inr (Or.inr rfl)))))
          simp [go_sem, Act.eval, hNd, VC]
        · refine Calm3.step_val (i := 3) (S := SZ w p d k v pg) (E := fun _ _ => True) (V := VR w.heap.size p v) (Calm.wanted_none rfl) (VC w.heap.size p v 3) ?_ (hS.simple (by decide) (by decide)) trivial (Or.inr (Or.inr (Or.inr (Or.inr (Or.inr rfl)))))
          simp [go_sem, Act.eval, hNd, VC]
        · obtain ⟨hc, h2⟩ := hS.2.at4 hl
          refine Calm3.step_val (i := 4) (S := SZ w p d k v pg) (E := fun _ _ => True) (V := VR w.heap.size p v) (Calm.wanted_none rfl) v ?_ (hS.of h2) trivial (Or.inr (Or.inr (Or.inr (Or.inr (Or.inr rfl)))))
          simp [go_sem, Act.eval, hNd, hc]
        · refine Calm3.step_val (i := 5) (S := SZ w p d k v pg) (E := fun _ _ => True) (V := VR w.heap.size p v) (Calm.wanted_none rfl) (VC w.heap.size p v 5) ?_ (hS.simple (by decide) (by decide)) trivial (Or.inr (Or.inr (Or.inr (Or.inr (Or.inr rfl)))))
          simp [go_sem, Act.eval, hF, VC]
        · have hm := makeN p hp W
          refine Calm3.step_val (i := 6) (S := SZ w p d k v pg) (E := fun _ _ => True) (V := VR w.heap.size p v) (Calm.wanted_none rfl) _ ?_ (hS.of (hS.2.at6 hl (by rw [hS.1]; decide))) trivial (Or.inl rfl)
          simp [execOp, Act.eval, hNd, hm]
        · obtain ⟨g, hg, h2⟩ := hS.2.at7 hdn hl (by rw [hS.1]; decide)
          simp only [Array.getD_eq_getD_getElem?] at hg
          have hm := buildB g p W
          refine Calm3.step_val (i := 7) (S := SZ w p d k v pg) (E := fun _ _ => True) (V := VR w.heap.size p v) (Calm.wanted_none rfl) _ ?_ (hS.of h2) trivial (Or.inr (Or.inl rfl))
          simp [execOp, Act.eval, hg, hm]
        · obtain ⟨g, hg, h2⟩ := hS.2.at8 hdn hl (by rw [hS.1]; decide)
          simp only [Array.getD_eq_getD_getElem?] at hg
          have hm := buildS g p W
          refine Calm3.step_val (i := 8) (S := SZ w p d k v pg) (E := fun _ _ => True) (V := VR w.heap.size p v) (Calm.wanted_none rfl) _ ?_ (hS.of h2) trivial (Or.inr (Or.inr (Or.inl rfl)))
          simp [execOp, Act.eval, hg, hm]
        · obtain ⟨x, v', w', hx, hr, h2⟩ := hS.2.at9 hdn.1 hdn.2 hl (by rw [hS.1]; decide) (by omega)
          simp only [Array.getD_eq_getD_getElem?] at hx
          refine Calm3.step_val (i := 9) (S := SZ w p d k v pg) (E := fun _ _ => True) (V := VR w.heap.size p v) (Calm.wanted_none rfl) _ ?_ (hS.of h2) trivial (Or.inr (Or.inr (Or.inr (Or.inl rfl))))
          simp [execOp, resolve, invoke, Act.eval, hx, hNd, builtin, hr]
        · refine Calm3.step_val (i := 10) (S := SZ w p d k v pg) (E := fun _ _ => True) (V := VR w.heap.size p v) (Calm.wanted_none rfl) (VC w.heap.size p v 10) ?_ (hS.simple (by decide) (by decide)) trivial (Or.inr (Or.inr (Or.inr (Or.inr (Or.inr rfl)))))
          simp [go_sem, Act.eval, hNd, VC]
        · refine Calm3.step_val (i := 11) (S := SZ w p d k v pg) (E := fun _ _ => True) (V := VR w.heap.size p v) (Calm.wanted_none rfl) (VC w.heap.size p v 11) ?_ (hS.simple (by decide) (by decide)) trivial (Or.inr (Or.inr (Or.inr (Or.inr (Or.inr rfl)))))
          simp [go_sem, Act.eval, hNd, VC]
        · obtain ⟨x, c, hx, ⟨xo, xi, xj, rfl⟩, hc, hc0, h2⟩ := hS.2.at12 hdn.2.1 hl
          simp only [Array.getD_eq_getD_getElem?] at hx
          have hst := cell_of_row _ _ 0 _ _ _ hc
          have hc1 : c[0]? = some c[0] := Array.getElem?_eq_getElem hc0
          have hfz : W.frozen? ⟨w.heap.size, 0, none⟩ = false := by simp [World.frozen?, hc]
          refine Calm3.step_skip (i := 12) (S := SZ w p d k v pg) (E := fun _ _ => True) (V := VR w.heap.size p v) (Calm.wanted_none rfl) ?_ ⟨hS.1, h2⟩ trivial (Or.inr (Or.inr (Or.inr (Or.inr (Or.inl rfl)))))
          simp [go_sem, Act.eval, hNd, hx, hst, hc1, hfz]
      · intro a W hI
        obtain ⟨x6, e6⟩ : ∃ x, a.tmps.getD 46 undef = x := ⟨_, rfl⟩
        obtain ⟨x7, e7⟩ : ∃ x, a.tmps.getD 47 undef = x := ⟨_, rfl⟩
        obtain ⟨x8, e8⟩ : ∃ x, a.tmps.getD 48 undef = x := ⟨_, rfl⟩
        obtain ⟨x9, e9⟩ : ∃ x, a.tmps.getD 49 undef = x := ⟨_, rfl⟩
        have ha := hI.frame (by kernel_rfl) (VF w.heap.size p v x6 x7 x8 x9) (by
          have q0 := hI.left 0 rfl
          have q1 := hI.left 1 rfl
          have q2 := hI.left 2 rfl
          have q3 := hI.left 3 rfl
          have q4 := hI.left 4 rfl
          have q5 := hI.left 5 rfl
          have q10 := hI.left 10 rfl
          have q11 := hI.left 11 rfl
          simp [Calm.Left, VR, VC] at q0 q1 q2 q3 q4 q5 q10 q11
          simp [Calm3.fits, VF, *])
        have hS := hI.s.2.2
        clear hI e6 e7 e8 e9
        subst ha
        obtain ⟨v', pg', hN'⟩ := hS
        clear hN
        simp only [Calm.puts, VF]
        go_wp2_with fail
        go_roundw
        case rel => exact ⟨k + 1, v', pg', by omega, by go_num, hN'⟩
        case measure => simp [intOf]; omega
    · obtain rfl : k = n := by omega
      go_wp2_with fail
      go_ret
      exact ⟨_, v, pg, rfl, rfl, hN⟩
end Go.Proofs.Ytfjnjhlmmdeilaa.RefN
