/- The contracts of a chip, in plain words: what it tells, and what becomes of it. -/
import Derived.Test.YtfjnjhlmmdeilaaChipB
import Derived.Test.YtfjnjhlmmdeilaaChipR
import Derived.Test.YtfjnjhlmmdeilaaChipN
import Derived.Test.YtfjnjhlmmdeilaaChipI
set_option linter.unusedVariables false
namespace Go.Proofs.Ytfjnjhlmmdeilaa.ChipA
open Go.RowKit Go.Proofs.Ytfjnjhlmmdeilaa.ChipM
section
variable {own : Nat → Prop} {w w' : World} {m : Chp} {c K : Nat}
theorem ChipAt.foot {own2 : Nat → Prop} (h : ChipAt own w c m) (hf : Foot own2 w w') (hd : ∀ k, own k → ¬ own2 k) : ChipAt own w' c m := by
  obtain ⟨bb, cs, fz, fl, h⟩ := h
  exact ⟨_, _, _, _, h.keep hf hd⟩
theorem ChipAt.drewN (h : ChipAt own w c m) (n : Nat) : ChipAt own (w.drewN n) c m := by
  obtain ⟨bb, cs, fz, fl, h⟩ := h
  exact ⟨_, _, _, _, h.drewN n⟩
theorem ChipAt.alloc (h : ChipAt own w c m) (o : Obj) : ChipAt own (w.alloc o) c m := by
  obtain ⟨bb, cs, fz, fl, h⟩ := h
  exact ⟨_, _, _, _, h.alloc o⟩
theorem ChipAt.other (h : ChipAt own w c m) (a : Addr) (v : Value) (ha : ¬ own a.block) : ChipAt own (w.setCell a v) c m := by
  obtain ⟨bb, cs, fz, fl, h⟩ := h
  exact ⟨_, _, _, _, h.other a v ha⟩
theorem ChipAt.lt (h : ChipAt own w c m) : ∀ k, own k → k < w.heap.size := by
  obtain ⟨bb, cs, fz, fl, h⟩ := h
  exact h.lt
theorem ChipAt.mem (h : ChipAt own w c m) : own c := by
  obtain ⟨bb, cs, fz, fl, h⟩ := h
  exact h.oc
end
end Go.Proofs.Ytfjnjhlmmdeilaa.ChipA
namespace Go.Proofs.Ytfjnjhlmmdeilaa.ChipC
open Go.RowKit Go.Proofs.Ytfjnjhlmmdeilaa.ChipM Go.Proofs.Ytfjnjhlmmdeilaa.ChipA

section
variable {own : Nat → Prop} {w w' : World} {m : Chp} {c K : Nat}
theorem next_c (h : ChipAt own w c m) (ok : Ok m K) (b : Int) : Calls Try.prog 12 #[.pointer (some ⟨c, 0, none⟩), .int .i64 b] w fun e w' => e = .returned (.int .i64 (next m b)) ∧ w' = w := by
  obtain ⟨bb, cs, fz, fl, h⟩ := h
  exact next_any h ok.n1 b
theorem worn_c (h : ChipAt own w c m) (ok : Ok m K) (b : Int) : Calls Try.prog 13 #[.pointer (some ⟨c, 0, none⟩), .int .i64 b] w fun e w' => e = .returned (.int .i64 (worn m b)) ∧ w' = w := by
  obtain ⟨bb, cs, fz, fl, h⟩ := h
  exact worn_any h ok.n1 b
theorem bad_c (h : ChipAt own w c m) (ok : Ok m K) (b : Int) : Calls Try.prog 22 #[.pointer (some ⟨c, 0, none⟩), .int .i64 b] w fun e w' => e = .returned (.bool (bad m b)) ∧ w' = w := by
  obtain ⟨bb, cs, fz, fl, h⟩ := h
  exact bad_any h ok.n1 b
theorem dead_c (h : ChipAt own w c m) : Calls Try.prog 17 #[.pointer (some ⟨c, 0, none⟩)] w fun e w' => e = .returned (.bool m.dead) ∧ w' = w := by
  obtain ⟨bb, cs, fz, fl, h⟩ := h
  exact dead_any h
theorem size_c (h : ChipAt own w c m) : Calls Try.prog 23 #[.pointer (some ⟨c, 0, none⟩)] w fun e w' => e = .returned (.tuple #[.int .i64 m.n, .int .i64 m.pages, .int .i64 m.data]) ∧ ∃ n, w' = w.drewN n := by
  obtain ⟨bb, cs, fz, fl, h⟩ := h
  exact size_any h
theorem read_c (h : ChipAt own w c m) (ok : Ok m K) (b p : Int) : Calls Try.prog 15 #[.pointer (some ⟨c, 0, none⟩), .int .i64 b, .int .i64 p] w fun e w' => e = .returned (.tuple #[.string (readAt m b p).1, .bool (readAt m b p).2]) ∧ w' = w := by
  obtain ⟨bb, cs, fz, fl, h⟩ := h
  exact read_any h ok.n1 (fun k => Nat.le_trans (ok.t k) ok.p1) b p
/-- What a deed leaves: an answer, the chip, all else as it was. -/
structure ToldC (own : Nat → Prop) (w : World) (c : Nat) (r : Int × Chp) (e : Ending) (w' : World) : Prop where
  e : e = .returned (.int .i64 r.1)
  h : ChipAt own w' c r.2
  f : Foot own w w'
theorem program_c (h : ChipAt own w c m) (ok : Ok m K) (b p : Int) (s : ByteArray) : Calls Try.prog 14 #[.pointer (some ⟨c, 0, none⟩), .int .i64 b, .int .i64 p, .string s] w (ToldC own w c (doProgram m b p s)) :=
  (program_any h ok b p s).mono fun _ _ hh => ⟨hh.1, hh.2.1, hh.2.2⟩
theorem erase_c (h : ChipAt own w c m) (ok : Ok m K) (hK : K < 9223372036854775807) (b : Int) : Calls Try.prog 11 #[.pointer (some ⟨c, 0, none⟩), .int .i64 b] w (ToldC own w c (doErase m b)) :=
  (erase_any h ok hK b).mono fun _ _ hh => ⟨hh.1, hh.2.1, hh.2.2⟩
/-- What a setting leaves: the chip, with blocks that were not there. -/
structure Left (own : Nat → Prop) (w : World) (c : Nat) (m : Chp) (e : Ending) (w' : World) : Prop where
  e : e = .returned (.tuple #[])
  h : ∃ own', ChipAt own' w' c m ∧ ∀ k, own' k → own k ∨ w.heap.size ≤ k
  f : Foot own w w'
theorem revive_c (h : ChipAt own w c m) : Calls Try.prog 18 #[.pointer (some ⟨c, 0, none⟩)] w fun e w' => e = .returned (.tuple #[]) ∧ ChipAt own w' c (revive m) ∧ Foot own w w' := by
  obtain ⟨bb, cs, fz, fl, h⟩ := h
  refine (revive_any h).mono ?_
  rintro e w' ⟨rfl, rfl⟩
  exact ⟨rfl, ⟨_, _, _, _, revive_own h⟩, (Foot.setCell _ _ _ h.oc).trans (Foot.setCell _ _ _ h.oc)⟩
theorem fail_c (h : ChipAt own w c m) (ok : Ok m K) (b : Int) (t : ByteArray) : Calls Try.prog 35 #[.pointer (some ⟨c, 0, none⟩), .int .i64 b, .string t] w (Left own w c (fail m b t)) := by
  have hC := h
  obtain ⟨bb, cs, fz, fl, h⟩ := h
  unfold fail
  cases hb : there m b with
  | false =>
    rw [if_neg (by simp)]
    refine (fail_no h ok.n1 hb t).mono ?_
    rintro e w' ⟨rfl, rfl⟩
    exact ⟨rfl, ⟨own, ⟨_, _, _, _, h.alloc _⟩, fun _ hk => Or.inl hk⟩, Foot.alloc _ _ _⟩
  | true =>
    obtain ⟨k, rfl, hk⟩ := there_of hb
    rw [if_pos rfl, Int.toNat_natCast]
    refine (fail_yes h ok.n1 hk t).mono ?_
    rintro e w' ⟨rfl, rfl⟩
    obtain ⟨cs', fl', h'⟩ := h.fail hk t
    exact ⟨rfl, ⟨_, ⟨_, _, _, _, h'⟩, fun i hi => hi.imp id fun e => by omega⟩, (Foot.alloc _ _ _).trans (Foot.setCell _ _ _ h.ob)⟩
theorem fuse_c (h : ChipAt own w c m) (n : Int) (hn : n ≤ 9223372036854775807) (t : ByteArray) : Calls Try.prog 16 #[.pointer (some ⟨c, 0, none⟩), .int .i64 n, .string t] w (Left own w c (setFuse m n t)) := by
  obtain ⟨bb, cs, fz, fl, h⟩ := h
  unfold setFuse
  by_cases h0 : 0 ≤ n
  · obtain ⟨k, rfl⟩ : ∃ k : Nat, n = (k : Int) := ⟨n.toNat, by omega⟩
    rw [if_pos h0]
    refine (fuse_on h k (by omega) t).mono ?_
    rintro e w' ⟨rfl, rfl⟩
    have e1 : (min (k : Int) 1073741824).toNat = min k 1073741824 := by omega
    rw [e1]
    exact ⟨rfl, ⟨_, ⟨_, _, _, _, fuse_own h _ t⟩, fun i hi => hi.imp id fun e => by omega⟩, ((Foot.setCell _ _ _ h.oc).trans (Foot.alloc _ _ _)).trans (Foot.setCell _ _ _ h.oc)⟩
  · rw [if_neg h0]
    refine (fuse_off h n (by omega) t).mono ?_
    rintro e w' ⟨rfl, rfl⟩
    exact ⟨rfl, ⟨own, ⟨_, _, _, _, h.unfuse⟩, fun _ hk => Or.inl hk⟩, Foot.setCell _ _ _ h.oc⟩
/-- A chip that is made: what it owns was not there. -/
structure Made (w : World) (n p d : Nat) (e : Ending) (w' : World) : Prop where
  e : e = .returned (.tuple #[.pointer (some ⟨w.heap.size + 1, 0, none⟩), .int .i64 0])
  h : ChipAt (fun k => k = w.heap.size ∨ k = w.heap.size + 1) w' (w.heap.size + 1) (new n p d)
  f : Below w.heap.size w w'
theorem new_c (n p d : Nat) (h : sizes n p d = true) (w : World) : Calls Try.prog 10 #[.int .i64 (n : Int), .int .i64 (p : Int), .int .i64 (d : Int)] w (Made w n p d) := by
  have hn : n ≤ 64 := by
    unfold sizes within at h
    simp at h
    omega
  refine (new_yes n p d hn h w).mono ?_
  rintro e w' ⟨rfl, rfl⟩
  exact ⟨rfl, ⟨_, _, _, _, newW_own w n p d⟩, newW_below w n p d⟩
theorem ok_new {n p d : Nat} (h : sizes n p d = true) : Ok (new n p d) 0 := by
  unfold sizes within at h
  simp at h
  exact Ok.new (by omega) (by omega) (by omega)
end
end Go.Proofs.Ytfjnjhlmmdeilaa.ChipC
