/- A chip's Program: what it comes to. -/
import Derived.Test.YtfjnjhlmmdeilaaChipP
import Derived.Laws.EntriesVeiled
set_option linter.unusedVariables false
namespace Go.Proofs.Ytfjnjhlmmdeilaa.ChipA
open Go.RowKit Go.Proofs.Ytfjnjhlmmdeilaa.ChipM

section
variable {own : Nat → Prop} {w w' : World} {m : Chp} {c bb : Nat} {cs : Array Value} {fz : Option Nat} {fl : Nat → Option Nat}
theorem Foot.cell {own : Nat → Prop} {w w1 : World} (h : Foot own w w1) {k o : Nat} {v : Value} (hk : k < w.heap.size) (ho : ¬ own k) (hc : w.cell? ⟨k, o, none⟩ = some v) : w1.cell? ⟨k, o, none⟩ = some v := by
  rw [← hc]
  exact World.cell?_of_block (w := w) (h.block k hk ho)
/-- The world behind all of Program's boxes. -/
def allW (w : World) (c : Nat) (p : Int) (s : ByteArray) (x : Value) (n : Nat) (f : Value) : World := (((boxW w c p s).alloc (.cells #[x] 57)).drewN n).alloc (.cells #[f] 64)
theorem allW_size (w : World) (c : Nat) (p : Int) (s : ByteArray) (x : Value) (n : Nat) (f : Value) : (allW w c p s x n f).heap.size = w.heap.size + 5 := by simp [allW, boxW]
theorem allW_cell (w : World) (c : Nat) (p : Int) (s : ByteArray) (x : Value) (n : Nat) (f : Value) :
    (allW w c p s x n f).cell? ⟨w.heap.size, 0, none⟩ = some (.pointer (some ⟨c, 0, none⟩)) ∧ (allW w c p s x n f).cell? ⟨w.heap.size + 1, 0, none⟩ = some (.int .i64 p) ∧ (allW w c p s x n f).cell? ⟨w.heap.size + 1 + 1, 0, none⟩ = some (.string s)
    ∧ (allW w c p s x n f).cell? ⟨w.heap.size + 1 + 1 + 1, 0, none⟩ = some x ∧ (allW w c p s x n f).cell? ⟨w.heap.size + 1 + 1 + 1 + 1, 0, none⟩ = some f := by
  have e : (allW w c p s x n f).heap = ((((w.heap.push (.cells #[.pointer (some ⟨c, 0, none⟩)] 24)).push (.cells #[.int .i64 p] 3)).push (.cells #[.string s] 9)).push (.cells #[x] 57)).push (.cells #[f] 64) := rfl
  have g0 : (allW w c p s x n f).heap[w.heap.size]? = some (.cells #[.pointer (some ⟨c, 0, none⟩)] 24) := by
    simp only [e, Array.getElem?_push, Array.size_push]
    rw [if_neg (by omega), if_neg (by omega), if_neg (by omega), if_neg (by omega), if_pos trivial]
  have g1 : (allW w c p s x n f).heap[w.heap.size + 1]? = some (.cells #[.int .i64 p] 3) := by
    simp only [e, Array.getElem?_push, Array.size_push]
    rw [if_neg (by omega), if_neg (by omega), if_neg (by omega), if_pos trivial]
  have g2 : (allW w c p s x n f).heap[w.heap.size + 1 + 1]? = some (.cells #[.string s] 9) := by
    simp only [e, Array.getElem?_push, Array.size_push]
    rw [if_neg (by omega), if_neg (by omega), if_pos trivial]
  have g3 : (allW w c p s x n f).heap[w.heap.size + 1 + 1 + 1]? = some (.cells #[x] 57) := by
    simp only [e, Array.getElem?_push, Array.size_push]
    rw [if_neg (by omega), if_pos trivial]
  have g4 : (allW w c p s x n f).heap[w.heap.size + 1 + 1 + 1 + 1]? = some (.cells #[f] 64) := by
    simp only [e, Array.getElem?_push, Array.size_push]
    rw [if_pos trivial]
  exact ⟨by rw [cell_of_row _ _ _ _ _ _ g0]; rfl, by rw [cell_of_row _ _ _ _ _ _ g1]; rfl, by rw [cell_of_row _ _ _ _ _ _ g2]; rfl, by rw [cell_of_row _ _ _ _ _ _ g3]; rfl, by rw [cell_of_row _ _ _ _ _ _ g4]; rfl⟩
theorem put_goes (h : Own own w m c bb cs fz fl) (hd : m.data ≤ 256) {k : Nat} (hk : k < m.n) (hp : (m.blk k).text.length < 32) (s : ByteArray) : Goes own w (putW w.drew bb k (m.blk k).text.length (cut m s)) c bb (put m k s) := by
  obtain ⟨cs', h'⟩ := h.drew.put hk hp (cut m s)
  exact ⟨⟨_, _, _, h'⟩, (Foot.drew own w).trans (Foot.putW h.ob)⟩
theorem program_goes (h : Own own w m c bb cs fz fl) (hn : m.n ≤ 64) (hp : m.pages ≤ 32) (hdt : m.data ≤ 256) (hfu : ∀ n t, m.fuse = some (n, t) → n ≤ 1073741824) (hd : m.dead = false) {k : Nat} (hk : k < m.n) (hl : (m.blk k).text.length < m.pages) (s : ByteArray) (hs : s.size ≤ m.data) :
    Calls Try.prog 14 #[.pointer (some ⟨c, 0, none⟩), .int .i64 (k : Int), .int .i64 ((m.blk k).text.length : Int), .string s] w (DeedPost own w c bb (deed m k (fun m => put m k s) (fun m t => put m k t) (fun m t => put m k t))) := by
  have hb3 : Own own (boxW w c ((m.blk k).text.length : Int) s) m c bb cs fz fl := ((h.alloc _).alloc _).alloc _
  have ca := at_yes hb3 hn hk
  have hb4 := hb3.alloc (.cells #[.pointer (some ⟨bb, k * 36, none⟩)] 57)
  have c3 := hb4.c3
  have c1 := hb4.c1
  have c2 := hb4.c2
  have c32 := hb4.b32 hk
  rw [hd] at c3
  have hw := within_any ((m.blk k).text.length : Int) 0 ((m.pages : Int) - 1)
  have hb : within ((m.blk k).text.length : Int) 0 ((m.pages : Int) - 1) = true := by unfold within; simp; omega
  rw [hb] at hw
  have q1 : decide ((m.data : Int) < (s.size : Int)) = false := decide_eq_false (by omega)
  have q2 : decide (m.data < s.size) = false := decide_eq_false (by omega)
  have hlt := h.lt
  have hdeed : ∀ n, Calls Try.prog 27 #[.pointer (some ⟨c, 0, none⟩), .pointer (some ⟨bb, k * 36, none⟩),
      .func (.func 32) #[] #[.pointer (some ⟨w.heap.size + 1 + 1 + 1 + 1, 0, none⟩), .pointer (some ⟨w.heap.size + 1 + 1, 0, none⟩)],
      .func (.func 30) #[] #[.pointer (some ⟨w.heap.size, 0, none⟩), .pointer (some ⟨w.heap.size + 1 + 1 + 1, 0, none⟩), .pointer (some ⟨w.heap.size + 1, 0, none⟩)],
      .func (.func 30) #[] #[.pointer (some ⟨w.heap.size, 0, none⟩), .pointer (some ⟨w.heap.size + 1 + 1 + 1, 0, none⟩), .pointer (some ⟨w.heap.size + 1, 0, none⟩)]]
      (allW w c ((m.blk k).text.length : Int) s (.pointer (some ⟨bb, k * 36, none⟩)) n (.func (.func 30) #[] #[.pointer (some ⟨w.heap.size, 0, none⟩), .pointer (some ⟨w.heap.size + 1 + 1 + 1, 0, none⟩), .pointer (some ⟨w.heap.size + 1, 0, none⟩)]))
      (DeedPost own w c bb (deed m k (fun m => put m k s) (fun m t => put m k t) (fun m t => put m k t))) := fun n => by
    have hsz := allW_size w c ((m.blk k).text.length : Int) s (.pointer (some ⟨bb, k * 36, none⟩)) n (.func (.func 30) #[] #[.pointer (some ⟨w.heap.size, 0, none⟩), .pointer (some ⟨w.heap.size + 1 + 1 + 1, 0, none⟩), .pointer (some ⟨w.heap.size + 1, 0, none⟩)])
    obtain ⟨x0, x1, x2, x3, x4⟩ := allW_cell w c ((m.blk k).text.length : Int) s (.pointer (some ⟨bb, k * 36, none⟩)) n (.func (.func 30) #[] #[.pointer (some ⟨w.heap.size, 0, none⟩), .pointer (some ⟨w.heap.size + 1 + 1 + 1, 0, none⟩), .pointer (some ⟨w.heap.size + 1, 0, none⟩)])
    have hbA : Own own (allW w c ((m.blk k).text.length : Int) s (.pointer (some ⟨bb, k * 36, none⟩)) n (.func (.func 30) #[] #[.pointer (some ⟨w.heap.size, 0, none⟩), .pointer (some ⟨w.heap.size + 1 + 1 + 1, 0, none⟩), .pointer (some ⟨w.heap.size + 1, 0, none⟩)])) m c bb cs fz fl := (hb4.drewN n).alloc _
    have hfA : Foot own w (allW w c ((m.blk k).text.length : Int) s (.pointer (some ⟨bb, k * 36, none⟩)) n (.func (.func 30) #[] #[.pointer (some ⟨w.heap.size, 0, none⟩), .pointer (some ⟨w.heap.size + 1 + 1 + 1, 0, none⟩), .pointer (some ⟨w.heap.size + 1, 0, none⟩)])) := (((((Foot.alloc own w _).trans (Foot.alloc own _ _)).trans (Foot.alloc own _ _)).trans (Foot.alloc own _ _)).trans (Foot.drewN own _ n)).trans (Foot.alloc own _ _)
    generalize allW w c ((m.blk k).text.length : Int) s (.pointer (some ⟨bb, k * 36, none⟩)) n (.func (.func 30) #[] #[.pointer (some ⟨w.heap.size, 0, none⟩), .pointer (some ⟨w.heap.size + 1 + 1 + 1, 0, none⟩), .pointer (some ⟨w.heap.size + 1, 0, none⟩)]) = WA at hsz x0 x1 x2 x3 x4 hbA hfA
    have no : ∀ i, w.heap.size ≤ i → ¬ own i := fun i hi ho => by have := hlt i ho; omega
    have hbx : ∀ i, w.heap.size ≤ i → bb ≠ i := fun i hi e => no i hi (e ▸ h.ob)
    have hput : ∀ (m1 : Chp) (t : ByteArray) (w1 : World) cs1 fz1 fl1, m1.n = m.n → m1.data = m.data → m1.blk = m.blk → Own own w1 m1 c bb cs1 fz1 fl1 → Foot own WA w1 →
        Calls Try.prog 30 (#[.string t] ++ #[.pointer (some ⟨w.heap.size, 0, none⟩), .pointer (some ⟨w.heap.size + 1 + 1 + 1, 0, none⟩), .pointer (some ⟨w.heap.size + 1, 0, none⟩)]) w1 fun e w2 => e = .returned (.tuple #[]) ∧ Goes own w1 w2 c bb (put m1 k t) := by
      intro m1 t w1 cs1 fz1 fl1 en ed eb h1 f1
      have hk1 : k < m1.n := by rw [en]; exact hk
      have hl1 : (m1.blk k).text.length < 32 := by rw [eb]; omega
      have hd1 : m1.data ≤ 256 := by rw [ed]; exact hdt
      refine (put_any h1 hd1 hk1 hl1 t _ _ _ (f1.cell (by omega) (no _ (by omega)) x0) (f1.cell (by omega) (no _ (by omega)) x3) (by rw [eb]; exact f1.cell (by omega) (no _ (by omega)) x1) (hbx _ (by omega))).mono ?_
      rintro e w2 ⟨rfl, rfl⟩
      exact ⟨rfl, put_goes h1 hd1 hk1 hl1 t⟩
    refine (deed_any hbA hk hfu (fun m => put m k s) (fun m t => put m k t) (fun m t => put m k t) (fun _ _ => rfl) _ _ _ _ _ _ enters32 enters30 enters30 ?_ ?_ ?_).mono ?_
    · intro w1 cs1 fz1 fl1 h1 f1
      refine (do_any h1 hdt hk (by show (m.blk k).text.length < 32; omega) s _ _ _ _ _ (f1.cell (by omega) (no _ (by omega)) x0) (f1.cell (by omega) (no _ (by omega)) x3) (f1.cell (by omega) (no _ (by omega)) x1) (f1.cell (by omega) (no _ (by omega)) x4) (f1.cell (by omega) (no _ (by omega)) x2) (hbx _ (by omega))).mono ?_
      rintro e w2 ⟨rfl, rfl⟩
      exact ⟨rfl, put_goes h1 hdt hk (by show (m.blk k).text.length < 32; omega) s⟩
    · intro t w1 cs1 fz1 fl1 h1 f1
      exact hput (dieM m) t w1 cs1 fz1 fl1 rfl rfl rfl h1 f1
    · intro t w1 cs1 fz1 fl1 h1 f1
      exact hput (burn m) t w1 cs1 fz1 fl1 rfl rfl rfl h1 f1
    · rintro e w2 ⟨he, hg⟩
      exact ⟨he, hg.1, hfA.trans hg.2⟩
  unfold allW boxW at hdeed
  unfold boxW at ca c3 c1 c2 c32
  generalize deed m k (fun m => put m k s) (fun m t => put m k t) (fun m t => put m k t) = r at hdeed
  generalize k * 36 = o at ca c3 c1 c2 c32 hdeed
  generalize m.pages = pg at hp c1 hw hl
  generalize m.data = dt at c2 q1 q2 hs hdt
  generalize (m.blk k).text.length = q at ca c3 c1 c2 c32 hw hdeed hl
  clear h hb3 hd hb hb4 hfu hlt
  go_enter Try.func14, Try.ntmps14
  go_wp2_with fail
  refine ca.mono ?_
  rintro e w' ⟨rfl, rfl⟩
  go_wp2_with fail
  go_quiet ((go_at_call 24; exact Calls.quiet_of_same (hw _)))
  go_wp2_with fail
  refine (hdeed _).mono ?_
  rintro e w' ⟨rfl, hg⟩
  go_wp2_with fail
  go_ret
  exact ⟨rfl, hg⟩
theorem mayPut_nat (m : Chp) (k : Nat) (hk : k < m.n) (p : Int) (s : ByteArray) : mayPut m (k : Int) p s = (within p 0 ((m.pages : Int) - 1) && decide (s.size ≤ m.data) && decide (p = ((m.blk k).text.length : Int))) := by
  unfold mayPut next at_
  rw [there_nat]
  simp [hk]
theorem ChipAt.below {own : Nat → Prop} {w w' : World} {c : Nat} {m : Chp} (h : ChipAt own w c m) (hb : Below w.heap.size w w') : ChipAt own w' c m := by
  obtain ⟨bb, cs, fz, fl, h⟩ := h
  exact ⟨bb, cs, fz, fl, h.same hb.size fun k ho => hb.block k (h.lt k ho)⟩
theorem program_any (h : ChipAt own w c m) {K : Nat} (ok : Ok m K) (b p : Int) (s : ByteArray) :
    Calls Try.prog 14 #[.pointer (some ⟨c, 0, none⟩), .int .i64 b, .int .i64 p, .string s] w fun e w' => e = .returned (.int .i64 (doProgram m b p s).1) ∧ ChipAt own w' c (doProgram m b p s).2 ∧ Foot own w w' := by
  have hC := h
  obtain ⟨bb, cs, fz, fl, h⟩ := h
  have hkeep : ∀ {e : Ending} {w' : World} {r : Int}, e = .returned (.int .i64 r) ∧ Below w.heap.size w w' → e = .returned (.int .i64 r) ∧ ChipAt own w' c m ∧ Foot own w w' := fun hh => ⟨hh.1, hC.below hh.2, Foot.of_below hh.2⟩
  have hdl := ok.d1
  unfold doProgram
  cases hd : m.dead with
  | true =>
    rw [if_pos rfl]
    exact (program_dead h ok.n1 hd b p s).mono fun e w' hh => hkeep hh
  | false =>
    rw [if_neg (by simp)]
    cases ht : there m b with
    | false =>
      have : mayPut m b p s = false := by unfold mayPut; rw [ht]; rfl
      rw [this, if_neg (by simp)]
      exact (program_none h ok.n1 hd b p ht s).mono fun e w' hh => hkeep hh
    | true =>
      obtain ⟨k, rfl, hk⟩ := there_of ht
      rw [mayPut_nat m k hk, Int.toNat_natCast]
      cases hw : within p 0 ((m.pages : Int) - 1) with
      | false =>
        rw [if_neg (by simp)]
        exact (program_off h ok.n1 ok.p1 hd hk p hw s).mono fun e w' hh => hkeep hh
      | true =>
        by_cases hs : s.size ≤ m.data
        · by_cases hp : p = ((m.blk k).text.length : Int)
          · subst hp
            have hl : (m.blk k).text.length < m.pages := by
              unfold within at hw
              simp at hw
              omega
            rw [if_pos (by simp [hs])]
            refine (program_goes h ok.n1 ok.p1 hdl ok.f hd hk hl s hs).mono ?_
            rintro e w' ⟨he, ⟨cs', fz', fl', h'⟩, hf⟩
            exact ⟨he, ⟨_, _, _, _, h'⟩, hf⟩
          · rw [if_neg (by simp [hp])]
            exact (program_other h ok.n1 ok.p1 hd hk p hw s hs hp).mono fun e w' hh => hkeep hh
        · rw [if_neg (by simp [hs])]
          exact (program_long h ok.n1 ok.p1 hd hk p hw s hs).mono fun e w' hh => hkeep hh
end
end Go.Proofs.Ytfjnjhlmmdeilaa.ChipA
