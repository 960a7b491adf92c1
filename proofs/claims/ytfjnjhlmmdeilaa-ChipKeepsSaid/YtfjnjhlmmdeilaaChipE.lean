/- A chip's deed: what it comes to. -/
import Derived.Test.YtfjnjhlmmdeilaaChipD
set_option linter.unusedVariables false
namespace Go.Proofs.Ytfjnjhlmmdeilaa.ChipA
open Go.RowKit Go.Proofs.Ytfjnjhlmmdeilaa.ChipM

section
variable {own : Nat → Prop} {w w' : World} {m : Chp} {c bb : Nat} {cs : Array Value} {fz : Option Nat} {fl : Nat → Option Nat}
theorem burn_none {m : Chp} (h : m.fuse = none) : burn m = m := by
  cases m
  simp only at h
  subst h
  rfl
theorem Foot.putW {own : Nat → Prop} {w : World} {bb k p : Nat} {s : ByteArray} (h : own bb) : Foot own w (putW w bb k p s) := (Foot.setCell w _ _ h).trans (Foot.setCell _ _ _ h)
theorem Foot.fellW {own : Nat → Prop} {w : World} {bb k : Nat} (h : own bb) : Foot own w (fellW w bb k) := (Foot.setCell w _ _ h).trans (Foot.setCell _ _ _ h)
theorem deed_any (h : Own own w m c bb cs fz fl) {k : Nat} (hk : k < m.n) (hfu : ∀ n t, m.fuse = some (n, t) → n ≤ 1073741824) (do_ : Chp → Chp) (dies fails : Chp → ByteArray → Chp) (hfn : ∀ m t, (fails m t).n = m.n) (f1 f2 f3 : FuncId) (cap1 cap2 cap3 : Array Value)
    (e1 : ∀ (xs : Array Value) (W : World), (callFunc f1 xs).run Try.prog W = .ok (.enter f1 xs) W) (e2 : ∀ (xs : Array Value) (W : World), (callFunc f2 xs).run Try.prog W = .ok (.enter f2 xs) W) (e3 : ∀ (xs : Array Value) (W : World), (callFunc f3 xs).run Try.prog W = .ok (.enter f3 xs) W)
    (hdo : ∀ w1 cs1 fz1 fl1, Own own w1 (burn m) c bb cs1 fz1 fl1 → Foot own w w1 → Calls Try.prog f1 cap1 w1 fun e w2 => e = .returned (.tuple #[]) ∧ Goes own w1 w2 c bb (do_ (burn m)))
    (hdies : ∀ t w1 cs1 fz1 fl1, Own own w1 (dieM m) c bb cs1 fz1 fl1 → Foot own w w1 → Calls Try.prog f2 (#[.string t] ++ cap2) w1 fun e w2 => e = .returned (.tuple #[]) ∧ Goes own w1 w2 c bb (dies (dieM m) t))
    (hfails : ∀ t w1 cs1 fz1 fl1, Own own w1 (burn m) c bb cs1 fz1 fl1 → Foot own w w1 → Calls Try.prog f3 (#[.string t] ++ cap3) w1 fun e w2 => e = .returned (.tuple #[]) ∧ Goes own w1 w2 c bb (fails (burn m) t)) :
    Calls Try.prog 27 #[.pointer (some ⟨c, 0, none⟩), .pointer (some ⟨bb, k * 36, none⟩), .func (.func f1) #[] cap1, .func (.func f2) #[] cap2, .func (.func f3) #[] cap3] w (DeedPost own w c bb (deed m k do_ dies fails)) := by
  have hbn : (burn m).n = m.n := rfl
  have hfell : ∀ {W t}, Goes own w W c bb (fails (burn m) t) → Goes own w (fellW W bb k) c bb (fell (fails (burn m) t) k) := fun {W t} hg => by
    obtain ⟨⟨cs1, fz1, fl1, h1⟩, hf⟩ := hg
    obtain ⟨cs2, fl2, h2⟩ := h1.fell (k := k) (by rw [hfn, hbn]; exact hk)
    exact ⟨⟨_, _, _, h2⟩, hf.trans (Foot.fellW h.ob)⟩
  have hcell : ∀ {W t}, Goes own w W c bb (fails (burn m) t) → (∃ v, W.cell? ⟨bb, k * 36 + 34, none⟩ = some v) ∧ (∃ v, W.cell? ⟨bb, k * 36 + 35, none⟩ = some v) ∧ ∀ i, W.frozen? ⟨bb, i, none⟩ = false := fun {W t} hg => by
    obtain ⟨⟨cs1, fz1, fl1, h1⟩, hf⟩ := hg
    have hk' : k < (fails (burn m) t).n := by rw [hfn, hbn]; exact hk
    exact ⟨h1.bcell hk' (by omega), h1.bcell hk' (by omega), h1.bfroz⟩
  unfold deed
  cases hb : (m.blk k).bad with
  | true =>
    rw [if_pos rfl]
    refine (deed_bad h hk hb _ _ _).mono ?_
    rintro e w' ⟨rfl, rfl⟩
    exact ⟨rfl, ⟨_, _, _, h⟩, Foot.refl _ _⟩
  | false =>
    rw [if_neg (by simp)]
    cases hf : m.fuse with
    | none =>
      have hbm := burn_none hf
      cases hl : (m.blk k).fails with
      | none =>
        refine (deed_do0 h hk hb hf hl _ _ f1 e1 cap1 (fun w' => Goes own w w' c bb (do_ (burn m))) (hdo w cs fz fl (by rw [hbm]; exact h) (Foot.refl _ _))).mono ?_
        rintro e w' ⟨rfl, hg⟩
        exact ⟨rfl, hg⟩
      | some s =>
        refine (deed_fails0 h hk hb hf hl _ _ f3 e3 cap3 (fun w' => Goes own w w' c bb (fails (burn m) s)) (hfails s w cs fz fl (by rw [hbm]; exact h) (Foot.refl _ _)) (fun W hW => hcell hW)).mono ?_
        rintro e w' ⟨rfl, W, hg, rfl⟩
        exact ⟨rfl, hfell hg⟩
    | some nt =>
      obtain ⟨n, t⟩ := nt
      cases n with
      | zero =>
        have hdd : Own own (w.setCell ⟨c, 3, none⟩ (.bool true)) (dieM m) c bb cs fz fl := h.dead true
        have hdf : Foot own w (w.setCell ⟨c, 3, none⟩ (.bool true)) := Foot.setCell _ _ _ h.oc
        cases ht : t.toList.isEmpty with
        | true =>
          refine (deed_dead h hk hb hf ht _ _ _).mono ?_
          rintro e w' ⟨rfl, rfl⟩
          refine ⟨rfl, ?_⟩
          simp only [ht, if_true]
          exact ⟨⟨_, _, _, hdd⟩, hdf⟩
        | false =>
          refine (deed_dies h hk hb hf ht _ _ f2 e2 cap2 (fun w' => Goes own (w.setCell ⟨c, 3, none⟩ (.bool true)) w' c bb (dies (dieM m) t)) (hdies t _ cs fz fl hdd hdf)).mono ?_
          rintro e w' ⟨rfl, hg⟩
          refine ⟨rfl, ?_⟩
          simp only [ht, Bool.false_eq_true, if_false]
          exact ⟨hg.1, hdf.trans hg.2⟩
      | succ n =>
        have hn := hfu _ _ hf
        have hz : ∀ z, fz = some z → Own own (w.setCell ⟨z, 0, none⟩ (.int .i64 (n : Int))) (burn m) c bb cs fz fl ∧ Foot own w (w.setCell ⟨z, 0, none⟩ (.int .i64 (n : Int))) := fun z hz => ⟨h.burn hz hf, Foot.setCell _ _ _ (h.f1 z hz).1⟩
        cases hl : (m.blk k).fails with
        | none =>
          refine (deed_do1 h hk hb hf (by omega) hl _ _ f1 e1 cap1 (fun w' => Goes own w w' c bb (do_ (burn m))) (fun z e => (hdo _ cs fz fl (hz z e).1 (hz z e).2).mono fun e w' hh => ⟨hh.1, hh.2.1, ?_⟩)).mono ?_
          · exact (hz z ‹fz = some z›).2.trans hh.2.2
          · rintro e w' ⟨rfl, hg⟩
            exact ⟨rfl, hg⟩
        | some s =>
          refine (deed_fails1 h hk hb hf (by omega) hl _ _ f3 e3 cap3 (fun w' => Goes own w w' c bb (fails (burn m) s)) (fun z e => (hfails s _ cs fz fl (hz z e).1 (hz z e).2).mono fun e w' hh => ⟨hh.1, hh.2.1, ?_⟩) (fun W hW => hcell hW)).mono ?_
          · exact (hz z ‹fz = some z›).2.trans hh.2.2
          · rintro e w' ⟨rfl, W, hg, rfl⟩
            exact ⟨rfl, hfell hg⟩
end
end Go.Proofs.Ytfjnjhlmmdeilaa.ChipA
