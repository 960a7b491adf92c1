/- cenotaphlaw04.WireOnly: it returns true, whatever it is given. -/
import Derived.Test.YtgdhbmdhgejnkaaWireO
import Derived.Test.YtgdhbmdhgejnkaaCalmF
namespace Go.Proofs.Ytgdhbmdhgejnkaa.WireO
open Go.RowKit Go.Proofs.Ytgdhbmdhgejnkaa.Fn Go.Proofs.YtgdhbmdhgejnkaaW.PrintWords Go.Proofs.YtgdhbmdhgejnkaaW.PrintLast Go.Proofs.Ytgdhbmdhgejnkaa.WireD Go.Proofs.Ytgdhbmdhgejnkaa.WireM Go.Proofs.Ytgdhbmdhgejnkaa.WireP Go.Proofs.Ytgdhbmdhgejnkaa.WireC

/-- What the last statement's operations leave. -/
def OC (p q r u : Bool) (s a t b d c f g bn bt bf : ByteArray) (n most : Int) : Nat → Value
  | 2 => .bool p
  | 3 => .bool (!p)
  | 4 => .bool (!p)
  | 5 => cond p (.int .i64 n) undef
  | 6 => cond p (.string bn) undef
  | 7 => cond p (.string a) undef
  | 8 => cond p (.string s) undef
  | 9 => cond p (.string s) undef
  | 10 => cond p (.bool true) undef
  | 14 => .bool q
  | 15 => .bool (!q)
  | 16 => .bool (!q)
  | 17 => cond q (.string t) undef
  | 18 => cond q (.string bt) undef
  | 19 => cond q (.string b) undef
  | 20 => cond q (.string s) undef
  | 21 => cond q (.string s) undef
  | 22 => cond q (.bool true) undef
  | 23 => cond q (.bool true) undef
  | 24 => cond q (.string t) undef
  | 25 => cond q (.int .i64 (t.size : Int)) undef
  | 26 => cond q (.int .i64 most) undef
  | 27 => cond q (.bool true) undef
  | 28 => cond q (.bool true) undef
  | 32 => .bool r
  | 33 => .bool (!r)
  | 34 => .bool (!r)
  | 35 => cond r (.agg (dcells d)) undef
  | 36 => cond r (.string d) undef
  | 37 => cond r (.string c) undef
  | 38 => cond r (.string s) undef
  | 39 => cond r (.string s) undef
  | 40 => cond r (.bool true) undef
  | 44 => .bool u
  | 45 => .bool (!u)
  | 46 => .bool (!u)
  | 47 => cond u (.string f) undef
  | 48 => cond u (.string bf) undef
  | 49 => cond u (.string g) undef
  | 50 => cond u (.string s) undef
  | 51 => cond u (.string s) undef
  | 52 => cond u (.bool true) undef
  | 56 => .bool p
  | 57 => .bool p
  | 58 => cond p undef (.string ⟨#[]⟩)
  | 59 => cond p undef (.bool true)
  | 60 => cond p undef (.bool true)
  | 61 => cond p undef (.int .i64 0)
  | 62 => cond p undef (.bool true)
  | 63 => cond p undef (.bool true)
  | _ => .bool true
def OV (p q r u : Bool) (s a t b d c f g bn bt bf : ByteArray) (n most : Int) (i : Nat) (v : Value) (_ : World) : Prop := v = OC p q r u s a t b d c f g bn bt bf n most i
structure OS (w w4 : World) (d : ByteArray) (W : World) : Prop where
  b : Below w.heap.size w W
  g : W.heap[w4.heap.size]? = some (.cells (dcells d) 28 (0, 0))
abbrev OE (W W' : World) : Prop := Below W.heap.size W W'
theorem OS.next {w w4 : World} {d : ByteArray} {W W' : World} (h : OS w w4 d W) (hb : Below W.heap.size W W') : OS w w4 d W' :=
  ⟨h.b.trans (hb.mono h.b.size), (hb.block _ (Array.getElem?_eq_some_iff.1 h.g).1).trans h.g⟩
set_option linter.unusedSimpArgs false in
set_option linter.unusedVariables false in
set_option maxHeartbeats 40000000 in
set_option maxRecDepth 100000 in
theorem only_main (s : ByteArray) (hz : s.size ≤ 9223372036854775807) (most : Int) (w : World) (hd : decide (300 < (s.size : Int)) = false) (hd2 : decide (300 < s.size) = false) (n : Int) (a : ByteArray) (p : Bool) (hN : numT (getNum (L s)) = (n, a, p)) (t b : ByteArray) (q : Bool) (hT : tr (getText (L s) most) = (t, b, q))
    (d c : ByteArray) (r : Bool) (hD : sumT s = (d, c, r)) (f g : ByteArray) (u : Bool) (hF : tr (getFrame (L s)) = (f, g, u)) (hds : d.size = 32) : Calls Try.prog 6 #[.string s, .int .i64 most] w fun e w' => e = .returned (.bool true) ∧ Below w.heap.size w w' := by
  have fN := num_back hN
  have fN0 := num_none hN
  have fT := text_back hT
  have fD := sum_back hD
  have fF := frame_back hF
  have cG1 := getnum_calls s hz _ _ _ hN
  have cG2 := gettext_calls s hz most _ _ _ hT
  have cG3 := getsum_calls s hz _ _ _ hD
  have cG4 := getframe_calls s hz _ _ _ hF
  have cN := num_calls n
  have cT : q = true → ∀ W, Calls Try.prog 22 #[.string t] W fun e w' => e = .returned (.string (B (text (L t)))) ∧ Below W.heap.size W w' := fun h => text_calls t (fT h).2.2
  have cF : u = true → ∀ W, Calls Try.prog 26 #[.string f] W fun e w' => e = .returned (.string (B (frame (L f)))) ∧ Below W.heap.size W w' := fun h => frame_calls f (Nat.le_trans (fF h).2 (by unfold maxN; omega))
  have eT := fun h => (fT h).1
  have lT := fun h => (fT h).2.1
  have eF := fun h => (fF h).1
  clear hN hT hD hF fT fF
  generalize B (numB (clampN n)) = bn at fN cN
  generalize B (text (L t)) = bt at eT cT
  generalize B (frame (L f)) = bf at eF cF
  have zN : p = true → bn.size + a.size ≤ 9223372036854775807 := fun h => by rw [← ByteArray.size_append, fN h]; exact hz
  have zT : q = true → bt.size + b.size ≤ 9223372036854775807 := fun h => by rw [← ByteArray.size_append, eT h]; exact hz
  have zD : r = true → d.size + c.size ≤ 9223372036854775807 := fun h => by rw [← ByteArray.size_append, fD h]; exact hz
  have zF : u = true → bf.size + g.size ≤ 9223372036854775807 := fun h => by rw [← ByteArray.size_append, eF h]; exact hz
  replace fN := Aside0.mk fN
  replace fN0 := Aside0.mk fN0
  replace eT := Aside0.mk eT
  replace lT := Aside0.mk lT
  replace eF := Aside0.mk eF
  replace fD := Aside0.mk fD
  replace zN := Aside0.mk zN
  replace zT := Aside0.mk zT
  replace zD := Aside0.mk zD
  replace zF := Aside0.mk zF
  replace cT := Aside0.mk cT
  replace cF := Aside0.mk cF
  clear hz
  have hz0 := zeroD
  go_enter Try.func6, Try.ntmps6
  go_wp2_with fail
  refine (WireW.works_any _).mono ?_
  rintro e w1 ⟨rfl, hb1⟩
  go_wp2_with fail
  refine (cG1 _).mono ?_
  rintro e w2 ⟨rfl, hb2⟩
  go_wp2_with fail
  refine (cG2 _).mono ?_
  rintro e w3 ⟨rfl, hb3⟩
  go_wp2_with fail
  refine (cG3 _).mono ?_
  rintro e w4 ⟨rfl, hb4⟩
  go_wp2_with (refine wpList_store_row rfl 28 (.tmp 12) (.tmp 41) rfl w4.heap.size (dcells d) rfl rfl 28 zcells (heap_alloc_new _ _) (by rw [sizeD, dcells_size, hds]) (by rw [zcells_size, dcells_size, hds]) (dcells_one _) ?_; rw [World.setRow_alloc_new])
  refine (cG4 _).mono ?_
  rintro e w5 ⟨rfl, hb5⟩
  have hg := (hb5.block w4.heap.size (by simp)).trans (heap_alloc_new w4 (.cells (dcells d) 28))
  have B5 : Below w.heap.size w w5 := by
    have b2 := hb1.trans (hb2.mono hb1.size)
    have b3 := b2.trans (hb3.mono b2.size)
    have b4 := b3.trans (hb4.mono b3.size)
    have b5 := b4.alloc b4.size (.cells (dcells d) 28)
    exact b5.trans (hb5.mono b5.size)
  clear hb1 hb2 hb3 hb4 hb5 hz0 hd hd2 cG1 cG2 cG3 cG4
  have hO : OS w w4 d w5 := ⟨B5, hg⟩
  clear hg B5
  replace hO := Aside0.mk hO
  dsimp only
  rename_i X hX
  refine hX _ _ ?_
  repeat first
    | (refine Calm.stop_plain ?_)
    | go_values
    | go_skip
    | go_guarded
    | go_step
    | go_upon
    | go_back
  refine ⟨?_⟩
  refine Calm.calm_plain (OS w w4 d) OE (OV p q r u s a t b d c f g bn bt bf n most) [0, 1, 5, 6, 7, 8, 9, 10, 11, 12, 13, 14, 15, 16, 17] (by kernel_rfl) (by kernel_rfl) (fun _ _ _ _ h _ => h) (fun _ => Below.refl _ _) hO.out ?_ ?_
  · simp only [Calm.Steps, Calm.Step]
    refine ⟨?_, ?_, ?_, ?_, ?_, ?_, ?_, ?_, ?_, ?_, ?_, ?_, ?_, ?_, ?_, ?_, ?_, ?_, ?_, ?_, ?_, ?_, ?_, ?_, ?_, ?_, ?_, ?_, ?_, ?_, ?_, ?_, ?_, ?_, ?_, ?_, ?_, ?_, ?_, ?_, ?_, ?_, ?_, ?_, ?_, ?_, ?_, ?_, ?_, ?_, ?_, ?_, ?_, ?_, ?_, ?_, ?_, ?_, ?_, ?_, ?_, ?_, ?_, ?_, ?_, ?_, ?_, trivial⟩ <;> intro a' W hS hN hF <;> simp [Calm.needs, Calm.same, Calm.Left, OV, OC, Region.binds] at hN hF
    · exact Calm.step_val (Calm.wanted_none rfl) (.bool true) (by simp [go_sem, Act.eval, hN, hF, OC]) hS (Below.refl _ _) (by simp [OV, OC])
    · exact Calm.step_val (Calm.wanted_none rfl) (.bool true) (by simp [go_sem, Act.eval, hN, hF, OC]) hS (Below.refl _ _) (by simp [OV, OC])
    · exact Calm.step_val (Calm.wanted_on rfl rfl rfl (by simp [hN])) (.bool p) (by simp [go_sem, Act.eval, hN, hF, OC]) hS (Below.refl _ _) (by simp [OV, OC])
    · exact Calm.step_val (Calm.wanted_on rfl rfl rfl (by simp [hN])) (.bool (!p)) (by simp [go_sem, Act.eval, hN, hF, OC]) hS (Below.refl _ _) (by simp [OV, OC])
    · exact Calm.step_val (Calm.wanted_on rfl rfl rfl (by simp [hN])) (.bool (!p)) (by simp [go_sem, Act.eval, hN, hF, OC]) hS (Below.refl _ _) (by simp [OV, OC])
    · cases p
      · exact Calm.step_off (Calm.wanted_off rfl rfl rfl rfl (by simp [hN] <;> simp [undef])) (by simp [OV, OC])
      · exact Calm.step_val (Calm.wanted_on rfl rfl rfl (by simp [hN])) (.int .i64 n) (by simp [go_sem, Act.eval, hN, hF, OC]) hS (Below.refl _ _) (by simp [OV, OC])
    · cases p
      · exact Calm.step_off (Calm.wanted_off rfl rfl rfl rfl (by simp [hN] <;> simp [undef])) (by simp [OV, OC])
      · refine Calm.step_call (Calm.wanted_on rfl rfl rfl (by simp [hN])) (f := 14) (args := #[.int .i64 n]) (w1 := W) (by simp [go_sem, Act.eval, hN]) ((cN W).mono ?_)
        rintro e w' ⟨rfl, hb⟩
        exact ⟨_, rfl, hS.next hb, hb, by simp [OV, OC]⟩
    · cases p
      · exact Calm.step_off (Calm.wanted_off rfl rfl rfl rfl (by simp [hN] <;> simp [undef])) (by simp [OV, OC])
      · exact Calm.step_val (Calm.wanted_on rfl rfl rfl (by simp [hN])) (.string a) (by simp [go_sem, Act.eval, hN, hF, OC]) hS (Below.refl _ _) (by simp [OV, OC])
    · cases p
      · exact Calm.step_off (Calm.wanted_off rfl rfl rfl rfl (by simp [hN] <;> simp [undef])) (by simp [OV, OC])
      · have e1 := fN.out rfl; have e2 := zN.out rfl
        exact Calm.step_val (Calm.wanted_on rfl rfl rfl (by simp [hN])) (.string s) (by simp [go_sem, Act.eval, hN, hF, OC, e1, e2]) hS (Below.refl _ _) (by simp [OV, OC])
    · cases p
      · exact Calm.step_off (Calm.wanted_off rfl rfl rfl rfl (by simp [hN] <;> simp [undef])) (by simp [OV, OC])
      · exact Calm.step_val (Calm.wanted_on rfl rfl rfl (by simp [hN])) (.string s) (by simp [go_sem, Act.eval, hN, hF, OC]) hS (Below.refl _ _) (by simp [OV, OC])
    · cases p
      · exact Calm.step_off (Calm.wanted_off rfl rfl rfl rfl (by simp [hN] <;> simp [undef])) (by simp [OV, OC])
      · have e1 := fN.out rfl; have e2 := zN.out rfl
        exact Calm.step_val (Calm.wanted_on rfl rfl rfl (by simp [hN])) (.bool true) (by simp [go_sem, Act.eval, hN, hF, OC, e1, e2]) hS (Below.refl _ _) (by simp [OV, OC])
    · cases p <;> exact Calm.step_val (Calm.wanted_on rfl rfl rfl (by simp [hN])) (.bool true) (by simp [go_sem, Act.eval, hN, hF, OC]) hS (Below.refl _ _) (by simp [OV, OC])
    · exact Calm.step_val (Calm.wanted_none rfl) (.bool true) (by simp [go_sem, Act.eval, hN, hF, OC]) hS (Below.refl _ _) (by simp [OV, OC])
    · exact Calm.step_val (Calm.wanted_none rfl) (.bool true) (by simp [go_sem, Act.eval, hN, hF, OC]) hS (Below.refl _ _) (by simp [OV, OC])
    · exact Calm.step_val (Calm.wanted_on rfl rfl rfl (by simp [hN])) (.bool q) (by simp [go_sem, Act.eval, hN, hF, OC]) hS (Below.refl _ _) (by simp [OV, OC])
    · exact Calm.step_val (Calm.wanted_on rfl rfl rfl (by simp [hN])) (.bool (!q)) (by simp [go_sem, Act.eval, hN, hF, OC]) hS (Below.refl _ _) (by simp [OV, OC])
    · exact Calm.step_val (Calm.wanted_on rfl rfl rfl (by simp [hN])) (.bool (!q)) (by simp [go_sem, Act.eval, hN, hF, OC]) hS (Below.refl _ _) (by simp [OV, OC])
    · cases q
      · exact Calm.step_off (Calm.wanted_off rfl rfl rfl rfl (by simp [hN] <;> simp [undef])) (by simp [OV, OC])
      · exact Calm.step_val (Calm.wanted_on rfl rfl rfl (by simp [hN])) (.string t) (by simp [go_sem, Act.eval, hN, hF, OC]) hS (Below.refl _ _) (by simp [OV, OC])
    · cases q
      · exact Calm.step_off (Calm.wanted_off rfl rfl rfl rfl (by simp [hN] <;> simp [undef])) (by simp [OV, OC])
      · refine Calm.step_call (Calm.wanted_on rfl rfl rfl (by simp [hN])) (f := 22) (args := #[.string t]) (w1 := W) (by simp [go_sem, Act.eval, hN]) ((cT.out rfl W).mono ?_)
        rintro e w' ⟨rfl, hb⟩
        exact ⟨_, rfl, hS.next hb, hb, by simp [OV, OC]⟩
    · cases q
      · exact Calm.step_off (Calm.wanted_off rfl rfl rfl rfl (by simp [hN] <;> simp [undef])) (by simp [OV, OC])
      · exact Calm.step_val (Calm.wanted_on rfl rfl rfl (by simp [hN])) (.string b) (by simp [go_sem, Act.eval, hN, hF, OC]) hS (Below.refl _ _) (by simp [OV, OC])
    · cases q
      · exact Calm.step_off (Calm.wanted_off rfl rfl rfl rfl (by simp [hN] <;> simp [undef])) (by simp [OV, OC])
      · have e1 := eT.out rfl; have e2 := zT.out rfl; have e3 := lT.out rfl
        exact Calm.step_val (Calm.wanted_on rfl rfl rfl (by simp [hN])) (.string s) (by simp [go_sem, Act.eval, hN, hF, OC, e1, e2]) hS (Below.refl _ _) (by simp [OV, OC])
    · cases q
      · exact Calm.step_off (Calm.wanted_off rfl rfl rfl rfl (by simp [hN] <;> simp [undef])) (by simp [OV, OC])
      · exact Calm.step_val (Calm.wanted_on rfl rfl rfl (by simp [hN])) (.string s) (by simp [go_sem, Act.eval, hN, hF, OC]) hS (Below.refl _ _) (by simp [OV, OC])
    · cases q
      · exact Calm.step_off (Calm.wanted_off rfl rfl rfl rfl (by simp [hN] <;> simp [undef])) (by simp [OV, OC])
      · have e1 := eT.out rfl; have e2 := zT.out rfl; have e3 := lT.out rfl
        exact Calm.step_val (Calm.wanted_on rfl rfl rfl (by simp [hN])) (.bool true) (by simp [go_sem, Act.eval, hN, hF, OC, e1, e2]) hS (Below.refl _ _) (by simp [OV, OC])
    · cases q
      · exact Calm.step_off (Calm.wanted_off rfl rfl rfl rfl (by simp [hN] <;> simp [undef])) (by simp [OV, OC])
      · exact Calm.step_val (Calm.wanted_on rfl rfl rfl (by simp [hN])) (.bool true) (by simp [go_sem, Act.eval, hN, hF, OC]) hS (Below.refl _ _) (by simp [OV, OC])
    · cases q
      · exact Calm.step_off (Calm.wanted_off rfl rfl rfl rfl (by simp [hN] <;> simp [undef])) (by simp [OV, OC])
      · exact Calm.step_val (Calm.wanted_on rfl rfl rfl (by simp [hN])) (.string t) (by simp [go_sem, Act.eval, hN, hF, OC]) hS (Below.refl _ _) (by simp [OV, OC])
    · cases q
      · exact Calm.step_off (Calm.wanted_off rfl rfl rfl rfl (by simp [hN] <;> simp [undef])) (by simp [OV, OC])
      · exact Calm.step_val (Calm.wanted_on rfl rfl rfl (by simp [hN])) (.int .i64 (t.size : Int)) (by simp [go_sem, Act.eval, hN, hF, OC]) hS (Below.refl _ _) (by simp [OV, OC])
    · cases q
      · exact Calm.step_off (Calm.wanted_off rfl rfl rfl rfl (by simp [hN] <;> simp [undef])) (by simp [OV, OC])
      · exact Calm.step_val (Calm.wanted_on rfl rfl rfl (by simp [hN])) (.int .i64 most) (by simp [go_sem, Act.eval, hN, hF, OC]) hS (Below.refl _ _) (by simp [OV, OC])
    · cases q
      · exact Calm.step_off (Calm.wanted_off rfl rfl rfl rfl (by simp [hN] <;> simp [undef])) (by simp [OV, OC])
      · have e1 := eT.out rfl; have e2 := zT.out rfl; have e3 := lT.out rfl
        exact Calm.step_val (Calm.wanted_on rfl rfl rfl (by simp [hN])) (.bool true) (by simp [go_sem, Act.eval, hN, hF, OC, e1, e2, e3]) hS (Below.refl _ _) (by simp [OV, OC])
    · cases q
      · exact Calm.step_off (Calm.wanted_off rfl rfl rfl rfl (by simp [hN] <;> simp [undef])) (by simp [OV, OC])
      · exact Calm.step_val (Calm.wanted_on rfl rfl rfl (by simp [hN])) (.bool true) (by simp [go_sem, Act.eval, hN, hF, OC]) hS (Below.refl _ _) (by simp [OV, OC])
    · cases q <;> exact Calm.step_val (Calm.wanted_on rfl rfl rfl (by simp [hN])) (.bool true) (by simp [go_sem, Act.eval, hN, hF, OC]) hS (Below.refl _ _) (by simp [OV, OC])
    · exact Calm.step_val (Calm.wanted_none rfl) (.bool true) (by simp [go_sem, Act.eval, hN, hF, OC]) hS (Below.refl _ _) (by simp [OV, OC])
    · exact Calm.step_val (Calm.wanted_none rfl) (.bool true) (by simp [go_sem, Act.eval, hN, hF, OC]) hS (Below.refl _ _) (by simp [OV, OC])
    · exact Calm.step_val (Calm.wanted_on rfl rfl rfl (by simp [hN])) (.bool r) (by simp [go_sem, Act.eval, hN, hF, OC]) hS (Below.refl _ _) (by simp [OV, OC])
    · exact Calm.step_val (Calm.wanted_on rfl rfl rfl (by simp [hN])) (.bool (!r)) (by simp [go_sem, Act.eval, hN, hF, OC]) hS (Below.refl _ _) (by simp [OV, OC])
    · exact Calm.step_val (Calm.wanted_on rfl rfl rfl (by simp [hN])) (.bool (!r)) (by simp [go_sem, Act.eval, hN, hF, OC]) hS (Below.refl _ _) (by simp [OV, OC])
    · cases r
      · exact Calm.step_off (Calm.wanted_off rfl rfl rfl rfl (by simp [hN] <;> simp [undef])) (by simp [OV, OC])
      · have hl := run_loadVar_row (P := Try.prog) W w4.heap.size 28 28 (dcells d) (0, 0) _ hS.g Try.underlying28 rfl (by rw [sizeD, dcells_size, hds])
        exact Calm.step_val (Calm.wanted_on rfl rfl rfl (by simp [hN])) (.agg (dcells d)) (Calm.run_op_load (u := .pointer (some ⟨w4.heap.size, 0, none⟩)) rfl (Calm.eval_tmp (by simp [hF])) (by simp only [Instr.loadAt, Instr.sureAddr, Sem.run_bind, Sem.run_pure, Result.andThen_ok, hl])) hS (Below.refl _ _) (by simp [OV, OC])
    · cases r
      · exact Calm.step_off (Calm.wanted_off rfl rfl rfl rfl (by simp [hN] <;> simp [undef])) (by simp [OV, OC])
      · refine Calm.step_call (Calm.wanted_on rfl rfl rfl (by simp [hN])) (f := 24) (args := #[.agg (dcells d)]) (w1 := W) (by simp [go_sem, Act.eval, hN]) ((sum_any d hds W).mono ?_)
        rintro e w' ⟨rfl, hb⟩
        exact ⟨_, rfl, hS.next hb, hb, by simp [OV, OC]⟩
    · cases r
      · exact Calm.step_off (Calm.wanted_off rfl rfl rfl rfl (by simp [hN] <;> simp [undef])) (by simp [OV, OC])
      · exact Calm.step_val (Calm.wanted_on rfl rfl rfl (by simp [hN])) (.string c) (by simp [go_sem, Act.eval, hN, hF, OC]) hS (Below.refl _ _) (by simp [OV, OC])
    · cases r
      · exact Calm.step_off (Calm.wanted_off rfl rfl rfl rfl (by simp [hN] <;> simp [undef])) (by simp [OV, OC])
      · have e1 := fD.out rfl; have e2 := zD.out rfl
        exact Calm.step_val (Calm.wanted_on rfl rfl rfl (by simp [hN])) (.string s) (by simp [go_sem, Act.eval, hN, hF, OC, e1, e2]) hS (Below.refl _ _) (by simp [OV, OC])
    · cases r
      · exact Calm.step_off (Calm.wanted_off rfl rfl rfl rfl (by simp [hN] <;> simp [undef])) (by simp [OV, OC])
      · exact Calm.step_val (Calm.wanted_on rfl rfl rfl (by simp [hN])) (.string s) (by simp [go_sem, Act.eval, hN, hF, OC]) hS (Below.refl _ _) (by simp [OV, OC])
    · cases r
      · exact Calm.step_off (Calm.wanted_off rfl rfl rfl rfl (by simp [hN] <;> simp [undef])) (by simp [OV, OC])
      · have e1 := fD.out rfl; have e2 := zD.out rfl
        exact Calm.step_val (Calm.wanted_on rfl rfl rfl (by simp [hN])) (.bool true) (by simp [go_sem, Act.eval, hN, hF, OC, e1, e2]) hS (Below.refl _ _) (by simp [OV, OC])
    · cases r <;> exact Calm.step_val (Calm.wanted_on rfl rfl rfl (by simp [hN])) (.bool true) (by simp [go_sem, Act.eval, hN, hF, OC]) hS (Below.refl _ _) (by simp [OV, OC])
    · exact Calm.step_val (Calm.wanted_none rfl) (.bool true) (by simp [go_sem, Act.eval, hN, hF, OC]) hS (Below.refl _ _) (by simp [OV, OC])
    · exact Calm.step_val (Calm.wanted_none rfl) (.bool true) (by simp [go_sem, Act.eval, hN, hF, OC]) hS (Below.refl _ _) (by simp [OV, OC])
    · exact Calm.step_val (Calm.wanted_on rfl rfl rfl (by simp [hN])) (.bool u) (by simp [go_sem, Act.eval, hN, hF, OC]) hS (Below.refl _ _) (by simp [OV, OC])
    · exact Calm.step_val (Calm.wanted_on rfl rfl rfl (by simp [hN])) (.bool (!u)) (by simp [go_sem, Act.eval, hN, hF, OC]) hS (Below.refl _ _) (by simp [OV, OC])
    · exact Calm.step_val (Calm.wanted_on rfl rfl rfl (by simp [hN])) (.bool (!u)) (by simp [go_sem, Act.eval, hN, hF, OC]) hS (Below.refl _ _) (by simp [OV, OC])
    · cases u
      · exact Calm.step_off (Calm.wanted_off rfl rfl rfl rfl (by simp [hN] <;> simp [undef])) (by simp [OV, OC])
      · exact Calm.step_val (Calm.wanted_on rfl rfl rfl (by simp [hN])) (.string f) (by simp [go_sem, Act.eval, hN, hF, OC]) hS (Below.refl _ _) (by simp [OV, OC])
    · cases u
      · exact Calm.step_off (Calm.wanted_off rfl rfl rfl rfl (by simp [hN] <;> simp [undef])) (by simp [OV, OC])
      · refine Calm.step_call (Calm.wanted_on rfl rfl rfl (by simp [hN])) (f := 26) (args := #[.string f]) (w1 := W) (by simp [go_sem, Act.eval, hN]) ((cF.out rfl W).mono ?_)
        rintro e w' ⟨rfl, hb⟩
        exact ⟨_, rfl, hS.next hb, hb, by simp [OV, OC]⟩
    · cases u
      · exact Calm.step_off (Calm.wanted_off rfl rfl rfl rfl (by simp [hN] <;> simp [undef])) (by simp [OV, OC])
      · exact Calm.step_val (Calm.wanted_on rfl rfl rfl (by simp [hN])) (.string g) (by simp [go_sem, Act.eval, hN, hF, OC]) hS (Below.refl _ _) (by simp [OV, OC])
    · cases u
      · exact Calm.step_off (Calm.wanted_off rfl rfl rfl rfl (by simp [hN] <;> simp [undef])) (by simp [OV, OC])
      · have e1 := eF.out rfl; have e2 := zF.out rfl
        exact Calm.step_val (Calm.wanted_on rfl rfl rfl (by simp [hN])) (.string s) (by simp [go_sem, Act.eval, hN, hF, OC, e1, e2]) hS (Below.refl _ _) (by simp [OV, OC])
    · cases u
      · exact Calm.step_off (Calm.wanted_off rfl rfl rfl rfl (by simp [hN] <;> simp [undef])) (by simp [OV, OC])
      · exact Calm.step_val (Calm.wanted_on rfl rfl rfl (by simp [hN])) (.string s) (by simp [go_sem, Act.eval, hN, hF, OC]) hS (Below.refl _ _) (by simp [OV, OC])
    · cases u
      · exact Calm.step_off (Calm.wanted_off rfl rfl rfl rfl (by simp [hN] <;> simp [undef])) (by simp [OV, OC])
      · have e1 := eF.out rfl; have e2 := zF.out rfl
        exact Calm.step_val (Calm.wanted_on rfl rfl rfl (by simp [hN])) (.bool true) (by simp [go_sem, Act.eval, hN, hF, OC, e1, e2]) hS (Below.refl _ _) (by simp [OV, OC])
    · cases u <;> exact Calm.step_val (Calm.wanted_on rfl rfl rfl (by simp [hN])) (.bool true) (by simp [go_sem, Act.eval, hN, hF, OC]) hS (Below.refl _ _) (by simp [OV, OC])
    · exact Calm.step_val (Calm.wanted_none rfl) (.bool true) (by simp [go_sem, Act.eval, hN, hF, OC]) hS (Below.refl _ _) (by simp [OV, OC])
    · exact Calm.step_val (Calm.wanted_none rfl) (.bool true) (by simp [go_sem, Act.eval, hN, hF, OC]) hS (Below.refl _ _) (by simp [OV, OC])
    · exact Calm.step_val (Calm.wanted_on rfl rfl rfl (by simp [hN])) (.bool p) (by simp [go_sem, Act.eval, hN, hF, OC]) hS (Below.refl _ _) (by simp [OV, OC])
    · exact Calm.step_val (Calm.wanted_on rfl rfl rfl (by simp [hN])) (.bool p) (by simp [go_sem, Act.eval, hN, hF, OC]) hS (Below.refl _ _) (by simp [OV, OC])
    · cases p
      · obtain ⟨rfl, rfl⟩ := fN0.out rfl
        exact Calm.step_val (Calm.wanted_on rfl rfl rfl (by simp [hN])) (.string ⟨#[]⟩) (by simp [go_sem, Act.eval, hN, hF, OC]) hS (Below.refl _ _) (by simp [OV, OC])
      · exact Calm.step_off (Calm.wanted_off rfl rfl rfl rfl (by simp [hN] <;> simp [undef])) (by simp [OV, OC])
    · cases p
      · obtain ⟨rfl, rfl⟩ := fN0.out rfl
        exact Calm.step_val (Calm.wanted_on rfl rfl rfl (by simp [hN])) (.bool true) (by simp [go_sem, Act.eval, hN, hF, OC]) hS (Below.refl _ _) (by simp [OV, OC])
      · exact Calm.step_off (Calm.wanted_off rfl rfl rfl rfl (by simp [hN] <;> simp [undef])) (by simp [OV, OC])
    · cases p
      · obtain ⟨rfl, rfl⟩ := fN0.out rfl
        exact Calm.step_val (Calm.wanted_on rfl rfl rfl (by simp [hN])) (.bool true) (by simp [go_sem, Act.eval, hN, hF, OC]) hS (Below.refl _ _) (by simp [OV, OC])
      · exact Calm.step_off (Calm.wanted_off rfl rfl rfl rfl (by simp [hN] <;> simp [undef])) (by simp [OV, OC])
    · cases p
      · obtain ⟨rfl, rfl⟩ := fN0.out rfl
        exact Calm.step_val (Calm.wanted_on rfl rfl rfl (by simp [hN])) (.int .i64 0) (by simp [go_sem, Act.eval, hN, hF, OC]) hS (Below.refl _ _) (by simp [OV, OC])
      · exact Calm.step_off (Calm.wanted_off rfl rfl rfl rfl (by simp [hN] <;> simp [undef])) (by simp [OV, OC])
    · cases p
      · obtain ⟨rfl, rfl⟩ := fN0.out rfl
        exact Calm.step_val (Calm.wanted_on rfl rfl rfl (by simp [hN])) (.bool true) (by simp [go_sem, Act.eval, hN, hF, OC]) hS (Below.refl _ _) (by simp [OV, OC])
      · exact Calm.step_off (Calm.wanted_off rfl rfl rfl rfl (by simp [hN] <;> simp [undef])) (by simp [OV, OC])
    · cases p
      · obtain ⟨rfl, rfl⟩ := fN0.out rfl
        exact Calm.step_val (Calm.wanted_on rfl rfl rfl (by simp [hN])) (.bool true) (by simp [go_sem, Act.eval, hN, hF, OC]) hS (Below.refl _ _) (by simp [OV, OC])
      · exact Calm.step_off (Calm.wanted_off rfl rfl rfl rfl (by simp [hN] <;> simp [undef])) (by simp [OV, OC])
    · cases p <;> exact Calm.step_val (Calm.wanted_on rfl rfl rfl (by simp [hN])) (.bool true) (by simp [go_sem, Act.eval, hN, hF, OC]) hS (Below.refl _ _) (by simp [OV, OC])
    · exact Calm.step_val (Calm.wanted_none rfl) (.bool true) (by simp [go_sem, Act.eval, hN, hF, OC]) hS (Below.refl _ _) (by simp [OV, OC])
    · exact Calm.step_val (Calm.wanted_none rfl) (.bool true) (by simp [go_sem, Act.eval, hN, hF, OC]) hS (Below.refl _ _) (by simp [OV, OC])
  · intro a' W hI
    have h0 : a'.tmps.getD 4 undef = .bool true := hI.left 66 rfl
    have hdf := hI.d
    have hb := hI.s.b
    clear hI
    go_wp2_with fail
    exact bodyPost_ret (results_tmp rfl _ _ _) hdf ⟨by rw [h0], hb⟩
end Go.Proofs.Ytgdhbmdhgejnkaa.WireO
