/- PageAll: it returns true, whatever it is given. -/
import Derived.Test.YtobkeakbahkglaaPageX
import Derived.Test.YtobkeakbahkglaaEqA
import Derived.Test.YtobkeakbahkglaaOpenP
import Derived.Lib.Hide
set_option linter.unusedVariables false
namespace Go.Proofs.Ytobkeakbahkglaa.PageAll
open Go.RowKit Go.Shelf Go.Proofs.YtobkeakbahkglaaW.PrintWords Go.Proofs.Ytobkeakbahkglaa.Fn Go.Proofs.Ytobkeakbahkglaa.ChipM Go.Proofs.Ytobkeakbahkglaa.ChipA Go.Proofs.Ytobkeakbahkglaa.ChipC Go.Proofs.Ytobkeakbahkglaa.PageE Go.Proofs.Ytobkeakbahkglaa.PageM Go.Proofs.Ytobkeakbahkglaa.PageG Go.Proofs.Ytobkeakbahkglaa.PageL Go.Proofs.Ytobkeakbahkglaa.PageN Go.Proofs.Ytobkeakbahkglaa.PageP Go.Proofs.Ytobkeakbahkglaa.PageX

theorem eqA49 (d : Nat) (w : World) (x0 y0 x1 y1 x2 y2 x3 y3 x4 y4 x5 y5 : Int) (x6 y6 : ByteArray) :
    (Op.equalIn (d + 3) 49 (.agg #[.int .i64 x0, .int .i64 x1, .int .i64 x2, .int .i64 x3, .int .i64 x4, .int .i64 x5, .string x6]) (.agg #[.int .i64 y0, .int .i64 y1, .int .i64 y2, .int .i64 y3, .int .i64 y4, .int .i64 y5, .string y6])).run Try.prog w = .ok (x0 == y0 && (x1 == y1 && (x2 == y2 && (x3 == y3 && (x4 == y4 && (x5 == y5 && (x6.toList == y6.toList))))))) w := by
  refine eqA_of Try.underlying49 (by kernel_rfl) ?_
  refine eqf_cons (by rfl) (by go_simp; rfl) (by go_simp; rfl) (by go_simp) ?_
  refine eqf_cons (by rfl) (by go_simp; rfl) (by go_simp; rfl) (by go_simp) ?_
  exact eqf_last (by rfl) (by go_simp) (by go_simp) (eqA24 d w x2 y2 x3 y3 x4 y4 x5 y5 x6 y6)
attribute [local go_sem high] eqA49

/-! ### Plain -/
theorem spAll_ins {T : Nat → List ByteArray} {b : Nat} {s : ByteArray} (hb : b < 4) (hl : ∀ k, b < k → T k = []) : spAll (ins T b s) 4 = spAll T 4 ++ sp1 b (T b).length s := by
  have e : ∀ k, spRow k 0 (ins T b s k) = if k = b then spRow k 0 (T k) ++ sp1 b (T b).length s else spRow k 0 (T k) := by
    intro k
    unfold ins
    split
    · rename_i h
      subst h
      rw [spRow_snoc, Nat.zero_add]
    · rfl
  have z : ∀ k, b < k → spRow k 0 (T k) = [] := fun k hk => by rw [hl k hk]; rfl
  show ((([] ++ spRow 0 0 (ins T b s 0)) ++ spRow 1 0 (ins T b s 1)) ++ spRow 2 0 (ins T b s 2)) ++ spRow 3 0 (ins T b s 3) = ((([] ++ spRow 0 0 (T 0)) ++ spRow 1 0 (T 1)) ++ spRow 2 0 (T 2)) ++ spRow 3 0 (T 3) ++ sp1 b (T b).length s
  rw [e, e, e, e]
  have hb4 : b = 0 ∨ b = 1 ∨ b = 2 ∨ b = 3 := by omega
  rcases hb4 with rfl | rfl | rfl | rfl
  · rw [z 1 (by omega), z 2 (by omega), z 3 (by omega)]
    simp
  · rw [z 2 (by omega), z 3 (by omega)]
    simp
  · rw [z 3 (by omega)]
    simp
  · simp
theorem sp1_none {b q : Nat} {t : ByteArray} (h : got t = noPage) : sp1 b q t = [] := by
  unfold sp1
  rw [h]
  rfl
theorem sp1_put {b q : Nat} {k s o l : Int} {t : ByteArray} (h : valid k s o l t = true) : sp1 b q (PageM.put k s o l t) = [((b : Int), (q : Int), k, s, o, l, t)] := by
  unfold sp1
  rw [got_put h]
  rfl
theorem cells1_len (s : Sp) : (cells1 s).length = 7 := rfl
theorem cellsOf_get : ∀ (l : List Sp) (j : Nat) (s : Sp), l[j]? = some s → ∀ q, q < 7 → (cellsOf l)[j * 7 + q]? = (cells1 s)[q]?
  | [], j, s, h, q, hq => by simp at h
  | a :: l, 0, s, h, q, hq => by
    obtain rfl : a = s := by simpa using h
    show (cells1 a ++ cellsOf l)[0 * 7 + q]? = _
    rw [Nat.zero_mul, Nat.zero_add, List.getElem?_append_left (by rw [cells1_len]; exact hq)]
  | a :: l, j + 1, s, h, q, hq => by
    show (cells1 a ++ cellsOf l)[(j + 1) * 7 + q]? = _
    rw [List.getElem?_append_right (by rw [cells1_len]; omega), cells1_len, show (j + 1) * 7 + q - 7 = j * 7 + q by omega]
    exact cellsOf_get l j s (by simpa using h) q hq
theorem row_shape {W : World} {base n : Nat} {v : Value} {xs : List Value} (h : W.ownsRow base 49 7 v n xs) : ∃ o cap, v = .slice o n cap ∧ ∀ j, j < n → ∃ g, o = some ⟨g, 0, none⟩ ∧ g < W.heap.size ∧ ∀ q, q < 7 → W.cell? ⟨g, j * 7 + q, none⟩ = xs[j * 7 + q]? := by
  rcases h.2 with ⟨rfl, rfl⟩ | ⟨g, cap, cur, rfl, _, hh, hn, _, hs, ht⟩
  · exact ⟨none, 0, rfl, fun j hj => by omega⟩
  · refine ⟨some ⟨g, 0, none⟩, cap, rfl, fun j hj => ⟨g, rfl, (Array.getElem?_eq_some_iff.1 hh).1, fun q hq => ?_⟩⟩
    rw [cell_of_row _ _ _ _ _ _ hh, ← ht, List.getElem?_take, if_pos (by omega)]
    simp
/-! ### The first loop -/
structure PM (w W1 : World) (c : Nat) (own : Nat → Prop) (i : Nat) (T : Nat → List ByteArray) (W : World) : Prop where
  h : ChipAt own W c (tx 4 8 256 T)
  tl : ∀ k, (T k).length = min (i - 8 * k) 8
  ts : ∀ k, ∀ t ∈ T k, t.size ≤ 256
  b : Below w.heap.size w W
  s : W1.heap.size ≤ W.heap.size
section
variable {w W1 W W' : World} {c i : Nat} {own : Nat → Prop} {T : Nat → List ByteArray} {s : ByteArray} {v : Value} {n : Nat} {xs : List Value}
theorem PM.below (h : PM w W1 c own i T W) (hb : Below W.heap.size W W') : PM w W1 c own i T W' :=
  ⟨h.h.same hb.size fun k hk => hb.block k (h.h.lt k hk), h.tl, h.ts, h.b.trans (hb.mono h.b.size), Nat.le_trans h.s hb.size⟩
/-- A row is made longer. -/
theorem PM.grown (h : PM w W1 c own i T W) (ho : ∀ k, own k → k < W1.heap.size) (hw : w.heap.size ≤ W1.heap.size) {o : Obj} {v : Value} (hg : (W.alloc o).grownBy W' v.ownBlock) (hv : ∀ k, v.ownBlock = some k → W1.heap.size ≤ k) : PM w W1 c own i T W' := by
  have hz : (W.alloc o).heap.size = W.heap.size + 1 := by simp
  have hs := hg.size
  refine ⟨h.h.same (by omega) fun k hk => ?_, h.tl, h.ts, (h.b.alloc h.b.size o).grown hg (Nat.le_trans h.b.size (by omega)) fun k hk => Nat.le_trans hw (hv k hk), by have := h.s; omega⟩
  have hk2 := h.h.lt k hk
  refine (hg.block k (by omega) fun e => ?_).trans (Below.heap_alloc W _ k hk2)
  have := hv k e.symm
  have := ho k hk
  omega
theorem PM.next (h : PM w W1 c own i T W) (hi : i < 32) (hs : s.size ≤ 256) (hw : w.heap.size ≤ W1.heap.size) (hown : ∀ k, own k → w.heap.size ≤ k) (hc : ChipAt own W' c (tx 4 8 256 (ins T (i / 8) s))) (hf : Foot own W W') : PM w W1 c own (i + 1) (ins T (i / 8) s) W' := by
  refine ⟨hc, fun k => ?_, fun k t ht => ?_, h.b.trans (hf.below h.b.size hown), Nat.le_trans h.s hf.size⟩
  · unfold ins
    split
    · rename_i e
      subst e
      rw [List.length_append, List.length_singleton, h.tl]
      omega
    · rw [h.tl]
      omega
  · unfold ins at ht
    split at ht
    · rcases List.mem_append.1 ht with h1 | h1
      · exact h.ts _ t h1
      · rw [List.mem_singleton.1 h1]
        exact hs
    · exact h.ts k t ht
theorem PM.len (h : PM w W1 c own i T W) (hi : i < 32) : (T (i / 8)).length = i % 8 := by
  rw [h.tl]
  omega
theorem PM.later (h : PM w W1 c own i T W) : ∀ k, i / 8 < k → T k = [] := fun k hk => by
  apply List.eq_nil_of_length_eq_zero
  rw [h.tl]
  omega
theorem PM.ok (h : PM w W1 c own i T W) : Ok (tx 4 8 256 T) 0 := tx_ok (by decide +kernel) fun k => by rw [h.tl]; omega
theorem PM.put (h : PM w W1 c own i T W) (hi : i < 32) (hs : s.size ≤ 256) : doProgram (tx 4 8 256 T) ((i / 8 : Nat) : Int) ((i % 8 : Nat) : Int) s = (0, tx 4 8 256 (ins T (i / 8) s)) := by
  have := tx_put (n := 4) (p := 8) (d := 256) (b := i / 8) (T := T) (by omega) (by rw [h.len hi]; omega) hs
  rw [h.len hi] at this
  exact this
/-- A row keeps where the chip turns. -/
theorem row_foot (hr : W.ownsRow W1.heap.size 49 7 v n xs) (ho : ∀ k, own k → k < W1.heap.size) (hf : Foot own W W') : W'.ownsRow W1.heap.size 49 7 v n xs := by
  rcases hr.2 with ⟨rfl, rfl⟩ | ⟨g, cap, cur, rfl, hb, hh, hn, hc, hs, ht⟩
  · exact ⟨hr.1, Or.inl ⟨rfl, rfl⟩⟩
  · refine ⟨hr.1, Or.inr ⟨g, cap, cur, rfl, hb, ?_, hn, hc, hs, ht⟩⟩
    refine (hf.block g (Array.getElem?_eq_some_iff.1 hh).1 fun e => ?_).trans hh
    have := ho g e
    omega
end
theorem spRow_len (b : Nat) : ∀ (ts : List ByteArray) (i : Nat), (spRow b i ts).length ≤ ts.length
  | [], i => Nat.le_refl _
  | t :: ts, i => by
    have h1 := spRow_len b ts (i + 1)
    have h2 : (sp1 b i t).length ≤ 1 := by unfold sp1; split <;> simp
    show (sp1 b i t ++ spRow b (i + 1) ts).length ≤ ts.length + 1
    rw [List.length_append]
    omega
theorem spAll_len {T : Nat → List ByteArray} (h : ∀ k, (T k).length ≤ 8) : ∀ b, (spAll T b).length ≤ b * 8
  | 0 => Nat.le_refl _
  | b + 1 => by
    have h1 := spAll_len h b
    have h2 := spRow_len b (T b) 0
    have h3 := h b
    show (spAll T b ++ spRow b 0 (T b)).length ≤ (b + 1) * 8
    rw [List.length_append]
    omega
theorem load_cells5 {W : World} {x : Addr} {i : Nat} {a : Int × Int × Int × Int × ByteArray} {w : World} (h : OpenP.Cells w x i a) (hb : Below w.heap.size w W) : (Instr.loadAt 24 (.pointer (some (x.add (i * 5))))).run Try.prog W = .ok (.agg #[.int .i64 a.1, .int .i64 a.2.1, .int .i64 a.2.2.1, .int .i64 a.2.2.2.1, .string a.2.2.2.2]) W := by
  show _ = Result.ok (Value.agg (pcells a.1 a.2.1 a.2.2.1 a.2.2.2.1 a.2.2.2.2)) W
  have g := fun {y : Addr} {v : Value} (h : w.cell? y = some v) => (hb.cell (World.block_lt_of_cell? _ _ h)).trans h
  have hl1 : (loadCells (x.add (i * 5)) 5).run Try.prog W = .ok (pcells a.1 a.2.1 a.2.2.1 a.2.2.2.1 a.2.2.2.2) W :=
    run_loadCells_list (P := Try.prog) W (x.add (i * 5)) [.int .i64 a.1, .int .i64 a.2.1, .int .i64 a.2.2.1, .int .i64 a.2.2.2.1, .string a.2.2.2.2] (fun j v hv => by
      match j, hv with
      | 0, hv => simp at hv; rw [show (x.add (i * 5)).add 0 = x.add (i * 5) by unfold Addr.add; split <;> simp_all, g h.c0, hv]
      | 1, hv => simp at hv; rw [g h.c1, hv]
      | 2, hv => simp at hv; rw [g h.c2, hv]
      | 3, hv => simp at hv; rw [g h.c3, hv]
      | 4, hv => simp at hv; rw [g h.c4, hv])
  have hagg : (isAgg 24).run Try.prog W = .ok true W := by
    unfold isAgg
    rw [Sem.run_bind, run_underlying Try.underlying24 W]
    rfl
  have hlv : (loadVar 24 (x.add (i * 5))).run Try.prog W = .ok (.agg (pcells a.1 a.2.1 a.2.2.1 a.2.2.2.1 a.2.2.2.2)) W := by
    cases hq : Try.prog.info? 24 with
    | none => have := size24; rw [hq] at this; cases this
    | some i =>
      have hs : i.size = 5 := by have := size24; rw [hq] at this; simpa using this
      simp [loadVar, sizeOf, typeInfo, hq, hs, hl1, hagg]
  simp only [Instr.loadAt, Instr.sureAddr, Sem.run_bind, Sem.run_pure, Result.andThen_ok, hlv]
theorem row_base {W : World} {base n : Nat} {v : Value} {xs : List Value} (h : W.ownsRow base 49 7 v n xs) : ∀ k, v.ownBlock = some k → base ≤ k := fun k hk => by
  rcases h.2 with ⟨rfl, _⟩ | ⟨g, cap, cur, rfl, hb, _⟩
  · simp [Value.ownBlock] at hk
  · have : g = k := by simpa [Value.ownBlock] using hk
    omega
theorem put_shape {k s o l : Int} {t : ByteArray} (h : ¬ PageM.put k s o l t = ⟨#[]⟩) : valid k s o l t = true := by
  cases hv : valid k s o l t with
  | true => rfl
  | false =>
    exfalso
    apply h
    unfold PageM.put
    rw [hv]
    rfl
theorem tdiv8 (k : Nat) : Int.tdiv (k : Int) 8 = ((k / 8 : Nat) : Int) := rfl
theorem tmod8 (k : Nat) : Int.tmod (k : Int) 8 = ((k % 8 : Nat) : Int) := rfl
set_option maxHeartbeats 8000000 in
set_option maxRecDepth 100000 in
theorem all_many (a : Option Addr) (len cap : Nat) (a2 : Option Addr) (len2 cap2 : Nat) (w : World) (hl : 32 < len ∨ len ≤ 32 ∧ len2 < len) :
    Calls Try.prog 6 #[.slice a len cap, .slice a2 len2 cap2] w fun e w' => e = .returned (.bool true) ∧ Below w.heap.size w w' := by
  have hnew := new_c 4 8 256 (by decide +kernel)
  rcases hl with hl | ⟨hl, hl2⟩
  · have q1 : decide (32 < (len : Int)) = true := decide_eq_true (by omega)
    have q2 : decide (32 < len) = true := decide_eq_true hl
    go_enter Try.func6, Try.ntmps6
    go_wp2_with fail
    refine (PageX.works_any _).mono ?_
    rintro e w1 ⟨rfl, hb1⟩
    go_wp2_with fail
    refine (hnew _).mono ?_
    rintro e w2 ⟨rfl, h2, f2⟩
    go_wp2_with fail
    go_ret
    exact ⟨rfl, hb1.trans (f2.mono hb1.size)⟩
  · have q1 : decide (32 < (len : Int)) = false := decide_eq_false (by omega)
    have q2 : decide (32 < len) = false := decide_eq_false (by omega)
    have q3 : decide ((len2 : Int) < (len : Int)) = true := decide_eq_true (by omega)
    have q4 : decide (len2 < len) = true := decide_eq_true hl2
    go_enter Try.func6, Try.ntmps6
    go_wp2_with fail
    refine (PageX.works_any _).mono ?_
    rintro e w1 ⟨rfl, hb1⟩
    go_wp2_with fail
    refine (hnew _).mono ?_
    rintro e w2 ⟨rfl, h2, f2⟩
    go_wp2_with fail
    go_ret
    exact ⟨rfl, hb1.trans (f2.mono hb1.size)⟩
set_option maxHeartbeats 8000000 in
set_option maxRecDepth 100000 in
theorem all_main (a : Option Addr) (len cap : Nat) (z : Nat → Int × Int × Int × Int × ByteArray) (a2 : Option Addr) (len2 cap2 : Nat) (z2 : Nat → Bool) (w : World) (hl : len ≤ 32) (hl2 : len ≤ len2)
    (hc : ∀ i, i < len → ∃ x, a = some x ∧ OpenP.Cells w x i (z i)) (hc2 : ∀ i, i < len2 → ∃ x, a2 = some x ∧ w.cell? (x.add i) = some (.bool (z2 i))) :
    Calls Try.prog 6 #[.slice a len cap, .slice a2 len2 cap2] w fun e w' => e = .returned (.bool true) ∧ Below w.heap.size w w' := by
  have hnew := new_c 4 8 256 (by decide +kernel)
  obtain ⟨i0, hinf, hz0, hz1, hz2⟩ := info_parts infoSpot
  have q1 : decide (32 < (len : Int)) = false := decide_eq_false (by omega)
  have q2 : decide (32 < len) = false := decide_eq_false (by omega)
  have q3 : decide ((len2 : Int) < (len : Int)) = false := decide_eq_false (by omega)
  have q4 : decide (len2 < len) = false := decide_eq_false (by omega)
  go_enter Try.func6, Try.ntmps6
  go_wp2_with fail
  refine (PageX.works_any _).mono ?_
  rintro e w1 ⟨rfl, hb1⟩
  go_wp2_with fail
  refine (hnew _).mono ?_
  rintro e w2 ⟨rfl, h2, f2⟩
  have hown : ∀ k, (k = w1.heap.size ∨ k = w1.heap.size + 1) → w.heap.size ≤ k := fun k hk => by have := hb1.size; omega
  have ho : ∀ k, (k = w1.heap.size ∨ k = w1.heap.size + 1) → k < w2.heap.size := h2.lt
  have hw2 : w.heap.size ≤ w2.heap.size := Nat.le_trans hb1.size f2.size
  have hM : PM w w2 (w1.heap.size + 1) (fun k => k = w1.heap.size ∨ k = w1.heap.size + 1) 0 (fun _ => []) w2 :=
    ⟨h2, fun k => by simp, fun k t ht => (by cases ht), hb1.trans (f2.mono hb1.size), Nat.le_refl _⟩
  have hR : w2.ownsRow w2.heap.size 49 7 (.slice none 0 0) (spAll (fun _ => []) 4).length (cellsOf (spAll (fun _ => []) 4)) := World.ownsRow_nil _ _ _ _
  obtain ⟨own, hown, ho, hM⟩ : ∃ own : Nat → Prop, (∀ k, own k → w.heap.size ≤ k) ∧ (∀ k, own k → k < w2.heap.size) ∧ PM w w2 (w1.heap.size + 1) own 0 (fun _ => []) w2 := ⟨_, hown, ho, hM⟩
  generalize w1.heap.size + 1 = c at hM ⊢
  replace hM := Lib.hid hM
  replace hR := Lib.hid hR
  clear h2 f2 hb1 hnew
  go_wp2_with fail
  clear q1 q2 q3 q4
  go_loopw [9, 8] (fun iv v W => ∃ i : Nat, i ≤ len ∧ iv = .int .i64 i ∧ ∃ T, Hid (PM w w2 c own i T W) ∧ Hid (W.ownsRow w2.heap.size 49 7 v (spAll T 4).length (cellsOf (spAll T 4)))) (fun iv _ _ => len - (intOf iv).toNat)
  case atStart => exact ⟨0, by omega, rfl, _, hM, hR⟩
  case round =>
    clear hM hR
    obtain ⟨i, hi, rfl, T, hM, hR⟩ := hrel
    by_cases hli : i < len
    · obtain ⟨x, rfl, hx⟩ := hc i hli
      obtain ⟨x2, rfl, hx2⟩ := hc2 i (by omega)
      have ha := load_cells5 hx hM.out.b
      have pp := put_any (z i).1 (z i).2.1 (z i).2.2.1 (z i).2.2.2.1 (z i).2.2.2.2
      have hi32 : i < 32 := by omega
      have hi2 : (i : Int) < (len : Int) := by omega
      have hi3 : (i : Int) < (len2 : Int) := by omega
      have hdv := tdiv8 i
      have hmd := tmod8 i
      have hd0 : (0 : Int) ≤ ((i / 8 : Nat) : Int) := Int.natCast_nonneg _
      have hd1 : ((i / 8 : Nat) : Int) ≤ 4 := by omega
      have hm0 : (0 : Int) ≤ ((i % 8 : Nat) : Int) := Int.natCast_nonneg _
      have hm1 : ((i % 8 : Nat) : Int) ≤ 8 := by omega
      have hput := fun s hs => hM.out.put (s := s) hi32 hs
      have htz : (⟨#[116, 111, 114, 110]⟩ : ByteArray).size ≤ 256 := by decide +kernel
      have hsh := put_shape (k := (z i).1) (s := (z i).2.1) (o := (z i).2.2.1) (l := (z i).2.2.2.1) (t := (z i).2.2.2.2)
      have hspp := sp1_put (b := i / 8) (q := i % 8) (k := (z i).1) (s := (z i).2.1) (o := (z i).2.2.1) (l := (z i).2.2.2.1) (t := (z i).2.2.2.2)
      generalize PageM.put (z i).1 (z i).2.1 (z i).2.2.1 (z i).2.2.2.1 (z i).2.2.2.2 = s at pp hsh hspp
      generalize ((i / 8 : Nat) : Int) = dq at hdv hd0 hd1 hput hspp
      generalize ((i % 8 : Nat) : Int) = mq at hmd hm0 hm1 hput hspp
      have hwd : IntKind.i64.wrap dq = dq := by rw [IntKind.wrap_i64]; omega
      replace hput := Lib.hid hput
      replace hsh := Lib.hid hsh
      replace hspp := Lib.hid hspp
      replace hx := Lib.hid hx
      replace hx2 := Lib.hid hx2
      go_wp2_with (refine Calm.wpList_val rfl (Calm.run_op_load rfl rfl ha) ?_)
      refine (pp _).mono ?_
      rintro e w4 ⟨rfl, hb4⟩
      have hM4 := Lib.hid (hM.out.below hb4)
      have hR4 := Lib.hid (row_below hR.out hb4)
      have hxb : w4.cell? (x2.add i) = some (.bool (z2 i)) := (hM4.out.b.cell (World.block_lt_of_cell? _ _ hx2.out)).trans hx2.out
      generalize z2 i = tb at hxb
      clear hM hR hb4 pp ha
      cases tb with
      | true =>
        have pq := program_c hM4.out.h hM4.out.ok dq mq ⟨#[116, 111, 114, 110]⟩
        rw [hput _ htz] at pq
        go_wp2_with fail
        refine pq.mono ?_
        rintro e w5 ⟨rfl, h5, f5⟩
        have hM5 := Lib.hid (hM4.out.next hi32 htz hw2 hown h5 f5)
        have hR5 : w5.ownsRow w2.heap.size 49 7 u8 (spAll (ins T (i / 8) ⟨#[116, 111, 114, 110]⟩) 4).length (cellsOf (spAll (ins T (i / 8) ⟨#[116, 111, 114, 110]⟩) 4)) := by
          rw [spAll_ins (by omega) hM4.out.later, sp1_none got_torn, List.append_nil]
          exact row_foot hR4.out ho f5
        replace hR5 := Lib.hid hR5
        clear pq h5 f5 hM4 hR4
        go_wp2_with fail
        go_roundw
        case rel => exact ⟨i + 1, by omega, by go_num, _, hM5, hR5⟩
        case measure => simp [intOf]; omega
      | false =>
        by_cases hs0 : s = ⟨#[]⟩
        · subst hs0
          have hte : (⟨#[]⟩ : ByteArray).toList = [] := by rw [WireP.toList_L, WireM.L_empty]
          have pq := program_c hM4.out.h hM4.out.ok dq mq ⟨#[116, 111, 114, 110]⟩
          rw [hput _ htz] at pq
          go_wp2_with fail
          refine pq.mono ?_
          rintro e w5 ⟨rfl, h5, f5⟩
          have hM5 := Lib.hid (hM4.out.next hi32 htz hw2 hown h5 f5)
          have hR5 : w5.ownsRow w2.heap.size 49 7 u8 (spAll (ins T (i / 8) ⟨#[116, 111, 114, 110]⟩) 4).length (cellsOf (spAll (ins T (i / 8) ⟨#[116, 111, 114, 110]⟩) 4)) := by
            rw [spAll_ins (by omega) hM4.out.later, sp1_none got_torn, List.append_nil]
            exact row_foot hR4.out ho f5
          replace hR5 := Lib.hid hR5
          clear pq h5 f5 hM4 hR4
          go_wp2_with fail
          go_roundw
          case rel => exact ⟨i + 1, by omega, by go_num, _, hM5, hR5⟩
          case measure => simp [intOf]; omega
        · have hne := ne_empty hs0
          by_cases hs1 : 256 < s.size
          · have q7 : decide (256 < (s.size : Int)) = true := decide_eq_true (by omega)
            have q8 : decide (256 < s.size) = true := decide_eq_true hs1
            have pq := program_c hM4.out.h hM4.out.ok dq mq ⟨#[116, 111, 114, 110]⟩
            rw [hput _ htz] at pq
            go_wp2_with fail
            refine pq.mono ?_
            rintro e w5 ⟨rfl, h5, f5⟩
            have hM5 := Lib.hid (hM4.out.next hi32 htz hw2 hown h5 f5)
            have hR5 : w5.ownsRow w2.heap.size 49 7 u8 (spAll (ins T (i / 8) ⟨#[116, 111, 114, 110]⟩) 4).length (cellsOf (spAll (ins T (i / 8) ⟨#[116, 111, 114, 110]⟩) 4)) := by
              rw [spAll_ins (by omega) hM4.out.later, sp1_none got_torn, List.append_nil]
              exact row_foot hR4.out ho f5
            replace hR5 := Lib.hid hR5
            clear pq h5 f5 hM4 hR4
            go_wp2_with fail
            go_roundw
            case rel => exact ⟨i + 1, by omega, by go_num, _, hM5, hR5⟩
            case measure => simp [intOf]; omega
          · have q7 : decide (256 < (s.size : Int)) = false := decide_eq_false (by omega)
            have q8 : decide (256 < s.size) = false := decide_eq_false hs1
            have hv := hsh.out hs0
            have hsz : s.size ≤ 256 := by omega
            have hlen := spAll_len (T := T) (fun k => by rw [hM4.out.tl]; omega) 4
            have ha4 := load_cells5 hx.out hM4.out.b
            have hz4 := hM4.out.s
            go_wp2_with (first | (refine Calm.wpList_val rfl (Calm.run_op_load rfl rfl ha4) ?_) | (at_builtin; refine wpList_append_own _ rfl _ _ 47 rfl _ 49 i0 _ 7 64 Try.underlying47 hinf hz0 hz1 hz2 rfl (by decide) _ _ _ rfl (hR4.out.alloc _) ⟨_, 0, none⟩ 1 1 (cells1 (dq, mq, (z i).1, (z i).2.1, (z i).2.2.1, (z i).2.2.2.1, (z i).2.2.2.2)) rfl rfl (fun j u hj => row_new w4 #[.int .i64 dq, .int .i64 mq, .int .i64 (z i).1, .int .i64 (z i).2.1, .int .i64 (z i).2.2.1, .int .i64 (z i).2.2.2.1, .string (z i).2.2.2.2] 49 j u hj) (by simp [cells1, Value.oneCell']) (by unfold maxLen; omega) (by omega) (by simp; omega) ?_; intro v' w5 hown1 hgrow _; have hM5 := Lib.hid (hM4.out.grown ho hw2 hgrow (row_base hR4.out)); have hR5 := Lib.hid hown1; clear hown1 hgrow hM4 hR4 ha4))
            have pq := program_c hM5.out.h hM5.out.ok dq mq s
            rw [hput.out _ hsz] at pq
            refine pq.mono ?_
            rintro e w6 ⟨rfl, h6, f6⟩
            have hM6 := Lib.hid (hM5.out.next hi32 hsz hw2 hown h6 f6)
            have hR6 : w6.ownsRow w2.heap.size 49 7 v' (spAll (ins T (i / 8) s) 4).length (cellsOf (spAll (ins T (i / 8) s) 4)) := by
              rw [spAll_ins (by omega) hM5.out.later, hM5.out.len hi32, hspp.out hv, List.length_append, cellsOf_snoc]
              exact row_foot hR5.out ho f6
            replace hR6 := Lib.hid hR6
            clear pq h6 f6 hM5 hR5
            go_wp2_with fail
            go_roundw
            case rel => exact ⟨i + 1, by omega, by go_num, _, hM6, hR6⟩
            case measure => simp [intOf]; omega
    · obtain rfl : i = len := by omega
      have hT : Short (tx 4 8 256 T) := tx_short hM.out.ts
      have hl8 : ∀ k, (T k).length ≤ 8 := fun k => by rw [hM.out.tl]; omega
      have pl := callsIn_wide.1 (all_in 3 (by omega) c 0 own hT hM.out.ok wr hM.out.h (upto_most hT hM.out.ok))
      have hsp : spots (upto hT (tx 4 8 256 T).n) = spAll T 4 := spots_upto hT hl8 4 (Nat.le_refl _)
      rw [hsp] at pl
      have hlen := spAll_len hl8 4
      generalize spAll T 4 = SS at pl hR hlen
      have hR2 := hR.out
      clear hsp hR
      go_wp2_with fail
      refine pl.mono ?_
      rintro e w7 ⟨v2, rfl, hrow2, hb7⟩
      have hrow1 := row_below hR2 hb7
      have hB7 := hM.out.b.trans (hb7.mono hM.out.b.size)
      clear pl hb7 hM hR2
      obtain ⟨o2, cap2', rfl, hel2⟩ := row_shape hrow2
      obtain ⟨o1, cap1', rfl, hel1⟩ := row_shape hrow1
      clear hrow1 hrow2
      replace hel1 := Lib.hid hel1
      replace hel2 := Lib.hid hel2
      replace hB7 := Lib.hid hB7
      have hBW : Hid (Below w7.heap.size w7 w7) := Lib.hid (Below.refl _ _)
      go_wp2_with fail
      go_loopw [12] (fun jv W => ∃ j : Nat, j ≤ SS.length ∧ jv = .int .i64 j ∧ Hid (Below w7.heap.size w7 W)) (fun jv _ => SS.length - (intOf jv).toNat)
      case atStart => exact ⟨0, by omega, rfl, hBW⟩
      case round =>
        clear hBW
        obtain ⟨j, hj, rfl, hBW⟩ := hrel
        by_cases hlj : j < SS.length
        · obtain ⟨g2, rfl, lt2, f2⟩ := hel2.out j hlj
          obtain ⟨g1, rfl, lt1, f1⟩ := hel1.out j hlj
          obtain ⟨⟨s0, s1, s2, s3, s4, s5, s6⟩, hs⟩ : ∃ s, SS[j]? = some s := ⟨_, List.getElem?_eq_getElem hlj⟩
          have hj2 : (j : Int) < (SS.length : Int) := by omega
          have c2 := fun q hq => (hBW.out.cell (p := ⟨g2, j * 7 + q, none⟩) lt2).trans ((f2 q hq).trans (cellsOf_get SS j _ hs q hq))
          have c1 := fun q hq => (hBW.out.cell (p := ⟨g1, j * 7 + q, none⟩) lt1).trans ((f1 q hq).trans (cellsOf_get SS j _ hs q hq))
          have a0 : wr.cell? ⟨g2, j * 7, none⟩ = some (.int .i64 s0) := c2 0 (by omega)
          have a1 : wr.cell? ⟨g2, j * 7 + 1, none⟩ = some (.int .i64 s1) := c2 1 (by omega)
          have a2 : wr.cell? ⟨g2, j * 7 + 2, none⟩ = some (.int .i64 s2) := c2 2 (by omega)
          have a3 : wr.cell? ⟨g2, j * 7 + 3, none⟩ = some (.int .i64 s3) := c2 3 (by omega)
          have a4 : wr.cell? ⟨g2, j * 7 + 4, none⟩ = some (.int .i64 s4) := c2 4 (by omega)
          have a5 : wr.cell? ⟨g2, j * 7 + 5, none⟩ = some (.int .i64 s5) := c2 5 (by omega)
          have a6 : wr.cell? ⟨g2, j * 7 + 6, none⟩ = some (.string s6) := c2 6 (by omega)
          have b0 : wr.cell? ⟨g1, j * 7, none⟩ = some (.int .i64 s0) := c1 0 (by omega)
          have b1 : wr.cell? ⟨g1, j * 7 + 1, none⟩ = some (.int .i64 s1) := c1 1 (by omega)
          have b2 : wr.cell? ⟨g1, j * 7 + 2, none⟩ = some (.int .i64 s2) := c1 2 (by omega)
          have b3 : wr.cell? ⟨g1, j * 7 + 3, none⟩ = some (.int .i64 s3) := c1 3 (by omega)
          have b4 : wr.cell? ⟨g1, j * 7 + 4, none⟩ = some (.int .i64 s4) := c1 4 (by omega)
          have b5 : wr.cell? ⟨g1, j * 7 + 5, none⟩ = some (.int .i64 s5) := c1 5 (by omega)
          have b6 : wr.cell? ⟨g1, j * 7 + 6, none⟩ = some (.string s6) := c1 6 (by omega)
          clear c1 c2 f1 f2 hs
          go_wp2_with fail
          go_quiet (fail)
          go_wp2_with fail
          go_roundw
          case rel => exact ⟨j + 1, by omega, by go_num, Lib.hid (below_drewN hBW.out _)⟩
          case measure => simp [intOf]; omega
        · obtain rfl : j = SS.length := by omega
          go_wp2_with fail
          go_ret
          exact ⟨rfl, hB7.out.trans (hBW.out.mono hB7.out.size)⟩
theorem all_row {v0 v1 : Value} {w : World} (a : Option Addr × Nat × Nat × (Nat → Int × Int × Int × Int × ByteArray)) (h : OpenP.PagesAt w v0 a) (b : Option Addr × Nat × Nat × (Nat → Bool)) (h2 : OpenP.BoolsAt w v1 b) :
    Calls Try.prog 6 #[v0, v1] w fun e w' => e = .returned (.bool true) ∧ Below w.heap.size w w' := by
  obtain ⟨rfl, hc⟩ := h
  obtain ⟨rfl, hc2⟩ := h2
  by_cases hl : a.2.1 ≤ 32
  · by_cases hl2 : a.2.1 ≤ b.2.1
    · exact all_main a.1 a.2.1 a.2.2.1 a.2.2.2 b.1 b.2.1 b.2.2.1 b.2.2.2 w hl hl2 hc hc2
    · exact all_many _ _ _ _ _ _ w (Or.inr ⟨hl, by omega⟩)
  · exact all_many _ _ _ _ _ _ w (Or.inl (by omega))
end Go.Proofs.Ytobkeakbahkglaa.PageAll
