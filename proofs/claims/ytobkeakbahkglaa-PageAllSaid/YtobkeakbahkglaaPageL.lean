/- page.All: all pages of a chip that may be, in order. -/
import Derived.Test.YtobkeakbahkglaaPageE
import Derived.Test.YtobkeakbahkglaaPageG
import Derived.Maps.AppendAt
set_option linter.unusedVariables false
namespace Go.Proofs.Ytobkeakbahkglaa.PageL
open Go.RowKit Go.Shelf Go.Proofs.Ytobkeakbahkglaa.ChipM Go.Proofs.Ytobkeakbahkglaa.ChipA Go.Proofs.Ytobkeakbahkglaa.ChipC Go.Proofs.Ytobkeakbahkglaa.PageE Go.Proofs.Ytobkeakbahkglaa.PageM Go.Proofs.Ytobkeakbahkglaa.PageG

attribute [local go_sem] Oper.semAt_some
theorem wpListIn_store_row {F : Fence} {n : Nat} {P : Program} {ops : Array Oper} {rest : List Oper} {o : Oper} {a : Act} {w : World} {Q : Exit → Act → World → Prop} (hgd : o.guard = none) (ty : TypeId) (x y : Operand) (ho : o.op = .store ty x y)
    (g : Nat) (cells : Array Value) (hx : a.eval x = .pointer (some ⟨g, 0, none⟩)) (hy : a.eval y = .agg cells)
    (t : TypeId) (old : Array Value) (hg : w.heap[g]? = some (.cells old t (0, 0))) (hi : (P.info? ty).map (·.size) = some cells.size)
    (hold : old.size = cells.size) (h1 : cells.all (·.oneCell') = true)
    (h : wpListIn F n P ops Q rest (a.put o.dst undef) (w.setRow g cells)) : wpListIn F n P ops Q (o :: rest) a w := by
  refine wpListIn_plain hgd fun K hK => ?_
  have hr := run_storeVar_row (P := P) w g t ty old cells hg hi hold h1
  unfold Oper.wpIn
  refine ⟨by simp [Oper.about, ho], ?_⟩
  rw [Oper.semAt_plain F _ _ (by rw [ho]; intro c hc'; cases hc')]
  simp [execOp, ho, hx, hy, Instr.storeAt, Instr.sureAddr, hr, Result.andThen]
  exact hK _ _ h
theorem infoSpot : (Try.prog.info? 49).map (fun i => (i.zero, i.size, i.bytes)) = some (some (.agg #[.int .i64 0, .int .i64 0, .int .i64 0, .int .i64 0, .int .i64 0, .int .i64 0, .string ⟨#[]⟩]), 7, 64) := by kernel_rfl
theorem size80 : (Try.prog.info? 80).map (·.size) = some 2 := by kernel_rfl
/-- A page, and where it is. -/
abbrev Sp := Int × Int × Int × Int × Int × Int × ByteArray
def spotOf (x : Ent) : List Sp := if (got x.1.2.2).2.2.2.2.2 = true then [(x.1.1, x.1.2.1, (got x.1.2.2).1, (got x.1.2.2).2.1, (got x.1.2.2).2.2.1, (got x.1.2.2).2.2.2.1, (got x.1.2.2).2.2.2.2.1)] else []
def spots (l : List Ent) : List Sp := l.flatMap spotOf
def cells1 (s : Sp) : List Value := [.int .i64 s.1, .int .i64 s.2.1, .int .i64 s.2.2.1, .int .i64 s.2.2.2.1, .int .i64 s.2.2.2.2.1, .int .i64 s.2.2.2.2.2.1, .string s.2.2.2.2.2.2]
def cellsOf (l : List Sp) : List Value := l.flatMap cells1
theorem spots_snoc (pre : List Ent) (x : Ent) : spots (pre ++ [x]) = spots pre ++ spotOf x := by simp [spots]
theorem cellsOf_snoc (l : List Sp) (s : Sp) : cellsOf (l ++ [s]) = cellsOf l ++ cells1 s := by simp [cellsOf]
theorem spots_len (l : List Ent) : (spots l).length ≤ l.length := by
  induction l with
  | nil => exact Nat.le_refl _
  | cons x l ih =>
    have h1 : (spotOf x).length ≤ 1 := by unfold spotOf; split <;> simp
    simp only [spots, List.flatMap_cons, List.length_append, List.length_cons] at *
    omega
theorem Kp_t {n₀ Bn : Nat} {A B C : World} (h : Kp n₀ Bn A B) (k : Kp n₀ Bn B C) : Kp n₀ Bn A C := ⟨h.1.trans k.1, Nat.le_trans h.2.1 k.2.1, fun u hu => k.2.2 u (h.2.2 u hu)⟩
theorem Kp_b {n₀ Bn : Nat} {w1 : World} (hB : n₀ ≤ w1.heap.size) : ∀ (W : World) (l : Nat) (o o' : Obj), w1.heap.size ≤ l → W.heap[l]? = some o → o.isCells = false → o.isWalk = false → Kp n₀ Bn W (W.putObj l o') := fun W l o o' hl ho hc hw => by
  have hg := grownBy_putObj' W l o'
  refine ⟨belowK_b hB W l o o' hl ho hc hw, hg.size, fun u hu => hu.kept hg fun e => ?_⟩
  obtain rfl : Bn = l := by simpa using e
  rw [show W.heap[Bn]? = _ from hu] at ho
  obtain rfl := Option.some.inj ho
  cases hc
theorem Kp_alloc {n₀ Bn : Nat} (W : World) (h : n₀ ≤ W.heap.size) (o : Obj) : Kp n₀ Bn W (W.alloc o) := ⟨(Below.refl _ W).alloc h o, by simp, fun u hu => hu.alloc o⟩
theorem Kp_below {n₀ Bn : Nat} {W W' : World} (h : n₀ ≤ W.heap.size) (hb : Below W.heap.size W W') : Kp n₀ Bn W W' := ⟨hb.mono h, hb.size, fun u hu => (hb.block Bn hu.lt).trans hu⟩
theorem addr_add (g j : Nat) : (⟨g, 0, none⟩ : Addr).add j = ⟨g, j, none⟩ := by unfold Addr.add; split <;> simp_all
theorem row_new (W : World) (cs : Array Value) (t : TypeId) (j : Nat) (u : Value) (h : cs.toList[j]? = some u) : (W.alloc (.cells cs t)).cell? ((⟨W.heap.size, 0, none⟩ : Addr).add j) = some u := by
  rw [addr_add, cell_of_row _ _ _ _ _ _ (heap_alloc_new W _), ← h]
  simp
theorem keepsOthers_of_below {W W' : World} (h : Below W.heap.size W W') : KeepsOthers W W' := ⟨h.size, fun k o hk _ => (h.block k (Array.getElem?_eq_some_iff.1 hk).1).trans hk⟩
/-- The place of a round. -/
def Box2 (W : World) (B : Nat) (x y : Int) : Prop := W.heap[B]? = some (.cells #[.int .i64 x, .int .i64 y] 80 (0, 0))
theorem Box2.kept {W W' : World} {row : Option Nat} {B : Nat} {x y : Int} (h : Box2 W B x y) (hg : W.grownBy W' row) (hr : ∀ r, row = some r → ∃ o : Obj, W.heap[r]? = some o ∧ o.isCells = false) : Box2 W' B x y := by
  refine (hg.block B (Array.getElem?_eq_some_iff.1 h).1 fun e => ?_).trans h
  obtain ⟨o, ho, hc⟩ := hr B e.symm
  rw [show W.heap[B]? = _ from h] at ho
  cases ho
  cases hc
theorem row_below {W W' : World} {base : Nat} {e : TypeId} {size n : Nat} {v : Value} {xs : List Value} (h : W.ownsRow base e size v n xs) (hb : Below W.heap.size W W') : W'.ownsRow base e size v n xs := by
  refine h.kept ⟨hb.os, hb.tape, hb.output, hb.size, fun k hk _ => hb.block k hk⟩ (row := none) ?_
  rcases h.2 with ⟨rfl, _⟩ | ⟨g, cap, cur, rfl, _⟩
  · exact .inl rfl
  · exact .inr (by simp [Value.ownBlock])
/-- What lies where, behind Get: the box, the place, the page. -/
structure BF (w W2 : World) (Bx pb : Nat) (x y : Int) (v : Value) (k q o l : Int) (t : ByteArray) : Prop where
  s : Boxed W2 w.heap.size 47 v
  b : Box2 W2 Bx x y
  p : W2.heap[pb]? = some (.cells (pcells k q o l t) 24 (0, 0))
section
variable {w W W2 w1 : World} {Bx pb : Nat} {x y : Int} {v : Value} {k q o l : Int} {t : ByteArray}
theorem BF.first (bS : Boxed W w.heap.size 47 v) (b2 : Box2 W Bx x y) (hb : Below W.heap.size W w1) (k q o l : Int) (t : ByteArray) : BF w (w1.alloc (.cells (pcells k q o l t) 24)) Bx w1.heap.size x y v k q o l t :=
  ⟨Boxed.alloc ((hb.block _ bS.lt).trans bS) _, (Below.heap_alloc w1 _ Bx (Nat.lt_of_lt_of_le (Array.getElem?_eq_some_iff.1 b2).1 hb.size)).trans ((hb.block _ (Array.getElem?_eq_some_iff.1 b2).1).trans b2), heap_alloc_new _ _⟩
theorem BF.p0 (h : BF w W2 Bx pb x y v k q o l t) : W2.cell? ⟨pb, 0, none⟩ = some (.int .i64 k) := by rw [cell_of_row _ _ _ _ _ _ h.p]; rfl
theorem BF.p1 (h : BF w W2 Bx pb x y v k q o l t) : W2.cell? ⟨pb, 1, none⟩ = some (.int .i64 q) := by rw [cell_of_row _ _ _ _ _ _ h.p]; rfl
theorem BF.p2 (h : BF w W2 Bx pb x y v k q o l t) : W2.cell? ⟨pb, 2, none⟩ = some (.int .i64 o) := by rw [cell_of_row _ _ _ _ _ _ h.p]; rfl
theorem BF.p3 (h : BF w W2 Bx pb x y v k q o l t) : W2.cell? ⟨pb, 3, none⟩ = some (.int .i64 l) := by rw [cell_of_row _ _ _ _ _ _ h.p]; rfl
theorem BF.p4 (h : BF w W2 Bx pb x y v k q o l t) : W2.cell? ⟨pb, 4, none⟩ = some (.string t) := by rw [cell_of_row _ _ _ _ _ _ h.p]; rfl
theorem BF.b0 (h : BF w W2 Bx pb x y v k q o l t) : W2.cell? ⟨Bx, 0, none⟩ = some (.int .i64 x) := by rw [cell_of_row _ _ _ _ _ _ h.b]; rfl
theorem BF.b1 (h : BF w W2 Bx pb x y v k q o l t) : W2.cell? ⟨Bx, 1, none⟩ = some (.int .i64 y) := by rw [cell_of_row _ _ _ _ _ _ h.b]; rfl
end
set_option maxRecDepth 100000 in
set_option maxHeartbeats 4000000 in
theorem all_in (n : Nat) (hn : 3 ≤ n) (c K : Nat) (own : Nat → Prop) {m : Chp} (hT : Short m) (ok : Ok m K) (w : World) (hc : ChipAt own w c m) (hlen : (upto hT m.n).length ≤ 2048) :
    CallsIn Fence.wide n Try.prog 20 #[.pointer (some ⟨c, 0, none⟩)] w fun e W' => ∃ v, e = .returned v ∧ W'.ownsRow w.heap.size 49 7 v (spots (upto hT m.n)).length (cellsOf (spots (upto hT m.n))) ∧ Below w.heap.size w W' := by
  have h1 : 1 ≤ n := by omega
  obtain ⟨i0, hi, hz0, hz1, hz2⟩ := info_parts infoSpot
  refine callsIn_of_wp_marks Try.func20 rfl trivial ?_ rfl
  simp only [Try.ntmps20, List.size_toArray, List.length_cons, List.length_nil, Nat.reduceAdd, Nat.reduceSub, Array.replicate_succ, Array.replicate_zero, List.push_toArray, List.append_toArray, List.nil_append, List.cons_append]
  gi_wp2_with (refine ⟨trivial, ?_⟩; gi_at_call 36; refine (each_in (n - 1) _ _).mono ?_; rintro e w' ⟨rfl, rfl⟩)
  have bO := (Boxed.new w 47 (.slice none 0 0)).alloc (.cells #[.pointer (some ⟨c, 0, none⟩)] 43)
  have bN := Boxed.new (w.alloc (.cells #[.slice none 0 0] 47)) 43 (.pointer (some ⟨c, 0, none⟩))
  rw [World.size_alloc] at bN
  have hB0 : Below w.heap.size w ((w.alloc (.cells #[.slice none 0 0] 47)).alloc (.cells #[.pointer (some ⟨c, 0, none⟩)] 43)) := ((Below.refl _ w).alloc (Nat.le_refl _) _).alloc (by simp) _
  have hsz : ((w.alloc (.cells #[.slice none 0 0] 47)).alloc (.cells #[.pointer (some ⟨c, 0, none⟩)] 43)).heap.size = w.heap.size + 2 := by simp
  obtain ⟨W0, hW0⟩ : ∃ W0, (w.alloc (.cells #[.slice none 0 0] 47)).alloc (.cells #[.pointer (some ⟨c, 0, none⟩)] 43) = W0 := ⟨_, rfl⟩
  rw [hW0] at bO bN hB0 hsz ⊢
  clear hW0
  have hc0 : ChipAt own W0 c m := hc.same (by omega) fun k hk => hB0.block k (hc.lt k hk)
  refine wpIn_rangeFunc_ownH rfl h1 (gf := 45) (lb := #[.pointer (some ⟨w.heap.size + 1, 0, none⟩)]) rfl trivial (enters_of Try.func45 (by kernel_rfl) rfl)
    (each_stops (n - 1) (by omega) (w.heap.size + 1) w.heap.size c K own hT ok hc.lt W0 (by omega) bN hc0) Kp_t (Kp_b (by omega)) (Below.refl _ _) (fun _ => rfl)
    (fun pre W => (∃ v, Boxed W w.heap.size 47 v ∧ W.ownsRow w.heap.size 49 7 v (spots pre).length (cellsOf (spots pre)) ∧ True) ∧ Below w.heap.size w W)
    (fun _ _ _ => False)
    (OwnFrom.and (Own.from (holdsRow_own w.heap.size w.heap.size 47 49 7 (fun pre => (spots pre).length) (fun pre => cellsOf (spots pre)) (fun pre v => True)) _) (ownFrom_below (Nat.le_refl _) (by omega)))
    (fun _ _ _ _ _ hs _ _ => hs)
    ⟨⟨_, bO, World.ownsRow_nil _ _ _ _, trivial⟩, hB0⟩
    (fun x a' W => ∃ Bx, w.heap.size < Bx ∧ Box2 W Bx x.1.1 x.1.2.1 ∧ a' = { tmps := #[.pointer (some ⟨c, 0, none⟩), undef, .slice none 0 0, .pointer (some ⟨w.heap.size, 0, none⟩), .pointer (some ⟨Bx, 0, none⟩), .string x.1.2.2, undef, undef, .pointer (some ⟨c, 0, none⟩), .func (.func 45) #[] #[.pointer (some ⟨w.heap.size + 1, 0, none⟩)], .agg #[.int .i64 x.1.1, .int .i64 x.1.2.1], .string x.1.2.2, undef, undef, undef, undef, undef, undef, undef, undef, undef, undef, undef, undef, undef, undef, undef, undef], defers := [] })
    (fun x a' _ X Y row hs hg hr => by obtain ⟨Bx, h1, h2, h3⟩ := hs; exact ⟨Bx, h1, h2.kept hg (fun r e => (hr r e).2), h3⟩)
    ?assign ?body ?done ?stop
  case assign =>
    rintro l pre x W K ⟨⟨v, bS1, hrow, _⟩, hB1⟩ hK
    gi_wp2_with (refine wpListIn_store_row rfl 80 (.tmp 4) (.tmp 10) rfl W.heap.size #[.int .i64 x.1.1, .int .i64 x.1.2.1] rfl rfl 80 #[.int .i64 0, .int .i64 0] (heap_alloc_new _ _) (by rw [size80]; rfl) rfl (by simp [Value.oneCell']) ?_; rw [World.setRow_alloc_new])
    exact hK _ _ ((KeepsOthers.alloc _ _).from _) (Kp_alloc _ hB1.size _) ⟨⟨v, bS1.alloc _, hrow.alloc _, trivial⟩, hB1.alloc hB1.size _⟩ ⟨W.heap.size, bS1.lt, heap_alloc_new _ _, rfl⟩
  case body =>
    rintro l pre x a' W hl ⟨r, hr⟩ ⟨⟨v, bS1, hrow, _⟩, hB1⟩ ⟨Bx, hBx, b2, rfl⟩ hlt
    obtain ⟨k, q, o, lg, t, b, hg⟩ : ∃ k q o lg t b, got x.1.2.2 = (k, q, o, lg, t, b) := ⟨_, _, _, _, _, _, rfl⟩
    have pg := get_any x.1.2.2 (by have := x.2; omega) W k q o lg t b hg
    have h1' : 1 ≤ n - 1 - 1 := by omega
    have hlen2 := spots_len pre
    cases b with
    | false =>
      gi_wp2_with (first
        | (refine ⟨trivial, ?_⟩; gi_at_call 9; refine (CallsIn.inRound l (callsIn_wide.2 pg)).mono ?_; rintro e w1 ⟨rfl, hb⟩)
        | (refine wpListIn_store_row rfl 24 (.tmp 6) (.tmp 15) rfl w1.heap.size (pcells k q o lg t) rfl rfl 24 zpage (heap_alloc_new _ _) (by rw [size24]; rfl) rfl (pcells_one _ _ _ _ _) ?_; rw [World.setRow_alloc_new]))
      have hsp : spots (pre ++ [x]) = spots pre := by rw [spots_snoc]; unfold spotOf; rw [hg]; simp
      exact ⟨((keepsOthers_of_below hb).trans (KeepsOthers.alloc _ _)).from _, Kp_t (Kp_below hB1.size hb) (Kp_alloc _ (Nat.le_trans hB1.size hb.size) _), ⟨v, (Boxed.alloc ((hb.block _ bS1.lt).trans bS1) _), by rw [hsp]; exact (row_below hrow hb).alloc _, trivial⟩, (hB1.trans (hb.mono hB1.size)).alloc (Nat.le_trans hB1.size hb.size) _⟩
    | true =>
      gi_wp2_with (first
        | (refine ⟨trivial, ?_⟩; gi_at_call 9; refine (CallsIn.inRound l (callsIn_wide.2 pg)).mono ?_; rintro e w1 ⟨rfl, hb⟩; have hF := BF.first bS1 b2 hb k q o lg t; have f0 := hF.s.cell; have f1 := hF.p0; have f2 := hF.p1; have f3 := hF.p2; have f4 := hF.p3; have f5 := hF.p4; have f6 := hF.b0; have f7 := hF.b1; have hrow2 := (row_below hrow hb).alloc (.cells (pcells k q o lg t) 24); have hsz2 : (w1.alloc (.cells (pcells k q o lg t) 24)).heap.size = w1.heap.size + 1 := (by simp); have hsz3 := Nat.le_trans hB1.size hb.size)
        | (refine wpListIn_store_row rfl 24 (.tmp 6) (.tmp 15) rfl w1.heap.size (pcells k q o lg t) rfl rfl 24 zpage (heap_alloc_new _ _) (by rw [size24]; rfl) rfl (pcells_one _ _ _ _ _) ?_; rw [World.setRow_alloc_new])
        | (gi_at_builtin
           refine wpListIn_append_own _ rfl _ _ 47 rfl w.heap.size 49 i0 _ 7 64 Try.underlying47 hi hz0 hz1 hz2 rfl (by decide) _ _ _ rfl (hrow2.alloc _) ⟨w1.heap.size + 1, 0, none⟩ 1 1 (cells1 (x.1.1, x.1.2.1, k, q, o, lg, t)) rfl rfl (fun j u hj => by have := row_new (w1.alloc (.cells (pcells k q o lg t) 24)) #[.int .i64 x.1.1, .int .i64 x.1.2.1, .int .i64 k, .int .i64 q, .int .i64 o, .int .i64 lg, .string t] 49 j u hj; rwa [hsz2] at this) (by simp [cells1, Value.oneCell']) (by unfold maxLen; omega) (by omega) (by simp; omega) ?_
           intro v' w2 hown' hgrow _
           obtain ⟨g', cap', rfl⟩ := ownsRow_succ hown'
           obtain ⟨hv1, hv2, hr2, hk2, hb2⟩ := hF.s.appended (by decide) hrow2 (by simp; omega) (Nat.le_refl _) hown' hgrow
           have hc1 := hv1.cell
           have hf1 := hv1.frozen))
      have hsp : spots (pre ++ [x]) = spots pre ++ [(x.1.1, x.1.2.1, k, q, o, lg, t)] := by rw [spots_snoc]; unfold spotOf; rw [hg]; simp
      refine ⟨(((keepsOthers_of_below hb).trans (KeepsOthers.alloc _ _)).trans hk2).from _, Kp_t (Kp_t (Kp_below hB1.size hb) (Kp_alloc _ (Nat.le_trans hB1.size hb.size) (.cells (pcells k q o lg t) 24))) ⟨hb2, hk2.size, fun u hu => ?_⟩, ⟨_, hv2, by rw [hsp, List.length_append, cellsOf_snoc]; exact hr2, trivial⟩, ((hB1.trans (hb.mono hB1.size)).alloc (Nat.le_trans hB1.size hb.size) _).trans hb2⟩
      exact ((hu.alloc _).kept hgrow (hu.not_row (by decide) hrow2)).other (by omega) _
  case done =>
    rintro D ys W hD rfl ⟨⟨v, hv, hrow, _⟩, hB⟩ hK
    have hc := hv.cell
    gi_wp2
    refine ⟨by simp, .inl ⟨_, _, rfl, run_takeDeferred hK, ?_⟩⟩
    exact ⟨_, results_tmp rfl _ _ _, v, rfl, ownsRow_putObj hrow _ hK rfl, hB.trans (belowK_b (w := w) (Nat.le_refl _) W D _ _ (by omega) hK rfl rfl)⟩
  case stop =>
    rintro D c pre W _ _ h _
    exact h.elim
end Go.Proofs.Ytobkeakbahkglaa.PageL
