/- A frame in which one byte behind its length is another one is none: the plain law, and the walk of WireTorn. -/
import Derived.Test.YtgdhbmdhgejnkaaWireB
namespace Go.Proofs.Ytgdhbmdhgejnkaa.WireX
open Go.RowKit Go.Proofs.Ytgdhbmdhgejnkaa.Fn Go.Proofs.YtgdhbmdhgejnkaaW.PrintWords Go.Proofs.YtgdhbmdhgejnkaaW.PrintLast Go.Proofs.Ytgdhbmdhgejnkaa.WireD Go.Proofs.Ytgdhbmdhgejnkaa.WireM Go.Proofs.Ytgdhbmdhgejnkaa.WireP Go.Proofs.Ytgdhbmdhgejnkaa.WireC Go.Proofs.Ytgdhbmdhgejnkaa.WireO Go.Proofs.Ytgdhbmdhgejnkaa.WireB
open Go.Proofs.Ytgdhbmdhgejnkaa.CrcM (le4 ofL le4_inj ofL_lt ofL_byte)

theorem split_at {a b p : List UInt8} {x : UInt8} {q : List UInt8} (h : a ++ b = p ++ x :: q) (hl : a.length ≤ p.length) : p = a ++ p.drop a.length ∧ b = p.drop a.length ++ x :: q := by
  have h1 : p.take a.length = a := by
    have := congrArg (List.take a.length) h
    rw [List.take_left, List.take_append_of_le_length hl] at this
    exact this.symm
  have h2 : p = a ++ p.drop a.length := by
    conv => lhs; rw [← List.take_append_drop a.length p, h1]
  refine ⟨h2, ?_⟩
  rw [h2, List.append_assoc] at h
  exact List.append_cancel_left h
theorem torn_none (t : List UInt8) (h : t.length ≤ maxN) (p q : List UInt8) (x y : UInt8) (hf : frame t = p ++ x :: q) (hp : (numB t.length).length ≤ p.length) (hxy : x ≠ y) : getFrame (p ++ y :: q) = none := by
  cases hg : getFrame (p ++ y :: q) with
  | none => rfl
  | some z =>
    exfalso
    obtain ⟨t', r⟩ := z
    obtain ⟨h1, h2⟩ := getFrame_some hg
    unfold frame text at hf h1
    rw [List.append_assoc] at hf
    obtain ⟨e1, e2⟩ := split_at hf hp
    have hn' : t'.length ≤ maxN := by unfold maxN; omega
    have hlen : t'.length = t.length := by
      have g1 : getNum (p ++ y :: q) = some (t.length, p.drop (numB t.length).length ++ y :: q) := by
        conv => lhs; rw [e1, List.append_assoc]
        exact getNum_numB h _
      rw [← h1, List.append_assoc, List.append_assoc, getNum_numB hn'] at g1
      simp only [Option.some.injEq, Prod.mk.injEq] at g1
      exact g1.1
    rw [hlen, List.append_assoc, List.append_assoc, e1, List.append_assoc] at h1
    have h3 := List.append_cancel_left h1
    clear h1 hg
    generalize hs : p.drop (numB t.length).length = s at e1 e2 h3
    -- t ++ c = s ++ x :: q, t' ++ (c' ++ r) = s ++ y :: q
    have hr : r = [] := by
      have l1 := congrArg List.length e2
      have l2 := congrArg List.length h3
      simp only [List.length_append, List.length_cons, le4_length] at l1 l2
      exact List.eq_nil_of_length_eq_zero (by omega)
    subst hr
    rw [List.append_nil] at h3
    by_cases hc : s.length < t.length
    · have a1 : t = s ++ x :: q.take (t.length - s.length - 1) := by
        have := congrArg (List.take t.length) e2
        rw [List.take_left, List.take_append, List.take_of_length_le (by omega), show t.length - s.length = (t.length - s.length - 1) + 1 by omega, List.take_succ_cons] at this
        exact this
      have a2 : t' = s ++ y :: q.take (t.length - s.length - 1) := by
        have := congrArg (List.take t.length) h3
        rw [← hlen, List.take_left, hlen, List.take_append, List.take_of_length_le (by omega), show t.length - s.length = (t.length - s.length - 1) + 1 by omega, List.take_succ_cons] at this
        exact this
      have b1 : le4 (ofL (numB t.length ++ t)) = q.drop (t.length - s.length - 1) := by
        have := congrArg (List.drop t.length) e2
        rw [List.drop_left, List.drop_append, List.drop_of_length_le (by omega), List.nil_append, show t.length - s.length = (t.length - s.length - 1) + 1 by omega, List.drop_succ_cons] at this
        exact this
      have b2 : le4 (ofL (numB t.length ++ t')) = q.drop (t.length - s.length - 1) := by
        have := congrArg (List.drop t.length) h3
        rw [← hlen, List.drop_left, hlen, List.drop_append, List.drop_of_length_le (by omega), List.nil_append, show t.length - s.length = (t.length - s.length - 1) + 1 by omega, List.drop_succ_cons] at this
        exact this
      have b3 := le4_inj (ofL_lt _) (ofL_lt _) (b1.trans b2.symm)
      have c1 : numB t.length ++ t = (numB t.length ++ s) ++ x :: q.take (t.length - s.length - 1) := by
        rw [List.append_assoc, ← a1]
      have c2 : numB t.length ++ t' = (numB t.length ++ s) ++ y :: q.take (t.length - s.length - 1) := by
        rw [List.append_assoc, ← a2]
      rw [c1, c2] at b3
      exact ofL_byte _ _ hxy b3
    · obtain ⟨s1, s2⟩ := split_at e2 (by omega)
      obtain ⟨s3, s4⟩ := split_at h3 (by omega)
      have et : t' = t := by
        have k1 := congrArg (List.take t.length) s1
        have k2 := congrArg (List.take t.length) s3
        rw [List.take_left] at k1
        rw [← hlen, List.take_left, hlen] at k2
        rw [← k2, k1]
      subst et
      rw [s2] at s4
      have := List.append_cancel_left s4
      exact hxy (by simpa using this)
theorem frozen_bytes (w : World) (e : TypeId) (s : ByteArray) (k : Nat) (h : k < s.size) : (Lib.bytesWorld w e s).frozen? ⟨w.heap.size, k, none⟩ = false := by
  have hz : s.size ≤ (Lib.bytesCells w e s).size := by
    have : (s.data.map fun b => Value.int .u8 b.toNat).size = s.size := by rw [Array.size_map]; rfl
    unfold Lib.bytesCells
    rw [Array.size_append, this]
    omega
  simp only [World.frozen?, Lib.bytesWorld_at_new]
  simp
  omega
/-- The torn string. -/
def tornL (l : List UInt8) (k : Nat) (y : UInt8) : List UInt8 := l.take k ++ y :: l.drop (k + 1)
theorem tornL_get (l : List UInt8) (k : Nat) (y : UInt8) (h : k < l.length) (i : Nat) : (tornL l k y).getD i 0 = if i = k then y else l.getD i 0 := by
  unfold tornL
  simp only [List.getD_eq_getElem?_getD, List.getElem?_append, List.length_take]
  by_cases h1 : i < k
  · rw [if_pos (by omega), if_neg (by omega), List.getElem?_take_of_lt h1]
  · rw [if_neg (by omega)]
    by_cases h2 : i = k
    · subst h2
      rw [if_pos rfl, show i - min i l.length = 0 by omega]
      rfl
    · rw [if_neg h2, show i - min k l.length = (i - k - 1) + 1 by omega, List.getElem?_cons_succ, List.getElem?_drop, show k + 1 + (i - k - 1) = i by omega]
theorem tornL_len (l : List UInt8) (k : Nat) (y : UInt8) (h : k < l.length) : (tornL l k y).length = l.length := by
  unfold tornL
  simp only [List.length_append, List.length_cons, List.length_take, List.length_drop]
  omega
theorem getD_L (s : ByteArray) (i : Nat) : s.data.toList.getD i 0 = (L s).getD i 0 := rfl
theorem conv_torn (w4 : World) (g c : Nat) (bf : ByteArray) (k : Nat) (hk : k < bf.size) (y : UInt8) (hcells : ∀ j, j < bf.size → w4.cell? ⟨g, j, none⟩ = some (.int .u8 ((bf.data.toList.getD j 0).toNat : Int))) :
    (convert 39 9 (.slice (some ⟨g, 0, none⟩) bf.size c)).run Try.prog (w4.setCell ⟨g, k, none⟩ (.int .u8 (y.toNat : Int))) = .ok (.string (B (tornL (L bf) k y))) (w4.setCell ⟨g, k, none⟩ (.int .u8 (y.toNat : Int))) := by
  have hkl : k < (L bf).length := by rw [← size_L]; exact hk
  have h := run_convert_bytes_arg (P := Try.prog) (w4.setCell ⟨g, k, none⟩ (.int .u8 (y.toNat : Int))) 39 5 Try.underlying39 Try.underlying5 g 0 bf.size c (dnums (B (tornL (L bf) k y))) (by rw [dnums_length, size_L, L_B, tornL_len _ _ _ hkl, ← size_L]) (fun i hi => by
    have hi2 : i < (B (tornL (L bf) k y)).size := by rw [size_L, L_B, tornL_len _ _ _ hkl, ← size_L]; exact hi
    have e : ((B (tornL (L bf) k y))[i] : UInt8) = (tornL (L bf) k y).getD i 0 := by
      have hi3 : i < (tornL (L bf) k y).length := by rw [tornL_len _ _ _ hkl, ← size_L]; exact hi
      rw [List.getD_eq_getElem?_getD, List.getElem?_eq_getElem hi3]
      rfl
    rw [dnums_get _ i hi2, e, tornL_get _ _ _ hkl, Nat.zero_add]
    by_cases h2 : i = k
    · subst h2
      rw [if_pos rfl]
      exact World.cell?_setCell_same _ _ _ (hcells i hi)
    · rw [if_neg h2, World.cell?_setCell_other _ _ _ _ (by intro e; simp only [Addr.mk.injEq] at e; omega)]
      exact hcells i hi) 9 Try.underlying9
  rwa [dnums_str] at h
set_option maxHeartbeats 4000000 in
set_option maxRecDepth 100000 in
theorem torn_any (t : ByteArray) (ht : t.size ≤ 140737488351232) (i : Int) (b : Int) (hbw : (Lit.int .u8 b).wf = true) (w : World) : Calls Try.prog 7 #[.string t, .int .i64 i, .int .u8 b] w fun e w' => e = .returned (.bool true) ∧ Below w.heap.size w w' := by
  have HB := Aside0.mk (Below.refl w.heap.size w)
  have hn : t.size ≤ maxN := by unfold maxN; omega
  have cF := frame_calls t hn
  have cN := num_calls (t.size : Int)
  have eF : frame (L t) = L (B (frame (L t))) := rfl
  have eN : (numB (L t).length).length = (B (numB (clampN (t.size : Int)))).size := by
    rw [clampN_in (by omega) (by unfold maxN at hn; omega), B_size, Int.toNat_natCast, ← size_L]
  have zF : (B (frame (L t))).size ≤ t.size + 12 := frame_size t hn
  generalize B (frame (L t)) = bf at cF eF zF
  generalize B (numB (clampN (t.size : Int))) = bn at cN eN
  by_cases c1 : 300 < t.size
  · have q1 : decide (300 < (t.size : Int)) = true := decide_eq_true (by omega); have q2 : decide (300 < t.size) = true := decide_eq_true c1; clear c1 eF eN zF ht hn hbw
    go_enter Try.func7, Try.ntmps7
    go_wp2_with fail
    refine (WireW.works_any _).mono ?_
    rintro e w1 ⟨rfl, hb⟩
    have n0_ := Aside0.mk (below_step (by repeat (first | exact HB.out | apply below_alloc)) hb); clear HB; have HB := n0_; clear n0_; clear hb
    go_wp2_with fail
    refine (cF _).mono ?_
    rintro e w2 ⟨rfl, hb⟩
    have n0_ := Aside0.mk (below_step (by repeat (first | exact HB.out | apply below_alloc)) hb); clear HB; have HB := n0_; clear n0_; clear hb
    go_wp2_with fail
    refine (cN _).mono ?_
    rintro e w3 ⟨rfl, hb⟩
    have n0_ := Aside0.mk (below_step (by repeat (first | exact HB.out | apply below_alloc)) hb); clear HB; have HB := n0_; clear n0_; clear hb
    go_wp2_with fail
    go_ret
    exact ⟨rfl, HB.out⟩
  have q1 : decide (300 < (t.size : Int)) = false := decide_eq_false (by omega)
  have q2 : decide (300 < t.size) = false := decide_eq_false c1
  by_cases c2 : i < (bn.size : Int)
  · have q3 : decide (i < (bn.size : Int)) = true := decide_eq_true c2; clear c1 c2 eF eN zF ht hn hbw
    go_enter Try.func7, Try.ntmps7
    go_wp2_with fail
    refine (WireW.works_any _).mono ?_
    rintro e w1 ⟨rfl, hb⟩
    have n0_ := Aside0.mk (below_step (by repeat (first | exact HB.out | apply below_alloc)) hb); clear HB; have HB := n0_; clear n0_; clear hb
    go_wp2_with fail
    refine (cF _).mono ?_
    rintro e w2 ⟨rfl, hb⟩
    have n0_ := Aside0.mk (below_step (by repeat (first | exact HB.out | apply below_alloc)) hb); clear HB; have HB := n0_; clear n0_; clear hb
    go_wp2_with fail
    refine (cN _).mono ?_
    rintro e w3 ⟨rfl, hb⟩
    have n0_ := Aside0.mk (below_step (by repeat (first | exact HB.out | apply below_alloc)) hb); clear HB; have HB := n0_; clear n0_; clear hb
    go_wp2_with fail
    go_ret
    exact ⟨rfl, HB.out⟩
  have q3 : decide (i < (bn.size : Int)) = false := decide_eq_false c2
  by_cases c3 : (bf.size : Int) ≤ i
  · have q4 : decide ((bf.size : Int) ≤ i) = true := decide_eq_true c3; clear c1 c2 c3 eF eN zF ht hn hbw
    go_enter Try.func7, Try.ntmps7
    go_wp2_with fail
    refine (WireW.works_any _).mono ?_
    rintro e w1 ⟨rfl, hb⟩
    have n0_ := Aside0.mk (below_step (by repeat (first | exact HB.out | apply below_alloc)) hb); clear HB; have HB := n0_; clear n0_; clear hb
    go_wp2_with fail
    refine (cF _).mono ?_
    rintro e w2 ⟨rfl, hb⟩
    have n0_ := Aside0.mk (below_step (by repeat (first | exact HB.out | apply below_alloc)) hb); clear HB; have HB := n0_; clear n0_; clear hb
    go_wp2_with fail
    refine (cN _).mono ?_
    rintro e w3 ⟨rfl, hb⟩
    have n0_ := Aside0.mk (below_step (by repeat (first | exact HB.out | apply below_alloc)) hb); clear HB; have HB := n0_; clear n0_; clear hb
    go_wp2_with fail
    go_ret
    exact ⟨rfl, HB.out⟩
  have q4 : decide ((bf.size : Int) ≤ i) = false := decide_eq_false c3
  by_cases c4 : b = 0
  · subst c4; clear c1 c2 c3 eF eN zF ht hn hbw
    go_enter Try.func7, Try.ntmps7
    go_wp2_with fail
    refine (WireW.works_any _).mono ?_
    rintro e w1 ⟨rfl, hb⟩
    have n0_ := Aside0.mk (below_step (by repeat (first | exact HB.out | apply below_alloc)) hb); clear HB; have HB := n0_; clear n0_; clear hb
    go_wp2_with fail
    refine (cF _).mono ?_
    rintro e w2 ⟨rfl, hb⟩
    have n0_ := Aside0.mk (below_step (by repeat (first | exact HB.out | apply below_alloc)) hb); clear HB; have HB := n0_; clear n0_; clear hb
    go_wp2_with fail
    refine (cN _).mono ?_
    rintro e w3 ⟨rfl, hb⟩
    have n0_ := Aside0.mk (below_step (by repeat (first | exact HB.out | apply below_alloc)) hb); clear HB; have HB := n0_; clear n0_; clear hb
    go_wp2_with fail
    go_ret
    exact ⟨rfl, HB.out⟩
  · have q5 : decide (b = 0) = false := decide_eq_false c4
    have q6 : (b == 0) = false := by simpa using c4
    obtain ⟨k, rfl⟩ : ∃ k : Nat, i = (k : Int) := ⟨i.toNat, by omega⟩
    go_enter Try.func7, Try.ntmps7
    go_wp2_with fail
    refine (WireW.works_any _).mono ?_
    rintro e w1 ⟨rfl, hb⟩
    have n0_ := Aside0.mk (below_step (by repeat (first | exact HB.out | apply below_alloc)) hb); clear HB; have HB := n0_; clear n0_; clear hb
    go_wp2_with fail
    refine (cF _).mono ?_
    rintro e w2 ⟨rfl, hb⟩
    have n0_ := Aside0.mk (below_step (by repeat (first | exact HB.out | apply below_alloc)) hb); clear HB; have HB := n0_; clear n0_; clear hb
    go_wp2_with fail
    refine (cN _).mono ?_
    rintro e w3 ⟨rfl, hb⟩
    have n0_ := Aside0.mk (below_step (by repeat (first | exact HB.out | apply below_alloc)) hb); clear HB; have HB := n0_; clear n0_; clear hb
    have hc := Lib.run_convert_string_bytes (P := Try.prog) w3 9 39 5 bf Try.underlying9 Try.underlying39 Try.underlying5
    have hk : k < bf.size := by omega
    have hcell := Lib.bytesWorld_cell w3 5 bf k hk
    have hfr := frozen_bytes w3 5 bf k hk
    have hcells := fun j hj => Lib.bytesWorld_cell w3 5 bf j hj
    have hb4 := bytesWorld_below w3 5 bf
    generalize Lib.bytesWorld w3 5 bf = w4 at hc hcell hfr hcells hb4
    obtain ⟨m, rfl, hm⟩ : ∃ m : Nat, b = (m : Int) ∧ m < 256 := by
      simp [Lit.wf, IntKind.min, IntKind.max, IntKind.signed, IntKind.bits] at hbw
      exact ⟨b.toNat, by omega, by omega⟩
    have hkl : k < (L bf).length := by rw [← size_L]; exact hk
    have hx : bits .xor .u8 ((bf.data[k]'hk).toNat : Int) (m : Int) = (((L bf)[k] ^^^ UInt8.ofNat m).toNat : Int) := by
      rw [u8_xor_nat _ _ (bf.data[k]'hk).toNat_lt hm, UInt8.toNat_xor, UInt8.toNat_ofNat', Nat.mod_eq_of_lt hm]
      rfl
    have hc2 := conv_torn w4 w3.heap.size (grownCap w3 bf.size 0 5) bf k hk ((L bf)[k] ^^^ UInt8.ofNat m) hcells
    have hne : (L bf)[k] ≠ (L bf)[k] ^^^ UInt8.ofNat m := by
      intro e
      have h1 := congrArg UInt8.toNat e
      rw [UInt8.toNat_xor, UInt8.toNat_ofNat', Nat.mod_eq_of_lt hm] at h1
      have h2 : m = 0 := by
        have h3 := congrArg (fun z => (L bf)[k].toNat ^^^ z) h1
        simp only [← Nat.xor_assoc, Nat.xor_self, Nat.zero_xor] at h3
        exact h3.symm
      exact c4 (by rw [h2]; rfl)
    have hnone : getFrame (tornL (L bf) k ((L bf)[k] ^^^ UInt8.ofNat m)) = none := by
      refine torn_none (L t) (by rw [← size_L]; exact hn) _ _ (L bf)[k] _ ?_ ?_ hne
      · rw [eF, List.getElem_cons_drop, List.take_append_drop]
      · rw [List.length_take, eN]
        omega
    have cG := getframe_calls (B (tornL (L bf) k ((L bf)[k] ^^^ UInt8.ofNat m))) (by rw [size_L, L_B, tornL_len _ _ _ hkl, ← size_L]; omega) ⟨#[]⟩ ⟨#[]⟩ false (by rw [L_B, hnone]; rfl)
    clear hnone hne hcells
    generalize (L bf)[k] ^^^ UInt8.ofNat m = y at hx hc2 cG
    generalize B (tornL (L bf) k y) = tb at hc2 cG
    have HB5 : Below w.heap.size w (w4.setCell ⟨w3.heap.size, k, none⟩ (.int .u8 (y.toNat : Int))) := (below_step HB.out hb4).setCell (HB.out.size) _
    have HB6 := Aside0.mk HB5
    clear HB HB5 hb4 eF eN zF hn c1
    go_wp2_with fail
    refine (cG _).mono ?_
    rintro e w5 ⟨rfl, hb⟩
    have HB7 := Aside0.mk (below_step HB6.out hb)
    clear HB6 hb
    go_wp2_with fail
    go_ret
    exact ⟨rfl, HB7.out⟩
theorem torn_row (t : ByteArray) (ht : t.size ≤ 140737488351232) (i : Int) (_ : (Lit.int .i64 i).wf = true) (b : Int) (hb : (Lit.int .u8 b).wf = true) (w : World) : Calls Try.prog 7 #[.string t, .int .i64 i, .int .u8 b] w fun e w' => e = .returned (.bool true) ∧ Below w.heap.size w w' :=
  torn_any t ht i b hb w
end Go.Proofs.Ytgdhbmdhgejnkaa.WireX
