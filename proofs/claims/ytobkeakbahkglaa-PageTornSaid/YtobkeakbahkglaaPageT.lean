/- PageTorn: a page in which one byte behind its length is another one, or that is cut, is none. -/
import Derived.Test.YtobkeakbahkglaaPageX
import Derived.Test.YtobkeakbahkglaaRowP
import Derived.Lib.ConvBytes
import Derived.Laws.BytesArg
import Derived.Laws.CopyRow
set_option linter.unusedVariables false
namespace Go.Proofs.Ytobkeakbahkglaa.PageT
open Go.RowKit Go.Proofs.YtobkeakbahkglaaW.PrintWords Go.Proofs.YtobkeakbahkglaaW.PrintLast Go.Proofs.Ytobkeakbahkglaa.WireM Go.Proofs.Ytobkeakbahkglaa.WireP Go.Proofs.Ytobkeakbahkglaa.PageM Go.Proofs.Ytobkeakbahkglaa.PageN Go.Proofs.Ytobkeakbahkglaa.PageG Go.Proofs.Ytobkeakbahkglaa.PageP Go.Proofs.Ytobkeakbahkglaa.PageX Go.Proofs.Ytobkeakbahkglaa.RowP
open Go.Proofs.Ytobkeakbahkglaa.CrcM (le4 ofL le4_inj ofL_lt ofL_byte)

def dnums (s : ByteArray) : List Int := s.data.toList.map fun b => (b.toNat : Int)
theorem dnums_length (s : ByteArray) : (dnums s).length = s.size := by unfold dnums; rw [List.length_map, Array.length_toList]; rfl
theorem dnums_str (s : ByteArray) : strOfNums (dnums s) = s := by
  apply ByteArray.ext
  apply Array.ext'
  rw [strOfNums_data, dnums, List.map_map]
  have : ((fun n : Int => UInt8.ofNat n.toNat) ∘ fun b : UInt8 => (b.toNat : Int)) = id := by
    funext b
    simp
  rw [this, List.map_id]
theorem dnums_get (s : ByteArray) (i : Nat) (h : i < s.size) : (dnums s).getD i 0 = (s[i].toNat : Int) := by
  have h' : i < s.data.size := h
  have h2 : i < s.data.toList.length := by simpa using h'
  unfold dnums
  rw [List.getD_eq_getElem?_getD, List.getElem?_map, List.getElem?_eq_getElem h2]
  rfl
/-- The bytes of a block of a digest's cells, as a string. -/
theorem bytesWorld_below (W : World) (e : TypeId) (p : ByteArray) : Below W.heap.size W (Lib.bytesWorld W e p) :=
  ⟨rfl, rfl, rfl, by rw [Lib.bytesWorld_size]; omega, fun k hk => Lib.bytesWorld_at_old W e p k hk⟩
theorem split_at {a b p : List UInt8} {x : UInt8} {q : List UInt8} (h : a ++ b = p ++ x :: q) (hl : a.length ≤ p.length) : p = a ++ p.drop a.length ∧ b = p.drop a.length ++ x :: q := by
  have h1 : p.take a.length = a := by
    have := congrArg (List.take a.length) h
    rw [List.take_left, List.take_append_of_le_length hl] at this
    exact this.symm
  have h2 : p = a ++ p.drop a.length := by
    conv => lhs; rw [← List.take_append_drop a.length p, h1]
  refine ⟨h2, ?_⟩
  rw [h2, List.append_assoc] at h
  exact List.append_cancel_left h
theorem torn_none (t : List UInt8) (h : t.length ≤ maxN) (p q : List UInt8) (x y : UInt8) (hf : frame t = p ++ x :: q) (hp : (numB t.length).length ≤ p.length) (hxy : x ≠ y) : getFrame (p ++ y :: q) = none := by
  cases hg : getFrame (p ++ y :: q) with
  | none => rfl
  | some z =>
    exfalso
    obtain ⟨t', r⟩ := z
    obtain ⟨h1, h2⟩ := getFrame_some hg
    unfold frame text at hf h1
    rw [List.append_assoc] at hf
    obtain ⟨e1, e2⟩ := split_at hf hp
    have hn' : t'.length ≤ maxN := by unfold maxN; omega
    have hlen : t'.length = t.length := by
      have g1 : getNum (p ++ y :: q) = some (t.length, p.drop (numB t.length).length ++ y :: q) := by
        conv => lhs; rw [e1, List.append_assoc]
        exact getNum_numB h _
      rw [← h1, List.append_assoc, List.append_assoc, getNum_numB hn'] at g1
      simp only [Option.some.injEq, Prod.mk.injEq] at g1
      exact g1.1
    rw [hlen, List.append_assoc, List.append_assoc, e1, List.append_assoc] at h1
    have h3 := List.append_cancel_left h1
    clear h1 hg
    generalize hs : p.drop (numB t.length).length = s at e1 e2 h3
    -- t ++ c = s ++ x :: q, t' ++ (c' ++ r) = s ++ y :: q
    have hr : r = [] := by
      have l1 := congrArg List.length e2
      have l2 := congrArg List.length h3
      simp only [List.length_append, List.length_cons, le4_length] at l1 l2
      exact List.eq_nil_of_length_eq_zero (by omega)
    subst hr
    rw [List.append_nil] at h3
    by_cases hc : s.length < t.length
    · have a1 : t = s ++ x :: q.take (t.length - s.length - 1) := by
        have := congrArg (List.take t.length) e2
        rw [List.take_left, List.take_append, List.take_of_length_le (by omega), show t.length - s.length = (t.length - s.length - 1) + 1 by omega, List.take_succ_cons] at this
        exact this
      have a2 : t' = s ++ y :: q.take (t.length - s.length - 1) := by
        have := congrArg (List.take t.length) h3
        rw [← hlen, List.take_left, hlen, List.take_append, List.take_of_length_le (by omega), show t.length - s.length = (t.length - s.length - 1) + 1 by omega, List.take_succ_cons] at this
        exact this
      have b1 : le4 (ofL (numB t.length ++ t)) = q.drop (t.length - s.length - 1) := by
        have := congrArg (List.drop t.length) e2
        rw [List.drop_left, List.drop_append, List.drop_of_length_le (by omega), List.nil_append, show t.length - s.length = (t.length - s.length - 1) + 1 by omega, List.drop_succ_cons] at this
        exact this
      have b2 : le4 (ofL (numB t.length ++ t')) = q.drop (t.length - s.length - 1) := by
        have := congrArg (List.drop t.length) h3
        rw [← hlen, List.drop_left, hlen, List.drop_append, List.drop_of_length_le (by omega), List.nil_append, show t.length - s.length = (t.length - s.length - 1) + 1 by omega, List.drop_succ_cons] at this
        exact this
      have b3 := le4_inj (ofL_lt _) (ofL_lt _) (b1.trans b2.symm)
      have c1 : numB t.length ++ t = (numB t.length ++ s) ++ x :: q.take (t.length - s.length - 1) := by
        rw [List.append_assoc, ← a1]
      have c2 : numB t.length ++ t' = (numB t.length ++ s) ++ y :: q.take (t.length - s.length - 1) := by
        rw [List.append_assoc, ← a2]
      rw [c1, c2] at b3
      exact ofL_byte _ _ hxy b3
    · obtain ⟨s1, s2⟩ := split_at e2 (by omega)
      obtain ⟨s3, s4⟩ := split_at h3 (by omega)
      have et : t' = t := by
        have k1 := congrArg (List.take t.length) s1
        have k2 := congrArg (List.take t.length) s3
        rw [List.take_left] at k1
        rw [← hlen, List.take_left, hlen] at k2
        rw [← k2, k1]
      subst et
      rw [s2] at s4
      have := List.append_cancel_left s4
      exact hxy (by simpa using this)
theorem frozen_bytes (w : World) (e : TypeId) (s : ByteArray) (k : Nat) (h : k < s.size) : (Lib.bytesWorld w e s).frozen? ⟨w.heap.size, k, none⟩ = false := by
  have hz : s.size ≤ (Lib.bytesCells w e s).size := by
    have : (s.data.map fun b => Value.int .u8 b.toNat).size = s.size := by rw [Array.size_map]; rfl
    unfold Lib.bytesCells
    rw [Array.size_append, this]
    omega
  simp only [World.frozen?, Lib.bytesWorld_at_new]
  simp
  omega
/-- The torn string. -/
def tornL (l : List UInt8) (k : Nat) (y : UInt8) : List UInt8 := l.take k ++ y :: l.drop (k + 1)
theorem tornL_get (l : List UInt8) (k : Nat) (y : UInt8) (h : k < l.length) (i : Nat) : (tornL l k y).getD i 0 = if i = k then y else l.getD i 0 := by
  unfold tornL
  simp only [List.getD_eq_getElem?_getD, List.getElem?_append, List.length_take]
  by_cases h1 : i < k
  · rw [if_pos (by omega), if_neg (by omega), List.getElem?_take_of_lt h1]
  · rw [if_neg (by omega)]
    by_cases h2 : i = k
    · subst h2
      rw [if_pos rfl, show i - min i l.length = 0 by omega]
      rfl
    · rw [if_neg h2, show i - min k l.length = (i - k - 1) + 1 by omega, List.getElem?_cons_succ, List.getElem?_drop, show k + 1 + (i - k - 1) = i by omega]
theorem tornL_len (l : List UInt8) (k : Nat) (y : UInt8) (h : k < l.length) : (tornL l k y).length = l.length := by
  unfold tornL
  simp only [List.length_append, List.length_cons, List.length_take, List.length_drop]
  omega
theorem getD_L (s : ByteArray) (i : Nat) : s.data.toList.getD i 0 = (L s).getD i 0 := rfl
theorem conv_torn (w4 : World) (g c : Nat) (bf : ByteArray) (k : Nat) (hk : k < bf.size) (y : UInt8) (hcells : ∀ j, j < bf.size → w4.cell? ⟨g, j, none⟩ = some (.int .u8 ((bf.data.toList.getD j 0).toNat : Int))) :
    (convert 39 9 (.slice (some ⟨g, 0, none⟩) bf.size c)).run Try.prog (w4.setCell ⟨g, k, none⟩ (.int .u8 (y.toNat : Int))) = .ok (.string (B (tornL (L bf) k y))) (w4.setCell ⟨g, k, none⟩ (.int .u8 (y.toNat : Int))) := by
  have hkl : k < (L bf).length := by rw [← size_L]; exact hk
  have h := run_convert_bytes_arg (P := Try.prog) (w4.setCell ⟨g, k, none⟩ (.int .u8 (y.toNat : Int))) 39 5 Try.underlying39 Try.underlying5 g 0 bf.size c (dnums (B (tornL (L bf) k y))) (by rw [dnums_length, size_L, L_B, tornL_len _ _ _ hkl, ← size_L]) (fun i hi => by
    have hi2 : i < (B (tornL (L bf) k y)).size := by rw [size_L, L_B, tornL_len _ _ _ hkl, ← size_L]; exact hi
    have e : ((B (tornL (L bf) k y))[i] : UInt8) = (tornL (L bf) k y).getD i 0 := by
      have hi3 : i < (tornL (L bf) k y).length := by rw [tornL_len _ _ _ hkl, ← size_L]; exact hi
      rw [List.getD_eq_getElem?_getD, List.getElem?_eq_getElem hi3]
      rfl
    rw [dnums_get _ i hi2, e, tornL_get _ _ _ hkl, Nat.zero_add]
    by_cases h2 : i = k
    · subst h2
      rw [if_pos rfl]
      exact World.cell?_setCell_same _ _ _ (hcells i hi)
    · rw [if_neg h2, World.cell?_setCell_other _ _ _ _ (by intro e; simp only [Addr.mk.injEq] at e; omega)]
      exact hcells i hi) 9 Try.underlying9
  rwa [dnums_str] at h
theorem cut_none (t : List UInt8) (h : t.length ≤ 5000) (k : Nat) (hk : k < (frame t).length) : getFrame ((frame t).take k) = none := by
  cases hg : getFrame ((frame t).take k) with
  | none => rfl
  | some z =>
    exfalso
    obtain ⟨t', r'⟩ := z
    obtain ⟨h1, h2⟩ := getFrame_some hg
    have h3 : frame t = frame t' ++ (r' ++ (frame t).drop k) := by
      rw [← List.append_assoc, h1, List.take_append_drop]
    have h4 := getFrame_frame t [] h
    rw [List.append_nil, h3, getFrame_frame t' _ h2] at h4
    simp only [Option.some.injEq, Prod.mk.injEq, List.append_eq_nil_iff] at h4
    have h5 := congrArg List.length h4.2.2
    rw [List.length_drop] at h5
    simp at h5
    omega
theorem got_of_none {b : ByteArray} (h : getFrame (L b) = none) : got b = (0, 0, 0, 0, ⟨#[]⟩, false) := by
  unfold got
  rw [h]
  rfl
set_option maxHeartbeats 4000000 in
set_option maxRecDepth 100000 in
theorem torn_any (k s o l : Int) (t : ByteArray) (i : Int) (b : Int) (hbw : (Lit.int .u8 b).wf = true) (w : World) : Calls Try.prog 5 #[.agg #[.int .i64 k, .int .i64 s, .int .i64 o, .int .i64 l, .string t], .int .i64 i, .int .u8 b] w fun e w' => e = .returned (.bool true) ∧ Below w.heap.size w w' := by
  have hp0 : PB (w.alloc (.cells (pcells k s o l t) 24)) w.heap.size k s o l t := heap_alloc_new _ _
  have hB0 : Below w.heap.size w (w.alloc (.cells (pcells k s o l t) 24)) := (Below.refl _ _).alloc (Nat.le_refl _) _
  have cP := put_any k s o l t
  have eF : PageM.put k s o l t = if valid k s o l t = true then B (frame (body k s o l t)) else ⟨#[]⟩ := rfl
  have zF := put_size k s o l t
  generalize PageM.put k s o l t = bf at cP eF zF
  by_cases c1 : 400 < t.size
  · have q1 : decide (400 < (t.size : Int)) = true := decide_eq_true (by omega)
    have q2 : decide (400 < t.size) = true := decide_eq_true c1
    clear c1 eF zF hbw
    go_enter Try.func5, Try.ntmps5
    go_wp2_with fail
    refine (PageX.works_any _).mono ?_
    rintro e w1 ⟨rfl, hb1⟩
    have hp := hp0.below hb1
    have hB := hB0.trans (hb1.mono hB0.size)
    have c0 := hp.c0
    have c1 := hp.c1
    have c2 := hp.c2
    have c3 := hp.c3
    have c4 := hp.c4
    clear hb1
    go_wp2_with fail
    refine (cP _).mono ?_
    rintro e w2 ⟨rfl, hb2⟩
    clear c0 c1 c2 c3 c4
    have c4 := (hp.below hb2).c4
    have hB2 := hB.trans (hb2.mono hB.size)
    clear hp hB hb2 hp0 hB0
    go_wp2_with fail
    go_ret
    exact ⟨rfl, hB2⟩
  have q1 : decide (400 < (t.size : Int)) = false := decide_eq_false (by omega)
  have q2 : decide (400 < t.size) = false := decide_eq_false c1
  by_cases c2 : i < 2
  · have q3 : decide (i < 2) = true := decide_eq_true c2
    clear c1 eF zF hbw
    go_enter Try.func5, Try.ntmps5
    go_wp2_with fail
    refine (PageX.works_any _).mono ?_
    rintro e w1 ⟨rfl, hb1⟩
    have hp := hp0.below hb1
    have hB := hB0.trans (hb1.mono hB0.size)
    have c0 := hp.c0
    have c1 := hp.c1
    have c2 := hp.c2
    have c3 := hp.c3
    have c4 := hp.c4
    clear hb1
    go_wp2_with fail
    refine (cP _).mono ?_
    rintro e w2 ⟨rfl, hb2⟩
    clear c0 c1 c2 c3 c4
    have c4 := (hp.below hb2).c4
    have hB2 := hB.trans (hb2.mono hB.size)
    clear hp hB hb2 hp0 hB0
    go_wp2_with fail
    go_ret
    exact ⟨rfl, hB2⟩
  have q3 : decide (i < 2) = false := decide_eq_false c2
  by_cases c3 : (bf.size : Int) ≤ i
  · have q4 : decide ((bf.size : Int) ≤ i) = true := decide_eq_true c3
    clear c1 eF zF hbw
    go_enter Try.func5, Try.ntmps5
    go_wp2_with fail
    refine (PageX.works_any _).mono ?_
    rintro e w1 ⟨rfl, hb1⟩
    have hp := hp0.below hb1
    have hB := hB0.trans (hb1.mono hB0.size)
    have c0 := hp.c0
    have c1 := hp.c1
    have c2 := hp.c2
    have c3 := hp.c3
    have c4 := hp.c4
    clear hb1
    go_wp2_with fail
    refine (cP _).mono ?_
    rintro e w2 ⟨rfl, hb2⟩
    clear c0 c1 c2 c3 c4
    have c4 := (hp.below hb2).c4
    have hB2 := hB.trans (hb2.mono hB.size)
    clear hp hB hb2 hp0 hB0
    go_wp2_with fail
    go_ret
    exact ⟨rfl, hB2⟩
  have q4 : decide ((bf.size : Int) ≤ i) = false := decide_eq_false c3
  by_cases c9 : b = 0
  · subst c9
    clear c1 eF zF hbw
    go_enter Try.func5, Try.ntmps5
    go_wp2_with fail
    refine (PageX.works_any _).mono ?_
    rintro e w1 ⟨rfl, hb1⟩
    have hp := hp0.below hb1
    have hB := hB0.trans (hb1.mono hB0.size)
    have c0 := hp.c0
    have c1 := hp.c1
    have c2 := hp.c2
    have c3 := hp.c3
    have c4 := hp.c4
    clear hb1
    go_wp2_with fail
    refine (cP _).mono ?_
    rintro e w2 ⟨rfl, hb2⟩
    clear c0 c1 c2 c3 c4
    have c4 := (hp.below hb2).c4
    have hB2 := hB.trans (hb2.mono hB.size)
    clear hp hB hb2 hp0 hB0
    go_wp2_with fail
    go_ret
    exact ⟨rfl, hB2⟩
  · have q5 : decide (b = 0) = false := decide_eq_false c9
    have q6 : (b == 0) = false := by simpa using c9
    obtain ⟨j, rfl⟩ : ∃ j : Nat, i = (j : Int) := ⟨i.toNat, by omega⟩
    have hk : j < bf.size := by omega
    have hv : valid k s o l t = true := by
      cases hv : valid k s o l t with
      | true => rfl
      | false =>
        rw [hv, if_neg (by decide)] at eF
        rw [eF] at hk
        have h0 : (⟨#[]⟩ : ByteArray).size = 0 := rfl
        omega
    rw [if_pos hv] at eF
    go_enter Try.func5, Try.ntmps5
    go_wp2_with fail
    refine (PageX.works_any _).mono ?_
    rintro e w1 ⟨rfl, hb1⟩
    have hp := hp0.below hb1
    have hB := hB0.trans (hb1.mono hB0.size)
    have c0 := hp.c0
    have c1 := hp.c1
    have c2 := hp.c2
    have c3 := hp.c3
    have c4 := hp.c4
    clear hb1
    go_wp2_with fail
    refine (cP _).mono ?_
    rintro e w2 ⟨rfl, hb2⟩
    clear c0 c1 c2 c3 c4
    have c4 := (hp.below hb2).c4
    have hB2 := hB.trans (hb2.mono hB.size)
    clear hp hB hb2 hp0 hB0
    have hc := Lib.run_convert_string_bytes (P := Try.prog) w2 9 39 5 bf Try.underlying9 Try.underlying39 Try.underlying5
    have hcell := Lib.bytesWorld_cell w2 5 bf j hk
    have hfr := frozen_bytes w2 5 bf j hk
    have hcells := fun i hi => Lib.bytesWorld_cell w2 5 bf i hi
    have hb4 := bytesWorld_below w2 5 bf
    generalize Lib.bytesWorld w2 5 bf = w4 at hc hcell hfr hcells hb4
    obtain ⟨m, rfl, hm⟩ : ∃ m : Nat, b = (m : Int) ∧ m < 256 := by
      simp [Lit.wf, IntKind.min, IntKind.max, IntKind.signed, IntKind.bits] at hbw
      exact ⟨b.toNat, by omega, by omega⟩
    have hkl : j < (L bf).length := by rw [← size_L]; exact hk
    have hx : bits .xor .u8 ((bf.data[j]'hk).toNat : Int) (m : Int) = (((L bf)[j] ^^^ UInt8.ofNat m).toNat : Int) := by
      rw [u8_xor_nat _ _ (bf.data[j]'hk).toNat_lt hm, UInt8.toNat_xor, UInt8.toNat_ofNat', Nat.mod_eq_of_lt hm]
      rfl
    have hc2 := conv_torn w4 w2.heap.size (grownCap w2 bf.size 0 5) bf j hk ((L bf)[j] ^^^ UInt8.ofNat m) hcells
    have hne : (L bf)[j] ≠ (L bf)[j] ^^^ UInt8.ofNat m := by
      intro e
      have h1 := congrArg UInt8.toNat e
      rw [UInt8.toNat_xor, UInt8.toNat_ofNat', Nat.mod_eq_of_lt hm] at h1
      have h2 : m = 0 := by
        have h3 := congrArg (fun z => (L bf)[j].toNat ^^^ z) h1
        simp only [← Nat.xor_assoc, Nat.xor_self, Nat.zero_xor] at h3
        exact h3.symm
      exact c9 (by rw [h2]; rfl)
    have hLb : L bf = frame (body k s o l t) := by rw [eF, L_B]
    have hbl := body_len hv
    have hn2 := numB_le1 (body k s o l t).length (by omega)
    have hnone : getFrame (tornL (L bf) j ((L bf)[j] ^^^ UInt8.ofNat m)) = none := by
      refine torn_none (body k s o l t) (by unfold maxN; omega) _ _ (L bf)[j] _ ?_ ?_ hne
      · rw [← hLb, List.getElem_cons_drop, List.take_append_drop]
      · rw [List.length_take]
        omega
    have cG := fun W => get_any (B (tornL (L bf) j ((L bf)[j] ^^^ UInt8.ofNat m))) (by rw [size_L, L_B, tornL_len _ _ _ hkl, ← size_L]; omega) W 0 0 0 0 ⟨#[]⟩ false (got_of_none (by rw [L_B, hnone]))
    have hcut : got (bf.extract 0 j) = (0, 0, 0, 0, ⟨#[]⟩, false) := by
      refine got_of_none ?_
      rw [L_extract, List.drop_zero, Nat.sub_zero, hLb]
      exact cut_none _ (by omega) j (by rw [← hLb]; exact hkl)
    have cC := fun W => get_any (bf.extract 0 j) (by rw [ByteArray.size_extract]; omega) W 0 0 0 0 ⟨#[]⟩ false hcut
    clear hnone hne hcells hcut hLb
    generalize (L bf)[j] ^^^ UInt8.ofNat m = y at hx hc2 cG
    generalize B (tornL (L bf) j y) = tb at hc2 cG
    have HB5 : Below w.heap.size w (w4.setCell ⟨w2.heap.size, j, none⟩ (.int .u8 (y.toNat : Int))) := (hB2.trans (hb4.mono hB2.size)).setCell (hB2.size) _
    clear hb4 eF zF hB2 hbl hn2 hkl hv
    go_wp2_with fail
    refine (cG _).mono ?_
    rintro e w5 ⟨rfl, hb5⟩
    have HB6 := HB5.trans (hb5.mono HB5.size)
    clear hb5 HB5
    have hA := HB6.alloc HB6.size (.cells zpage 24)
    go_wp2_with (refine wpList_store_row rfl 24 (.tmp 10) (.tmp 53) rfl w5.heap.size zpage rfl rfl 24 zpage (heap_alloc_new _ _) (by rw [size24]; rfl) rfl (pcells_one _ _ _ _ _) ?_; rw [World.setRow_alloc_new])
    refine (cC _).mono ?_
    rintro e w6 ⟨rfl, hb6⟩
    have HB7 := hA.trans (hb6.mono hA.size)
    clear hb6 hA HB6
    go_wp2_with (refine wpList_store_row rfl 24 (.tmp 12) (.tmp 60) rfl w6.heap.size zpage rfl rfl 24 zpage (heap_alloc_new _ _) (by rw [size24]; rfl) rfl (pcells_one _ _ _ _ _) ?_; rw [World.setRow_alloc_new])
    go_ret
    exact ⟨rfl, HB7.alloc HB7.size _⟩
theorem torn_row {v0 : Value} (a : Pag) (h : PageArg v0 a) (i : Int) (_ : (Lit.int .i64 i).wf = true) (b : Int) (hb : (Lit.int .u8 b).wf = true) (W : World) : Calls Try.prog 5 #[v0, .int .i64 i, .int .u8 b] W fun e w' => e = .returned (.bool true) ∧ Below W.heap.size W w' := by
  unfold PageArg at h
  subst h
  exact torn_any _ _ _ _ _ i b hb W
end Go.Proofs.Ytobkeakbahkglaa.PageT
