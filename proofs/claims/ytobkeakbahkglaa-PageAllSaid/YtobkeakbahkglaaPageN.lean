/- Pages, plainly: what is put is got again, and nothing else is. A chip's pages, plainly. -/
import Derived.Test.YtobkeakbahkglaaPageL
set_option linter.unusedVariables false
namespace Go.Proofs.Ytobkeakbahkglaa.PageN
open Go.RowKit Go.Proofs.Ytobkeakbahkglaa.ChipA Go.Proofs.Ytobkeakbahkglaa.ChipC Go.Proofs.Ytobkeakbahkglaa.WireM Go.Proofs.Ytobkeakbahkglaa.WireP Go.Proofs.Ytobkeakbahkglaa.PageM Go.Proofs.Ytobkeakbahkglaa.ChipM Go.Proofs.Ytobkeakbahkglaa.PageE Go.Proofs.Ytobkeakbahkglaa.PageL

theorem clampN_of {n : Int} (h0 : 0 ≤ n) (h1 : n ≤ 1125899906842624) : ((clampN n : Nat) : Int) = n := by
  rw [clampN_in h0 h1]
  omega
theorem inside_body {k s o l : Int} {t : ByteArray} (h : valid k s o l t = true) : inside (body k s o l t) = (k, s, o, l, t, true) := by
  have hv := valid_parts h
  unfold inside body
  rw [List.append_assoc, List.append_assoc, List.append_assoc, getNum_numB (clampN_le k)]
  dsimp only
  rw [getNum_numB (clampN_le s)]
  dsimp only
  rw [getNum_numB (clampN_le o)]
  dsimp only
  rw [getNum_numB (clampN_le l)]
  dsimp only
  rw [clampN_of hv.1.1 (by omega), clampN_of hv.2.1.1 (by omega), clampN_of hv.2.2.1.1 (by omega), clampN_of hv.2.2.2.1.1 (by omega), B_L]
  unfold ofNums
  rw [if_pos h]
theorem body_len {k s o l : Int} {t : ByteArray} (h : valid k s o l t = true) : (body k s o l t).length ≤ 256 := by
  have hv := valid_parts h
  have := body_length k s o l t
  omega
theorem got_put {k s o l : Int} {t : ByteArray} (h : valid k s o l t = true) : got (PageM.put k s o l t) = (k, s, o, l, t, true) := by
  unfold got PageM.put
  have hl := body_len h
  have := getFrame_frame (body k s o l t) [] (by omega)
  rw [List.append_nil] at this
  rw [if_pos h, L_B, this]
  dsimp only
  rw [if_pos rfl, inside_body h]
theorem got_more {k s o l : Int} {t : ByteArray} (h : valid k s o l t = true) {x : List UInt8} (hx : x ≠ []) : got (PageM.put k s o l t ++ B x) = noPage := by
  unfold got PageM.put
  have hl := body_len h
  rw [if_pos h, L_append, L_B, L_B, getFrame_frame (body k s o l t) x (by omega)]
  dsimp only
  rw [if_neg hx]
theorem got_none : got ⟨#[]⟩ = noPage := by
  unfold got
  rw [L_empty]
  rfl
theorem inside_some {t : List UInt8} {k s o l : Int} {r : ByteArray} (h : inside t = (k, s, o, l, r, true)) : valid k s o l r = true ∧ body k s o l r = t := by
  unfold inside at h
  split at h
  · cases h
  · rename_i a t1 e1
    split at h
    · cases h
    · rename_i b t2 e2
      split at h
      · cases h
      · rename_i c t3 e3
        split at h
        · cases h
        · rename_i d t4 e4
          unfold ofNums at h
          split at h
          · rename_i hv
            simp only [Prod.mk.injEq] at h
            obtain ⟨rfl, rfl, rfl, rfl, rfl, _⟩ := h
            refine ⟨hv, ?_⟩
            obtain ⟨f1, g1⟩ := getNum_some e1
            obtain ⟨f2, g2⟩ := getNum_some e2
            obtain ⟨f3, g3⟩ := getNum_some e3
            obtain ⟨f4, g4⟩ := getNum_some e4
            have cl : ∀ n : Nat, n ≤ maxN → clampN (n : Int) = n := fun n hn => by
              unfold maxN at hn
              rw [clampN_in (by omega) (by omega)]
              omega
            unfold body
            rw [cl a g1, cl b g2, cl c g3, cl d g4, L_B, ← f1, ← f2, ← f3, ← f4]
            simp only [List.append_assoc]
          · cases h
theorem got_some {b : ByteArray} {k s o l : Int} {t : ByteArray} (h : got b = (k, s, o, l, t, true)) : valid k s o l t = true ∧ PageM.put k s o l t = b := by
  unfold got at h
  split at h
  · cases h
  · rename_i x r e
    split at h
    · rename_i hr
      subst hr
      obtain ⟨h1, h2⟩ := inside_some h
      refine ⟨h1, ?_⟩
      unfold PageM.put
      rw [if_pos h1, h2]
      have := (getFrame_some e).1
      rw [List.append_nil] at this
      rw [this, B_L]
    · cases h
theorem got_shape (b : ByteArray) : (got b).2.2.2.2.2 = true ∨ got b = noPage := by
  unfold got
  split
  · exact Or.inr rfl
  · split
    · unfold inside
      split
      · exact Or.inr rfl
      · split
        · exact Or.inr rfl
        · split
          · exact Or.inr rfl
          · split
            · exact Or.inr rfl
            · unfold ofNums
              split
              · exact Or.inl rfl
              · exact Or.inr rfl
    · exact Or.inr rfl
/-! ### A chip whose blocks have these texts, and nothing else. -/
def tx (n p d : Nat) (T : Nat → List ByteArray) : Chp := ⟨n, p, d, fun k => ⟨T k, 0, false, none⟩, false, none⟩
def ins (T : Nat → List ByteArray) (b : Nat) (s : ByteArray) : Nat → List ByteArray := fun k => if k = b then T b ++ [s] else T k
theorem tx_new (n p d : Nat) : new n p d = tx n p d fun _ => [] := rfl
theorem tx_there {n p d b : Nat} (h : b < n) (T : Nat → List ByteArray) : there (tx n p d T) (b : Int) = true := by
  unfold there within tx
  simp
  omega
theorem tx_next {n p d b : Nat} (h : b < n) (T : Nat → List ByteArray) : next (tx n p d T) (b : Int) = ((T b).length : Int) := by
  unfold next at_
  rw [tx_there h, Int.toNat_natCast]
  rfl
theorem tx_put {n p d b : Nat} (hb : b < n) {T : Nat → List ByteArray} (hl : (T b).length < p) {s : ByteArray} (h : s.size ≤ d) : doProgram (tx n p d T) (b : Int) ((T b).length : Int) s = (0, tx n p d (ins T b s)) := by
  have hm : mayPut (tx n p d T) (b : Int) ((T b).length : Int) s = true := by
    unfold mayPut
    rw [tx_there hb, tx_next hb]
    unfold within tx
    simp
    omega
  unfold doProgram
  rw [hm, Int.toNat_natCast]
  have hc : cut (tx n p d T) s = s := by
    unfold cut
    show s.extract 0 (min s.size d) = s
    rw [Nat.min_eq_left h]
    simp
  have e : tx n p d (ins T b s) = ChipM.put (tx n p d T) b s := by
    unfold ChipM.put setB
    rw [hc]
    unfold tx ins
    congr 1
    funext k
    by_cases hk : k = b <;> simp [hk]
  rw [e]
  rfl
theorem tx_ok {n p d : Nat} (hs : sizes n p d = true) {T : Nat → List ByteArray} (h : ∀ k, (T k).length ≤ p) : Ok (tx n p d T) 0 := by
  unfold sizes within at hs
  simp at hs
  exact ⟨by show 2 ≤ n; omega, by show n ≤ 64; omega, by show 2 ≤ p; omega, by show p ≤ 32; omega, by show 32 ≤ d; omega, by show d ≤ 256; omega, h, fun _ => Nat.le_refl _, fun _ _ e => by cases e⟩
theorem tx_read {n p d b : Nat} (hb : b < n) (T : Nat → List ByteArray) (q : Nat) : readAt (tx n p d T) (b : Int) (q : Int) = if q < (T b).length then ((T b).getD q ⟨#[]⟩, true) else (⟨#[]⟩, false) := by
  unfold readAt at_
  have hbk : (tx n p d T).blk b = ⟨T b, 0, false, none⟩ := rfl
  rw [tx_there hb, Int.toNat_natCast, Int.toNat_natCast, hbk]
  by_cases h : q < (T b).length
  · rw [if_pos h, if_pos ⟨rfl, by unfold within; simp; omega⟩]
  · rw [if_neg h, if_neg]
    rintro ⟨_, h2⟩
    unfold within at h2
    simp at h2
    omega
theorem tx_short {n p d : Nat} {T : Nat → List ByteArray} (h : ∀ k, ∀ t ∈ T k, t.size ≤ 256) : Short (tx n p d T) := by
  intro b q
  unfold readAt
  split
  · rename_i hc
    have h2 := hc.2
    unfold within at h2
    simp at h2
    have h3 : q.toNat < (at_ (tx n p d T) b).text.length := by omega
    rw [List.getD_eq_getElem?_getD, List.getElem?_eq_getElem h3]
    exact h b.toNat _ (List.getElem_mem h3)
  · exact Nat.zero_le _
/-- What is told of a page. -/
def sp1 (b q : Nat) (t : ByteArray) : List Sp := if (got t).2.2.2.2.2 = true then [((b : Int), (q : Int), (got t).1, (got t).2.1, (got t).2.2.1, (got t).2.2.2.1, (got t).2.2.2.2.1)] else []
theorem spotOf_mk (b q : Nat) (z : ByteArray) (h : z.size ≤ 256) : spotOf ⟨((b : Int), (q : Int), z), h⟩ = sp1 b q z := rfl
def spRow (b : Nat) : Nat → List ByteArray → List Sp
  | _, [] => []
  | i, t :: ts => sp1 b i t ++ spRow b (i + 1) ts
theorem spRow_snoc (b : Nat) (t : ByteArray) : ∀ (ts : List ByteArray) (i : Nat), spRow b i (ts ++ [t]) = spRow b i ts ++ sp1 b (i + ts.length) t
  | [], i => by simp [spRow]
  | x :: ts, i => by
    show sp1 b i x ++ spRow b (i + 1) (ts ++ [t]) = _
    rw [spRow_snoc b t ts (i + 1)]
    simp [spRow, Nat.add_assoc, Nat.add_comm 1]
theorem spots_append (a c : List Ent) : spots (a ++ c) = spots a ++ spots c := by simp [spots]
theorem spots_row {n p d : Nat} {T : Nat → List ByteArray} (hT : Short (tx n p d T)) {b : Nat} (hb : b < n) : ∀ q, spots (row hT b q) = spRow b 0 ((T b).take q)
  | 0 => rfl
  | q + 1 => by
    show spots (row hT b q ++ entry hT b q) = _
    rw [spots_append, spots_row hT hb q]
    by_cases h : q < (T b).length
    · have he : (readAt (tx n p d T) (b : Int) (q : Int)) = ((T b).getD q ⟨#[]⟩, true) := by rw [tx_read hb, if_pos h]
      have e2 : spots (entry hT b q) = sp1 b q ((T b).getD q ⟨#[]⟩) := by
        unfold entry
        rw [if_pos (by rw [he])]
        unfold spots
        simp only [List.flatMap_cons, List.flatMap_nil, List.append_nil]
        rw [spotOf_mk, he]
      rw [e2, List.take_succ_eq_append_getElem h, spRow_snoc]
      rw [List.length_take, Nat.min_eq_left (Nat.le_of_lt h), Nat.zero_add, List.getD_eq_getElem?_getD, List.getElem?_eq_getElem h]
      rfl
    · have he : (readAt (tx n p d T) (b : Int) (q : Int)).2 = false := by rw [tx_read hb, if_neg h]
      have e2 : entry hT b q = [] := by
        unfold entry
        rw [if_neg (by rw [he]; decide)]
      rw [e2, List.take_of_length_le (by omega), List.take_of_length_le (by omega)]
      simp [spots]
def spAll (T : Nat → List ByteArray) : Nat → List Sp
  | 0 => []
  | b + 1 => spAll T b ++ spRow b 0 (T b)
theorem spots_upto {n p d : Nat} {T : Nat → List ByteArray} (hT : Short (tx n p d T)) (hl : ∀ k, (T k).length ≤ p) : ∀ b, b ≤ n → spots (upto hT b) = spAll T b
  | 0, _ => rfl
  | b + 1, h => by
    show spots (upto hT b ++ row hT b p) = _
    rw [spots_append, spots_upto hT hl b (by omega), spots_row hT (by omega), List.take_of_length_le (hl b)]
    rfl
theorem entry_len {m : Chp} (hT : Short m) (b p : Nat) : (entry hT b p).length ≤ 1 := by
  unfold entry
  split <;> simp
theorem row_len {m : Chp} (hT : Short m) (b : Nat) : ∀ p, (row hT b p).length ≤ p
  | 0 => Nat.le_refl _
  | p + 1 => by
    have := row_len hT b p
    have := entry_len hT b p
    show (row hT b p ++ entry hT b p).length ≤ p + 1
    rw [List.length_append]
    omega
theorem upto_len {m : Chp} (hT : Short m) : ∀ b, (upto hT b).length ≤ b * m.pages
  | 0 => Nat.zero_le _
  | b + 1 => by
    have := upto_len hT b
    have := row_len hT b m.pages
    show (upto hT b ++ row hT b m.pages).length ≤ (b + 1) * m.pages
    rw [List.length_append, Nat.add_mul]
    omega
theorem upto_most {m : Chp} {K : Nat} (hT : Short m) (ok : Ok m K) : (upto hT m.n).length ≤ 2048 := by
  refine Nat.le_trans (upto_len hT m.n) ?_
  have := Nat.mul_le_mul ok.n1 ok.p1
  omega
end Go.Proofs.Ytobkeakbahkglaa.PageN
