/- Pages, plainly: which may be, their bytes, the page that bytes are. -/
import Derived.Test.YtobkeakbahkglaaPageW
namespace Go.Proofs.Ytobkeakbahkglaa.PageM
open Go.RowKit Go.Proofs.Ytobkeakbahkglaa.Fn Go.Proofs.YtobkeakbahkglaaW.PrintWords Go.Proofs.YtobkeakbahkglaaW.PrintLast Go.Proofs.YtobkeakbahkglaaW.PrintMore Go.Proofs.Ytobkeakbahkglaa.WireM Go.Proofs.Ytobkeakbahkglaa.WireP

def inNum (n : Int) : Bool := decide (0 ≤ n) && decide (n ≤ 1099511627776)
def valid (k s o l : Int) (t : ByteArray) : Bool := (decide (k = 0) || decide (k = 1)) && (inNum s && (inNum o && inNum l)) && decide ((t.size : Int) ≤ 224)
def body (k s o l : Int) (t : ByteArray) : List UInt8 := numB (clampN k) ++ numB (clampN s) ++ numB (clampN o) ++ numB (clampN l) ++ L t
def put (k s o l : Int) (t : ByteArray) : ByteArray := if valid k s o l t = true then B (frame (body k s o l t)) else ⟨#[]⟩
/-- So many numbers that bytes begin with; what is behind them. -/
def getNums : Nat → List UInt8 → Option (List Nat × List UInt8)
  | 0, l => some ([], l)
  | n + 1, l => match getNum l with
    | none => none
    | some (x, r) => match getNums n r with
      | none => none
      | some (xs, q) => some (x :: xs, q)
abbrev Pg := Int × Int × Int × Int × ByteArray × Bool
def noPage : Pg := (0, 0, 0, 0, ⟨#[]⟩, false)
def ofNums (k s o l : Int) (t : ByteArray) : Pg := if valid k s o l t = true then (k, s, o, l, t, true) else noPage
def inside (t : List UInt8) : Pg :=
  match getNum t with
  | none => noPage
  | some (k, t1) => match getNum t1 with
    | none => noPage
    | some (s, t2) => match getNum t2 with
      | none => noPage
      | some (o, t3) => match getNum t3 with
        | none => noPage
        | some (l, t4) => ofNums (k : Int) (s : Int) (o : Int) (l : Int) (B t4)
def got (b : ByteArray) : Pg :=
  match getFrame (L b) with
  | none => noPage
  | some (t, r) => if r = [] then inside t else noPage
def room (d : Int) : Int := mn (mx d 32 - 32) 224
theorem wrap0 : wrap64 (0 + 1) = 1 := w64 (by omega) (by omega)
theorem wrap1 : wrap64 (1 + 1) = 2 := w64 (by omega) (by omega)
theorem wrap2 : wrap64 (2 + 1) = 3 := w64 (by omega) (by omega)
theorem inNum_ite (n : Int) (x : Option Bool) : (if n < 0 then some false else if n > 1099511627776 then some false else x) = if inNum n = true then x else some false := by
  unfold inNum
  by_cases h1 : n < 0
  · rw [if_pos h1, if_neg (by simp; omega)]
  · by_cases h2 : n > 1099511627776
    · rw [if_neg h1, if_pos h2, if_neg (by simp; omega)]
    · rw [if_neg h1, if_neg h2, if_pos (by simp; omega)]
theorem numbered_ev (a b c : Int) : Ev (fun k => page_numbered.f k [a, b, c]) (inNum a && (inNum b && inNum c)) := by
  refine ⟨4, fun k hk => ?_⟩
  obtain ⟨j, rfl⟩ : ∃ j, k = j + 4 := ⟨k - 4, by omega⟩
  show page_numbered.l0 (j + 3 + 1) [a, b, c] 3 0 = _
  rw [page_numbered.l0, if_pos (by omega), if_pos (by omega), if_pos (by show (0 : Int) < 3; omega), inNum_ite, wrap0]
  rw [show rd [a, b, c] 0 = a from rfl]
  cases inNum a with
  | false => rfl
  | true =>
    rw [if_pos rfl, page_numbered.l0, if_pos (by omega), if_pos (by omega), if_pos (by show (1 : Int) < 3; omega), inNum_ite, wrap1]
    rw [show rd [a, b, c] 1 = b from rfl]
    cases inNum b with
    | false => rfl
    | true =>
      rw [if_pos rfl, page_numbered.l0, if_pos (by omega), if_pos (by omega), if_pos (by show (2 : Int) < 3; omega), inNum_ite, wrap2]
      rw [show rd [a, b, c] 2 = c from rfl]
      cases inNum c with
      | false => rfl
      | true => rw [if_pos rfl, page_numbered.l0, if_neg (by omega)]; rfl
theorem valid_ev (k s o l : Int) (t : ByteArray) : Ev (fun f => page_Valid.f f k s o l t) (valid k s o l t) := by
  unfold page_Valid.f valid
  by_cases h0 : k = 0
  · simp only [if_pos h0]
    refine Ev.bind (numbered_ev s o l) (Ev.congr (f := fun _ => some _) (fun k => ?_) (Ev.now _))
    rw [decide_eq_true h0]
    cases (inNum s && (inNum o && inNum l)) <;> rfl
  · simp only [if_neg h0]
    by_cases h1 : k = 1
    · simp only [if_pos h1]
      refine Ev.bind (numbered_ev s o l) (Ev.congr (f := fun _ => some _) (fun k => ?_) (Ev.now _))
      rw [decide_eq_true h1, decide_eq_false h0]
      cases (inNum s && (inNum o && inNum l)) <;> rfl
    · simp only [if_neg h1]
      rw [decide_eq_false h1, decide_eq_false h0]
      exact Ev.now _
theorem valid_parts {k s o l : Int} {t : ByteArray} (h : valid k s o l t = true) : (0 ≤ k ∧ k ≤ 1) ∧ (0 ≤ s ∧ s ≤ 1099511627776) ∧ (0 ≤ o ∧ o ≤ 1099511627776) ∧ (0 ≤ l ∧ l ≤ 1099511627776) ∧ t.size ≤ 224 := by
  unfold valid inNum at h
  simp at h
  omega
theorem numB_small (n : Int) : (numB (clampN n)).length ≤ 8 := numB_len8 (clampN_le n)
theorem body_length (k s o l : Int) (t : ByteArray) : (body k s o l t).length ≤ 32 + t.size := by
  unfold body
  simp only [List.length_append]
  have := numB_small k
  have := numB_small s
  have := numB_small o
  have := numB_small l
  rw [← size_L]
  omega
end Go.Proofs.Ytobkeakbahkglaa.PageM
