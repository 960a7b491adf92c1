/- A chip, plainly: what each deed on it comes to. -/
namespace Go.Proofs.Ytfjnjhlmmdeilaa.ChipM

structure Blk where
  text : List ByteArray
  worn : Nat
  bad : Bool
  fails : Option ByteArray
structure Chp where
  n : Nat
  pages : Nat
  data : Nat
  blk : Nat → Blk
  dead : Bool
  fuse : Option (Nat × ByteArray)
def Blk.blank : Blk := ⟨[], 0, false, none⟩
def new (n pages data : Nat) : Chp := ⟨n, pages, data, fun _ => Blk.blank, false, none⟩
def within (n low high : Int) : Bool := decide (low ≤ n) && decide (n ≤ high)
def there (m : Chp) (b : Int) : Bool := within b 0 ((m.n : Int) - 1)
def at_ (m : Chp) (b : Int) : Blk := m.blk b.toNat
def next (m : Chp) (b : Int) : Int := if there m b = true then ((at_ m b).text.length : Int) else 0
def worn (m : Chp) (b : Int) : Int := if there m b = true then ((at_ m b).worn : Int) else 0
def bad (m : Chp) (b : Int) : Bool := !there m b || (at_ m b).bad
def readAt (m : Chp) (b p : Int) : ByteArray × Bool := if there m b = true ∧ within p 0 (((at_ m b).text.length : Int) - 1) = true then ((at_ m b).text.getD p.toNat ⟨#[]⟩, true) else (⟨#[]⟩, false)
def cut (m : Chp) (s : ByteArray) : ByteArray := s.extract 0 (min s.size m.data)
def setB (m : Chp) (b : Nat) (x : Blk) : Chp := { m with blk := fun k => if k = b then x else m.blk k }
def put (m : Chp) (b : Nat) (t : ByteArray) : Chp := setB m b { m.blk b with text := (m.blk b).text ++ [cut m t] }
def blank (m : Chp) (b : Nat) : Chp := setB m b { m.blk b with text := [], worn := (m.blk b).worn + 1 }
def fell (m : Chp) (b : Nat) : Chp := setB m b { m.blk b with bad := true, fails := none }
def dieM (m : Chp) : Chp := { m with dead := true }
def burn (m : Chp) : Chp := { m with fuse := m.fuse.map fun f => (f.1 - 1, f.2) }
/-- A deed: what it does, and what it does where the chip dies, or the block fails. -/
def deed (m : Chp) (b : Nat) (do_ : Chp → Chp) (dies fails : Chp → ByteArray → Chp) : Int × Chp :=
  if (m.blk b).bad = true then (15, m)
  else match m.fuse with
    | some (0, t) => (14, if t.toList.isEmpty = true then dieM m else dies (dieM m) t)
    | _ => match (m.blk b).fails with
      | some t => (15, fell (fails (burn m) t) b)
      | none => (0, do_ (burn m))
def mayPut (m : Chp) (b p : Int) (s : ByteArray) : Bool := there m b && within p 0 ((m.pages : Int) - 1) && decide (s.size ≤ m.data) && decide (p = next m b)
def doProgram (m : Chp) (b p : Int) (s : ByteArray) : Int × Chp :=
  if m.dead = true then (14, m)
  else if mayPut m b p s = true then deed m b.toNat (fun m => put m b.toNat s) (fun m t => put m b.toNat t) (fun m t => put m b.toNat t)
  else (1, m)
def doErase (m : Chp) (b : Int) : Int × Chp :=
  if m.dead = true then (14, m)
  else if there m b = true then deed m b.toNat (fun m => blank m b.toNat) (fun m _ => blank m b.toNat) (fun m _ => m)
  else (1, m)
def fail (m : Chp) (b : Int) (t : ByteArray) : Chp := if there m b = true then setB m b.toNat { m.blk b.toNat with fails := some t } else m
def setFuse (m : Chp) (n : Int) (t : ByteArray) : Chp := { m with fuse := if 0 ≤ n then some ((min n 1073741824).toNat, t) else none }
def revive (m : Chp) : Chp := { m with dead := false, fuse := none }
/-- What holds of every chip: its sizes; no block has more pages than there are; K: how often one was erased, at most. -/
structure Ok (m : Chp) (K : Nat) : Prop where
  n0 : 2 ≤ m.n
  n1 : m.n ≤ 64
  p0 : 2 ≤ m.pages
  p1 : m.pages ≤ 32
  d0 : 32 ≤ m.data
  d1 : m.data ≤ 256
  t : ∀ b, (m.blk b).text.length ≤ m.pages
  w : ∀ b, (m.blk b).worn ≤ K
  f : ∀ n t, m.fuse = some (n, t) → n ≤ 1073741824
end Go.Proofs.Ytfjnjhlmmdeilaa.ChipM
