/- The walk of cenotaphlaw13.works: it returns true. -/
import Derived.Test.YtfjnjhlmmdeilaaChipC
set_option linter.unusedVariables false
namespace Go.Proofs.Ytfjnjhlmmdeilaa.ChipW
open Go.RowKit Go.Proofs.Ytfjnjhlmmdeilaa.ChipM Go.Proofs.Ytfjnjhlmmdeilaa.ChipA Go.Proofs.Ytfjnjhlmmdeilaa.ChipC

def ab : ByteArray := ⟨#[97, 98]⟩
def cd : ByteArray := ⟨#[99, 100]⟩
def m0 : Chp := new 2 4 32
def m1 : Chp := (doProgram m0 0 0 ab).2
def m2 : Chp := (doProgram m1 0 2 cd).2
def m3 : Chp := (doErase m2 0).2
theorem e1 : (doProgram m0 0 0 ab).1 = 0 := by decide +kernel
theorem e2 : (doProgram m1 0 2 cd).1 = 1 := by decide +kernel
theorem e3 : readAt m2 0 0 = (ab, true) := by kernel_rfl
theorem e4 : readAt m2 0 1 = (⟨#[]⟩, false) := by kernel_rfl
theorem e5 : next m2 0 = 1 := by decide +kernel
theorem e6 : (doErase m2 0).1 = 0 := by decide +kernel
theorem e7 : worn m3 0 = 1 := by decide +kernel
theorem e8 : next m3 0 = 0 := by decide +kernel
theorem e9 : bad m3 0 = false := by decide +kernel
theorem e10 : m3.dead = false := by decide +kernel
theorem e11 : m3.n = 2 ∧ m3.pages = 4 ∧ m3.data = 32 := by decide +kernel
theorem ok0 : Ok m0 0 := ok_new (by decide +kernel)
theorem ok1 : Ok m1 0 := ok0.program _ _ _
theorem ok2 : Ok m2 0 := ok1.program _ _ _
theorem ok3 : Ok m3 1 := ok2.erase _
theorem d1 : (doProgram m0 0 0 ab).2 = m1 := rfl
theorem d2 : (doProgram m1 0 2 cd).2 = m2 := rfl
theorem d3 : (doErase m2 0).2 = m3 := rfl
attribute [irreducible] m0 m1 m2 m3
set_option maxHeartbeats 1000000 in
set_option maxRecDepth 100000 in
theorem works_any (w : World) : Calls Try.prog 9 #[] w fun e w' => e = .returned (.bool true) ∧ Below w.heap.size w w' := by
  have hnew := new_c 2 4 32 (by decide +kernel)
  have hm0 : new 2 4 32 = m0 := by unfold m0; rfl
  have q1 : (ab.toList == [97, 98]) = true := by decide +kernel
  have q2 : ab.toList = [97, 98] := by decide +kernel
  go_enter Try.func9, Try.ntmps9
  go_wp2_with fail
  refine (hnew _).mono ?_
  rintro e w1 ⟨rfl, h1, f1⟩
  rw [hm0] at h1
  have p1 := program_c h1 ok0 0 0 ab
  clear hm0 hnew
  go_wp2_with fail
  refine p1.mono ?_
  rintro e w2 ⟨rfl, h2, f2⟩
  rw [e1]
  rw [d1] at h2
  have p2 := program_c h2 ok1 0 2 cd
  clear p1 h1
  go_wp2_with fail
  refine p2.mono ?_
  rintro e w3 ⟨rfl, h3, f3⟩
  rw [e2]
  rw [d2] at h3
  have p3 := read_c h3 ok2 0 0
  have p4 := read_c h3 ok2 0 1
  have p5 := next_c h3 ok2 0
  have p6 := erase_c h3 ok2 (by decide) 0
  rw [e3] at p3
  rw [e4] at p4
  rw [e5] at p5
  clear p2 h2 h3
  go_wp2_with fail
  refine p3.mono ?_
  rintro e w' ⟨rfl, rfl⟩
  go_wp2_with fail
  refine p4.mono ?_
  rintro e w' ⟨rfl, rfl⟩
  go_wp2_with fail
  refine p5.mono ?_
  rintro e w' ⟨rfl, rfl⟩
  go_wp2_with fail
  refine p6.mono ?_
  rintro e w4 ⟨rfl, h4, f4⟩
  rw [e6]
  rw [d3] at h4
  have p7 := size_c h4
  rw [e11.1, e11.2.1, e11.2.2] at p7
  clear p3 p4 p5 p6
  go_wp2_with fail
  refine p7.mono ?_
  rintro e w5 ⟨rfl, n5, rfl⟩
  have h5 := h4.drewN n5
  have p8 := worn_c h5 ok3 0
  have p9 := next_c h5 ok3 0
  have p10 := bad_c h5 ok3 0
  have p11 := dead_c h5
  rw [e7] at p8
  rw [e8] at p9
  rw [e9] at p10
  rw [e10] at p11
  have hfin := (((f2.trans f3).trans f4).trans (Foot.drewN _ _ n5)).below f1.size (fun k hk => by rcases hk with rfl | rfl <;> omega)
  have hb := f1.trans hfin
  clear p7 h4 h5 f1 f2 f3 f4 hfin
  go_wp2_with fail
  refine p8.mono ?_
  rintro e w' ⟨rfl, rfl⟩
  go_wp2_with fail
  refine p9.mono ?_
  rintro e w' ⟨rfl, rfl⟩
  go_wp2_with fail
  refine p10.mono ?_
  rintro e w' ⟨rfl, rfl⟩
  go_wp2_with fail
  refine p11.mono ?_
  rintro e w' ⟨rfl, rfl⟩
  go_wp2_with fail
  go_ret
  exact ⟨rfl, hb⟩
end Go.Proofs.Ytfjnjhlmmdeilaa.ChipW
