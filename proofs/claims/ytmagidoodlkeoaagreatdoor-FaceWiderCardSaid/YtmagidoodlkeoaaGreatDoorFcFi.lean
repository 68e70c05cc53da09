/-
  The examples of the chapter: the law's first().
-/
import Derived.Test.YtmagidoodlkeoaaGreatDoorFcPy
import Derived.Test.YtmagidoodlkeoaaGreatDoorFcAt
import Derived.Test.YtmagidoodlkeoaaGreatDoorFcN
set_option linter.unusedSimpArgs false
set_option linter.unusedVariables false
namespace Go.Proofs.YtmagidoodlkeoaaGreatDoor
open Go.RowKit

def txt0 : List UInt8 := [114, 111, 117, 110, 100, 32, 54, 48, 58, 32, 102, 105, 101, 108, 100, 32, 119, 104, 105, 116, 101, 59, 32, 114, 105, 109, 32, 114, 101, 100, 32, 56]
def face0 : Fc := ⟨1, 60, 0, [⟨1, 1, 0, 0, 0, 0, []⟩, ⟨2, 4, 0, 0, 8, 0, []⟩]⟩
theorem face0_ok : fcB face0 = true := by decide +kernel
theorem parse0 : parseP txt0 = some face0 := parseP_some.2 ⟨face0_ok, by decide +kernel⟩
theorem at0 : atR face0 30 30 = .tuple #[.int .i64 1, .int .i64 0] := by
  unfold atR
  rw [face0_ok, show colAt face0 30 30 = 1 by decide +kernel]
  rfl
theorem at1 : atR face0 0 30 = .tuple #[.int .i64 4, .int .i64 0] := by
  unfold atR
  rw [face0_ok, show colAt face0 0 30 = 4 by decide +kernel]
  rfl
theorem len0 : lenR [83, 84, 79, 80] 2 = .tuple #[.int .i64 46, .int .i64 0] := by
  rw [lenR_yes (by decide +kernel), show lenS [83, 84, 79, 80] 2 = 46 by decide +kernel]
theorem parse0_calls (w : World) (hg : Gl w) :
    Calls Tryz.prog 21 #[.string (SB txt0)] w fun e w' => Below w.heap.size w w' ∧ ∃ (A : Option Addr) (c : Nat), e = .returned (.tuple #[.agg #[.int .i64 1, .int .i64 60, .int .i64 0, .slice A 2 c], .int .i64 0]) ∧ ItsOk w' A face0.items := by
  refine (parse_calls txt0 w hg).mono ?_
  rintro e w' ⟨hb, h⟩
  rw [parse0] at h
  exact ⟨hb, h⟩

set_option maxHeartbeats 2000000 in
set_option maxRecDepth 100000 in
theorem first_calls (w : World) (hg : Gl w) : Calls Tryz.prog 20 #[] w fun e w' => e = .returned (.bool true) ∧ Below w.heap.size w w' := by
  have HP := hid (parse0_calls w hg)
  have HG := hid hg
  clear hg
  go_enter Tryz.func20, Tryz.ntmps20
  go_wp2_with fail
  refine (unhid HP).mono ?_
  rintro e w1 ⟨hb1, A, c, rfl, hit⟩
  obtain ⟨W, hW⟩ : ∃ W, W = w1.alloc (.cells #[.int .i64 1, .int .i64 60, .int .i64 0, .slice A 2 c] 25) := ⟨_, rfl⟩
  have hcell : ∀ i, W.cell? ⟨w1.heap.size, i, none⟩ = #[Value.int .i64 1, .int .i64 60, .int .i64 0, .slice A 2 c][i]? := fun i => by rw [hW, World.cell?_alloc_new]
  have hbw : Below w1.heap.size w1 W := by rw [hW]; exact below_alloc _ _
  have hB : w1.heap.size < W.heap.size := by rw [hW]; simp
  have HAT := hid (at_calls face0 A c 30 30 W (hit.below hbw))
  have HIT := hid (hit.below hbw)
  have HB := hid (hb1.trans (hbw.mono hb1.size))
  clear hbw hit HP
  rw [at0] at HAT
  go_wp2_with fail
  rw [← hW]
  refine (unhid HAT).mono ?_
  rintro e w2 ⟨rfl, hb2⟩
  have a0 := (hb2.cell (p := ⟨w1.heap.size, 0, none⟩) hB).trans (hcell 0)
  have a1 := (hb2.cell (p := ⟨w1.heap.size, 1, none⟩) hB).trans (hcell 1)
  have a2 := (hb2.cell (p := ⟨w1.heap.size, 2, none⟩) hB).trans (hcell 2)
  have a3 := (hb2.cell (p := ⟨w1.heap.size, 3, none⟩) hB).trans (hcell 3)
  simp at a0 a1 a2 a3
  have HAU := hid (at_calls face0 A c 0 30 w2 ((unhid HIT).below hb2))
  have HB2 := hid ((unhid HB).trans (hb2.mono (unhid HB).size))
  rw [at1] at HAU
  clear hb2 hcell HAT HIT HB hW
  go_wp2_with fail
  refine (unhid HAU).mono ?_
  rintro e w3 ⟨rfl, hb3⟩
  have HL := hid (length_calls [83, 84, 79, 80] 2 w3 (by simp))
  have HB3 := hid ((unhid HB2).trans (hb3.mono (unhid HB2).size))
  rw [len0] at HL
  clear hb3 a0 a1 a2 a3 HAU HB2
  go_wp2_with fail
  refine (unhid HL).mono ?_
  rintro e w4 ⟨rfl, hb4⟩
  have HB4 := hid ((unhid HB3).trans (hb4.mono (unhid HB3).size))
  clear hb4 HL HB3
  go_wp2_with fail
  go_ret
  exact ⟨rfl, unhid HB4⟩

end Go.Proofs.YtmagidoodlkeoaaGreatDoor
