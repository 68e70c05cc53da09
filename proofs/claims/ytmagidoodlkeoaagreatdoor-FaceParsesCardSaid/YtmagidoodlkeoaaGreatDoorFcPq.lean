/-
  The law FaceParses.
-/
import Derived.Test.YtmagidoodlkeoaaGreatDoorFcPz
import Derived.Test.YtmagidoodlkeoaaGreatDoorFcSm
set_option linter.unusedSimpArgs false
set_option linter.unusedVariables false
namespace Go.Proofs.YtmagidoodlkeoaaGreatDoor
open Go.RowKit

/-- The face that both sides read, and the number of the mistake. -/
def psP (s : List UInt8) : Fc × Int := match parseP s with
  | none => (⟨0, 0, 0, []⟩, 4)
  | some f => (f, 0)
theorem parR_both {s : List UInt8} {w w' : World} {e : Ending} (h : parR s w e w') : Below w.heap.size w w' ∧ ∃ (A : Option Addr) (c : Nat), e = .returned (.tuple #[.agg #[.int .i64 (psP s).1.shape, .int .i64 (psP s).1.size, .int .i64 (psP s).1.height, .slice A (psP s).1.items.length c], .int .i64 (psP s).2]) ∧ ItsOk w' A (psP s).1.items := by
  obtain ⟨hb, h⟩ := h
  refine ⟨hb, ?_⟩
  unfold psP
  cases hp : parseP s with
  | none =>
    rw [hp] at h
    exact ⟨none, 0, h, ItsOk.nil _ _⟩
  | some f =>
    rw [hp] at h
    exact h
theorem same_ps (g : Fc) (A A2 : Option Addr) (c c2 : Nat) (w : World) (h1 : ItsOk w A g.items) (h2 : ItsOk w A2 g.items) :
    Calls Tryz.prog 23 #[.agg #[.int .i64 g.shape, .int .i64 g.size, .int .i64 g.height, .slice A g.items.length c], .agg #[.int .i64 g.shape, .int .i64 g.size, .int .i64 g.height, .slice A2 g.items.length c2]] w fun e w' => e = .returned (.bool true) ∧ Below w.heap.size w w' := by
  have h := same_calls g g A A2 c c2 w h1 h2
  rw [eqF_self] at h
  exact h

set_option maxHeartbeats 8000000 in
set_option maxRecDepth 100000 in
theorem fparses_calls (s : List UInt8) (w : World) (hg : Gl w) :
    Calls Tryz.prog 3 #[.string (SB s)] w fun e w' => e = .returned (.bool true) ∧ Below w.heap.size w w' := by
  have zsb : ∀ l : List UInt8, (SB l).size = l.length := fun _ => rfl
  have HO := hid (On.start hg)
  clear hg
  by_cases hl : 3000 < s.length
  · have hd : (3000 : Int) < (s.length : Int) := by omega
    go_enter Tryz.func3, Tryz.ntmps3
    go_wp2_with fail
    refine (unhid HO).first.mono ?_
    rintro e w9 ⟨rfl, hb2⟩
    have HB2 := hid hb2
    clear hb2
    go_wp2_with fail
    go_ret
    exact ⟨rfl, unhid HB2⟩

  · have hd : ¬ (3000 : Int) < (s.length : Int) := by omega
    have HP1 := hid (fun W (h : Gl W) => (parse_calls s W h).mono fun _ _ h => parR_both h)
    have HP2 := hid (fun W => (rparse_calls s W (by omega)).mono fun _ _ h => parR_both h)
    obtain ⟨p, hp⟩ : ∃ p, p = psP s := ⟨_, rfl⟩
    simp only [← hp] at HP1 HP2
    clear hp
    obtain ⟨g, er⟩ := p
    dsimp only at HP1 HP2
    go_enter Tryz.func3, Tryz.ntmps3
    go_wp2_with fail
    refine ((unhid HP1) w (unhid HO).gl).mono ?_
    rintro e w1 ⟨hb, A, c, rfl, hi⟩
    have HO := hid ((unhid HO).next hb)
    have HI := hid hi
    clear hb hi HP1
    go_upto_region 4 with (fail)
    have HO := hid ((unhid HO).lay (.cells #[.int .i64 g.shape, .int .i64 g.size, .int .i64 g.height, .slice A g.items.length c] 25))
    have hb1 := below_alloc w1 (.cells #[.int .i64 g.shape, .int .i64 g.size, .int .i64 g.height, .slice A g.items.length c] 25)
    have HI := hid ((unhid HI).below hb1)
    have hn := heap_alloc_new w1 (.cells #[.int .i64 g.shape, .int .i64 g.size, .int .i64 g.height, .slice A g.items.length c] 25)
    have hs1 : w1.heap.size < (w1.alloc (.cells #[.int .i64 g.shape, .int .i64 g.size, .int .i64 g.height, .slice A g.items.length c] 25)).heap.size := by simp
    generalize w1.alloc (.cells #[.int .i64 g.shape, .int .i64 g.size, .int .i64 g.height, .slice A g.items.length c] 25) = w2 at *
    generalize w1.heap.size = E at *
    clear hb1
    have HN := hid hn
    have HS := hid hs1
    clear hn hs1
    go_wp2_with fail
    refine ((unhid HP2) w2).mono ?_
    rintro e w3 ⟨hb, A2, c2, rfl, hi⟩
    have HO := hid ((unhid HO).next hb)
    have HI := hid ((unhid HI).below hb)
    have HN := hid ((hb.block _ (unhid HS)).trans (unhid HN))
    have HS := hid (Nat.lt_of_lt_of_le (unhid HS) hb.size)
    have HI2 := hid hi
    clear hb hi HP2
    go_upto_region 5 with (fail)
    have HO := hid ((unhid HO).lay (.cells #[.int .i64 g.shape, .int .i64 g.size, .int .i64 g.height, .slice A2 g.items.length c2] 25))
    have hb1 := below_alloc w3 (.cells #[.int .i64 g.shape, .int .i64 g.size, .int .i64 g.height, .slice A2 g.items.length c2] 25)
    have HI := hid ((unhid HI).below hb1)
    have HI2 := hid ((unhid HI2).below hb1)
    have HN := hid ((hb1.block _ (unhid HS)).trans (unhid HN))
    have hn := heap_alloc_new w3 (.cells #[.int .i64 g.shape, .int .i64 g.size, .int .i64 g.height, .slice A2 g.items.length c2] 25)
    generalize w3.alloc (.cells #[.int .i64 g.shape, .int .i64 g.size, .int .i64 g.height, .slice A2 g.items.length c2] 25) = w4 at *
    generalize w3.heap.size = E2 at *
    have c0 := cell_of_row _ E 0 _ _ _ (unhid HN)
    have c1 := cell_of_row _ E 1 _ _ _ (unhid HN)
    have c2' := cell_of_row _ E 2 _ _ _ (unhid HN)
    have c3 := cell_of_row _ E 3 _ _ _ (unhid HN)
    have d0 := cell_of_row _ E2 0 _ _ _ hn
    have d1 := cell_of_row _ E2 1 _ _ _ hn
    have d2 := cell_of_row _ E2 2 _ _ _ hn
    have d3 := cell_of_row _ E2 3 _ _ _ hn
    simp at c0 c1 c2' c3 d0 d1 d2 d3
    clear hb1 hn
    go_wp2_with fail
    refine (same_ps g A A2 c c2 w4 (unhid HI) (unhid HI2)).mono ?_
    rintro e w5 ⟨rfl, hb⟩
    have HO := hid ((unhid HO).next hb)
    clear hb c0 c1 c2' c3 d0 d1 d2 d3
    go_wp2_with fail
    refine (unhid HO).first.mono ?_
    rintro e w9 ⟨rfl, hb2⟩
    have HB2 := hid hb2
    clear hb2
    go_wp2_with fail
    go_ret
    exact ⟨rfl, unhid HB2⟩


end Go.Proofs.YtmagidoodlkeoaaGreatDoor
