/-
  The law FacePanels.
-/
import Derived.Test.YtmagidoodlkeoaaGreatDoorFcPm
import Derived.Test.YtmagidoodlkeoaaGreatDoorFcLw
import Derived.Test.YtmagidoodlkeoaaGreatDoorFcSm
set_option linter.unusedSimpArgs false
set_option linter.unusedVariables false
namespace Go.Proofs.YtmagidoodlkeoaaGreatDoor
open Go.RowKit

/-- A sheet of lines in a block. -/
structure SheetAt (w : World) (B : Nat) (A : Option Addr) (ls : List (List UInt8)) (c : Nat) (u g i : Int) : Prop where
  heap : w.heap[B]? = some (.cells #[.slice A ls.length c, .int .i64 u, .int .i64 g, .int .i64 i] 62 (0, 0))
  ok : StrsOk w A ls
theorem SheetAt.lt {w : World} {B : Nat} {A : Option Addr} {ls : List (List UInt8)} {c : Nat} {u g i : Int} (h : SheetAt w B A ls c u g i) : B < w.heap.size := (Array.getElem?_eq_some_iff.1 h.heap).1
theorem SheetAt.below {w w' : World} {B : Nat} {A : Option Addr} {ls : List (List UInt8)} {c : Nat} {u g i : Int} (h : SheetAt w B A ls c u g i) (hb : Below w.heap.size w w') : SheetAt w' B A ls c u g i := ⟨(hb.block B h.lt).trans h.heap, h.ok.below hb⟩
theorem SheetAt.new (w : World) {A : Option Addr} {ls : List (List UInt8)} (c : Nat) (u g i : Int) (h : StrsOk w A ls) : SheetAt (w.alloc (.cells #[.slice A ls.length c, .int .i64 u, .int .i64 g, .int .i64 i] 62)) w.heap.size A ls c u g i := ⟨heap_alloc_new _ _, h.below (below_alloc _ _)⟩
theorem SheetAt.cells {w : World} {B : Nat} {A : Option Addr} {ls : List (List UInt8)} {c : Nat} {u g i : Int} (h : SheetAt w B A ls c u g i) :
    w.cell? ⟨B, 0, none⟩ = some (.slice A ls.length c) ∧ w.cell? ⟨B, 1, none⟩ = some (.int .i64 u) ∧ w.cell? ⟨B, 2, none⟩ = some (.int .i64 g) ∧ w.cell? ⟨B, 3, none⟩ = some (.int .i64 i) :=
  ⟨cell_of_row _ B 0 _ _ _ h.heap, cell_of_row _ B 1 _ _ _ h.heap, cell_of_row _ B 2 _ _ _ h.heap, cell_of_row _ B 3 _ _ _ h.heap⟩
def panF (ls : List (List UInt8)) (unit ground ink : Int) : Fc :=
  if panN ls unit ground ink = 0 then ⟨2, sizeP ls unit, heightP ls.length unit, panI ls unit ground ink ls.length⟩ else ⟨0, 0, 0, []⟩
theorem panR_both {ls : List (List UInt8)} {unit ground ink : Int} {w w' : World} {e : Ending} (h : panR ls unit ground ink w e w') :
    Below w.heap.size w w' ∧ ∃ (A : Option Addr) (c : Nat), e = .returned (.tuple #[.agg #[.int .i64 (panF ls unit ground ink).shape, .int .i64 (panF ls unit ground ink).size, .int .i64 (panF ls unit ground ink).height, .slice A (panF ls unit ground ink).items.length c], .int .i64 (panN ls unit ground ink)]) ∧ ItsOk w' A (panF ls unit ground ink).items := by
  obtain ⟨hb, h1, h2⟩ := h
  refine ⟨hb, ?_⟩
  unfold panF
  by_cases hn : panN ls unit ground ink = 0
  · rw [if_pos hn, hn]
    exact h2 hn
  · rw [if_neg hn]
    exact ⟨none, 0, h1 hn, ItsOk.nil _ _⟩
theorem same_pan (g : Fc) (A A2 : Option Addr) (c c2 : Nat) (w : World) (h1 : ItsOk w A g.items) (h2 : ItsOk w A2 g.items) :
    Calls Tryz.prog 23 #[.agg #[.int .i64 g.shape, .int .i64 g.size, .int .i64 g.height, .slice A g.items.length c], .agg #[.int .i64 g.shape, .int .i64 g.size, .int .i64 g.height, .slice A2 g.items.length c2]] w fun e w' => e = .returned (.bool true) ∧ Below w.heap.size w w' := by
  have h := same_calls g g A A2 c c2 w h1 h2
  rw [eqF_self] at h
  exact h

set_option maxHeartbeats 8000000 in
set_option maxRecDepth 100000 in
theorem fpanels_calls (ls : List (List UInt8)) (A : Option Addr) (c : Nat) (unit ground ink : Int) (w : World) (hg : Gl w) (hls : StrsOk w A ls) :
    Calls Tryz.prog 10 #[.agg #[.slice A ls.length c, .int .i64 unit, .int .i64 ground, .int .i64 ink]] w fun e w' => e = .returned (.bool true) ∧ Below w.heap.size w w' := by
  have zsb : ∀ l : List UInt8, (SB l).size = l.length := fun _ => rfl
  have hn := hls.n
  have HO := hid ((On.start hg).lay (.cells #[.slice A ls.length c, .int .i64 unit, .int .i64 ground, .int .i64 ink] 62))
  have HS := hid (SheetAt.new w c unit ground ink hls)
  have HP1 := hid (fun W (h : StrsOk W A ls) => (ppanel_calls ls A c unit ground ink W h).mono fun _ _ h => panR_both h)
  have HP2 := hid (fun W (h : StrsOk W A ls) => (rpanel_calls ls A c unit ground ink W h).mono fun _ _ h => panR_both h)
  generalize panF ls unit ground ink = g at HP1 HP2
  generalize panN ls unit ground ink = er at HP1 HP2
  clear hg hls
  go_enter Tryz.func10, Tryz.ntmps10
  go_upto_region 1 with (fail)
  change Code.wp _ _ _ _ (w.alloc (.cells #[.slice A ls.length c, .int .i64 unit, .int .i64 ground, .int .i64 ink] 62))
  generalize w.alloc (.cells #[.slice A ls.length c, .int .i64 unit, .int .i64 ground, .int .i64 ink] 62) = W at *
  obtain ⟨s0, -, -, -⟩ := (unhid HS).cells
  by_cases hl : 40 < ls.length
  · have hd : (40 : Int) < (ls.length : Int) := by omega
    go_wp2_with fail
    refine (unhid HO).first.mono ?_
    rintro e w9 ⟨rfl, hb2⟩
    have HB2 := hid hb2
    clear hb2
    go_wp2_with fail
    go_ret
    exact ⟨rfl, unhid HB2⟩
  · have hd : ¬ (40 : Int) < (ls.length : Int) := by omega
    go_wp2_with fail
    clear s0
    go_loopw [3] (fun iv wr => ∃ k : Nat, k ≤ ls.length ∧ iv = .int .i64 k ∧ On w wr ∧ SheetAt wr w.heap.size A ls c unit ground ink) (fun iv _ => ls.length - (intOf iv).toNat)
    case atStart => exact ⟨0, Nat.zero_le _, rfl, unhid HO, unhid HS⟩
    case round =>
      obtain ⟨k, hk, rfl, ho, hs⟩ := hrel
      have HO := hid ho
      have HS := hid hs
      clear ho hs
      obtain ⟨s0, s1, s2, s3⟩ := (unhid HS).cells
      by_cases hlt : k < ls.length
      · obtain ⟨b, off, rfl, hb, hc⟩ := (unhid HS).ok.rd (strs_ne hlt)
        have c0 := hc k _ (strs_at hlt)
        clear hc s1 s2 s3
        have hki : (k : Int) < (ls.length : Int) := by omega
        obtain ⟨tx, htx⟩ : ∃ tx, tx = ls.getD k [] := ⟨_, rfl⟩
        rw [← htx] at c0
        clear htx
        have hz := zsb tx
        by_cases hlong : 100 < tx.length
        · have hd2 : (100 : Int) < (tx.length : Int) := by omega
          go_wp2_with fail
          refine (unhid HO).first.mono ?_
          rintro e w9 ⟨rfl, hb2⟩
          have HB2 := hid hb2
          clear hb2
          go_wp2_with fail
          go_ret
          exact ⟨rfl, unhid HB2⟩
        · have hd2 : ¬ (100 : Int) < (tx.length : Int) := by omega
          go_wp2_with fail
          go_roundw
          case rel => exact ⟨k + 1, by omega, by go_num, unhid HO, unhid HS⟩
          case measure => simp [intOf]; omega
      · obtain rfl : k = ls.length := by omega
        go_wp2_with fail
        refine ((unhid HP1) wr (unhid HS).ok).mono ?_
        rintro e w1 ⟨hb, A1, c1, rfl, hi⟩
        have HO := hid ((unhid HO).next hb)
        have HS := hid ((unhid HS).below hb)
        have HI := hid hi
        clear hb hi HP1 s0 s1 s2 s3
        go_upto_region 9 with (fail)
        change Code.wp _ _ _ _ (w1.alloc (.cells #[.int .i64 g.shape, .int .i64 g.size, .int .i64 g.height, .slice A1 g.items.length c1] 25))
        have HO := hid ((unhid HO).lay (.cells #[.int .i64 g.shape, .int .i64 g.size, .int .i64 g.height, .slice A1 g.items.length c1] 25))
        have HS := hid ((unhid HS).below (below_alloc w1 (.cells #[.int .i64 g.shape, .int .i64 g.size, .int .i64 g.height, .slice A1 g.items.length c1] 25)))
        have HF := hid (FaceAt.new w1 c1 (unhid HI))
        generalize w1.alloc (.cells #[.int .i64 g.shape, .int .i64 g.size, .int .i64 g.height, .slice A1 g.items.length c1] 25) = w2 at *
        generalize w1.heap.size = E at *
        obtain ⟨s0, s1, s2, s3⟩ := (unhid HS).cells
        go_wp2_with fail
        refine ((unhid HP2) w2 (unhid HS).ok).mono ?_
        rintro e w3 ⟨hb, A2, c2, rfl, hi⟩
        have HO := hid ((unhid HO).next hb)
        have HF := hid ((unhid HF).below hb)
        have HI2 := hid hi
        clear hb hi HP2 s0 s1 s2 s3 HS HI
        go_upto_region 10 with (fail)
        change Code.wp _ _ _ _ (w3.alloc (.cells #[.int .i64 g.shape, .int .i64 g.size, .int .i64 g.height, .slice A2 g.items.length c2] 25))
        have HO := hid ((unhid HO).lay (.cells #[.int .i64 g.shape, .int .i64 g.size, .int .i64 g.height, .slice A2 g.items.length c2] 25))
        have HF := hid ((unhid HF).below (below_alloc w3 (.cells #[.int .i64 g.shape, .int .i64 g.size, .int .i64 g.height, .slice A2 g.items.length c2] 25)))
        have HG := hid (FaceAt.new w3 c2 (unhid HI2))
        generalize w3.alloc (.cells #[.int .i64 g.shape, .int .i64 g.size, .int .i64 g.height, .slice A2 g.items.length c2] 25) = w4 at *
        generalize w3.heap.size = E2 at *
        obtain ⟨d0, d1, d2, d3⟩ := (unhid HF).cells
        obtain ⟨e0, e1, e2, e3⟩ := (unhid HG).cells
        go_wp2_with fail
        refine (same_pan g A1 A2 c1 c2 w4 (unhid HF).ok (unhid HG).ok).mono ?_
        rintro e w5 ⟨rfl, hb⟩
        have HO := hid ((unhid HO).next hb)
        clear hb d0 d1 d2 d3 e0 e1 e2 e3
        go_wp2_with fail
        refine (unhid HO).first.mono ?_
        rintro e w9 ⟨rfl, hb2⟩
        have HB2 := hid hb2
        clear hb2
        go_wp2_with fail
        go_ret
        exact ⟨rfl, unhid HB2⟩

end Go.Proofs.YtmagidoodlkeoaaGreatDoor
