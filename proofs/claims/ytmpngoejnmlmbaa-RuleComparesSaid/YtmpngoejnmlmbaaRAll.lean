/-
  The reference's all and musts.
-/
import Derived.Test.YtmpngoejnmlmbaaStripP
import Derived.Test.YtmpngoejnmlmbaaHolds2
import Derived.Deep.AppendLies
set_option linter.unusedSimpArgs false
set_option linter.unusedVariables false
namespace Go.Proofs.Ytmpngoejnmlmbaa
open Go.RowKit

theorem ints_snoc (f : Nat → Int) (k : Nat) : ints ((List.range (k + 1)).map f) = ints ((List.range k).map f) ++ [.int .i64 (f k)] := by
  simp [List.range_succ, ints]

set_option maxHeartbeats 4000000 in
set_option maxRecDepth 100000 in
theorem rmusts_calls (n : Nat) (A : Option Addr) (q c : Nat) (A2 : Option Addr) (ed : List Ed) (c2 : Nat) (hour dir topic : Int) (w : World) (hn : n ≤ 100000) (hr : Rd w A2 (edicts ed)) (hl : ed.length ≤ 100000000) :
    Calls Try.prog 70 #[.agg #[.int .i64 n, .slice A q c], .slice A2 ed.length c2, .int .i64 hour, .int .i64 dir, .int .i64 topic] w fun e w' =>
      ∃ (A' : Option Addr) (c' : Nat), e = .returned (.slice A' n c') ∧ Rd w' A' (ints (mustS n ed hour dir topic)) ∧ Below w.heap.size w w' ∧ ∀ a, A' = some a → w.heap.size ≤ a.block := by
  have HR := hid hr
  clear hr
  obtain ⟨i0, hi, hz0, hz1, hz2⟩ := info_parts info_int
  go_enter Try.func70, Try.ntmps70
  go_wp2_with fail
  generalize hW : w.alloc _ = w1
  have hB1 : w.heap.size < w1.heap.size := by rw [← hW]; simp
  have d0 : w1.cell? ⟨w.heap.size, 0, none⟩ = some (.int .i64 n) := by rw [← hW]; simp [go_sem]
  have hbw1 : Below w.heap.size w w1 := by rw [← hW]; exact below_alloc _ _
  clear hW
  go_loopw [11, 12] (fun v i wr => ∃ k : Nat, k ≤ n ∧ i = .int .i64 k ∧ wr.ownsRow w1.heap.size 3 1 v k (ints ((List.range k).map fun m => mustP ed hour dir topic (m : Nat))) ∧ Below w1.heap.size w1 wr) (fun _ i _ => n - (intOf i).toNat)
  case atStart => exact ⟨0, Nat.zero_le _, rfl, World.ownsRow_nil _ _ _ _, Below.refl _ _⟩
  case round =>
    obtain ⟨k, hk, rfl, hown, hbel⟩ := hrel
    have f0 := (hbel.cell (p := ⟨w.heap.size, 0, none⟩) hB1).trans d0
    have HO := hid hown
    clear hown
    by_cases hlt : k < n
    · have KM := hid (rmust_calls A2 ed c2 hour dir topic k wr ((unhid HR).below (hbw1.trans (hbel.mono hbw1.size))) hl)
      generalize hx : mustP ed hour dir topic k = x at *
      have HX := hid hx
      clear hx
      go_wp2_with fail
      refine (unhid KM).mono ?_
      rintro e w2 ⟨rfl, hb2⟩
      have hbel2 : Below w1.heap.size w1 w2 := hbel.trans (hb2.mono hbel.size)
      have hsz := hbel2.size
      have hown2 := own_below (unhid HO) hb2
      clear hb2
      go_wp2_with (at_builtin; refine wpList_append_own _ rfl _ _ 22 rfl w1.heap.size 3 i0 (.int .i64 0) 1 8 Try.underlying22 hi hz0 hz1 hz2 rfl (by decide) _ _ _ rfl (hown2.alloc _) ⟨w2.heap.size, 0, none⟩ 1 1 [.int .i64 x] rfl rfl ?c1 ?c2 ?c3 ?c4 ?c5 ?_)
      case c1 =>
        intro j u hj
        match j, hj with
        | 0, hj => simp at hj; subst hj; simp [Addr.add, go_sem]
      case c2 => intro u hu; simp at hu; subst hu; rfl
      case c3 => unfold maxLen; omega
      case c4 => omega
      case c5 => simp; omega
      intro v' w3 hown3 hg3 _
      have hb3 : Below w1.heap.size w1 w3 := by
        refine Below.grown (hbel2.alloc hsz _) hg3 (by simp; omega) (fun i hi => ?_)
        rcases Nat.lt_or_ge i w1.heap.size with h | h
        · exact absurd hi (own_ne hown2 (Or.inl h))
        · exact h
      have HO3 := hid hown3
      clear hown3 hown2 hg3
      go_wp2_with fail
      go_roundw
      case rel =>
        refine ⟨k + 1, by omega, by go_num, ?_, hb3⟩
        have := unhid HO3
        rw [ints_snoc, unhid HX]
        exact this
      case measure => simp [intOf]; omega
    · obtain rfl : k = n := by omega
      obtain ⟨A3, c3, rfl, hrd3, hfr⟩ := own_slice (unhid HO)
      have HFR := hid (fun a (ha : A3 = some a) => (show w.heap.size ≤ a.block from by have := hfr _ (by rw [ha]; rfl); omega))
      clear hfr
      clear HO
      go_wp2_with fail
      go_ret
      exact ⟨A3, c3, rfl, hrd3, hbw1.trans (hbel.mono hbw1.size), unhid HFR⟩

set_option maxHeartbeats 4000000 in
set_option maxRecDepth 100000 in
theorem rall_calls (n : Nat) (A : Option Addr) (js : List Int) (c : Nat) (A2 : Option Addr) (l : List Sg) (c2 : Nat) (hour dir topic : Int) (w : World) (hl : LnOk w A js) (hs : SgsOk w A2 l) (hv : lineB n js = true) (hv2 : sgsB n js l = true) :
    Calls Try.prog 69 #[.agg #[.int .i64 n, .slice A js.length c], .slice A2 l.length c2, .int .i64 hour, .int .i64 dir, .int .i64 topic] w fun e w' =>
      ∃ (A' : Option Addr) (c' : Nat) (R : List Sg), InsRow n hour dir l R ∧ e = .returned (.slice A' n c') ∧ Rd w' A' (ints (holdS n js (mtl n dir R) dir topic)) ∧ Below w.heap.size w w' ∧ ∀ a, A' = some a → w.heap.size ≤ a.block := by
  have HL := hid hl
  have HS := hid hs
  clear hl hs
  have hlen2 := lineB_len hv
  have HJ := hid (lineB_mem hv)
  have HV2 := hid hv2
  have HC := hid (sgsB_chain hv2)
  have hl100 := sgsB_len hv2
  clear hv hv2
  obtain ⟨i0, hi, hz0, hz1, hz2⟩ := info_parts info_int
  go_enter Try.func69, Try.ntmps69
  go_wp2_with fail
  refine (rrow_calls n A js.length c A2 l c2 hour dir _ ((unhid HS).below (below_alloc _ _)) (by omega) hlen2.2 (unhid HC)).mono ?_
  rintro e w1 ⟨A3, c3, R, rfl, hrow, hrd, hb1⟩
  have d0 := hb1.cell (p := ⟨w.heap.size, 0, none⟩) (by simp)
  have d1 := hb1.cell (p := ⟨w.heap.size, 1, none⟩) (by simp)
  simp [go_sem] at d0 d1
  have hbw1 : Below w.heap.size w w1 := (below_alloc w _).trans (hb1.mono (by simp))
  have hB1 : w.heap.size < w1.heap.size := Nat.lt_of_lt_of_le (by simp) hb1.size
  clear hb1
  have hRL : R.length ≤ 100 := by have := selS_len hour dir l; have := hrow.perm.length_eq; omega
  have HROK := hid (rowSg_of hrow (unhid HV2))
  have HROW := hid hrow
  have HRD := hid hrd
  have HL1 := hid ((unhid HL).below hbw1)
  clear hrow hrd
  go_wp2_with fail
  go_loopw [12, 13] (fun v i wr => ∃ k : Nat, k ≤ n ∧ i = .int .i64 k ∧ wr.ownsRow w1.heap.size 3 1 v k (ints ((List.range k).map fun m => holdP n js (mtl n dir R) dir topic (metreI n dir (m : Nat)))) ∧ Below w1.heap.size w1 wr) (fun _ i _ => n - (intOf i).toNat)
  case atStart => exact ⟨0, Nat.zero_le _, rfl, World.ownsRow_nil _ _ _ _, Below.refl _ _⟩
  case round =>
    obtain ⟨k, hk, rfl, hown, hbel⟩ := hrel
    have f0 := (hbel.cell (p := ⟨w.heap.size, 0, none⟩) hB1).trans d0
    have f1 := (hbel.cell (p := ⟨w.heap.size, 1, none⟩) hB1).trans d1
    have HO := hid hown
    have hBr := Nat.lt_of_lt_of_le hB1 hbel.size
    clear hown
    by_cases hlt : k < n
    · have hmi := metreI_lt (len := n) (dir := dir) (k := k) (by omega) (by omega)
      have HLr := hid ((unhid HL1).below hbel)
      have HRr := hid ((unhid HRD).below hbel)
      generalize hx : holdP n js (mtl n dir R) dir topic (metreI n dir k) = x at *
      have HX := hid hx
      clear hx
      have KB := hid (fun W => beginning_calls n A js.length c dir k W (by omega) (by omega) hlen2.2)
      have KH := hid (fun (W : World) (hb : Below wr.heap.size wr W) => (holding_calls n A js c A3 R c3 dir topic (metreI n dir k) W ((unhid HLr).below hb) (unhid HJ) hlen2.2 ((unhid HRr).below hb) (by omega) (unhid HROK) hmi.1 hmi.2).mono fun _ _ h => (⟨h.1.trans (by rw [unhid HX]), h.2⟩ : _ ∧ _))
      generalize hmm : metreI n dir k = mm at *
      have HMM := hid hmm
      clear hmm
      go_wp2_with fail
      have ag : u12.ownBlock ≠ some w.heap.size := own_ne (unhid HO) (Or.inl hB1)
      go_region_held3 (fun w' => w'.cell? ⟨w.heap.size, 0, none⟩ = some (.int .i64 n) ∧ w'.cell? ⟨w.heap.size, 1, none⟩ = some (.slice A js.length c)) (first | (refine ⟨?_, ?_⟩ <;> assumption) | go_keep | (go_split_ands; refine ⟨?_, ?_⟩ <;> (rw [hgrow.cell_far _ (by simp; omega) (Ne.symm ag)]; first | assumption | go_keep)))
        (first
          | (refine step_append_lies _ (by rfl) _ _ _ (by rfl) w1.heap.size 3 i0 _ 1 8 Try.underlying22 hi hz0 hz1 hz2 rfl (by omega) u12 k _ (by rfl) ((unhid HO6).alloc (.cells #[.int .i64 x] 3)) ⟨w6.heap.size, 0, none⟩ 1 1 [.int .i64 x] (by rfl) (by rfl) (World.news_of_block (cs := #[.int .i64 x]) (t := 3) (fr := (0, 0)) (heap_alloc_new w6 _)) (by simp [Value.oneCell']) (by omega) (by unfold maxLen; omega) (by omega) (by simp; omega) (w6.heap.size + 1) (by simp) ?_; intro gg cap w7 hown7 hgrow hat hlt7)
          | (go_at_call 64; refine ((unhid KB) _).mono ?_; rintro e w5 ⟨rfl, rfl⟩)
          | (go_at_call 63; refine ((unhid KH) _ (below_alloc' (Below.drew (Below.refl _ _)) _)).mono ?_; rintro e w6 ⟨rfl, hb6⟩; have hbx : Below wr.heap.size wr w6 := (below_alloc' (Below.drew (Below.refl _ _)) _).trans (hb6.mono (by simp)); have e0 := (hbx.cell (p := ⟨w.heap.size, 0, none⟩) hBr).trans f0; have e1 := (hbx.cell (p := ⟨w.heap.size, 1, none⟩) hBr).trans f1; have HO6 := hid (own_below (unhid HO) hbx); have hsx := hbx.size; have hsr := hbel.size))
      have hb7 : Below w1.heap.size w1 w7 := by
        refine Below.grown ((hbel.trans (hbx.mono hbel.size)).alloc (by omega) _) hgrow (by simp; omega) (fun i hi => ?_)
        rcases Nat.lt_or_ge i w1.heap.size with h | h
        · exact absurd hi (own_ne (unhid HO) (Or.inl h))
        · exact h
      have HO7 := hid hown7
      clear hown7 hgrow hat hlt7 hb6 HO6
      go_wp2_with fail
      go_roundw
      case rel =>
        refine ⟨k + 1, by omega, by go_num, ?_, hb7⟩
        have := unhid HO7
        rw [ints_snoc, unhid HMM, unhid HX]
        exact this
      case measure => simp [intOf]; omega
    · obtain rfl : k = n := by omega
      obtain ⟨A4, c4, rfl, hrd4, hfr⟩ := own_slice (unhid HO)
      have HFR := hid (fun a (ha : A4 = some a) => (show w.heap.size ≤ a.block from by have := hfr _ (by rw [ha]; rfl); omega))
      clear hfr
      clear HO
      go_wp2_with fail
      go_ret
      exact ⟨A4, c4, R, unhid HROW, rfl, hrd4, hbw1.trans (hbel.mono hbw1.size), unhid HFR⟩

theorem own_drewN {w : World} {base e size n : Nat} {v : Value} {xs : List Value} (h : w.ownsRow base e size v n xs) (q : Nat) : (w.drewN q).ownsRow base e size v n xs := h

end Go.Proofs.Ytmpngoejnmlmbaa
