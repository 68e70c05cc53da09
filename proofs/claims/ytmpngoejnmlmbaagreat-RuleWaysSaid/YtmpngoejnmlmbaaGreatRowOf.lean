/-
  The row of a direction: package rule's rowOf, up to the sort.
-/
import Derived.Test.YtmpngoejnmlmbaaGreatRow
set_option linter.unusedSimpArgs false
set_option linter.unusedVariables false
namespace Go.Proofs.YtmpngoejnmlmbaaGreat
open Go.RowKit Go.Shelf Go.Sort


set_option maxHeartbeats 4000000 in
set_option maxRecDepth 100000 in
theorem rowOf_calls' (len : Int) (A : Option Addr) (n c : Nat) (A2 : Option Addr) (l : List Sg) (c2 : Nat) (hour dir : Int) (w : World) (hs : SgsOk w A2 l) (hl100 : l.length ≤ 100000000000) (hlen : len ≤ 100000) (hch : ∀ s ∈ l, 0 ≤ s.chain ∧ s.chain ≤ len) :
    Calls Tryz.prog 49 #[.agg #[.int .i64 len, .slice A n c], .slice A2 l.length c2, .int .i64 hour, .int .i64 dir] w fun e w' =>
      ∃ (A' : Option Addr) (c' : Nat) (R : List Mt), e = .returned (.slice A' R.length c') ∧ IsRow len hour dir l R ∧ Rd w' A' (mts R) ∧ Below w.heap.size w w' ∧ ∀ a, A' = some a → w.heap.size ≤ a.block := by
  have HS := hid hs
  have HCH := hid hch
  have hsn := hs.n
  clear hs hch
  obtain ⟨i0, hi, hz0, hz1, hz2⟩ := info_parts info_meets
  go_enter Tryz.func49, Tryz.ntmps49
  go_wp2_with fail
  go_loopw [14, 9] (fun i v wr => ∃ k : Nat, k ≤ l.length ∧ i = .int .i64 k ∧ wr.ownsRow (w.heap.size + 1) 97 10 v (selP len hour dir (l.take k)).length (mts (selP len hour dir (l.take k))) ∧
    Below (w.heap.size + 1) (w.alloc (.cells #[.int .i64 len, .slice A n c] 24)) wr) (fun i _ _ => l.length - (intOf i).toNat)
  case atStart => exact ⟨0, Nat.zero_le _, rfl, World.ownsRow_nil _ _ _ _, Below.refl _ _⟩
  case round =>
    obtain ⟨k, hk, rfl, hown, hbel⟩ := hrel
    have hbw : Below w.heap.size w wr := (below_alloc w _).trans (hbel.mono (by omega))
    by_cases hlt : k < l.length
    · obtain ⟨b, off, rfl, hb, hc⟩ := (unhid HS).rd (signs_ne hlt)
      obtain ⟨c0, c1, c2, c3, c4, c5, c6, c7, c8⟩ := signs_cells (w := wr) (fun j u hu => (hbw.cell (p := ⟨b, off + j, none⟩) hb).trans (hc j u hu)) hlt
      clear hc
      have e0 := hbel.cell (p := ⟨w.heap.size, 0, none⟩) (by simp)
      have e1 := hbel.cell (p := ⟨w.heap.size, 1, none⟩) (by simp)
      simp [go_sem] at e0 e1
      have hin : l[k] ∈ l := List.getElem_mem hlt
      have hok := ((unhid HS).all _ hin).below hbw
      have hchx := unhid HCH _ hin
      have hsn' := selP_snoc len hour dir l hlt
      have hsl := selP_len len hour dir (l.take k)
      rw [List.length_take] at hsl
      generalize hx : l[k] = x at *
      have HX := hid hx
      have HSN := hid hsn'
      clear hx hsn'
      have hwr : w.heap.size < wr.heap.size := by have := hbel.size; simp at this; omega
      generalize hR : selP len hour dir (l.take k) = R at *
      have HR := hid hR
      have HO := hid hown
      clear hR hown
      by_cases hd : x.dir = dir
      · have hd' : (x.dir == dir) = true := by simpa using hd
        have HD := hid hd
        clear hd
        go_wp2_with fail
        refine (speaks_calls x hour _ (hok.below (below_alloc wr _))).mono ?_
        rintro e w1 ⟨rfl, hb1⟩
        have d0 := hb1.cell (p := ⟨wr.heap.size, 0, none⟩) (by simp)
        have d1 := hb1.cell (p := ⟨wr.heap.size, 1, none⟩) (by simp)
        have d2 := hb1.cell (p := ⟨wr.heap.size, 2, none⟩) (by simp)
        have d3 := hb1.cell (p := ⟨wr.heap.size, 3, none⟩) (by simp)
        have d4 := hb1.cell (p := ⟨wr.heap.size, 4, none⟩) (by simp)
        have d5 := hb1.cell (p := ⟨wr.heap.size, 5, none⟩) (by simp)
        have d6 := hb1.cell (p := ⟨wr.heap.size, 6, none⟩) (by simp)
        have d7 := hb1.cell (p := ⟨wr.heap.size, 7, none⟩) (by simp)
        have d8 := hb1.cell (p := ⟨wr.heap.size, 8, none⟩) (by simp)
        simp [go_sem] at d0 d1 d2 d3 d4 d5 d6 d7 d8
        have f0 : w1.cell? ⟨w.heap.size, 0, none⟩ = some (.int .i64 len) := (hb1.cell (p := ⟨w.heap.size, 0, none⟩) (by simp; omega)).trans ((World.cell?_alloc_lt wr _ _ (by simpa using hwr)).trans e0)
        have f1 : w1.cell? ⟨w.heap.size, 1, none⟩ = some (.slice A n c) := (hb1.cell (p := ⟨w.heap.size, 1, none⟩) (by simp; omega)).trans ((World.cell?_alloc_lt wr _ _ (by simpa using hwr)).trans e1)
        have hbel1 : Below (w.heap.size + 1) (w.alloc (.cells #[.int .i64 len, .slice A n c] 24)) w1 := (hbel.alloc (by omega) _).trans (hb1.mono (by simp; omega))
        have hown1 := ((unhid HO).alloc (.cells #[.int .i64 x.num, .int .i64 x.kind, .int .i64 x.val, .int .i64 x.chain, .int .i64 x.dir, .int .i64 x.rank, .int .i64 x.up, .int .i64 x.down, .slice x.cA x.cov.length x.cc] 80))
        have hown1' : w1.ownsRow (w.heap.size + 1) 97 10 u9 R.length (mts R) := hown1.kept (row := none) ⟨hb1.os, hb1.tape, hb1.output, hb1.size, fun i hi _ => hb1.block i hi⟩ (by cases h : u9.ownBlock <;> simp)
        have hsz1 : wr.heap.size + 1 ≤ w1.heap.size := by have := hb1.size; simpa using this
        have HO1 := hid hown1'
        have ag : u9.ownBlock ≠ some wr.heap.size := own_ne (unhid HO) (Or.inr (Nat.le_refl _))
        have aw : u9.ownBlock ≠ some w.heap.size := own_ne (unhid HO) (Or.inl (by omega))
        clear hown1 hown1' hb1
        by_cases hsp : spkB x hour = true
        · rw [hsp]
          go_wp2_with fail
          go_region_held3 (fun w' => w'.cell? ⟨wr.heap.size, 0, none⟩ = some (.int .i64 x.num) ∧ w'.cell? ⟨wr.heap.size, 1, none⟩ = some (.int .i64 x.kind) ∧ w'.cell? ⟨wr.heap.size, 2, none⟩ = some (.int .i64 x.val) ∧
              w'.cell? ⟨wr.heap.size, 3, none⟩ = some (.int .i64 x.chain) ∧ w'.cell? ⟨wr.heap.size, 4, none⟩ = some (.int .i64 x.dir) ∧ w'.cell? ⟨wr.heap.size, 5, none⟩ = some (.int .i64 x.rank) ∧ w'.cell? ⟨wr.heap.size, 6, none⟩ = some (.int .i64 x.up) ∧
              w'.cell? ⟨wr.heap.size, 7, none⟩ = some (.int .i64 x.down) ∧ w'.cell? ⟨wr.heap.size, 8, none⟩ = some (.slice x.cA x.cov.length x.cc) ∧ w'.cell? ⟨w.heap.size, 0, none⟩ = some (.int .i64 len) ∧ w'.cell? ⟨w.heap.size, 1, none⟩ = some (.slice A n c))
            (first | go_keep | (go_split_ands; refine ⟨?_, ?_, ?_, ?_, ?_, ?_, ?_, ?_, ?_, ?_, ?_⟩ <;> first | (rw [hgrow.cell_far _ (by simp; omega) (Ne.symm ag)]; first | assumption | go_keep) | (rw [hgrow.cell_far _ (by simp; omega) (Ne.symm aw)]; first | assumption | go_keep)))
            (first
              | (refine step_append_lies _ (by rfl) _ _ _ (by rfl) (w.heap.size + 1) 97 i0 _ 10 96 Tryz.underlying94 hi hz0 hz1 hz2 rfl (by omega) u9 R.length (mts R) (by rfl) ((((unhid HO1).alloc (.cells #[.int .i64 len, .slice A n c] 24)).alloc (.cells #[.int .i64 x.num, .int .i64 x.kind, .int .i64 x.val, .int .i64 x.chain, .int .i64 x.dir, .int .i64 x.rank, .int .i64 x.up, .int .i64 x.down, .slice x.cA x.cov.length x.cc, .int .i64 (distI len dir x.chain)] 97)).drew) ⟨w1.heap.size + 1, 0, none⟩ 1 1 [.int .i64 x.num, .int .i64 x.kind, .int .i64 x.val, .int .i64 x.chain, .int .i64 x.dir, .int .i64 x.rank, .int .i64 x.up, .int .i64 x.down, .slice x.cA x.cov.length x.cc, .int .i64 (distI len dir x.chain)] (by rfl) (by rfl) (World.news_of_block (cs := #[.int .i64 x.num, .int .i64 x.kind, .int .i64 x.val, .int .i64 x.chain, .int .i64 x.dir, .int .i64 x.rank, .int .i64 x.up, .int .i64 x.down, .slice x.cA x.cov.length x.cc, .int .i64 (distI len dir x.chain)]) (t := 97) (fr := (0, 0)) (heap_alloc2_new w1 _ _)) (by simp [Value.oneCell']) (by omega) (by unfold maxLen; omega) (by omega) (by simp; omega) (w1.heap.size + 2) (by simp) ?_; intro gg cap w3 hown3 hgrow hat hlt3)
              | (go_at_call 61; refine (distance_calls len A n c dir x.chain _ hchx.1 hchx.2 hlen).mono ?_; rintro e w2 ⟨rfl, rfl⟩))
          have hbel3 : Below (w.heap.size + 1) (w.alloc (.cells #[.int .i64 len, .slice A n c] 24)) w3 := by
            refine Below.grown (((hbel1.alloc (by omega) _).alloc (by simp; omega) _).drew) hgrow (by simp; omega) (fun i hi => ?_)
            rcases Nat.lt_or_ge i (w.heap.size + 1) with h | h
            · exact absurd hi (own_ne (unhid HO) (Or.inl h))
            · exact h
          clear hgrow
          go_wp2_with fail
          go_roundw
          case rel =>
            refine ⟨k + 1, by omega, by go_num, ?_, hbel3⟩
            have hs2 : (decide (x.dir = dir) && spkB x hour) = true := by simp [unhid HD, hsp]
            have hm : mts (R ++ [⟨x, distI len dir x.chain⟩]) = mts R ++ mtC ⟨x, distI len dir x.chain⟩ := by simp [mts]
            rw [unhid HSN, if_pos hs2, hm, List.length_append]
            exact hown3
          case measure => simp [intOf]; omega
        · rw [Bool.not_eq_true] at hsp
          rw [hsp]
          go_wp2_with fail
          go_roundw
          case rel =>
            refine ⟨k + 1, by omega, by go_num, ?_, hbel1⟩
            rw [unhid HSN, if_neg (by rw [hsp]; simp), List.append_nil]; exact unhid HO1
          case measure => simp [intOf]; omega
      · have hd' : (x.dir == dir) = false := by simpa using hd
        have HD := hid hd
        clear hd
        go_wp2_with fail
        go_roundw
        case rel =>
          refine ⟨k + 1, by omega, by go_num, ?_, hbel.alloc (by omega) _⟩
          rw [unhid HSN, if_neg (by have := unhid HD; simp [this]), List.append_nil]; exact (unhid HO).alloc _
        case measure => simp [intOf]; omega
    · rw [List.take_of_length_le (by omega)] at hown
      have hsl := selP_len len hour dir l
      have hcon := sortK Tryz.sortMeets 10 (by omega) Tryz.isAgg97 Tryz.sizeOf97 mtC (fun _ => rfl) (fun x v hv => by simp [mtC, sgC] at hv; rcases hv with rfl | rfl | rfl | rfl | rfl | rfl | rfl | rfl | rfl | rfl <;> rfl) mtO mtSWO 90
        (fun args w => by simp [go_sem]) mtCmp_any (selP len hour dir l) u9 (w.heap.size + 1) 97 wr hown (by omega)
      change Calls Tryz.prog 89 _ _ _ at hcon
      have HO := hid hown
      clear hown
      go_wp2_with fail
      refine hcon.mono ?_
      rintro e w2 ⟨rfl, R, hp, hsrt, hown2, hg⟩
      have hlenR : R.length = (selP len hour dir l).length := hp.length_eq
      have HR2 := hid hlenR
      have HP := hid hp
      clear hlenR hp
      go_wp2_with fail
      go_ret
      have hb2 : Below w.heap.size w w2 := by
        refine Below.grown hbw hg (by have := hbel.size; simp at this; omega) (fun i hi => ?_)
        rcases Nat.lt_or_ge i (w.heap.size + 1) with h | h
        · exact absurd hi (own_ne (unhid HO) (Or.inl h))
        · omega
      obtain ⟨A', c', hv, hrd, hfr⟩ := own_slice hown2
      refine ⟨A', c', R, ?_, ⟨unhid HP, hsrt.imp fun {a b} h => ?_⟩, hrd, hb2, fun a ha => (by have := hfr _ (by rw [hv, ha]; rfl); omega)⟩
      · rw [unhid HR2]; exact congrArg Ending.returned hv
      · rw [← mtO_iff, h]; simp

theorem rowOf_calls (len : Int) (A : Option Addr) (n c : Nat) (A2 : Option Addr) (l : List Sg) (c2 : Nat) (hour dir : Int) (w : World) (hs : SgsOk w A2 l) (hl100 : l.length ≤ 100000000000) (hlen : len ≤ 100000) (hch : ∀ s ∈ l, 0 ≤ s.chain ∧ s.chain ≤ len) :
    Calls Tryz.prog 49 #[.agg #[.int .i64 len, .slice A n c], .slice A2 l.length c2, .int .i64 hour, .int .i64 dir] w fun e w' =>
      ∃ (A' : Option Addr) (c' : Nat) (R : List Mt), e = .returned (.slice A' R.length c') ∧ IsRow len hour dir l R ∧ Rd w' A' (mts R) ∧ Below w.heap.size w w' :=
  (rowOf_calls' len A n c A2 l c2 hour dir w hs hl100 hlen hch).mono fun e w' h => by
    obtain ⟨A', c', R, h1, h2, h3, h4, -⟩ := h
    exact ⟨A', c', R, h1, h2, h3, h4⟩

end Go.Proofs.YtmpngoejnmlmbaaGreat
