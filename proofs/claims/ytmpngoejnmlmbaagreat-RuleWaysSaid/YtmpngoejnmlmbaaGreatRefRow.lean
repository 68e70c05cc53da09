/-
  The reference's Row.
-/
import Derived.Test.YtmpngoejnmlmbaaGreatAhead
import Derived.Test.YtmpngoejnmlmbaaGreatRowR
import Derived.Test.YtmpngoejnmlmbaaGreatKit2
set_option linter.unusedSimpArgs false
set_option linter.unusedVariables false
namespace Go.Proofs.YtmpngoejnmlmbaaGreat
open Go.RowKit

def selS (hour dir : Int) (l : List Sg) : List Sg := l.filter fun s => decide (s.dir = dir) && spkB s hour
theorem selS_snoc (hour dir : Int) (l : List Sg) {k : Nat} (hk : k < l.length) :
    selS hour dir (l.take (k + 1)) = selS hour dir (l.take k) ++ if (decide (l[k].dir = dir) && spkB l[k] hour) = true then [l[k]] else [] := by
  rw [List.take_succ_eq_append_getElem hk, selS, selS, List.filter_append]
  congr 1
  cases h : (decide (l[k].dir = dir) && spkB l[k] hour) <;> simp [List.filter_cons, h]
theorem selS_len (hour dir : Int) (l : List Sg) : (selS hour dir l).length ≤ l.length := List.length_filter_le _ _

def sgLt (len : Int) (a b : Sg) : Prop := mtLt (mtOf len a) (mtOf len b)
theorem sgLt_asymm {len : Int} {a b : Sg} (h : sgLt len a b) : ¬ sgLt len b a := by unfold sgLt mtLt at *; omega
theorem sgLt_ntrans {len : Int} {a b c : Sg} (h : ¬ sgLt len a b) (h2 : ¬ sgLt len b c) : ¬ sgLt len a c := by unfold sgLt mtLt at *; omega

structure InsRow (len hour dir : Int) (l : List Sg) (R : List Sg) : Prop where
  perm : R.Perm (selS hour dir l)
  sorted : R.Pairwise (fun a b => ¬ sgLt len b a)

theorem ins_sorted {len : Int} {R : List Sg} {x : Sg} {m : Nat} (hm : m ≤ R.length) (hs : R.Pairwise (fun a b => ¬ sgLt len b a))
    (h1 : ∀ j (h : j < R.length), m ≤ j → sgLt len x R[j]) (h2 : ∀ h : 0 < m, ¬ sgLt len x (R[m - 1]'(by omega))) : (R.take m ++ x :: R.drop m).Pairwise (fun a b => ¬ sgLt len b a) := by
  rw [List.pairwise_append]
  refine ⟨hs.sublist (List.take_sublist _ _), ?_, fun a ha b hb => ?_⟩
  · rw [List.pairwise_cons]
    refine ⟨fun b hb => ?_, hs.sublist (List.drop_sublist _ _)⟩
    obtain ⟨j, hj, rfl⟩ := List.mem_iff_getElem.1 hb
    rw [List.length_drop] at hj
    rw [List.getElem_drop]
    exact sgLt_asymm (h1 _ (by omega) (by omega))
  · obtain ⟨i, hi, rfl⟩ := List.mem_iff_getElem.1 ha
    rw [List.length_take] at hi
    rw [List.getElem_take]
    rw [List.pairwise_iff_getElem] at hs
    have hpos : 0 < m := by omega
    have hx : ¬ sgLt len x R[i] := by
      by_cases e : i = m - 1
      · subst e; exact h2 hpos
      · exact sgLt_ntrans (h2 hpos) (hs i (m - 1) (by omega) (by omega) (by omega))
    rcases List.mem_cons.1 hb with rfl | hb
    · exact hx
    · obtain ⟨j, hj, rfl⟩ := List.mem_iff_getElem.1 hb
      rw [List.length_drop] at hj
      rw [List.getElem_drop]
      exact hs _ _ (by omega) (by omega) (by omega)

theorem ins_perm {R S : List Sg} (x : Sg) (m : Nat) (h : R.Perm S) : (R.take m ++ x :: R.drop m).Perm (S ++ [x]) := by
  refine List.perm_middle.trans ?_
  rw [List.take_append_drop]
  exact (List.Perm.cons x h).trans (List.perm_append_singleton x S).symm

theorem info_sign : (Tryz.prog.info? 80).map (fun i => (i.zero, i.size, i.bytes)) = some (some (.agg #[.int .i64 0, .int .i64 0, .int .i64 0, .int .i64 0, .int .i64 0, .int .i64 0, .int .i64 0, .int .i64 0, .slice none 0 0]), 9, 88) := by kernel_rfl

theorem sgC_one {l : List Sg} : ∀ u ∈ signs l, u.oneCell' = true := by
  intro u hu
  simp only [signs, List.mem_flatMap] at hu
  obtain ⟨s, _, hs⟩ := hu
  simp [sgC] at hs
  rcases hs with rfl | rfl | rfl | rfl | rfl | rfl | rfl | rfl | rfl <;> rfl
theorem signs_len (l : List Sg) : (signs l).length = l.length * 9 := flat_len (f := sgC) (K := 9) (fun _ => rfl) l

theorem signs_take (R : List Sg) (m : Nat) : signs (R.take m) = (signs R).take (m * 9) := by
  induction R generalizing m with
  | nil => simp [signs]
  | cons y R ih =>
    cases m with
    | zero => simp [signs]
    | succ m =>
      have h9 : (sgC y).length = 9 := rfl
      simp only [List.take_succ_cons, signs, List.flatMap_cons] at *
      rw [ih, show (m + 1) * 9 = (sgC y).length + m * 9 by rw [h9]; omega, List.take_length_add_append]
theorem signs_drop (R : List Sg) (m : Nat) : signs (R.drop m) = (signs R).drop (m * 9) := by
  induction R generalizing m with
  | nil => simp [signs]
  | cons y R ih =>
    cases m with
    | zero => simp [signs]
    | succ m =>
      have h9 : (sgC y).length = 9 := rfl
      simp only [List.drop_succ_cons, signs, List.flatMap_cons] at *
      rw [ih, show (m + 1) * 9 = (sgC y).length + m * 9 by rw [h9]; omega, List.drop_length_add_append]
theorem signs_ins (R : List Sg) (x : Sg) (m : Nat) : signs (R.take m ++ x :: R.drop m) = (signs R).take (m * 9) ++ (sgC x ++ (signs R).drop (m * 9)) := by
  rw [← signs_take, ← signs_drop]; simp [signs]

set_option maxHeartbeats 4000000 in
set_option maxRecDepth 100000 in
theorem rrow_calls (len : Int) (A : Option Addr) (n c : Nat) (A2 : Option Addr) (l : List Sg) (c2 : Nat) (hour dir : Int) (w : World) (hs : SgsOk w A2 l) (hsn : l.length ≤ 100000000000) (hlen : len ≤ 100000) (hch : ∀ s ∈ l, 0 ≤ s.chain ∧ s.chain ≤ len) :
    Calls Tryz.prog 86 #[.agg #[.int .i64 len, .slice A n c], .slice A2 l.length c2, .int .i64 hour, .int .i64 dir] w fun e w' =>
      ∃ (A' : Option Addr) (c' : Nat) (R : List Sg), e = .returned (.slice A' R.length c') ∧ InsRow len hour dir l R ∧ Rd w' A' (signs R) ∧ Below w.heap.size w w' := by
  have HS := hid hs
  have HCH := hid hch
  clear hs hch
  obtain ⟨i0, hi, hz0, hz1, hz2⟩ := info_parts info_sign
  go_enter Tryz.func86, Tryz.ntmps86
  go_wp2_with fail
  go_loopw [10, 9] (fun i v wr => ∃ (k : Nat) (A' : Option Addr) (c' : Nat) (R : List Sg), k ≤ l.length ∧ i = .int .i64 k ∧ v = .slice A' R.length c' ∧ InsRow len hour dir (l.take k) R ∧ (Rd wr A' (signs R) ∧ R.length ≤ c' ∧ c' ≤ maxLen ∧ (A' = none → c' = 0)) ∧
    Below (w.heap.size + 1) (w.alloc (.cells #[.int .i64 len, .slice A n c] 24)) wr) (fun i _ _ => l.length - (intOf i).toNat)
  case atStart => exact ⟨0, none, 0, [], Nat.zero_le _, rfl, rfl, ⟨by simp [selS], List.Pairwise.nil⟩, ⟨Rd.nil _ _, Nat.le_refl _, Nat.zero_le _, fun _ => rfl⟩, Below.refl _ _⟩
  case round =>
    obtain ⟨k, A', c', R, hk, rfl, rfl, hins, ⟨hRd, hRc, hcm, hcn⟩, hbel⟩ := hrel
    have hbw : Below w.heap.size w wr := (below_alloc w _).trans (hbel.mono (by omega))
    have HI := hid hins
    have HRD := hid hRd
    have HCN := hid hcn
    have HCM := hid hcm
    have hRl : R.length ≤ k := by rw [hins.perm.length_eq]; exact Nat.le_trans (selS_len _ _ _) (by simp; omega)
    clear hins hRd hcn hcm
    by_cases hlt : k < l.length
    · obtain ⟨b, off, rfl, hb, hc⟩ := (unhid HS).rd (signs_ne hlt)
      obtain ⟨c0, c1, c2, c3, c4, c5, c6, c7, c8⟩ := signs_cells (w := wr) (fun j u hu => (hbw.cell (p := ⟨b, off + j, none⟩) hb).trans (hc j u hu)) hlt
      clear hc
      have e0 := hbel.cell (p := ⟨w.heap.size, 0, none⟩) (by simp)
      have e1 := hbel.cell (p := ⟨w.heap.size, 1, none⟩) (by simp)
      simp [go_sem] at e0 e1
      have hin : l[k] ∈ l := List.getElem_mem hlt
      have hok := ((unhid HS).all _ hin).below hbw
      have hchx := unhid HCH _ hin
      have HSN := hid (selS_snoc hour dir l hlt)
      have hxm : l[k] = l[k] := rfl
      clear hxm
      generalize hx : l[k] = x at *
      have HX := hid hx
      clear hx
      by_cases hd : x.dir = dir
      · have hd' : (x.dir != dir) = false := by simpa using hd
        have HD := hid hd
        clear hd
        go_wp2_with fail
        refine (rspeaks_calls x hour _ hok).mono ?_
        rintro e w1 ⟨rfl, hb1⟩
        have hbel1 : Below (w.heap.size + 1) (w.alloc (.cells #[.int .i64 len, .slice A n c] 24)) w1 := hbel.trans (hb1.mono (by have := hbel.size; simpa using this))
        have HRD1 := hid ((unhid HRD).below hb1)
        have hb1s := hb1.size
        have hbw1 : Below w.heap.size w w1 := hbw.trans (hb1.mono hbw.size)
        by_cases hsp : spkB x hour = true
        · rw [hsp]
          go_wp2_with fail
          obtain ⟨wo, rfl⟩ : ∃ wo : World, wo = w1 := ⟨_, rfl⟩
          go_loopw [11] (fun i wr => ∃ m : Nat, m ≤ R.length ∧ i = .int .i64 m ∧ (∀ j (h : j < R.length), m ≤ j → sgLt len x R[j]) ∧ Below wo.heap.size wo wr) (fun i _ => (intOf i).toNat)
          case atStart => exact ⟨R.length, Nat.le_refl _, rfl, fun j h hj => absurd h (by omega), Below.refl _ _⟩
          case round =>
            obtain ⟨m, hm, rfl, hafter, hbelm⟩ := hrel
            have HAF := hid hafter
            clear hafter
            have hszm := hbelm.size
            have hbwm : Below w.heap.size w wr := hbw1.trans (hbelm.mono hbw1.size)
            have hbelm1 : Below (w.heap.size + 1) (w.alloc (.cells #[.int .i64 len, .slice A n c] 24)) wr := hbel1.trans (hbelm.mono (by have := hbel1.size; simpa using this))
            have hb0 : b < wr.heap.size := Nat.lt_of_lt_of_le hb hbwm.size
            have hw0 : w.heap.size < wr.heap.size := by have := hbelm1.size; simp at this; omega
            obtain ⟨b', off', hA, hbb, hc⟩ := (unhid HS).rd (signs_ne hlt)
            injection hA with hA
            injection hA with hA1 hA2
            subst hA1 hA2
            obtain ⟨x0, x1, x2, x3, x4, x5, x6, x7, x8⟩ := signs_cells (w := wr) (fun j u hu => (hbwm.cell (p := ⟨b, off + j, none⟩) hb).trans (hc j u hu)) hlt
            clear hc
            rw [unhid HX] at x0 x1 x2 x3 x4 x5 x6 x7 x8
            have g0 := hbelm1.cell (p := ⟨w.heap.size, 0, none⟩) (by simp)
            have g1 := hbelm1.cell (p := ⟨w.heap.size, 1, none⟩) (by simp)
            simp [go_sem] at g0 g1
            by_cases hm0 : 0 < m
            · obtain ⟨b2, off2, hA', hb2, hc2⟩ := (unhid HRD1) (signs_ne (k := m - 1) (by omega))
              obtain ⟨y0, y1, y2, y3, y4, y5, y6, y7, y8⟩ := signs_cells (w := wr) (fun j u hu => (hbelm.cell (p := ⟨b2, off2 + j, none⟩) hb2).trans (hc2 j u hu)) (k := m - 1) (by omega)
              clear hc2
              have hb20 : b2 < wr.heap.size := Nat.lt_of_lt_of_le hb2 hbelm.size
              have hyl : R[m - 1]'(by omega) ∈ l := by
                have h1 := (unhid HI).perm.mem_iff.1 (List.getElem_mem (show m - 1 < R.length by omega))
                exact List.mem_of_mem_take (List.mem_filter.1 h1).1
              have hchy := unhid HCH _ hyl
              generalize hy : R[m - 1]'(by omega) = y at *
              have HY := hid hy
              clear hy hyl
              have := decide_eq_true (show 0 < m by omega)
              rw [hA']
              have HA' := hid hA'
              clear hA'
              cases hay : decide (mtLt (mtOf len x) (mtOf len y)) with
              | true =>
                have HAY := hid hay
                clear hay
                go_wp2_with fail
                have hq1 : IntKind.i64.wrap ((m : Int) - 1) = (m : Int) - 1 := IntWalk.i64_in _ (by omega)
                have hq2 : (0 : Int) ≤ (m : Int) - 1 := by omega
                have hq2' : (1 : Int) ≤ (m : Int) := by omega
                have hq3 : ((m : Int) - 1).toNat = m - 1 := by omega
                have hq4 : (m : Int) - 1 < (R.length : Int) := by omega
                go_region_held3 (fun w' => w'.cell? ⟨w.heap.size, 0, none⟩ = some (.int .i64 len) ∧ w'.cell? ⟨w.heap.size, 1, none⟩ = some (.slice A n c) ∧ w'.cell? ⟨b, off + k * 9, none⟩ = some (.int .i64 x.num) ∧ w'.cell? ⟨b, off + k * 9 + 1, none⟩ = some (.int .i64 x.kind) ∧ w'.cell? ⟨b, off + k * 9 + 2, none⟩ = some (.int .i64 x.val) ∧ w'.cell? ⟨b, off + k * 9 + 3, none⟩ = some (.int .i64 x.chain) ∧ w'.cell? ⟨b, off + k * 9 + 4, none⟩ = some (.int .i64 x.dir) ∧ w'.cell? ⟨b, off + k * 9 + 5, none⟩ = some (.int .i64 x.rank) ∧ w'.cell? ⟨b, off + k * 9 + 6, none⟩ = some (.int .i64 x.up) ∧ w'.cell? ⟨b, off + k * 9 + 7, none⟩ = some (.int .i64 x.down) ∧ w'.cell? ⟨b, off + k * 9 + 8, none⟩ = some (.slice x.cA x.cov.length x.cc) ∧ w'.cell? ⟨b2, off2 + (m - 1) * 9, none⟩ = some (.int .i64 y.num) ∧ w'.cell? ⟨b2, off2 + (m - 1) * 9 + 1, none⟩ = some (.int .i64 y.kind) ∧ w'.cell? ⟨b2, off2 + (m - 1) * 9 + 2, none⟩ = some (.int .i64 y.val) ∧ w'.cell? ⟨b2, off2 + (m - 1) * 9 + 3, none⟩ = some (.int .i64 y.chain) ∧ w'.cell? ⟨b2, off2 + (m - 1) * 9 + 4, none⟩ = some (.int .i64 y.dir) ∧ w'.cell? ⟨b2, off2 + (m - 1) * 9 + 5, none⟩ = some (.int .i64 y.rank) ∧ w'.cell? ⟨b2, off2 + (m - 1) * 9 + 6, none⟩ = some (.int .i64 y.up) ∧ w'.cell? ⟨b2, off2 + (m - 1) * 9 + 7, none⟩ = some (.int .i64 y.down) ∧ w'.cell? ⟨b2, off2 + (m - 1) * 9 + 8, none⟩ = some (.slice y.cA y.cov.length y.cc)) (first | go_keep | (go_split_ands; refine ⟨?_, ?_, ?_, ?_, ?_, ?_, ?_, ?_, ?_, ?_, ?_, ?_, ?_, ?_, ?_, ?_, ?_, ?_, ?_, ?_⟩ <;> (refine (hbz.cell ?_).trans ?_ <;> first | assumption | (simp; omega)))) (first | (go_at_call 113; refine (ahead_calls len A n c x y _ hchx hchy hlen).mono (fun _ _ h => (⟨h.1.trans (by rw [unhid HAY]), h.2⟩ : _ ∧ _)) |>.mono ?_; rintro e w2 ⟨rfl, hbz⟩))
                clear hq1 hq2 hq2' hq3 hq4
                go_wp2_with fail
                have hw2 : Below wo.heap.size wo w2 := Below.trans (below_drewN' hbelm 1) (hbz.mono hszm)
                go_roundw
                case rel =>
                  refine ⟨m - 1, by omega, by go_num, fun j hj hmj => ?_, hw2⟩
                  by_cases e : j = m - 1
                  · subst e; rw [unhid HY]; exact (decide_eq_true_iff (p := mtLt (mtOf len x) (mtOf len y))).1 (unhid HAY)
                  · exact unhid HAF j hj (by omega)
                case measure => simp [intOf]; omega
              | false =>
                have HAY := hid hay
                clear hay
                go_wp2_with fail
                have hq1 : IntKind.i64.wrap ((m : Int) - 1) = (m : Int) - 1 := IntWalk.i64_in _ (by omega)
                have hq2 : (0 : Int) ≤ (m : Int) - 1 := by omega
                have hq2' : (1 : Int) ≤ (m : Int) := by omega
                have hq3 : ((m : Int) - 1).toNat = m - 1 := by omega
                have hq4 : (m : Int) - 1 < (R.length : Int) := by omega
                go_region_held3 (fun w' => w'.cell? ⟨w.heap.size, 0, none⟩ = some (.int .i64 len) ∧ w'.cell? ⟨w.heap.size, 1, none⟩ = some (.slice A n c) ∧ w'.cell? ⟨b, off + k * 9, none⟩ = some (.int .i64 x.num) ∧ w'.cell? ⟨b, off + k * 9 + 1, none⟩ = some (.int .i64 x.kind) ∧ w'.cell? ⟨b, off + k * 9 + 2, none⟩ = some (.int .i64 x.val) ∧ w'.cell? ⟨b, off + k * 9 + 3, none⟩ = some (.int .i64 x.chain) ∧ w'.cell? ⟨b, off + k * 9 + 4, none⟩ = some (.int .i64 x.dir) ∧ w'.cell? ⟨b, off + k * 9 + 5, none⟩ = some (.int .i64 x.rank) ∧ w'.cell? ⟨b, off + k * 9 + 6, none⟩ = some (.int .i64 x.up) ∧ w'.cell? ⟨b, off + k * 9 + 7, none⟩ = some (.int .i64 x.down) ∧ w'.cell? ⟨b, off + k * 9 + 8, none⟩ = some (.slice x.cA x.cov.length x.cc) ∧ w'.cell? ⟨b2, off2 + (m - 1) * 9, none⟩ = some (.int .i64 y.num) ∧ w'.cell? ⟨b2, off2 + (m - 1) * 9 + 1, none⟩ = some (.int .i64 y.kind) ∧ w'.cell? ⟨b2, off2 + (m - 1) * 9 + 2, none⟩ = some (.int .i64 y.val) ∧ w'.cell? ⟨b2, off2 + (m - 1) * 9 + 3, none⟩ = some (.int .i64 y.chain) ∧ w'.cell? ⟨b2, off2 + (m - 1) * 9 + 4, none⟩ = some (.int .i64 y.dir) ∧ w'.cell? ⟨b2, off2 + (m - 1) * 9 + 5, none⟩ = some (.int .i64 y.rank) ∧ w'.cell? ⟨b2, off2 + (m - 1) * 9 + 6, none⟩ = some (.int .i64 y.up) ∧ w'.cell? ⟨b2, off2 + (m - 1) * 9 + 7, none⟩ = some (.int .i64 y.down) ∧ w'.cell? ⟨b2, off2 + (m - 1) * 9 + 8, none⟩ = some (.slice y.cA y.cov.length y.cc)) (first | go_keep | (go_split_ands; refine ⟨?_, ?_, ?_, ?_, ?_, ?_, ?_, ?_, ?_, ?_, ?_, ?_, ?_, ?_, ?_, ?_, ?_, ?_, ?_, ?_⟩ <;> (refine (hbz.cell ?_).trans ?_ <;> first | assumption | (simp; omega)))) (first | (go_at_call 113; refine (ahead_calls len A n c x y _ hchx hchy hlen).mono (fun _ _ h => (⟨h.1.trans (by rw [unhid HAY]), h.2⟩ : _ ∧ _)) |>.mono ?_; rintro e w2 ⟨rfl, hbz⟩))
                clear hq1 hq2 hq2' hq3 hq4
                go_wp2_with fail
                have HEX := hid (show ∀ h : 0 < m, ¬ sgLt len x (R[m - 1]'(by omega)) from fun h => by rw [unhid HY]; exact (decide_eq_false_iff_not (p := mtLt (mtOf len x) (mtOf len y))).1 (unhid HAY))
                have hbz' : Below wo.heap.size wo w2 := Below.trans (below_drewN' hbelm 1) (hbz.mono hszm)
                obtain ⟨wz, rfl⟩ : ∃ wz : World, wz = w2 := ⟨_, rfl⟩
                clear x0 x1 x2 x3 x4 x5 x6 x7 x8 g0 g1 y0 y1 y2 y3 y4 y5 y6 y7 y8 hbz
                rw [← unhid HA']
                have hbwz : Below w.heap.size w wz := hbw1.trans (hbz'.mono hbw1.size)
                obtain ⟨b', off', hA, hbb, hc⟩ := (unhid HS).rd (signs_ne hlt)
                injection hA with hA
                injection hA with hA1 hA2
                subst hA1 hA2
                obtain ⟨z0, z1, z2, z3, z4, z5, z6, z7, z8⟩ := signs_cells (w := wz) (fun j u hu => (hbwz.cell (p := ⟨b, off + j, none⟩) hb).trans (hc j u hu)) hlt
                clear hc
                rw [unhid HX] at z0 z1 z2 z3 z4 z5 z6 z7 z8
                have HRDZ := hid ((unhid HRD1).below hbz')
                have hbz0 : b < wz.heap.size := Nat.lt_of_lt_of_le hb hbwz.size
                have hRm : m ≤ R.length := hm
                have hmc : m ≤ c' := by omega
                have HTL := hid (show ((signs R).take (m * 9)).length = m * 9 by rw [List.length_take, signs_len]; omega)
                have HMN := hid (show A' = none → m = 0 from fun h => by have := unhid HCN h; omega)
                have HMM := hid (show m ≤ maxLen from Nat.le_trans hmc (unhid HCM))
                have HL2 := hid (show (sgC x ++ (signs R).drop (m * 9)).length = (1 + (R.length - m)) * 9 by rw [List.length_append, List.length_drop, signs_len, show (sgC x).length = 9 from rfl]; omega)
                have HO2 := hid (show ∀ u ∈ sgC x ++ (signs R).drop (m * 9), u.oneCell' = true from fun u hu => by
                  rcases List.mem_append.1 hu with h | h
                  · exact sgC_one (l := [x]) u (by simpa [signs] using h)
                  · exact sgC_one u (List.mem_of_mem_drop h))
                have HCK := hid (show m * 9 < (signs R).length → c' ≠ m from fun h => by rw [signs_len] at h; omega)
                have HDL := hid (show ((signs R).drop (m * 9)).length = (R.length - m) * 9 by rw [List.length_drop, signs_len, Nat.sub_mul])
                have HDO := hid (show ∀ u ∈ (signs R).drop (m * 9), u.oneCell' = true from fun u hu => sgC_one u (List.mem_of_mem_drop hu))
                go_region_held3 (fun w' => w'.cell? ⟨b, off + k * 9, none⟩ = some (.int .i64 x.num) ∧ w'.cell? ⟨b, off + k * 9 + 1, none⟩ = some (.int .i64 x.kind) ∧ w'.cell? ⟨b, off + k * 9 + 2, none⟩ = some (.int .i64 x.val) ∧ w'.cell? ⟨b, off + k * 9 + 3, none⟩ = some (.int .i64 x.chain) ∧ w'.cell? ⟨b, off + k * 9 + 4, none⟩ = some (.int .i64 x.dir) ∧ w'.cell? ⟨b, off + k * 9 + 5, none⟩ = some (.int .i64 x.rank) ∧ w'.cell? ⟨b, off + k * 9 + 6, none⟩ = some (.int .i64 x.up) ∧ w'.cell? ⟨b, off + k * 9 + 7, none⟩ = some (.int .i64 x.down) ∧ w'.cell? ⟨b, off + k * 9 + 8, none⟩ = some (.slice x.cA x.cov.length x.cc)) (first | go_keep | (go_split_ands; refine ⟨?_, ?_, ?_, ?_, ?_, ?_, ?_, ?_, ?_⟩ <;> (refine (hg4.cell_far _ (by first | assumption | (simp; omega)) (by simp)).trans ?_ <;> first | assumption | go_keep)) | (go_split_ands; refine ⟨?_, ?_, ?_, ?_, ?_, ?_, ?_, ?_, ?_⟩ <;> (refine (hg3.cell_far _ (by first | assumption | (simp; omega)) (by simp)).trans ?_ <;> first | assumption | go_keep))) (first | (refine step_app (by rfl) _ _ _ (by rfl) 80 i0 _ 9 88 Tryz.underlying25 hi hz0 hz1 hz2 rfl (by omega) (some ⟨wz.heap.size, 0, none⟩) 1 1 (sgC x) (by rfl) (rdNew wz (sgC x) 80) (by rfl) (fun h => by cases h) (Nat.le_refl _) (by unfold maxLen; omega) _ (R.length - m) (c' - m) ((signs R).drop (m * 9)) (by rfl) (((unhid HRDZ).below (Below.drew (below_alloc wz (.cells #[.int .i64 x.num, .int .i64 x.kind, .int .i64 x.val, .int .i64 x.chain, .int .i64 x.dir, .int .i64 x.rank, .int .i64 x.up, .int .i64 x.down, .slice x.cA x.cov.length x.cc] 80)))).cut m 9 c' (unhid HCK)) (unhid HDL) (unhid HDO) (by omega) (by unfold maxLen; omega) (by omega) ?_; intro A3 c3 w3 hr3 hle3 hcm3 hn3 hg3; have hb3 : b < w3.heap.size := Nat.lt_of_lt_of_le hbz0 (Nat.le_trans (by simp) hg3.size)) | (refine step_app (by rfl) _ _ _ (by rfl) 80 i0 _ 9 88 Tryz.underlying25 hi hz0 hz1 hz2 rfl (by omega) A' m m ((signs R).take (m * 9)) (by rfl) ((((unhid HRDZ).below (Below.drew (below_alloc wz (.cells #[.int .i64 x.num, .int .i64 x.kind, .int .i64 x.val, .int .i64 x.chain, .int .i64 x.dir, .int .i64 x.rank, .int .i64 x.up, .int .i64 x.down, .slice x.cA x.cov.length x.cc] 80)))).below (below_of_grown hg3)).take (m * 9)) (unhid HTL) (unhid HMN) (Nat.le_refl _) (unhid HMM) A3 (1 + (R.length - m)) c3 (sgC x ++ (signs R).drop (m * 9)) (by rfl) hr3 (unhid HL2) (unhid HO2) (Or.inr (by omega)) (by unfold maxLen; omega) (by omega) ?_; intro A4 c4 w4 hr4 hle4 hcm4 hn4 hg4))
                have hb4 : Below wz.heap.size wz w4 := ((Below.drew (below_alloc wz (.cells #[.int .i64 x.num, .int .i64 x.kind, .int .i64 x.val, .int .i64 x.chain, .int .i64 x.dir, .int .i64 x.rank, .int .i64 x.up, .int .i64 x.down, .slice x.cA x.cov.length x.cc] 80))).trans ((below_of_grown hg3).mono (by simp))).trans ((below_of_grown hg4).mono (Nat.le_trans (by simp) hg3.size))
                clear hg3 hg4 hr3
                go_wp2_with fail
                go_roundw
                case rel =>
                  refine ⟨k + 1, A4, c4, R.take m ++ x :: R.drop m, by omega, by go_num, ?_, ⟨?_, ?_⟩, ⟨?_, ?_, hcm4, hn4⟩, ?_⟩
                  · rw [show (R.take m ++ x :: R.drop m).length = m + (1 + (R.length - m)) by simp; omega]
                  · rw [unhid HSN, if_pos (by simp [unhid HD, hsp])]; exact ins_perm x m (unhid HI).perm
                  · exact ins_sorted hm (unhid HI).sorted (unhid HAF) (unhid HEX)
                  · rw [signs_ins]; exact hr4
                  · rw [show (R.take m ++ x :: R.drop m).length = m + (1 + (R.length - m)) by simp; omega]; exact hle4
                  · exact (hbel1.trans (hbz'.mono (by have := hbel1.size; simpa using this))).trans (hb4.mono (by have := hbw.size; have := hbw1.size; have h5 := hbel1.size; have h6 := hbz'.size; simp at h5; omega))
                case measure => simp [intOf]; omega
            · have := decide_eq_false (show ¬ (0 < m) by omega)
              go_wp2_with fail
              go_quiet (fail)
              go_wp2_with fail
              have HEX := hid (show ∀ h : 0 < m, ¬ sgLt len x (R[m - 1]'(by omega)) from fun h => absurd h hm0)
              have hbz' : Below wo.heap.size wo (wr.drewN nq) := below_drewN' hbelm nq
              clear x0 x1 x2 x3 x4 x5 x6 x7 x8 g0 g1
              generalize wr.drewN nq = wz at hbz' ⊢
              have hbwz : Below w.heap.size w wz := hbw1.trans (hbz'.mono hbw1.size)
              obtain ⟨b', off', hA, hbb, hc⟩ := (unhid HS).rd (signs_ne hlt)
              injection hA with hA
              injection hA with hA1 hA2
              subst hA1 hA2
              obtain ⟨z0, z1, z2, z3, z4, z5, z6, z7, z8⟩ := signs_cells (w := wz) (fun j u hu => (hbwz.cell (p := ⟨b, off + j, none⟩) hb).trans (hc j u hu)) hlt
              clear hc
              rw [unhid HX] at z0 z1 z2 z3 z4 z5 z6 z7 z8
              have HRDZ := hid ((unhid HRD1).below hbz')
              have hbz0 : b < wz.heap.size := Nat.lt_of_lt_of_le hb hbwz.size
              have hRm : m ≤ R.length := hm
              have hmc : m ≤ c' := by omega
              have HTL := hid (show ((signs R).take (m * 9)).length = m * 9 by rw [List.length_take, signs_len]; omega)
              have HMN := hid (show A' = none → m = 0 from fun h => by have := unhid HCN h; omega)
              have HMM := hid (show m ≤ maxLen from Nat.le_trans hmc (unhid HCM))
              have HL2 := hid (show (sgC x ++ (signs R).drop (m * 9)).length = (1 + (R.length - m)) * 9 by rw [List.length_append, List.length_drop, signs_len, show (sgC x).length = 9 from rfl]; omega)
              have HO2 := hid (show ∀ u ∈ sgC x ++ (signs R).drop (m * 9), u.oneCell' = true from fun u hu => by
                rcases List.mem_append.1 hu with h | h
                · exact sgC_one (l := [x]) u (by simpa [signs] using h)
                · exact sgC_one u (List.mem_of_mem_drop h))
              have HCK := hid (show m * 9 < (signs R).length → c' ≠ m from fun h => by rw [signs_len] at h; omega)
              have HDL := hid (show ((signs R).drop (m * 9)).length = (R.length - m) * 9 by rw [List.length_drop, signs_len, Nat.sub_mul])
              have HDO := hid (show ∀ u ∈ (signs R).drop (m * 9), u.oneCell' = true from fun u hu => sgC_one u (List.mem_of_mem_drop hu))
              go_region_held3 (fun w' => w'.cell? ⟨b, off + k * 9, none⟩ = some (.int .i64 x.num) ∧ w'.cell? ⟨b, off + k * 9 + 1, none⟩ = some (.int .i64 x.kind) ∧ w'.cell? ⟨b, off + k * 9 + 2, none⟩ = some (.int .i64 x.val) ∧ w'.cell? ⟨b, off + k * 9 + 3, none⟩ = some (.int .i64 x.chain) ∧ w'.cell? ⟨b, off + k * 9 + 4, none⟩ = some (.int .i64 x.dir) ∧ w'.cell? ⟨b, off + k * 9 + 5, none⟩ = some (.int .i64 x.rank) ∧ w'.cell? ⟨b, off + k * 9 + 6, none⟩ = some (.int .i64 x.up) ∧ w'.cell? ⟨b, off + k * 9 + 7, none⟩ = some (.int .i64 x.down) ∧ w'.cell? ⟨b, off + k * 9 + 8, none⟩ = some (.slice x.cA x.cov.length x.cc)) (first | go_keep | (go_split_ands; refine ⟨?_, ?_, ?_, ?_, ?_, ?_, ?_, ?_, ?_⟩ <;> (refine (hg4.cell_far _ (by first | assumption | (simp; omega)) (by simp)).trans ?_ <;> first | assumption | go_keep)) | (go_split_ands; refine ⟨?_, ?_, ?_, ?_, ?_, ?_, ?_, ?_, ?_⟩ <;> (refine (hg3.cell_far _ (by first | assumption | (simp; omega)) (by simp)).trans ?_ <;> first | assumption | go_keep))) (first | (refine step_app (by rfl) _ _ _ (by rfl) 80 i0 _ 9 88 Tryz.underlying25 hi hz0 hz1 hz2 rfl (by omega) (some ⟨wz.heap.size, 0, none⟩) 1 1 (sgC x) (by rfl) (rdNew wz (sgC x) 80) (by rfl) (fun h => by cases h) (Nat.le_refl _) (by unfold maxLen; omega) _ (R.length - m) (c' - m) ((signs R).drop (m * 9)) (by rfl) (((unhid HRDZ).below (Below.drew (below_alloc wz (.cells #[.int .i64 x.num, .int .i64 x.kind, .int .i64 x.val, .int .i64 x.chain, .int .i64 x.dir, .int .i64 x.rank, .int .i64 x.up, .int .i64 x.down, .slice x.cA x.cov.length x.cc] 80)))).cut m 9 c' (unhid HCK)) (unhid HDL) (unhid HDO) (by omega) (by unfold maxLen; omega) (by omega) ?_; intro A3 c3 w3 hr3 hle3 hcm3 hn3 hg3; have hb3 : b < w3.heap.size := Nat.lt_of_lt_of_le hbz0 (Nat.le_trans (by simp) hg3.size)) | (refine step_app (by rfl) _ _ _ (by rfl) 80 i0 _ 9 88 Tryz.underlying25 hi hz0 hz1 hz2 rfl (by omega) A' m m ((signs R).take (m * 9)) (by rfl) ((((unhid HRDZ).below (Below.drew (below_alloc wz (.cells #[.int .i64 x.num, .int .i64 x.kind, .int .i64 x.val, .int .i64 x.chain, .int .i64 x.dir, .int .i64 x.rank, .int .i64 x.up, .int .i64 x.down, .slice x.cA x.cov.length x.cc] 80)))).below (below_of_grown hg3)).take (m * 9)) (unhid HTL) (unhid HMN) (Nat.le_refl _) (unhid HMM) A3 (1 + (R.length - m)) c3 (sgC x ++ (signs R).drop (m * 9)) (by rfl) hr3 (unhid HL2) (unhid HO2) (Or.inr (by omega)) (by unfold maxLen; omega) (by omega) ?_; intro A4 c4 w4 hr4 hle4 hcm4 hn4 hg4))
              have hb4 : Below wz.heap.size wz w4 := ((Below.drew (below_alloc wz (.cells #[.int .i64 x.num, .int .i64 x.kind, .int .i64 x.val, .int .i64 x.chain, .int .i64 x.dir, .int .i64 x.rank, .int .i64 x.up, .int .i64 x.down, .slice x.cA x.cov.length x.cc] 80))).trans ((below_of_grown hg3).mono (by simp))).trans ((below_of_grown hg4).mono (Nat.le_trans (by simp) hg3.size))
              clear hg3 hg4 hr3
              go_wp2_with fail
              go_roundw
              case rel =>
                refine ⟨k + 1, A4, c4, R.take m ++ x :: R.drop m, by omega, by go_num, ?_, ⟨?_, ?_⟩, ⟨?_, ?_, hcm4, hn4⟩, ?_⟩
                · rw [show (R.take m ++ x :: R.drop m).length = m + (1 + (R.length - m)) by simp; omega]
                · rw [unhid HSN, if_pos (by simp [unhid HD, hsp])]; exact ins_perm x m (unhid HI).perm
                · exact ins_sorted hm (unhid HI).sorted (unhid HAF) (unhid HEX)
                · rw [signs_ins]; exact hr4
                · rw [show (R.take m ++ x :: R.drop m).length = m + (1 + (R.length - m)) by simp; omega]; exact hle4
                · exact (hbel1.trans (hbz'.mono (by have := hbel1.size; simpa using this))).trans (hb4.mono (by have := hbw.size; have := hbw1.size; have h5 := hbel1.size; have h6 := hbz'.size; simp at h5; omega))
              case measure => simp [intOf]; omega
        · rw [Bool.not_eq_true] at hsp
          rw [hsp]
          go_wp2_with fail
          go_roundw
          case rel =>
            refine ⟨k + 1, A', c', R, by omega, by go_num, rfl, ⟨?_, (unhid HI).sorted⟩, ⟨unhid HRD1, hRc, unhid HCM, unhid HCN⟩, hbel1⟩
            rw [unhid HSN, if_neg (by rw [hsp]; simp), List.append_nil]; exact (unhid HI).perm
          case measure => simp [intOf]; omega
      · have hd' : (x.dir != dir) = true := by simpa using hd
        have HD := hid hd
        clear hd
        go_wp2_with fail
        go_roundw
        case rel =>
          refine ⟨k + 1, A', c', R, by omega, by go_num, rfl, ⟨?_, (unhid HI).sorted⟩, ⟨unhid HRD, hRc, unhid HCM, unhid HCN⟩, hbel⟩
          rw [unhid HSN, if_neg (by have := unhid HD; simp [this]), List.append_nil]; exact (unhid HI).perm
        case measure => simp [intOf]; omega
    · have hkl : k = l.length := by omega
      subst hkl
      go_wp2_with fail
      go_ret
      refine ⟨A', c', R, rfl, ?_, unhid HRD, hbw⟩
      have := unhid HI
      rwa [List.take_of_length_le (Nat.le_refl _)] at this

end Go.Proofs.YtmpngoejnmlmbaaGreat
