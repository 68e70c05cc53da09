/-
  Package rule's Row.
-/
import Derived.Test.YtmpngoejnmlmbaaGreatAsked
set_option linter.unusedSimpArgs false
set_option linter.unusedVariables false
namespace Go.Proofs.YtmpngoejnmlmbaaGreat
open Go.RowKit

theorem askedE_zero {len : Int} {js : List Int} {l : List Sg} {hour dir topic : Int} (h : askedE len js l hour dir topic = 0) :
    lineB len js = true ∧ sgsB len js l = true ∧ (0 ≤ hour ∧ hour ≤ 10000000) ∧ dirB dir = true ∧ 1 ≤ topic ∧ topic ≤ 2 := by
  unfold askedE at h
  split at h
  · omega
  · split at h
    · omega
    · split at h
      · omega
      · rename_i h1 h2 h3
        simp only [Bool.not_eq_false, Bool.and_eq_true, decide_eq_true_eq] at h1 h2 h3
        exact ⟨h1, h2, h3.1.1, h3.1.2, h3.2⟩
theorem lineB_len {len : Int} {js : List Int} (h : lineB len js = true) : 1 ≤ len ∧ len ≤ 100000 := ⟨(lineB_iff.1 h).1, (lineB_iff.1 h).2.1⟩
theorem sgsB_chain {len : Int} {js : List Int} {l : List Sg} (h : sgsB len js l = true) : ∀ s ∈ l, 0 ≤ s.chain ∧ s.chain ≤ len := by
  intro s hs
  simp only [sgsB, Bool.and_eq_true, List.all_eq_true] at h
  exact (signOk_iff.1 (h.1.2 s hs)).2.2.1

theorem sgsB_len {len : Int} {js : List Int} {l : List Sg} (h : sgsB len js l = true) : l.length ≤ 100 := by
  simp only [sgsB, Bool.and_eq_true, decide_eq_true_eq] at h
  exact h.1.1.2

theorem info_int : (Tryz.prog.info? 3).map (fun i => (i.zero, i.size, i.bytes)) = some (some (.int .i64 0), 1, 8) := by kernel_rfl

theorem mts_at {R : List Mt} {k : Nat} (h : k < R.length) (j : Nat) (hj : j < 10) : (mts R)[k * 10 + j]? = (mtC R[k])[j]? := flat_at (f := mtC) (K := 10) (fun _ => rfl) R k j h hj
theorem mts_ne {R : List Mt} {k : Nat} (h : k < R.length) : mts R ≠ [] := flat_ne (f := mtC) (K := 10) (fun _ => rfl) (by omega) h
theorem mts_cells {w : World} {b off : Nat} {l : List Mt} (h : ∀ j u, (mts l)[j]? = some u → w.cell? ⟨b, off + j, none⟩ = some u) {k : Nat} (hk : k < l.length) :
    w.cell? ⟨b, off + k * 10, none⟩ = some (.int .i64 l[k].s.num) ∧ w.cell? ⟨b, off + k * 10 + 1, none⟩ = some (.int .i64 l[k].s.kind) ∧ w.cell? ⟨b, off + k * 10 + 2, none⟩ = some (.int .i64 l[k].s.val) ∧
    w.cell? ⟨b, off + k * 10 + 3, none⟩ = some (.int .i64 l[k].s.chain) ∧ w.cell? ⟨b, off + k * 10 + 4, none⟩ = some (.int .i64 l[k].s.dir) ∧ w.cell? ⟨b, off + k * 10 + 5, none⟩ = some (.int .i64 l[k].s.rank) ∧
    w.cell? ⟨b, off + k * 10 + 6, none⟩ = some (.int .i64 l[k].s.up) ∧ w.cell? ⟨b, off + k * 10 + 7, none⟩ = some (.int .i64 l[k].s.down) ∧ w.cell? ⟨b, off + k * 10 + 8, none⟩ = some (.slice l[k].s.cA l[k].s.cov.length l[k].s.cc) ∧
    w.cell? ⟨b, off + k * 10 + 9, none⟩ = some (.int .i64 l[k].far) :=
  ⟨h _ _ (mts_at hk 0 (by omega)), h _ _ (mts_at hk 1 (by omega)), h _ _ (mts_at hk 2 (by omega)), h _ _ (mts_at hk 3 (by omega)), h _ _ (mts_at hk 4 (by omega)), h _ _ (mts_at hk 5 (by omega)),
    h _ _ (mts_at hk 6 (by omega)), h _ _ (mts_at hk 7 (by omega)), h _ _ (mts_at hk 8 (by omega)), h _ _ (mts_at hk 9 (by omega))⟩

def RowPost (len : Int) (js : List Int) (l : List Sg) (hour dir : Int) (w : World) (e : Ending) (w' : World) : Prop :=
  ∃ (A' : Option Addr) (c' : Nat) (ns : List Int), e = .returned (.tuple #[.slice A' ns.length c', .int .i64 (askedE len js l hour dir 1)]) ∧
    (askedE len js l hour dir 1 = 0 → ∃ R, IsRow len hour dir l R ∧ ns = R.map (fun m => m.s.num)) ∧ (askedE len js l hour dir 1 ≠ 0 → ns = []) ∧ Rd w' A' (ints ns) ∧ ns.length ≤ 100000000000 ∧ Below w.heap.size w w'

set_option maxHeartbeats 1000000 in
theorem row_calls (len : Int) (A : Option Addr) (js : List Int) (c : Nat) (A2 : Option Addr) (l : List Sg) (c2 : Nat) (hour dir : Int) (w : World) (hl : LnOk w A js) (hs : SgsOk w A2 l) :
    Calls Tryz.prog 22 #[.agg #[.int .i64 len, .slice A js.length c], .slice A2 l.length c2, .int .i64 hour, .int .i64 dir] w (RowPost len js l hour dir w) := by
  have HL := hid hl
  have HS := hid hs
  have hsn := hs.n
  clear hl hs
  obtain ⟨i0, hi, hz0, hz1, hz2⟩ := info_parts info_int
  go_enter Tryz.func22, Tryz.ntmps22
  go_wp2_with fail
  refine (asked_calls len A js c A2 l c2 hour dir 1 _ ((unhid HL).below (below_alloc _ _)) ((unhid HS).below (below_alloc _ _))).mono ?_
  rintro e w1 ⟨rfl, hb1⟩
  have d0 := hb1.cell (p := ⟨w.heap.size, 0, none⟩) (by simp)
  have d1 := hb1.cell (p := ⟨w.heap.size, 1, none⟩) (by simp)
  simp [go_sem] at d0 d1
  have hbw1 : Below w.heap.size w w1 := (below_alloc w _).trans (hb1.mono (by simp))
  clear hb1
  generalize he : askedE len js l hour dir 1 = er
  by_cases h0 : er = 0
  · subst h0
    have hv := askedE_zero he
    have HE := hid he
    clear he
    go_wp2_with fail
    refine (rowOf_calls len A js.length c A2 l c2 hour dir _ ((unhid HS).below hbw1) (Nat.le_trans (sgsB_len hv.2.1) (by omega)) (lineB_len hv.1).2 (sgsB_chain hv.2.1)).mono ?_
    rintro e w2 ⟨A', c', R, rfl, hrow, hrd, hb2⟩
    have hl100 := sgsB_len hv.2.1
    have hlen : R.length ≤ l.length := by rw [hrow.perm.length_eq]; exact selP_len _ _ _ _
    have hbw2 : Below w.heap.size w w2 := hbw1.trans (hb2.mono hbw1.size)
    have HR := hid hrow
    clear hrow hv
    go_wp2_with fail
    go_loopw [28, 11] (fun i v wr => ∃ k : Nat, k ≤ R.length ∧ i = .int .i64 k ∧ wr.ownsRow w2.heap.size 3 1 v k (ints ((R.map (fun m => m.s.num)).take k)) ∧ Below w2.heap.size w2 wr) (fun i _ _ => R.length - (intOf i).toNat)
    case atStart => exact ⟨0, Nat.zero_le _, rfl, World.ownsRow_nil _ _ _ _, Below.refl _ _⟩
    case round =>
      obtain ⟨k, hk, rfl, hown, hbel⟩ := hrel
      by_cases hlt : k < R.length
      · obtain ⟨b, off, rfl, hb, hc⟩ := hrd (mts_ne hlt)
        obtain ⟨m0, m1, m2, m3, m4, m5, m6, m7, m8, m9⟩ := mts_cells (w := wr) (fun j u hu => (hbel.cell (p := ⟨b, off + j, none⟩) hb).trans (hc j u hu)) hlt
        clear hc
        generalize hx : R[k] = x at *
        have HX := hid hx
        clear hx
        have hsz := hbel.size
        go_wp2_with (at_builtin; refine wpList_append_own _ rfl _ _ 22 rfl w2.heap.size 3 i0 (.int .i64 0) 1 8 Tryz.underlying22 hi hz0 hz1 hz2 rfl (by decide) _ _ _ rfl ((hown.alloc _).alloc _) ⟨wr.heap.size + 1, 0, none⟩ 1 1 [.int .i64 x.s.num] rfl rfl ?c1 ?c2 ?c3 ?c4 ?c5 ?_)
        case c1 =>
          intro j u hj
          match j, hj with
          | 0, hj => simp at hj; subst hj; simp [Addr.add, go_sem]
        case c2 => intro u hu; simp at hu; subst hu; rfl
        case c3 => unfold maxLen; omega
        case c4 => omega
        case c5 => simp; omega
        intro v' w3 hown3 hg3 _
        have hb3 : Below w2.heap.size w2 w3 := by
          refine Below.grown ((hbel.alloc hsz _).alloc (by simp; omega) _) hg3 (by simp; omega) (fun i hi => ?_)
          rcases Nat.lt_or_ge i w2.heap.size with h | h
          · exact absurd hi (own_ne hown (Or.inl h))
          · exact h
        have HO3 := hid hown3
        clear hown3 hown hg3
        go_wp2_with fail
        go_roundw
        case rel =>
          refine ⟨k + 1, by omega, by go_num, ?_, hb3⟩
          have := unhid HO3
          rw [List.take_succ_eq_append_getElem (by simpa using hlt), ints, List.map_append, List.getElem_map, unhid HX]
          exact this
        case measure => simp [intOf]; omega
      · have hkR : k = R.length := by omega
        subst hkR
        rw [List.take_of_length_le (by simp)] at hown
        obtain ⟨A3, c3, hv, hrd3, -⟩ := own_slice hown
        have HO := hid hown
        clear hown
        go_wp2_with fail
        go_ret2
        refine ⟨A3, c3, R.map (fun m => m.s.num), ?_, fun _ => ⟨R, unhid HR, rfl⟩, fun h => absurd (unhid HE) h, hrd3, by simp; omega, hbw2.trans (hbel.mono hbw2.size)⟩
        rw [unhid HE, List.length_map, ← hv]
        rfl
  · have h0' : (er != 0) = true := by simpa using h0
    have HE := hid he
    clear he
    go_wp2_with fail
    go_ret2
    exact ⟨none, 0, [], by rw [unhid HE]; rfl, fun h => absurd ((unhid HE).symm.trans h) h0, fun _ => rfl, Rd.nil _ _, by simp, hbw1⟩

end Go.Proofs.YtmpngoejnmlmbaaGreat
