/-
  Encoding of the reference.
-/
import Derived.Test.YtegghimjmbgghaaGreatBkAw
set_option linter.unusedSimpArgs false
set_option linter.unusedVariables false
namespace Go.Proofs.YtegghimjmbgghaaGreat
open Go.RowKit Go.Shelf

/-- A row of bytes that a call leaves. -/
def BysPost (w : World) (l : List UInt8) (e : Ending) (w' : World) : Prop := ∃ u, e = .returned u ∧ w'.ownsRow w.heap.size 5 1 u l.length (bys l) ∧ Below w.heap.size w w'
theorem own_bytes1 (w : World) : (w.alloc (.cells #[.int .u8 66] 5)).ownsRow w.heap.size 5 1 (.slice (some ⟨w.heap.size, 0, none⟩) 1 1) ([66] : List UInt8).length (bys [66]) :=
  ⟨by simp [bys], .inr ⟨w.heap.size, 1, _, rfl, Nat.le_refl _, heap_alloc_new _ _, Nat.le_refl _, by unfold maxLen; omega, rfl, rfl⟩⟩

set_option maxHeartbeats 4000000 in
set_option maxRecDepth 100000 in
theorem rencoding_calls (en : List UInt8) (A : Option Addr) (c : Nat) (w : World) (hr : Rd w A (bys en)) (hl : en.length ≤ 2000) :
    Calls Tryz.prog 78 #[.slice A en.length c] w fun e w' => BysPost w (encE en) e w' := by
  obtain ⟨i0, hi, hz0, hz1, hz2⟩ := info_parts info_u8
  have HR := hid hr
  have HL := hid hl
  have hb1 := below_alloc w (.cells #[.int .u8 66] 5)
  have HC1 := hid (rnumber_calls 2 en.length (by omega) (by omega) _ (own_bytes1 w) (by simp) hb1.size)
  have HB1 := hid hb1
  clear hr hl hb1
  go_enter Tryz.func78, Tryz.ntmps78
  go_wp2_with fail
  refine (unhid HC1).mono ?_
  rintro e w1 ⟨u1, rfl, hn1⟩
  have HB := hid ((unhid HB1).trans hn1.b)
  have hy := hn1.own
  have HRd := hid ((unhid HR).below (unhid HB))
  have hlc : ([66] ++ numBs 2 en.length : List UInt8).length = 3 := by simp [numBs_len]
  have hl2 : en.length ≤ 2000 := unhid HL
  have hsz : w.heap.size ≤ w1.heap.size := (unhid HB).size
  rw [hlc] at hy
  clear hn1 HC1 HB1
  go_upto_region 3 with (at_builtin; refine wpList_append_any rfl _ _ 52 rfl w.heap.size 5 i0 (.int .u8 0) 1 1 Tryz.underlying52 hi hz0 hz1 hz2 rfl (by decide) _ _ _ rfl hy A en.length c (bys en) rfl (by simp) (unhid HRd) (bys_oneC en) (by unfold maxLen; omega) (by omega) hsz ?_; intro v' w2 hown2 hg2 hnew)
  have HB2 := hid ((unhid HB).grown hg2 hsz (fun j e => (own_block_lt hy (g := j) e).1))
  obtain ⟨m, hm⟩ : ∃ m, m = [66] ++ numBs 2 en.length ++ en := ⟨_, rfl⟩
  have hml : m.length = 3 + en.length := by rw [hm, List.length_append, hlc]
  have hown3 : w2.ownsRow w.heap.size 5 1 v' m.length (bys m) := by rw [hml, hm, bys_append]; exact hown2
  have HENC := hid (show encE en = m ++ numBs 4 (crcL m) from by rw [hm]; rfl)
  have HML := hid (show m.length ≤ 1000000 from by omega)
  obtain ⟨A2, c2, hv2, hrd2, -⟩ := own_slice hown3
  subst hv2
  have HR2 := hid hrd2
  have HO2 := hid hown3
  clear hy hlc hsz hown2 hg2 hnew hm hml hown3 hrd2 HRd HR
  go_wp2_with fail
  refine (rchecksum_calls m A2 c2 w2 (unhid HR2) (unhid HML)).mono ?_
  rintro e w3 ⟨rfl, rfl⟩
  obtain ⟨q, hq⟩ : ∃ q, q = crcL m := ⟨_, rfl⟩
  have HQ := hid hq
  have hql : q < 4294967296 := by rw [hq]; exact crcL_lt _
  rw [← hq]
  have hwq : IntKind.i64.wrap (q : Int) = (q : Int) := wrap_s64 (by omega) (by omega)
  have HC4 := hid (rnumber_calls 4 q (by omega) (by omega) w2 (unhid HO2) (unhid HML) (unhid HB2).size)
  clear hq
  go_wp2_with fail
  refine (unhid HC4).mono ?_
  rintro e w4 ⟨u4, rfl, hn4⟩
  have HP := hid (show BysPost w (encE en) (.returned u4) w4 from ⟨u4, rfl, by rw [unhid HENC, ← unhid HQ]; exact hn4.own, (unhid HB2).trans hn4.b⟩)
  clear hn4 hwq
  go_wp2_with fail
  go_ret
  exact unhid HP

end Go.Proofs.YtegghimjmbgghaaGreat
