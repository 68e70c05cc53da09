/-
  Write.
-/
import Derived.Test.YtegghimjmbgghaaGreatBkN
set_option linter.unusedSimpArgs false
set_option linter.unusedVariables false
namespace Go.Proofs.YtegghimjmbgghaaGreat
open Go.RowKit Go.Shelf

/-- The record that a tablet would write, by the numbers up to which records count. -/
def newR (u : Nat → Int) (tab hour sign fld val : Int) : Rc := ⟨tab, u (tab - 1).toNat + 1, hour, sign, fld, val, u 0, u 1, u 2, u 3, u 4, u 5, u 6, u 7⟩
/-- Whether a number of a tablet is taken. -/
def numB (S : List Rc) (t : Nat) (n : Int) : Bool := S.any fun q => decide (q.tb = t ∧ q.num = n)
theorem numB_true {S : List Rc} {t : Nat} {n : Int} : numB S t n = true ↔ ∃ q ∈ S, q.tb = t ∧ q.num = n := by simp [numB]
theorem numB_false {S : List Rc} {t : Nat} {n : Int} : numB S t n = false ↔ ∀ q ∈ S, q.tb = t → q.num ≠ n := by
  rw [← Bool.not_eq_true, numB_true]
  simp
/-- What Write returns and leaves. -/
noncomputable def writeR (S : List Rc) (tab hour sign fld val : Int) : Rc × Int × List Rc :=
  if btw 1 tab 8 = false then (rc0, 2, S)
  else if rcB (newR (upT S) tab hour sign fld val) = false then (rc0, 2, S)
  else if frk S (tab - 1).toNat ≤ 1000000 then (rc0, 91, S)
  else if numB S (tab - 1).toNat (upT S (tab - 1).toNat + 1) = true then (rc0, 22, S)
  else (newR (upT S) tab hour sign fld val, 0, S ++ [newR (upT S) tab hour sign fld val])
def WritePost (w : World) (B m : Nat) (S : List Rc) (R : Rc × Int × List Rc) (e : Ending) (w' : World) : Prop :=
  e = .returned (.tuple #[rcV R.1, .int .i64 R.2.1]) ∧ BkAt w' B m R.2.2 ∧ w.grownBy w' (some m)
theorem newR_congr {u v : Nat → Int} (h : ∀ t, t < 8 → u t = v t) {tab hour sign fld val : Int} (ht : btw 1 tab 8 = true) : newR u tab hour sign fld val = newR v tab hour sign fld val := by
  have := btw_iff.1 ht
  unfold newR
  rw [h (tab - 1).toNat (by omega), h 0 (by omega), h 1 (by omega), h 2 (by omega), h 3 (by omega), h 4 (by omega), h 5 (by omega), h 6 (by omega), h 7 (by omega)]
theorem newR_sn (u : Nat → Int) (tab hour sign fld val : Int) {t : Nat} (ht : t < 8) : (newR u tab hour sign fld val).sn t = u t := by
  rcases lt8 ht with rfl | rfl | rfl | rfl | rfl | rfl | rfl | rfl <;> rfl
/-- A written record is new. -/
theorem newR_not {S : List Rc} {u : Nat → Int} {tab hour sign fld val : Int} (h : numB S (tab - 1).toNat (u (tab - 1).toNat + 1) = false) : newR u tab hour sign fld val ∉ S := fun hm => numB_false.1 h _ hm rfl rfl
theorem BkAt.setRow {w : World} {B m g : Nat} {S : List Rc} (h : BkAt w B m S) (h1 : B ≠ g) (h2 : m ≠ g) (cs : Array Value) : BkAt (w.setRow g cs) B m S := by
  have e : ∀ k, k ≠ g → (w.setRow g cs).heap[k]? = w.heap[k]? := fun k hk => by simp only [World.setRow, Array.getElem?_modify]; rw [if_neg (fun e => hk e.symm)]
  exact ⟨(e B h1).trans h.b, GMap.block h.m (e m h2), h.v⟩

theorem below_grownBy' {w w1 : World} {row : Option Nat} (hg : w.grownBy w1 row) {g : Nat} (h : w.heap.size ≤ g) (cs : Array Value) : w.grownBy (w1.setRow g cs) row :=
  ⟨hg.os, hg.tape, hg.output, by simpa using hg.size, fun k hk hne => by
    have e : (w1.setRow g cs).heap[k]? = w1.heap[k]? := by simp only [World.setRow, Array.getElem?_modify]; rw [if_neg (by omega)]
    rw [e]; exact hg.block k hk hne⟩
/-- Where Write stands: its result's cell, the book. -/
structure WrI (w : World) (B m : Nat) (S : List Rc) (W : World) : Prop where
  res : W.heap[w.heap.size]? = some (.cells (rcA rc0) 82 (0, 0))
  bk : BkAt W B m S
  b : Below w.heap.size w W
  lo : B < w.heap.size ∧ m < w.heap.size
theorem WrI.below {w W W' : World} {B m : Nat} {S : List Rc} (h : WrI w B m S W) (hb : Below W.heap.size W W') : WrI w B m S W' :=
  ⟨(hb.block _ (Array.getElem?_eq_some_iff.1 h.res).1).trans h.res, h.bk.below' hb, h.b.trans (hb.mono h.b.size), h.lo⟩
theorem WrI.done {w W : World} {B m : Nat} {S : List Rc} (h : WrI w B m S W) (cs : Array Value) : BkAt (W.setRow w.heap.size cs) B m S ∧ w.grownBy (W.setRow w.heap.size cs) (some m) :=
  ⟨h.bk.setRow (by have := h.lo; omega) (by have := h.lo; omega) cs, grown_of_below (below_setRow h.b (Nat.le_refl _) cs) _⟩

set_option maxHeartbeats 8000000 in
set_option maxRecDepth 100000 in
theorem write_calls (tab hour sign fld val : Int) {B m : Nat} {S : List Rc} (w : World) (h : BkAt w B m S) (hS : S.length < 1000000) (ht64 : I64 tab) :
    Calls Tryz.prog 48 #[.pointer (some ⟨B, 0, none⟩), .int .i64 tab, .int .i64 hour, .int .i64 sign, .int .i64 fld, .int .i64 val] w fun e w' => WritePost w B m S (writeR S tab hour sign fld val) e w' := by
  have hb0 := below_alloc w (.cells (rcA rc0) 82)
  have HI := hid (⟨heap_alloc_new w _, h.below' hb0, hb0, h.lt⟩ : WrI w B m S (w.alloc (.cells (rcA rc0) 82)))
  have HS := hid hS
  have HV := hid h.v
  clear h hS hb0
  go_enter Tryz.func48, Tryz.ntmps48
  go_upto_region 1 with (fail)
  change Code.wp _ _ _ _ (w.alloc (.cells (rcA rc0) 82))
  generalize w.alloc (.cells (rcA rc0) 82) = W at *
  obtain ⟨R0, hR0⟩ : ∃ R0, R0 = w.heap.size := ⟨_, rfl⟩
  have HR0 := hid hR0
  rw [← hR0]
  clear hR0
  cases d0 : btw 1 tab 8 with
  | false =>
    have HW := hid (show writeR S tab hour sign fld val = (rc0, 2, S) by simp [writeR, d0])
    have hres : W.heap[R0]? = some (.cells (rcA rc0) 82 (0, 0)) := by rw [unhid HR0]; exact (unhid HI).res
    go_wp2_with (first | (go_at_call 56; refine (none_calls _ (unhid HI).bk).mono ?_; rintro e w' ⟨rfl, rfl⟩) | (go_at_call 57; refine (within_calls _ _ _ _).mono ?_; rintro e w' ⟨rfl, rfl⟩) | (refine wpList_store_row rfl 82 (.tmp 12) (.tmp 25) rfl R0 (rcA rc0) rfl rfl 82 _ hres (rc_size rc0) rfl (rc_one rc0) ?_))
    refine bodyPost_ret_by (v := .tuple #[.agg (rcA rc0), .int .i64 2]) (results_cell_row_tmp Tryz.results48 _ _ R0 82 (rcA rc0) (0, 0) _ _ rfl rfl (setRow_heap _ _ _ _ _ _ hres) Tryz.underlying82 rfl (rc_size rc0)) rfl ?_
    rw [unhid HW, unhid HR0]
    exact ⟨rfl, (unhid HI).done _⟩
  | true =>
    have htb := btw_iff.1 d0
    obtain ⟨T0, hT⟩ : ∃ T0 : Nat, (tab - 1).toNat = T0 := ⟨_, rfl⟩
    have hT8 : T0 < 8 := by omega
    have hTI : tab - 1 = (T0 : Int) := by omega
    have hTl : (T0 : Int) < 8 := by omega
    have w1 : IntKind.i64.wrap (tab - 1) = (T0 : Int) := by rw [hTI]; exact IntWalk.i64_in _ (by omega)
    have HT := hid (⟨hT, hT8, d0⟩ : _ ∧ _ ∧ _)
    go_upto_region 3 with (first | (go_at_call 56; refine (none_calls _ (unhid HI).bk).mono ?_; rintro e w' ⟨rfl, rfl⟩) | (go_at_call 57; refine (within_calls _ _ _ _).mono ?_; rintro e w' ⟨rfl, rfl⟩))
    clear d0 htb hT hTI
    go_wp2_with fail
    refine (ledger_calls W (unhid HI).bk (Nat.le_of_lt (unhid HS))).mono ?_
    rintro e W2 ⟨LB, ms, us, rfl, hl, hup, hsh, hb⟩
    have HI := hid ((unhid HI).below hb)
    have HL := hid hl
    have HU := hid (fun t (ht : t < 8) => up_is (unhid HV) hup hsh ht)
    have hub : 0 ≤ us T0 ∧ us T0 ≤ 1000000 := ⟨hup.pos T0, hup.bound (unhid HV) hT8⟩
    have w2 : IntKind.i64.wrap (us T0 + 1) = us T0 + 1 := IntWalk.i64_in _ (by omega)
    clear hl hup hsh hb
    have HSF := hid (show ∀ w', Below W2.heap.size W2 w' → (w'.cell? ⟨LB, 16 + T0, none⟩ = some (.int .i64 (us T0)) ∧ w'.cell? ⟨LB, 16, none⟩ = some (.int .i64 (us 0)) ∧ w'.cell? ⟨LB, 17, none⟩ = some (.int .i64 (us 1)) ∧ w'.cell? ⟨LB, 18, none⟩ = some (.int .i64 (us 2)) ∧ w'.cell? ⟨LB, 19, none⟩ = some (.int .i64 (us 3)) ∧ w'.cell? ⟨LB, 20, none⟩ = some (.int .i64 (us 4)) ∧ w'.cell? ⟨LB, 21, none⟩ = some (.int .i64 (us 5)) ∧ w'.cell? ⟨LB, 22, none⟩ = some (.int .i64 (us 6)) ∧ w'.cell? ⟨LB, 23, none⟩ = some (.int .i64 (us 7))) from fun w' hb => by
      have h := (unhid HL).below hb
      exact ⟨h.upTo hT8, h.upTo (t := 0) (by omega), h.upTo (t := 1) (by omega), h.upTo (t := 2) (by omega), h.upTo (t := 3) (by omega), h.upTo (t := 4) (by omega), h.upTo (t := 5) (by omega), h.upTo (t := 6) (by omega), h.upTo (t := 7) (by omega)⟩)
    go_upto_region 4 with (fail)
    refine wp_region_noPanic ?_
    refine wp_region_E (S := fun w' => (w'.cell? ⟨LB, 16 + T0, none⟩ = some (.int .i64 (us T0)) ∧ w'.cell? ⟨LB, 16, none⟩ = some (.int .i64 (us 0)) ∧ w'.cell? ⟨LB, 17, none⟩ = some (.int .i64 (us 1)) ∧ w'.cell? ⟨LB, 18, none⟩ = some (.int .i64 (us 2)) ∧ w'.cell? ⟨LB, 19, none⟩ = some (.int .i64 (us 3)) ∧ w'.cell? ⟨LB, 20, none⟩ = some (.int .i64 (us 4)) ∧ w'.cell? ⟨LB, 21, none⟩ = some (.int .i64 (us 5)) ∧ w'.cell? ⟨LB, 22, none⟩ = some (.int .i64 (us 6)) ∧ w'.cell? ⟨LB, 23, none⟩ = some (.int .i64 (us 7)))) 19 20 rfl (by kernel_rfl) (by kernel_rfl) ((unhid HSF) _ (Below.drew (Below.refl _ _))) ?_
    intro hSE
    have hbd : Below W2.heap.size W2 W2.drew := Below.drew (Below.refl _ _)
    have hsd : W2.drew.heap.size = W2.heap.size := rfl
    generalize W2.drew = Wd at *
    (refine WE_take (i := 0) (v := ?_) rfl (by kernel_rfl) (by decide) (by kernel_rfl) (by kernel_rfl) (fun _ _ _ h => h) (by rfl) hSE ?_ ?_; rotate_left; (focus (intro w hSw; (try dsimp only at hSw); go_simp; (try with_reducible rfl))); simp only [Act.put, List.setIfInBounds_toArray, List.set_cons_zero, List.set_cons_succ])
    (refine WE_take (i := 1) (v := ?_) rfl (by kernel_rfl) (by decide) (by kernel_rfl) (by kernel_rfl) (fun _ _ _ h => h) (by rfl) hSE ?_ ?_; rotate_left; (focus (intro w hSw; (try dsimp only at hSw); go_simp; (try with_reducible rfl))); simp only [Act.put, List.setIfInBounds_toArray, List.set_cons_zero, List.set_cons_succ])
    (refine WE_take (i := 2) (v := ?_) rfl (by kernel_rfl) (by decide) (by kernel_rfl) (by kernel_rfl) (fun _ _ _ h => h) (by rfl) hSE ?_ ?_; rotate_left; (focus (intro w hSw; (try dsimp only at hSw); go_simp; (try with_reducible rfl))); simp only [Act.put, List.setIfInBounds_toArray, List.set_cons_zero, List.set_cons_succ])
    (refine WE_take (i := 3) (v := ?_) rfl (by kernel_rfl) (by decide) (by kernel_rfl) (by kernel_rfl) (fun _ _ _ h => h) (by rfl) hSE ?_ ?_; rotate_left; (focus (intro w hSw; (try dsimp only at hSw); go_simp; (try with_reducible rfl))); simp only [Act.put, List.setIfInBounds_toArray, List.set_cons_zero, List.set_cons_succ])
    (refine WE_take (i := 4) (v := ?_) rfl (by kernel_rfl) (by decide) (by kernel_rfl) (by kernel_rfl) (fun _ _ _ h => h) (by rfl) hSE ?_ ?_; rotate_left; (focus (intro w hSw; (try dsimp only at hSw); go_simp; (try with_reducible rfl))); simp only [Act.put, List.setIfInBounds_toArray, List.set_cons_zero, List.set_cons_succ])
    (refine WE_take (i := 5) (v := ?_) rfl (by kernel_rfl) (by decide) (by kernel_rfl) (by kernel_rfl) (fun _ _ _ h => h) (by rfl) hSE ?_ ?_; rotate_left; (focus (intro w hSw; (try dsimp only at hSw); go_simp; (try with_reducible rfl))); simp only [Act.put, List.setIfInBounds_toArray, List.set_cons_zero, List.set_cons_succ])
    (refine WE_take (i := 6) (v := ?_) rfl (by kernel_rfl) (by decide) (by kernel_rfl) (by kernel_rfl) (fun _ _ _ h => h) (by rfl) hSE ?_ ?_; rotate_left; (focus (intro w hSw; (try dsimp only at hSw); go_simp; (try with_reducible rfl))); simp only [Act.put, List.setIfInBounds_toArray, List.set_cons_zero, List.set_cons_succ])
    (refine WE_take (i := 7) (v := ?_) rfl (by kernel_rfl) (by decide) (by kernel_rfl) (by kernel_rfl) (fun _ _ _ h => h) (by rfl) hSE ?_ ?_; rotate_left; (focus (intro w hSw; (try dsimp only at hSw); go_simp; (try with_reducible rfl))); simp only [Act.put, List.setIfInBounds_toArray, List.set_cons_zero, List.set_cons_succ])
    (refine WE_take (i := 8) (v := ?_) rfl (by kernel_rfl) (by decide) (by kernel_rfl) (by kernel_rfl) (fun _ _ _ h => h) (by rfl) hSE ?_ ?_; rotate_left; (focus (intro w hSw; (try dsimp only at hSw); go_simp; (try with_reducible rfl))); simp only [Act.put, List.setIfInBounds_toArray, List.set_cons_zero, List.set_cons_succ])
    (refine WE_take (i := 9) (v := ?_) rfl (by kernel_rfl) (by decide) (by kernel_rfl) (by kernel_rfl) (fun _ _ _ h => h) (by rfl) hSE ?_ ?_; rotate_left; (focus (intro w hSw; (try dsimp only at hSw); go_simp; (try with_reducible rfl))); simp only [Act.put, List.setIfInBounds_toArray, List.set_cons_zero, List.set_cons_succ])
    (refine WE_take (i := 10) (v := ?_) rfl (by kernel_rfl) (by decide) (by kernel_rfl) (by kernel_rfl) (fun _ _ _ h => h) (by rfl) hSE ?_ ?_; rotate_left; (focus (intro w hSw; (try dsimp only at hSw); go_simp; (try with_reducible rfl))); simp only [Act.put, List.setIfInBounds_toArray, List.set_cons_zero, List.set_cons_succ])
    (refine WE_take (i := 11) (v := ?_) rfl (by kernel_rfl) (by decide) (by kernel_rfl) (by kernel_rfl) (fun _ _ _ h => h) (by rfl) hSE ?_ ?_; rotate_left; (focus (intro w hSw; (try dsimp only at hSw); go_simp; (try with_reducible rfl))); simp only [Act.put, List.setIfInBounds_toArray, List.set_cons_zero, List.set_cons_succ])
    (refine WE_take (i := 12) (v := ?_) rfl (by kernel_rfl) (by decide) (by kernel_rfl) (by kernel_rfl) (fun _ _ _ h => h) (by rfl) hSE ?_ ?_; rotate_left; (focus (intro w hSw; (try dsimp only at hSw); go_simp; (try with_reducible rfl))); simp only [Act.put, List.setIfInBounds_toArray, List.set_cons_zero, List.set_cons_succ])
    (refine WE_take (i := 13) (v := ?_) rfl (by kernel_rfl) (by decide) (by kernel_rfl) (by kernel_rfl) (fun _ _ _ h => h) (by rfl) hSE ?_ ?_; rotate_left; (focus (intro w hSw; (try dsimp only at hSw); go_simp; (try with_reducible rfl))); simp only [Act.put, List.setIfInBounds_toArray, List.set_cons_zero, List.set_cons_succ])
    (refine WE_take (i := 14) (v := ?_) rfl (by kernel_rfl) (by decide) (by kernel_rfl) (by kernel_rfl) (fun _ _ _ h => h) (by rfl) hSE ?_ ?_; rotate_left; (focus (intro w hSw; (try dsimp only at hSw); go_simp; (try with_reducible rfl))); simp only [Act.put, List.setIfInBounds_toArray, List.set_cons_zero, List.set_cons_succ])
    (refine WE_take (i := 15) (v := ?_) rfl (by kernel_rfl) (by decide) (by kernel_rfl) (by kernel_rfl) (fun _ _ _ h => h) (by rfl) hSE ?_ ?_; rotate_left; (focus (intro w hSw; (try dsimp only at hSw); go_simp; (try with_reducible rfl))); simp only [Act.put, List.setIfInBounds_toArray, List.set_cons_zero, List.set_cons_succ])
    (refine WE_take (i := 16) (v := ?_) rfl (by kernel_rfl) (by decide) (by kernel_rfl) (by kernel_rfl) (fun _ _ _ h => h) (by rfl) hSE ?_ ?_; rotate_left; (focus (intro w hSw; (try dsimp only at hSw); go_simp; (try with_reducible rfl))); simp only [Act.put, List.setIfInBounds_toArray, List.set_cons_zero, List.set_cons_succ])
    (refine WE_take (i := 17) (v := ?_) rfl (by kernel_rfl) (by decide) (by kernel_rfl) (by kernel_rfl) (fun _ _ _ h => h) (by rfl) hSE ?_ ?_; rotate_left; (focus (intro w hSw; (try dsimp only at hSw); go_simp; (try with_reducible rfl))); simp only [Act.put, List.setIfInBounds_toArray, List.set_cons_zero, List.set_cons_succ])
    (refine WE_one (i := 18) rfl (by decide) (by kernel_rfl) ?_; intro K hK)
    go_simp
    have hba := hbd.alloc (Nat.le_of_eq hsd.symm) (.cells (rcA rc0) 82)
    have hna := heap_alloc_new Wd (.cells (rcA rc0) 82)
    rw [hsd] at hna
    refine hK.out _ _ ((unhid HSF) _ hba) ?_
    clear hSE hK K
    intro hSE
    (try simp only [Act.put, List.setIfInBounds_toArray, List.set_cons_zero, List.set_cons_succ])
    change WE _ _ _ _ _ _ _ _ _ (Wd.alloc (.cells (rcA rc0) 82))
    generalize Wd.alloc (.cells (rcA rc0) 82) = We at *
    clear hbd
    refine WE_last rfl (by kernel_rfl) (by kernel_rfl) (by kernel_rfl) ?_
    intro K hK
    rw [if_pos (by rfl)]
    refine wp_store_row 82 (.tmp 15) (.tmp 45) rfl W2.heap.size #[.int .i64 tab, .int .i64 (us T0 + 1), .int .i64 hour, .int .i64 sign, .int .i64 fld, .int .i64 val, .int .i64 (us 0), .int .i64 (us 1), .int .i64 (us 2), .int .i64 (us 3), .int .i64 (us 4), .int .i64 (us 5), .int .i64 (us 6), .int .i64 (us 7)] rfl rfl 82 _ hna (rc_size rc0) rfl (by simp [Value.oneCell']) ?_
    refine hK.out _ _ (NoPanic.normal ?_)
    clear hK K
    obtain ⟨X, hX⟩ : ∃ X, X = W2.heap.size := ⟨_, rfl⟩
    obtain ⟨r, hr⟩ : ∃ r, r = newR us tab hour sign fld val := ⟨_, rfl⟩
    have hrA : (#[.int .i64 tab, .int .i64 (us T0 + 1), .int .i64 hour, .int .i64 sign, .int .i64 fld, .int .i64 val, .int .i64 (us 0), .int .i64 (us 1), .int .i64 (us 2), .int .i64 (us 3), .int .i64 (us 4), .int .i64 (us 5), .int .i64 (us 6), .int .i64 (us 7)] : Array Value) = rcA r := by rw [hr]; unfold rcA newR; rw [(unhid HT).1]
    rw [hrA]
    have HX := hid (show RcAt (We.setRow W2.heap.size (rcA r)) W2.heap.size r from setRow_heap _ _ _ _ _ _ hna)
    have hbb := below_setRow hba (Nat.le_refl _) (rcA r)
    have HI := hid ((unhid HI).below hbb)
    have HL := hid ((unhid HL).below hbb)
    rw [← hX] at HX HI HL ⊢
    generalize We.setRow X (rcA r) = W3 at *
    have HRE := hid (⟨hr, show r.num = us T0 + 1 by rw [hr]; show us (tab - 1).toNat + 1 = _; rw [(unhid HT).1], show r.tb = T0 by rw [hr]; exact (unhid HT).1⟩ : _ ∧ _ ∧ _)
    have hrn : I64 r.num := by rw [(unhid HRE).2.1]; unfold I64; omega
    clear hba hna hbb hX hr hrA hSE hub w2 HSF
    obtain ⟨E, hE1, hE2⟩ := (unhid HL).m T0 hT8
    obtain ⟨q, b1, hl, hq⟩ := num_look_all hE1 hE2 (n := r.num) hrn
    have HSF := hid (show ∀ w', Below W3.heap.size W3 w' → (w'.cell? ⟨LB, T0, none⟩ = some (.map (some (ms T0))) ∧ w'.cell? ⟨X, 1, none⟩ = some (.int .i64 r.num) ∧ (Instr.lookup 137 (.map (some (ms T0))) (.int .i64 r.num) true).run Tryz.prog w' = .ok (.tuple #[.agg #[.int .i64 q.tab, .int .i64 q.num, .int .i64 q.hour, .int .i64 q.sign, .int .i64 q.fld, .int .i64 q.val, .int .i64 q.s0, .int .i64 q.s1, .int .i64 q.s2, .int .i64 q.s3, .int .i64 q.s4, .int .i64 q.s5, .int .i64 q.s6, .int .i64 q.s7], .bool b1]) w') from fun w' hb => ⟨((unhid HL).below hb).map hT8, ((unhid HX).below hb (unhid HX).lt).cells.2.1, hl w' hb⟩)
    have HB1 := hid (show b1 = numB S T0 (us T0 + 1) from by
      rw [← (unhid HRE).2.1]
      rcases hq with ⟨rfl, h1, h2, h3⟩ | ⟨rfl, h1⟩
      · exact (numB_true.2 ⟨q, h1, h2, h3⟩).symm
      · exact (numB_false.2 h1).symm)
    clear hl hq hE2 hE1 hrn
    go_upto_region 5 with (fail)
    refine wp_region_noPanic ?_
    refine wp_region_E (S := fun w' => (w'.cell? ⟨LB, T0, none⟩ = some (.map (some (ms T0))) ∧ w'.cell? ⟨X, 1, none⟩ = some (.int .i64 r.num) ∧ (Instr.lookup 137 (.map (some (ms T0))) (.int .i64 r.num) true).run Tryz.prog w' = .ok (.tuple #[.agg #[.int .i64 q.tab, .int .i64 q.num, .int .i64 q.hour, .int .i64 q.sign, .int .i64 q.fld, .int .i64 q.val, .int .i64 q.s0, .int .i64 q.s1, .int .i64 q.s2, .int .i64 q.s3, .int .i64 q.s4, .int .i64 q.s5, .int .i64 q.s6, .int .i64 q.s7], .bool b1]) w')) 15 16 rfl (by kernel_rfl) (by kernel_rfl) ((unhid HSF) _ (Below.drew (Below.refl _ _))) ?_
    intro hSE
    have hbd : Below W3.heap.size W3 W3.drew := Below.drew (Below.refl _ _)
    have hsd : W3.drew.heap.size = W3.heap.size := rfl
    generalize W3.drew = Wd at *
    (refine WE_take (i := 0) (v := ?_) rfl (by kernel_rfl) (by decide) (by kernel_rfl) (by kernel_rfl) (fun _ _ _ h => h) (by rfl) hSE ?_ ?_; rotate_left; (focus (intro w hSw; (try dsimp only at hSw); go_simp; (try with_reducible rfl))); simp only [Act.put, List.setIfInBounds_toArray, List.set_cons_zero, List.set_cons_succ])
    (refine WE_take (i := 1) (v := ?_) rfl (by kernel_rfl) (by decide) (by kernel_rfl) (by kernel_rfl) (fun _ _ _ h => h) (by rfl) hSE ?_ ?_; rotate_left; (focus (intro w hSw; (try dsimp only at hSw); go_simp; (try with_reducible rfl))); simp only [Act.put, List.setIfInBounds_toArray, List.set_cons_zero, List.set_cons_succ])
    (refine WE_take (i := 2) (v := ?_) rfl (by kernel_rfl) (by decide) (by kernel_rfl) (by kernel_rfl) (fun _ _ _ h => h) (by rfl) hSE ?_ ?_; rotate_left; (focus (intro w hSw; (try dsimp only at hSw); go_simp; (try with_reducible rfl))); simp only [Act.put, List.setIfInBounds_toArray, List.set_cons_zero, List.set_cons_succ])
    (refine WE_take (i := 3) (v := ?_) rfl (by kernel_rfl) (by decide) (by kernel_rfl) (by kernel_rfl) (fun _ _ _ h => h) (by rfl) hSE ?_ ?_; rotate_left; (focus (intro w hSw; (try dsimp only at hSw); go_simp; (try with_reducible rfl))); simp only [Act.put, List.setIfInBounds_toArray, List.set_cons_zero, List.set_cons_succ])
    (refine WE_take (i := 4) (v := ?_) rfl (by kernel_rfl) (by decide) (by kernel_rfl) (by kernel_rfl) (fun _ _ _ h => h) (by rfl) hSE ?_ ?_; rotate_left; (focus (intro w hSw; (try dsimp only at hSw); go_simp; (try with_reducible rfl))); simp only [Act.put, List.setIfInBounds_toArray, List.set_cons_zero, List.set_cons_succ])
    (refine WE_take (i := 5) (v := ?_) rfl (by kernel_rfl) (by decide) (by kernel_rfl) (by kernel_rfl) (fun _ _ _ h => h) (by rfl) hSE ?_ ?_; rotate_left; (focus (intro w hSw; (try dsimp only at hSw); go_simp; (try with_reducible rfl))); simp only [Act.put, List.setIfInBounds_toArray, List.set_cons_zero, List.set_cons_succ])
    (refine WE_take (i := 6) (v := ?_) rfl (by kernel_rfl) (by decide) (by kernel_rfl) (by kernel_rfl) (fun _ _ _ h => h) (by rfl) hSE ?_ ?_; rotate_left; (focus (intro w hSw; (try dsimp only at hSw); go_simp; (try with_reducible rfl))); simp only [Act.put, List.setIfInBounds_toArray, List.set_cons_zero, List.set_cons_succ])
    (refine WE_take (i := 7) (v := ?_) rfl (by kernel_rfl) (by decide) (by kernel_rfl) (by kernel_rfl) (fun _ _ _ h => h) (by rfl) hSE ?_ ?_; rotate_left; (focus (intro w hSw; (try dsimp only at hSw); go_simp; (try with_reducible rfl))); simp only [Act.put, List.setIfInBounds_toArray, List.set_cons_zero, List.set_cons_succ])
    (refine WE_take (i := 8) (v := ?_) rfl (by kernel_rfl) (by decide) (by kernel_rfl) (by kernel_rfl) (fun _ _ _ h => h) (by rfl) hSE ?_ ?_; rotate_left; (focus (intro w hSw; (try dsimp only at hSw); go_simp; (try with_reducible rfl))); simp only [Act.put, List.setIfInBounds_toArray, List.set_cons_zero, List.set_cons_succ])
    (refine WE_take (i := 9) (v := ?_) rfl (by kernel_rfl) (by decide) (by kernel_rfl) (by kernel_rfl) (fun _ _ _ h => h) (by rfl) hSE ?_ ?_; rotate_left; (focus (intro w hSw; (try dsimp only at hSw); go_simp; (try with_reducible rfl))); simp only [Act.put, List.setIfInBounds_toArray, List.set_cons_zero, List.set_cons_succ])
    (refine WE_take (i := 10) (v := ?_) rfl (by kernel_rfl) (by decide) (by kernel_rfl) (by kernel_rfl) (fun _ _ _ h => h) (by rfl) hSE ?_ ?_; rotate_left; (focus (intro w hSw; (try dsimp only at hSw); go_simp; (try with_reducible rfl))); simp only [Act.put, List.setIfInBounds_toArray, List.set_cons_zero, List.set_cons_succ])
    (refine WE_take (i := 11) (v := ?_) rfl (by kernel_rfl) (by decide) (by kernel_rfl) (by kernel_rfl) (fun _ _ _ h => h) (by rfl) hSE ?_ ?_; rotate_left; (focus (intro w hSw; (try dsimp only at hSw); go_simp; (try with_reducible rfl))); simp only [Act.put, List.setIfInBounds_toArray, List.set_cons_zero, List.set_cons_succ])
    (refine WE_take (i := 12) (v := ?_) rfl (by kernel_rfl) (by decide) (by kernel_rfl) (by kernel_rfl) (fun _ _ _ h => h) (by rfl) hSE ?_ ?_; rotate_left; (focus (intro w hSw; (try dsimp only at hSw); go_simp; (try with_reducible rfl))); simp only [Act.put, List.setIfInBounds_toArray, List.set_cons_zero, List.set_cons_succ])
    (refine WE_one (i := 13) rfl (by decide) (by kernel_rfl) ?_; intro K hK)
    go_simp
    have hba := hbd.alloc (Nat.le_of_eq hsd.symm) (.cells (rcA rc0) 82)
    have hna := heap_alloc_new Wd (.cells (rcA rc0) 82)
    rw [hsd] at hna
    refine hK.out _ _ ((unhid HSF) _ hba) ?_
    clear hSE hK K
    intro hSE
    (try simp only [Act.put, List.setIfInBounds_toArray, List.set_cons_zero, List.set_cons_succ])
    change WE _ _ _ _ _ _ _ _ _ (Wd.alloc (.cells (rcA rc0) 82))
    generalize Wd.alloc (.cells (rcA rc0) 82) = Wf at *
    clear hbd
    (refine WE_one (i := 14) rfl (by decide) (by kernel_rfl) ?_; intro K hK)
    rw [if_pos (by rfl)]
    refine wp_store_row 82 (.tmp 16) (.tmp 57) rfl W3.heap.size (rcA q) rfl rfl 82 _ hna (rc_size q) rfl (rc_one q) ?_
    have hbb := below_setRow hba (Nat.le_refl _) (rcA q)
    refine hK.out _ _ ((unhid HSF) _ hbb) ?_
    clear hSE hK K
    intro hSE
    (try simp only [Act.put, List.setIfInBounds_toArray, List.set_cons_zero, List.set_cons_succ])
    generalize Wf.setRow W3.heap.size (rcA q) = W4 at *
    (refine WE_last rfl (by kernel_rfl) (by kernel_rfl) (by kernel_rfl) ?_; intro K hK; go_simp; refine hK.out _ _ (NoPanic.normal ?_); clear hK K)
    have HI := hid ((unhid HI).below hbb)
    have HL := hid ((unhid HL).below hbb)
    have HX := hid ((unhid HX).below hbb (unhid HX).lt)
    clear hba hna hbb hSE HSF
    obtain ⟨c0, c1, c2, c3, c4, c5⟩ := (unhid HX).cells
    obtain ⟨e0, e1, e2, e3, e4, e5, e6, e7⟩ := (unhid HX).seen8
    go_wp2_with fail
    refine (valid_calls r W4).mono ?_
    rintro e W5 ⟨rfl, hb5⟩
    have HI := hid ((unhid HI).below hb5)
    have HL := hid ((unhid HL).below hb5)
    have HX := hid ((unhid HX).below hb5 (unhid HX).lt)
    clear hb5 c0 c1 c2 c3 c4 c5 e0 e1 e2 e3 e4 e5 e6 e7
    have HNR := hid (show newR (upT S) tab hour sign fld val = r by rw [(unhid HRE).1]; exact newR_congr (fun t ht => ((unhid HU) t ht).symm) (unhid HT).2.2)
    have HUT := hid (show upT S T0 = us T0 from ((unhid HU) T0 (unhid HT).2.1).symm)
    cases hv : rcB r with
    | false =>
      have HW := hid (show writeR S tab hour sign fld val = (rc0, 2, S) by unfold writeR; rw [unhid HNR, (unhid HT).2.2, hv]; rfl)
      have hres : W5.heap[R0]? = some (.cells (rcA rc0) 82 (0, 0)) := by rw [unhid HR0]; exact (unhid HI).res
      go_wp2_with (refine wpList_store_row rfl 82 (.tmp 12) (.tmp 63) rfl R0 (rcA rc0) rfl rfl 82 _ hres (rc_size rc0) rfl (rc_one rc0) ?_)
      refine bodyPost_ret_by (v := .tuple #[.agg (rcA rc0), .int .i64 2]) (results_cell_row_tmp Tryz.results48 _ _ R0 82 (rcA rc0) (0, 0) _ _ rfl rfl (setRow_heap _ _ _ _ _ _ hres) Tryz.underlying82 rfl (rc_size rc0)) rfl ?_
      rw [unhid HW, unhid HR0]
      exact ⟨rfl, (unhid HI).done _⟩
    | true =>
      have cf := (unhid HL).fork (unhid HT).2.1
      have hfp := frk_pos (unhid HV) T0
      cases hf : decide (frk S T0 ≤ 1000000) with
      | true =>
        have hf' := of_decide_eq_true hf
        have HW := hid (show writeR S tab hour sign fld val = (rc0, 91, S) by unfold writeR; rw [unhid HNR, (unhid HT).2.2, hv, (unhid HT).1, if_neg (by simp), if_neg (by simp), if_pos hf'])
        clear hf'
        have hres : W5.heap[R0]? = some (.cells (rcA rc0) 82 (0, 0)) := by rw [unhid HR0]; exact (unhid HI).res
        go_wp2_with (refine wpList_store_row rfl 82 (.tmp 12) (.tmp 73) rfl R0 (rcA rc0) rfl rfl 82 _ hres (rc_size rc0) rfl (rc_one rc0) ?_)
        refine bodyPost_ret_by (v := .tuple #[.agg (rcA rc0), .int .i64 91]) (results_cell_row_tmp Tryz.results48 _ _ R0 82 (rcA rc0) (0, 0) _ _ rfl rfl (setRow_heap _ _ _ _ _ _ hres) Tryz.underlying82 rfl (rc_size rc0)) rfl ?_
        rw [unhid HW, unhid HR0]
        exact ⟨rfl, (unhid HI).done _⟩
      | false =>
        have hf' := of_decide_eq_false hf
        cases b1 with
        | true =>
          have HW := hid (show writeR S tab hour sign fld val = (rc0, 22, S) by unfold writeR; rw [unhid HNR, (unhid HT).2.2, hv, (unhid HT).1, if_neg (by simp), if_neg (by simp), if_neg hf', unhid HUT, ← unhid HB1, if_pos rfl])
          clear hf'
          have hres : W5.heap[R0]? = some (.cells (rcA rc0) 82 (0, 0)) := by rw [unhid HR0]; exact (unhid HI).res
          go_wp2_with (refine wpList_store_row rfl 82 (.tmp 12) (.tmp 76) rfl R0 (rcA rc0) rfl rfl 82 _ hres (rc_size rc0) rfl (rc_one rc0) ?_)
          refine bodyPost_ret_by (v := .tuple #[.agg (rcA rc0), .int .i64 22]) (results_cell_row_tmp Tryz.results48 _ _ R0 82 (rcA rc0) (0, 0) _ _ rfl rfl (setRow_heap _ _ _ _ _ _ hres) Tryz.underlying82 rfl (rc_size rc0)) rfl ?_
          rw [unhid HW, unhid HR0]
          exact ⟨rfl, (unhid HI).done _⟩
        | false =>
          have HW := hid (show writeR S tab hour sign fld val = (r, 0, S ++ [r]) by unfold writeR; rw [unhid HNR, (unhid HT).2.2, hv, (unhid HT).1, if_neg (by simp), if_neg (by simp), if_neg hf', unhid HUT, ← unhid HB1, if_neg (by simp)])
          have HRN := hid (show r ∉ S by rw [(unhid HRE).1]; exact newR_not (by rw [(unhid HT).1]; exact (unhid HB1).symm))
          have HVR := hid hv
          clear hf'
          go_upto_region 12 with (fail)
          obtain ⟨c0, c1, c2, c3, c4, c5⟩ := (unhid HX).cells
          obtain ⟨e0, e1, e2, e3, e4, e5, e6, e7⟩ := (unhid HX).seen8
          have cb := (unhid HI).bk.cell
          refine wp_region_still_tail 5 (by kernel_rfl) (by kernel_rfl) ?_
          simp only [List.take_succ_cons, List.take_zero, List.drop_succ_cons, List.drop_zero]
          iterate 5 still_step
          refine wpStill_nil ?_
          change wpList _ _ _ _ _ W5.drew
          clear c0 c1 c2 c3 c4 c5 e0 e1 e2 e3 e4 e5 e6 e7 cb cf
          have HI := hid ((unhid HI).below (Below.drew (Below.refl _ _)))
          have HX := hid ((unhid HX).below (Below.drew (Below.refl W5.heap.size W5)) (unhid HX).lt)
          generalize W5.drew = W6 at *
          go_upto_region 13 with (at_mapUpdate; refine wpList_gput rfl _ _ _ 83 rfl 4 Tryz.underlying83 rfl (unhid HI).bk.m (by have := unhid HS; simp only [setE_len, maxLen]; omega) r (rcW_of (unhid HVR)) rfl (.bool true) rfl ?_; intro w7 hm7 hg7)
          have HB7 := hid (BkAt.added (unhid HI).bk hm7 hg7 (unhid HVR) (unhid HRN))
          have HG7 := hid (grown_then (unhid HI).b hg7)
          have hne : ∀ k, k ≠ m → k < W6.heap.size → w7.heap[k]? = W6.heap[k]? := fun k hk hl => hg7.block k hl (fun e => hk (Option.some.inj e))
          have hres : w7.heap[R0]? = some (.cells (rcA rc0) 82 (0, 0)) := by
            rw [unhid HR0]
            exact (hne _ (by have := (unhid HI).lo; omega) (Array.getElem?_eq_some_iff.1 (unhid HI).res).1).trans (unhid HI).res
          have hXm : X ≠ m := fun e => by
            obtain ⟨es, c, h⟩ := GMap.isMap (unhid HI).bk.m
            have h2 := unhid HX
            unfold RcAt at h2
            rw [e, h] at h2
            cases h2
          have HX7 := hid (show RcAt w7 X r from (hne X hXm (unhid HX).lt).trans (unhid HX))
          clear hm7 hg7 hne hXm
          obtain ⟨c0, c1, c2, c3, c4, c5⟩ := (unhid HX7).cells
          obtain ⟨e0, e1, e2, e3, e4, e5, e6, e7⟩ := (unhid HX7).seen8
          go_wp2_with (refine wpList_store_row rfl 82 (.tmp 12) (.tmp 82) rfl R0 (rcA r) rfl rfl 82 _ hres (rc_size r) rfl (rc_one r) ?_)
          refine bodyPost_ret_by (v := .tuple #[.agg (rcA r), .int .i64 0]) (results_cell_row_tmp Tryz.results48 _ _ R0 82 (rcA r) (0, 0) _ _ rfl rfl (setRow_heap _ _ _ _ _ _ hres) Tryz.underlying82 rfl (rc_size r)) rfl ?_
          rw [unhid HW]
          refine ⟨rfl, (unhid HB7).setRow (by rw [unhid HR0]; have := (unhid HI).lo; omega) (by rw [unhid HR0]; have := (unhid HI).lo; omega) _, ?_⟩
          exact below_grownBy' (unhid HG7) (by rw [unhid HR0]; exact Nat.le_refl _) _

end Go.Proofs.YtegghimjmbgghaaGreat
