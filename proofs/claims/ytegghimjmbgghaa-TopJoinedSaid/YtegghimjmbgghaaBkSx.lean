/-
  slices.SortStableFunc at records: swapRange, rotate.
-/
import Derived.Test.YtegghimjmbgghaaBkSy
import Derived.Test.YtegghimjmbgghaaBkHs
import Derived.Test.YtegghimjmbgghaaAnyE
import Derived.Shelf.SlSortCmp.KitK
import Derived.Deep.LoopGhost
set_option linter.unusedSimpArgs false
set_option linter.unusedVariables false
namespace Go.Proofs.Ytegghimjmbgghaa
open Go.RowKit Go.Shelf Go.Sort

/-- History's order: by hours. -/
def hrI (r q : Rc) : Int := IntKind.i64.wrap (r.hour - q.hour)
theorem byHourW_calls (r q : Rc) (w : World) :
    Calls Try.prog 116 #[.agg (rcC r).toArray, .agg (rcC q).toArray] w fun e w' => e = .returned (.int .i64 (hrI r q)) ∧ ∃ n os, w' = grow (w.drewN n) os := by
  have HR := hid ((RcAt.new w r).below (below_alloc _ (.cells (rcA q) 33)) (by simp))
  have hq := RcAt.new (w.alloc (.cells (rcA r) 33)) q
  rw [show (w.alloc (.cells (rcA r) 33)).heap.size = w.heap.size + 1 by simp] at hq
  have HQ := hid hq
  have HG := hid (show (w.alloc (.cells (rcA r) 33)).alloc (.cells (rcA q) 33) = grow (w.drewN 0) #[.cells (rcA r) 33, .cells (rcA q) 33] from by
    rw [alloc_eq_grow (w.alloc (.cells (rcA r) 33)), alloc_eq_grow w, grow_grow]
    rfl)
  clear hq
  show Calls Try.prog 116 #[.agg #[.int .i64 r.tab, .int .i64 r.num, .int .i64 r.hour, .int .i64 r.sign, .int .i64 r.fld, .int .i64 r.val, .int .i64 r.s0, .int .i64 r.s1, .int .i64 r.s2, .int .i64 r.s3, .int .i64 r.s4, .int .i64 r.s5, .int .i64 r.s6, .int .i64 r.s7], .agg #[.int .i64 q.tab, .int .i64 q.num, .int .i64 q.hour, .int .i64 q.sign, .int .i64 q.fld, .int .i64 q.val, .int .i64 q.s0, .int .i64 q.s1, .int .i64 q.s2, .int .i64 q.s3, .int .i64 q.s4, .int .i64 q.s5, .int .i64 q.s6, .int .i64 q.s7]] w _
  go_enter Try.func116, Try.ntmps116
  go_upto_region 1 with (fail)
  change Code.wp _ _ _ _ ((w.alloc (.cells (rcA r) 33)).alloc (.cells (rcA q) 33))
  obtain ⟨d0, d1, d2, d3, d4, d5⟩ := (unhid HR).cells
  obtain ⟨e0, e1, e2, e3, e4, e5⟩ := (unhid HQ).cells
  obtain ⟨W, hW⟩ : ∃ W, W = (w.alloc (.cells (rcA r) 33)).alloc (.cells (rcA q) 33) := ⟨_, rfl⟩
  have HG := hid (show W = grow (w.drewN 0) #[.cells (rcA r) 33, .cells (rcA q) 33] from hW.trans (unhid HG))
  rw [← hW] at d0 d1 d2 d3 d4 d5 e0 e1 e2 e3 e4 e5 ⊢
  clear hW
  go_wp2_with fail
  go_ret
  exact ⟨reti (by first | rfl | (unfold hrI; rw [IntKind.wrap_i64]; rfl) | (unfold hrI wrap64; rw [IntKind.wrap_i64])), 0, _, unhid HG⟩
theorem hr_lays (blk off size : Nat) (w : World) : CmpLays Try.prog 116 #[] rcC 14 hrI blk off size w := fun _ _ _ _ x y => byHourW_calls x y _

/-- The cells of a record in a world of the sort's. -/
theorem SWKc {W : World} {blk off i : Nat} {dk : Array Rc} {x : Rc} (h : HoldsK rcC 14 W blk off dk) (hi : i < dk.size) (hx : x = dk[i]!) : W.cell? ⟨blk, off + i * 14, none⟩ = some (.int .i64 x.tab) ∧ W.cell? ⟨blk, off + i * 14 + 1, none⟩ = some (.int .i64 x.num) ∧ W.cell? ⟨blk, off + i * 14 + 2, none⟩ = some (.int .i64 x.hour) ∧ W.cell? ⟨blk, off + i * 14 + 3, none⟩ = some (.int .i64 x.sign) ∧ W.cell? ⟨blk, off + i * 14 + 4, none⟩ = some (.int .i64 x.fld) ∧ W.cell? ⟨blk, off + i * 14 + 5, none⟩ = some (.int .i64 x.val) ∧ W.cell? ⟨blk, off + i * 14 + 6, none⟩ = some (.int .i64 x.s0) ∧ W.cell? ⟨blk, off + i * 14 + 7, none⟩ = some (.int .i64 x.s1) ∧ W.cell? ⟨blk, off + i * 14 + 8, none⟩ = some (.int .i64 x.s2) ∧ W.cell? ⟨blk, off + i * 14 + 9, none⟩ = some (.int .i64 x.s3) ∧ W.cell? ⟨blk, off + i * 14 + 10, none⟩ = some (.int .i64 x.s4) ∧ W.cell? ⟨blk, off + i * 14 + 11, none⟩ = some (.int .i64 x.s5) ∧ W.cell? ⟨blk, off + i * 14 + 12, none⟩ = some (.int .i64 x.s6) ∧ W.cell? ⟨blk, off + i * 14 + 13, none⟩ = some (.int .i64 x.s7) := by
  subst hx
  have hc := fun t v e => HoldsK.cells h (fun _ => rfl) hi t v e
  exact ⟨hc 0 _ rfl, hc 1 _ rfl, hc 2 _ rfl, hc 3 _ rfl, hc 4 _ rfl, hc 5 _ rfl, hc 6 _ rfl, hc 7 _ rfl, hc 8 _ rfl, hc 9 _ rfl, hc 10 _ rfl, hc 11 _ rfl, hc 12 _ rfl, hc 13 _ rfl⟩
theorem swk_cells14 {w0 W : World} {blk off i : Nat} {d0 dk : Array Rc} {x : Rc} (h : SWK rcC 14 w0 blk off dk W) (R : RowK rcC 14 w0 blk off d0) (hs : dk.size = d0.size) (hi : i < dk.size) (hx : x = dk[i]!) : W.cell? ⟨blk, off + i * 14, none⟩ = some (.int .i64 x.tab) ∧ W.cell? ⟨blk, off + i * 14 + 1, none⟩ = some (.int .i64 x.num) ∧ W.cell? ⟨blk, off + i * 14 + 2, none⟩ = some (.int .i64 x.hour) ∧ W.cell? ⟨blk, off + i * 14 + 3, none⟩ = some (.int .i64 x.sign) ∧ W.cell? ⟨blk, off + i * 14 + 4, none⟩ = some (.int .i64 x.fld) ∧ W.cell? ⟨blk, off + i * 14 + 5, none⟩ = some (.int .i64 x.val) ∧ W.cell? ⟨blk, off + i * 14 + 6, none⟩ = some (.int .i64 x.s0) ∧ W.cell? ⟨blk, off + i * 14 + 7, none⟩ = some (.int .i64 x.s1) ∧ W.cell? ⟨blk, off + i * 14 + 8, none⟩ = some (.int .i64 x.s2) ∧ W.cell? ⟨blk, off + i * 14 + 9, none⟩ = some (.int .i64 x.s3) ∧ W.cell? ⟨blk, off + i * 14 + 10, none⟩ = some (.int .i64 x.s4) ∧ W.cell? ⟨blk, off + i * 14 + 11, none⟩ = some (.int .i64 x.s5) ∧ W.cell? ⟨blk, off + i * 14 + 12, none⟩ = some (.int .i64 x.s6) ∧ W.cell? ⟨blk, off + i * 14 + 13, none⟩ = some (.int .i64 x.s7) := SWKc (h.holds R.hblk R.hH hs) hi hx
/-- A struct stored in the middle of a row. -/
theorem wp_store_mid {P : Program} {o : Oper} {a : Act} {w : World} {K : Act → World → Prop} {Q : Exit → Act → World → Prop} (ty : TypeId) (x y : Operand) (ho : o.op = .store ty x y) (b : Addr) (cells : Array Value) (w' : World)
    (hx : a.eval x = .pointer (some b)) (hy : a.eval y = .agg cells) (hi : (P.info? ty).map (·.size) = some cells.size) (hr : Sem.run P (storeCells b cells.toList 0) w = .ok () w') (h : K (a.put o.dst undef) w') : o.wp P a w K Q := by
  have hs : (storeVar ty b (.agg cells)).run P w = .ok () w' := by
    cases hq : P.info? ty with
    | none => simp [hq] at hi
    | some i =>
      have hz : cells.size = i.size := by simp [hq] at hi; omega
      simp [storeVar, Go.sizeOf, typeInfo, hq, Value.cells, hz, hr]
  unfold Oper.wp execOp
  simp only [ho, hx, hy, Instr.storeAt, Instr.sureAddr, Sem.run_bind, Sem.run_pure, Result.andThen_ok, hs]
  exact h
/-- Two operations may come up. -/
theorem WE_two {P : Program} {l : List Oper} {Q : Exit → Act → World → Prop} {md : Region.Mode} {S : World → Prop} {s i j : Nat} {o o' : Oper} {f : Nat} {listed : Array Bool} {a : Act} {w : World} (hi : l[i]? = some o) (hj : l[j]? = some o') (his : i < s) (hjs : j < s) (hr : Region.ready md l.toArray listed = [i, j])
    (h : ∀ K : Act → World → Prop, Go.Shut (∀ a w, S w → (S w → WE P md l Q S s f (listed.setIfInBounds i true) a w) → K a w) → if Region.wanted o (yielded l.toArray a.tmps) = true then Oper.wp P o a w K Q else K (a.put o.dst undef) w)
    (h' : ∀ K : Act → World → Prop, Go.Shut (∀ a w, S w → (S w → WE P md l Q S s f (listed.setIfInBounds j true) a w) → K a w) → if Region.wanted o' (yielded l.toArray a.tmps) = true then Oper.wp P o' a w K Q else K (a.put o'.dst undef) w) :
    WE P md l Q S s (f + 1) listed a w := fun inv => by
  have hi' : l.toArray[i]? = some o := by simpa using hi
  have hj' : l.toArray[j]? = some o' := by simpa using hj
  have hmi : i ∈ Region.ready md l.toArray listed := by rw [hr]; simp
  have hmj : j ∈ Region.ready md l.toArray listed := by rw [hr]; simp
  refine ⟨fun h => (by rw [h] at hr; cases hr), fun q hq => ?_⟩
  rw [hr] at hq
  rcases (show q = i ∨ q = j from by simpa using hq) with rfl | rfl
  · exact wpOp_step hi' (fun K hK => h K (fun a w hS hW => hK a w ⟨fun _ => hS, hW hS (inv.set hmi his)⟩))
  · exact wpOp_step hj' (fun K hK => h' K (fun a w hS hW => hK a w ⟨fun _ => hS, hW hS (inv.set hmj hjs)⟩))
def SwPost (w0 : World) (blk off a b n : Nat) (d : Array Rc) (e : Ending) (w' : World) : Prop := e = .returned (.tuple #[]) ∧ ∃ d', SwR d a b n d' ∧ SWK rcC 14 w0 blk off d' w'
set_option maxHeartbeats 4000000 in
set_option maxRecDepth 100000 in
theorem swapRange_calls {w0 : World} {blk off : Nat} {d0 : Array Rc} (R : RowK rcC 14 w0 blk off d0) (fv : Value) (a b n cap : Nat) (ai bi ni : Int) (d : Array Rc) (w : World) (h : SWK rcC 14 w0 blk off d w) (hs : d.size = d0.size) (hab : a + n ≤ b) (hb : b + n ≤ d0.size) (hsz : d0.size ≤ 1000000) (ha : ai = (a : Int)) (hbi : bi = (b : Int)) (hni : ni = (n : Int)) :
    Calls Try.prog 163 #[.slice (some ⟨blk, off, none⟩) d0.size cap, .int .i64 ai, .int .i64 bi, .int .i64 ni, fv] w fun e w' => SwPost w0 blk off a b n d e w' := by
  subst ha hbi hni
  have mixed : Try.prog.follows .mixedOrders = true := by kernel_rfl
  have H := hid h
  have HR := hid R
  have HS0 := hid hs
  clear h R hs
  go_enter Try.func163, Try.ntmps163
  go_upto_region 1 with (fail)
  go_loopw [10] (fun iv wr => ∃ (i : Nat) (dk : Array Rc), i ≤ n ∧ iv = .int .i64 i ∧ SwR d a b i dk ∧ SWK rcC 14 w0 blk off dk wr) (fun iv _ => n - (intOf iv).toNat)
  case atStart => exact ⟨0, d, Nat.zero_le _, rfl, SwR.zero _ _ _, unhid H⟩
  case round =>
    clear H
    obtain ⟨i, dk, hi, rfl, hsw, hk⟩ := hrel
    have HSW := hid hsw
    have HK := hid hk
    have hds : dk.size = d0.size := hsw.size.trans (unhid HS0)
    clear hsw hk
    by_cases hlt : i < n
    · have hlti : (i : Int) < (n : Int) := by omega
      have HN := hid ((unhid HSW).step (by omega) (by have := unhid HS0; omega))
      have eax : ((a : Int) + (i : Int)).toNat = a + i := by omega
      have pax : (0 : Int) ≤ (a : Int) + (i : Int) := by omega
      have bax : (a : Int) + (i : Int) < (d0.size : Int) := by omega
      have rax : IntKind.i64.wrap ((a : Int) + (i : Int)) = (a : Int) + (i : Int) := by rw [IntKind.wrap_i64]; omega
      have eay : ((b : Int) + (i : Int)).toNat = b + i := by omega
      have pay : (0 : Int) ≤ (b : Int) + (i : Int) := by omega
      have bay : (b : Int) + (i : Int) < (d0.size : Int) := by omega
      have ray : IntKind.i64.wrap ((b : Int) + (i : Int)) = (b : Int) + (i : Int) := by rw [IntKind.wrap_i64]; omega
      obtain ⟨x, hx⟩ : ∃ x, x = dk[a + i]! := ⟨_, rfl⟩
      obtain ⟨y, hy⟩ : ∃ y, y = dk[b + i]! := ⟨_, rfl⟩
      obtain ⟨x0, x1, x2, x3, x4, x5, x6, x7, x8, x9, x10, x11, x12, x13⟩ := swk_cells14 (i := a + i) (unhid HK).drew (unhid HR) (by omega) (by omega) hx
      obtain ⟨y0, y1, y2, y3, y4, y5, y6, y7, y8, y9, y10, y11, y12, y13⟩ := swk_cells14 (i := b + i) (unhid HK).drew (unhid HR) (by omega) (by omega) hy
      obtain ⟨W1, W2, sa, sb, s2⟩ : ∃ W1 W2, Sem.run Try.prog (storeCells ⟨blk, off + (a + i) * 14, none⟩ (rcC y) 0) wr.drew = .ok () W1 ∧ Sem.run Try.prog (storeCells ⟨blk, off + (b + i) * 14, none⟩ (rcC x) 0) W1 = .ok () W2 ∧ SWK rcC 14 w0 blk off (swp dk (a + i) (b + i)) W2 := by
        refine ⟨_, _, (unhid HK).st1 (unhid HR) (by omega) Try.prog (a + i) (by omega) y, (unhid HK).st2 (unhid HR) (by omega) Try.prog (a + i) (b + i) (by omega) (by omega) y x, ?_⟩
        rw [hx, hy]
        exact (unhid HK).swapped (unhid HR) (a + i) (b + i) (by omega) (by omega)
      have S2 := hid s2
      clear s2
      clear HK hx hy
      go_wp2_with fail
      refine wp_region_noPanic ?_
      refine wp_region_E (S := fun _ => True) 23 24 rfl (by kernel_rfl) (by kernel_rfl) trivial ?_
      intro hSE
      generalize wr.drew = Wd at *
      (refine WE_take (i := 0) (v := ?_) rfl (by kernel_rfl) (by decide) (by kernel_rfl) (by kernel_rfl) (fun _ _ _ h => h) (by rfl) hSE ?_ ?_; rotate_left; (focus (intro w hSw; (try dsimp only at hSw); go_simp; (try with_reducible rfl))); simp only [Act.put, List.setIfInBounds_toArray, List.set_cons_zero, List.set_cons_succ])
      (refine WE_take (i := 1) (v := ?_) rfl (by kernel_rfl) (by decide) (by kernel_rfl) (by kernel_rfl) (fun _ _ _ h => h) (by rfl) hSE ?_ ?_; rotate_left; (focus (intro w hSw; (try dsimp only at hSw); go_simp; (try with_reducible rfl))); simp only [Act.put, List.setIfInBounds_toArray, List.set_cons_zero, List.set_cons_succ])
      (refine WE_take (i := 2) (v := ?_) rfl (by kernel_rfl) (by decide) (by kernel_rfl) (by kernel_rfl) (fun _ _ _ h => h) (by rfl) hSE ?_ ?_; rotate_left; (focus (intro w hSw; (try dsimp only at hSw); go_simp; (try with_reducible rfl))); simp only [Act.put, List.setIfInBounds_toArray, List.set_cons_zero, List.set_cons_succ])
      (refine WE_take (i := 3) (v := ?_) rfl (by kernel_rfl) (by decide) (by kernel_rfl) (by kernel_rfl) (fun _ _ _ h => h) (by rfl) hSE ?_ ?_; rotate_left; (focus (intro w hSw; (try dsimp only at hSw); go_simp; (try with_reducible rfl))); simp only [Act.put, List.setIfInBounds_toArray, List.set_cons_zero, List.set_cons_succ])
      (refine WE_take (i := 4) (v := ?_) rfl (by kernel_rfl) (by decide) (by kernel_rfl) (by kernel_rfl) (fun _ _ _ h => h) (by rfl) hSE ?_ ?_; rotate_left; (focus (intro w hSw; (try dsimp only at hSw); go_simp; (try with_reducible rfl))); simp only [Act.put, List.setIfInBounds_toArray, List.set_cons_zero, List.set_cons_succ])
      (refine WE_take (i := 5) (v := ?_) rfl (by kernel_rfl) (by decide) (by kernel_rfl) (by kernel_rfl) (fun _ _ _ h => h) (by rfl) hSE ?_ ?_; rotate_left; (focus (intro w hSw; (try dsimp only at hSw); go_simp; (try with_reducible rfl))); simp only [Act.put, List.setIfInBounds_toArray, List.set_cons_zero, List.set_cons_succ])
      (refine WE_take (i := 6) (v := ?_) rfl (by kernel_rfl) (by decide) (by kernel_rfl) (by kernel_rfl) (fun _ _ _ h => h) (by rfl) hSE ?_ ?_; rotate_left; (focus (intro w hSw; (try dsimp only at hSw); go_simp; (try with_reducible rfl))); simp only [Act.put, List.setIfInBounds_toArray, List.set_cons_zero, List.set_cons_succ])
      (refine WE_take (i := 7) (v := ?_) rfl (by kernel_rfl) (by decide) (by kernel_rfl) (by kernel_rfl) (fun _ _ _ h => h) (by rfl) hSE ?_ ?_; rotate_left; (focus (intro w hSw; (try dsimp only at hSw); go_simp; (try with_reducible rfl))); simp only [Act.put, List.setIfInBounds_toArray, List.set_cons_zero, List.set_cons_succ])
      (refine WE_take (i := 8) (v := ?_) rfl (by kernel_rfl) (by decide) (by kernel_rfl) (by kernel_rfl) (fun _ _ _ h => h) (by rfl) hSE ?_ ?_; rotate_left; (focus (intro w hSw; (try dsimp only at hSw); go_simp; (try with_reducible rfl))); simp only [Act.put, List.setIfInBounds_toArray, List.set_cons_zero, List.set_cons_succ])
      (refine WE_take (i := 9) (v := ?_) rfl (by kernel_rfl) (by decide) (by kernel_rfl) (by kernel_rfl) (fun _ _ _ h => h) (by rfl) hSE ?_ ?_; rotate_left; (focus (intro w hSw; (try dsimp only at hSw); go_simp; (try with_reducible rfl))); simp only [Act.put, List.setIfInBounds_toArray, List.set_cons_zero, List.set_cons_succ])
      (refine WE_take (i := 10) (v := ?_) rfl (by kernel_rfl) (by decide) (by kernel_rfl) (by kernel_rfl) (fun _ _ _ h => h) (by rfl) hSE ?_ ?_; rotate_left; (focus (intro w hSw; (try dsimp only at hSw); go_simp; (try with_reducible rfl))); simp only [Act.put, List.setIfInBounds_toArray, List.set_cons_zero, List.set_cons_succ])
      (refine WE_take (i := 11) (v := ?_) rfl (by kernel_rfl) (by decide) (by kernel_rfl) (by kernel_rfl) (fun _ _ _ h => h) (by rfl) hSE ?_ ?_; rotate_left; (focus (intro w hSw; (try dsimp only at hSw); go_simp; (try with_reducible rfl))); simp only [Act.put, List.setIfInBounds_toArray, List.set_cons_zero, List.set_cons_succ])
      (refine WE_take (i := 12) (v := ?_) rfl (by kernel_rfl) (by decide) (by kernel_rfl) (by kernel_rfl) (fun _ _ _ h => h) (by rfl) hSE ?_ ?_; rotate_left; (focus (intro w hSw; (try dsimp only at hSw); go_simp; (try with_reducible rfl))); simp only [Act.put, List.setIfInBounds_toArray, List.set_cons_zero, List.set_cons_succ])
      (refine WE_take (i := 14) (v := ?_) rfl (by kernel_rfl) (by decide) (by kernel_rfl) (by kernel_rfl) (fun _ _ _ h => h) (by rfl) hSE ?_ ?_; rotate_left; (focus (intro w hSw; (try dsimp only at hSw); go_simp; (try with_reducible rfl))); simp only [Act.put, List.setIfInBounds_toArray, List.set_cons_zero, List.set_cons_succ])
      (refine WE_take (i := 15) (v := ?_) rfl (by kernel_rfl) (by decide) (by kernel_rfl) (by kernel_rfl) (fun _ _ _ h => h) (by rfl) hSE ?_ ?_; rotate_left; (focus (intro w hSw; (try dsimp only at hSw); go_simp; (try with_reducible rfl))); simp only [Act.put, List.setIfInBounds_toArray, List.set_cons_zero, List.set_cons_succ])
      (refine WE_take (i := 16) (v := ?_) rfl (by kernel_rfl) (by decide) (by kernel_rfl) (by kernel_rfl) (fun _ _ _ h => h) (by rfl) hSE ?_ ?_; rotate_left; (focus (intro w hSw; (try dsimp only at hSw); go_simp; (try with_reducible rfl))); simp only [Act.put, List.setIfInBounds_toArray, List.set_cons_zero, List.set_cons_succ])
      (refine WE_take (i := 17) (v := ?_) rfl (by kernel_rfl) (by decide) (by kernel_rfl) (by kernel_rfl) (fun _ _ _ h => h) (by rfl) hSE ?_ ?_; rotate_left; (focus (intro w hSw; (try dsimp only at hSw); go_simp; (try with_reducible rfl))); simp only [Act.put, List.setIfInBounds_toArray, List.set_cons_zero, List.set_cons_succ])
      (refine WE_take (i := 18) (v := ?_) rfl (by kernel_rfl) (by decide) (by kernel_rfl) (by kernel_rfl) (fun _ _ _ h => h) (by rfl) hSE ?_ ?_; rotate_left; (focus (intro w hSw; (try dsimp only at hSw); go_simp; (try with_reducible rfl))); simp only [Act.put, List.setIfInBounds_toArray, List.set_cons_zero, List.set_cons_succ])
      refine WE_two (i := 13) (j := 19) rfl rfl (by decide) (by decide) (by kernel_rfl) ?_ ?_
      · intro K hK
        go_simp
        refine hK.out _ _ trivial ?_
        clear hSE hK K
        intro hSE
        (try simp only [Act.put, List.setIfInBounds_toArray, List.set_cons_zero, List.set_cons_succ])
        (refine WE_one (i := 19) rfl (by decide) (by kernel_rfl) ?_; intro K hK)
        go_simp
        refine hK.out _ _ trivial ?_
        clear hSE hK K
        intro hSE
        (try simp only [Act.put, List.setIfInBounds_toArray, List.set_cons_zero, List.set_cons_succ])
        (refine WE_one (i := 20) rfl (by decide) (by kernel_rfl) ?_; intro K hK)
        go_simp
        refine hK.out _ _ trivial ?_
        clear hSE hK K
        intro hSE
        (try simp only [Act.put, List.setIfInBounds_toArray, List.set_cons_zero, List.set_cons_succ])
        (refine WE_one (i := 21) rfl (by decide) (by kernel_rfl) ?_; intro K hK)
        rw [if_pos (by rfl)]
        refine wp_store_mid 33 (.tmp 36) (.tmp 29) rfl ⟨blk, off + (a + i) * 14, none⟩ (rcA y) _ rfl rfl (rc_size y) sa ?_
        refine hK.out _ _ trivial ?_
        clear hSE hK K
        intro hSE
        (try simp only [Act.put, List.setIfInBounds_toArray, List.set_cons_zero, List.set_cons_succ])
        (refine WE_one (i := 22) rfl (by decide) (by kernel_rfl) ?_; intro K hK)
        go_simp
        refine hK.out _ _ trivial ?_
        clear hSE hK K
        intro hSE
        (try simp only [Act.put, List.setIfInBounds_toArray, List.set_cons_zero, List.set_cons_succ])
        refine WE_last rfl (by kernel_rfl) (by kernel_rfl) (by kernel_rfl) ?_
        intro K hK
        rw [if_pos (by rfl)]
        refine wp_store_mid 33 (.tmp 37) (.tmp 35) rfl ⟨blk, off + (b + i) * 14, none⟩ (rcA x) _ rfl rfl (rc_size x) sb ?_
        refine hK.out _ _ (NoPanic.normal ?_)
        clear hK K
        clear hSE sa sb x0 x1 x2 x3 x4 x5 x6 x7 x8 x9 x10 x11 x12 x13 y0 y1 y2 y3 y4 y5 y6 y7 y8 y9 y10 y11 y12 y13
        go_wp2_with fail
        go_roundw
        case rel => exact ⟨i + 1, _, by omega, by go_num, unhid HN, unhid S2⟩
        case measure => simp [intOf]; omega
      · intro K hK
        go_simp
        refine hK.out _ _ trivial ?_
        clear hSE hK K
        intro hSE
        (try simp only [Act.put, List.setIfInBounds_toArray, List.set_cons_zero, List.set_cons_succ])
        (refine WE_one (i := 13) rfl (by decide) (by kernel_rfl) ?_; intro K hK)
        go_simp
        refine hK.out _ _ trivial ?_
        clear hSE hK K
        intro hSE
        (try simp only [Act.put, List.setIfInBounds_toArray, List.set_cons_zero, List.set_cons_succ])
        (refine WE_one (i := 20) rfl (by decide) (by kernel_rfl) ?_; intro K hK)
        go_simp
        refine hK.out _ _ trivial ?_
        clear hSE hK K
        intro hSE
        (try simp only [Act.put, List.setIfInBounds_toArray, List.set_cons_zero, List.set_cons_succ])
        (refine WE_one (i := 21) rfl (by decide) (by kernel_rfl) ?_; intro K hK)
        rw [if_pos (by rfl)]
        refine wp_store_mid 33 (.tmp 36) (.tmp 29) rfl ⟨blk, off + (a + i) * 14, none⟩ (rcA y) _ rfl rfl (rc_size y) sa ?_
        refine hK.out _ _ trivial ?_
        clear hSE hK K
        intro hSE
        (try simp only [Act.put, List.setIfInBounds_toArray, List.set_cons_zero, List.set_cons_succ])
        (refine WE_one (i := 22) rfl (by decide) (by kernel_rfl) ?_; intro K hK)
        go_simp
        refine hK.out _ _ trivial ?_
        clear hSE hK K
        intro hSE
        (try simp only [Act.put, List.setIfInBounds_toArray, List.set_cons_zero, List.set_cons_succ])
        refine WE_last rfl (by kernel_rfl) (by kernel_rfl) (by kernel_rfl) ?_
        intro K hK
        rw [if_pos (by rfl)]
        refine wp_store_mid 33 (.tmp 37) (.tmp 35) rfl ⟨blk, off + (b + i) * 14, none⟩ (rcA x) _ rfl rfl (rc_size x) sb ?_
        refine hK.out _ _ (NoPanic.normal ?_)
        clear hK K
        clear hSE sa sb x0 x1 x2 x3 x4 x5 x6 x7 x8 x9 x10 x11 x12 x13 y0 y1 y2 y3 y4 y5 y6 y7 y8 y9 y10 y11 y12 y13
        go_wp2_with fail
        go_roundw
        case rel => exact ⟨i + 1, _, by omega, by go_num, unhid HN, unhid S2⟩
        case measure => simp [intOf]; omega
    · have hlti : ¬ (i : Int) < (n : Int) := by omega
      obtain rfl : i = n := by omega
      have HP := hid (show SwPost w0 blk off a b i d (.returned (.tuple #[])) wr from ⟨rfl, dk, unhid HSW, unhid HK⟩)
      go_wp2_with fail
      go_end0
      exact unhid HP

def RtPost (w0 : World) (blk off a m b : Nat) (d : Array Rc) (e : Ending) (w' : World) : Prop := e = .returned (.tuple #[]) ∧ ∃ d', RotI d a m b d' ∧ SWK rcC 14 w0 blk off d' w'
/-- How far rotate has come. -/
structure RtI (w0 : World) (blk off a m b : Nat) (d : Array Rc) (i j : Nat) (dk : Array Rc) (w : World) : Prop where
  ib : 0 < i ∧ i ≤ m
  jb : 0 < j ∧ m + j ≤ dk.size
  size : dk.size = d.size
  tgt : ∀ D, RotI dk (m - i) m (m + j) D → RotI d a m b D
  k : SWK rcC 14 w0 blk off dk w
theorem RtI.gt {w0 w w' : World} {blk off a m b i j : Nat} {d dk d' : Array Rc} (h : RtI w0 blk off a m b d i j dk w) (hij : j < i) (hs : SwR dk (m - i) m j d') (hk : SWK rcC 14 w0 blk off d' w') : RtI w0 blk off a m b d (i - j) j d' w' := by
  have h1 := h.ib
  have h2 := h.jb
  exact ⟨by omega, ⟨h2.1, by rw [hs.size]; exact h2.2⟩, hs.size.trans h.size, fun D hD => h.tgt D (hs.rot_gt h1.2 hij h2.2 hD), hk⟩
theorem RtI.lt {w0 w w' : World} {blk off a m b i j : Nat} {d dk d' : Array Rc} (h : RtI w0 blk off a m b d i j dk w) (hij : i < j) (hs : SwR dk (m - i) (m + j - i) i d') (hk : SWK rcC 14 w0 blk off d' w') : RtI w0 blk off a m b d i (j - i) d' w' := by
  have h1 := h.ib
  have h2 := h.jb
  exact ⟨h1, ⟨by omega, by rw [hs.size]; omega⟩, hs.size.trans h.size, fun D hD => h.tgt D (hs.rot_lt h1.2 hij h2.2 hD), hk⟩
set_option maxHeartbeats 4000000 in
set_option maxRecDepth 100000 in
theorem rotate_calls {w0 : World} {blk off : Nat} {d0 : Array Rc} (R : RowK rcC 14 w0 blk off d0) (fv : Value) (a m b cap : Nat) (ai mi bi : Int) (d : Array Rc) (w : World) (h : SWK rcC 14 w0 blk off d w) (hs : d.size = d0.size) (ham : a < m) (hmb : m < b) (hb : b ≤ d0.size) (hsz : d0.size ≤ 1000000) (hai : ai = (a : Int)) (hmi : mi = (m : Int)) (hbi : bi = (b : Int)) :
    Calls Try.prog 162 #[.slice (some ⟨blk, off, none⟩) d0.size cap, .int .i64 ai, .int .i64 mi, .int .i64 bi, fv] w fun e w' => RtPost w0 blk off a m b d e w' := by
  subst hai hmi hbi
  have HR := hid R
  have H0 := hid (⟨⟨by omega, by omega⟩, ⟨by omega, by omega⟩, rfl, fun D hD => by
    rwa [show m - (m - a) = a by omega, show m + (b - m) = b by omega] at hD, h⟩ : RtI w0 blk off a m b d (m - a) (b - m) d w)
  have HS0 := hid hs
  have HC1 := hid (show ((m : Int) - (a : Int)) = ((m - a : Nat) : Int) ∧ ((b : Int) - (m : Int)) = ((b - m : Nat) : Int) from by omega)
  have HSZ := hid (show d0.size ≤ 1000000 ∧ m < b ∧ b ≤ d0.size from ⟨hsz, hmb, hb⟩)
  have hb1 : (a : Int) < (m : Int) ∧ (m : Int) < (b : Int) ∧ (b : Int) ≤ 1000000 := by omega
  clear h R hs ham hmb hb hsz
  go_enter Try.func162, Try.ntmps162
  go_upto_region 2 with (fail)
  go_loopw [10, 11] (fun iv jv wr => ∃ (i j : Nat) (dk : Array Rc), iv = .int .i64 i ∧ jv = .int .i64 j ∧ RtI w0 blk off a m b d i j dk wr) (fun iv jv _ => (intOf iv).toNat + (intOf jv).toNat)
  case atStart => exact ⟨m - a, b - m, d, by rw [← (unhid HC1).1], by rw [← (unhid HC1).2], unhid H0⟩
  case round =>
    clear H0 HC1 hb1
    obtain ⟨i, j, dk, rfl, rfl, hi⟩ := hrel
    have HI := hid hi
    have hds : dk.size = d0.size := hi.size.trans (unhid HS0)
    have hb2 : 0 < i ∧ i ≤ m ∧ 0 < j ∧ m + j ≤ d0.size ∧ d0.size ≤ 1000000 := by
      have h1 := hi.ib
      have h2 := hi.jb
      have h3 := (unhid HSZ).1
      rw [hds] at h2
      exact ⟨h1.1, h1.2, h2.1, h2.2, h3⟩
    have HDS := hid hds
    have HB2 := hid hb2
    clear hi hds
    by_cases hgt : j < i
    · have hne : ((i : Int) != (j : Int)) = true := bne_iff_ne.2 (by omega)
      have hgi : (i : Int) > (j : Int) := by omega
      have bi : 0 ≤ (i : Int) ∧ (i : Int) ≤ 1000000 ∧ 0 ≤ (j : Int) ∧ (j : Int) ≤ 1000000 ∧ (i : Int) ≤ (m : Int) ∧ (m : Int) ≤ 1000000 := by omega
      clear hb2
      go_wp2_with fail
      refine (swapRange_calls (unhid HR) fv (m - i) m j cap _ _ _ dk wr (unhid HI).k (unhid HDS) (by have := unhid HB2; omega) (by have := unhid HB2; omega) (unhid HSZ).1 (by have := unhid HB2; omega) rfl rfl).mono ?_
      rintro e w5 ⟨rfl, d', hsw, hk5⟩
      have HN := hid ((unhid HI).gt hgt hsw hk5)
      clear hsw hk5
      go_wp2_with fail
      go_roundw
      case rel => exact ⟨i - j, j, d', by rw [show (i : Int) - (j : Int) = ((i - j : Nat) : Int) by omega], rfl, unhid HN⟩
      case measure => have := unhid HB2; simp [intOf]; omega
    · by_cases hlt : i < j
      · have hne : ((i : Int) != (j : Int)) = true := bne_iff_ne.2 (by omega)
        have hgi : ¬ (i : Int) > (j : Int) := by omega
        have bi : 0 ≤ (i : Int) ∧ (i : Int) ≤ 1000000 ∧ 0 ≤ (j : Int) ∧ (j : Int) ≤ 1000000 ∧ (i : Int) ≤ (m : Int) ∧ (m : Int) ≤ 1000000 := by omega
        clear hb2
        go_wp2_with fail
        refine (swapRange_calls (unhid HR) fv (m - i) (m + j - i) i cap _ _ _ dk wr (unhid HI).k (unhid HDS) (by have := unhid HB2; omega) (by have := unhid HB2; omega) (unhid HSZ).1 (by have := unhid HB2; omega) (by have := unhid HB2; omega) rfl).mono ?_
        rintro e w5 ⟨rfl, d', hsw, hk5⟩
        have HN := hid ((unhid HI).lt hlt hsw hk5)
        clear hsw hk5
        go_wp2_with fail
        go_roundw
        case rel => exact ⟨i, j - i, d', rfl, by rw [show (j : Int) - (i : Int) = ((j - i : Nat) : Int) by omega], unhid HN⟩
        case measure => have := unhid HB2; simp [intOf]; omega
      · obtain rfl : i = j := by omega
        have hne : ((i : Int) != (i : Int)) = false := by simp
        have bi : 0 ≤ (i : Int) ∧ (i : Int) ≤ 1000000 ∧ (i : Int) ≤ (m : Int) ∧ (m : Int) ≤ 1000000 := by omega
        clear hb2
        go_wp2_with fail
        refine (swapRange_calls (unhid HR) fv (m - i) m i cap _ _ _ dk wr (unhid HI).k (unhid HDS) (by have := unhid HB2; omega) (by have := unhid HB2; omega) (unhid HSZ).1 (by have := unhid HB2; omega) rfl rfl).mono ?_
        rintro e w5 ⟨rfl, d', hsw, hk5⟩
        have HP := hid (show RtPost w0 blk off a m b d (.returned (.tuple #[])) w5 from ⟨rfl, d', (unhid HI).tgt d' (hsw.rot (unhid HI).ib.2), hk5⟩)
        clear hsw hk5
        go_wp2_with fail
        go_end0
        exact unhid HP

end Go.Proofs.Ytegghimjmbgghaa
