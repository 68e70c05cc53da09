/-
  Pack, of the program.
-/
import Derived.Test.YtegghimjmbgghaaBkPk
import Derived.Test.YtegghimjmbgghaaBkE
import Derived.Deep.DeepCutAuto
set_option linter.unusedSimpArgs false
set_option linter.unusedVariables false
namespace Go.Proofs.Ytegghimjmbgghaa
open Go.RowKit Go.Shelf

/-- Two operations may come up. -/
theorem WE_two {P : Program} {l : List Oper} {Q : Exit → Act → World → Prop} {md : Region.Mode} {S : World → Prop} {s i j : Nat} {o o' : Oper} {f : Nat} {listed : Array Bool} {a : Act} {w : World} (hi : l[i]? = some o) (hj : l[j]? = some o') (his : i < s) (hjs : j < s) (hr : Region.ready md l.toArray listed = [i, j])
    (h : ∀ K : Act → World → Prop, Go.Shut (∀ a w, S w → (S w → WE P md l Q S s f (listed.setIfInBounds i true) a w) → K a w) → if Region.wanted o (yielded l.toArray a.tmps) = true then Oper.wp P o a w K Q else K (a.put o.dst undef) w)
    (h' : ∀ K : Act → World → Prop, Go.Shut (∀ a w, S w → (S w → WE P md l Q S s f (listed.setIfInBounds j true) a w) → K a w) → if Region.wanted o' (yielded l.toArray a.tmps) = true then Oper.wp P o' a w K Q else K (a.put o'.dst undef) w) :
    WE P md l Q S s (f + 1) listed a w := fun inv => by
  have hi' : l.toArray[i]? = some o := by simpa using hi
  have hj' : l.toArray[j]? = some o' := by simpa using hj
  have hmi : i ∈ Region.ready md l.toArray listed := by rw [hr]; simp
  have hmj : j ∈ Region.ready md l.toArray listed := by rw [hr]; simp
  refine ⟨fun h => (by rw [h] at hr; cases hr), fun q hq => ?_⟩
  rw [hr] at hq
  rcases (show q = i ∨ q = j from by simpa using hq) with rfl | rfl
  · exact wpOp_step hi' (fun K hK => h K (fun a w hS hW => hK a w ⟨fun _ => hS, hW hS (inv.set hmi his)⟩))
  · exact wpOp_step hj' (fun K hK => h' K (fun a w hS hW => hK a w ⟨fun _ => hS, hW hS (inv.set hmj hjs)⟩))


/-- The three numbers behind the tablet. -/
def trip (r : Rc) (k : Nat) : Int := [r.num, r.hour, r.sign].getD k 0
theorem trip_index (r : Rc) {k : Nat} (hk : k < 3) (w : World) : (Instr.index 127 (.agg #[.int .i64 r.num, .int .i64 r.hour, .int .i64 r.sign]) (.int .i64 (k : Int))).run Try.prog w = .ok (.int .i64 (trip r k)) w := by
  rcases (show k = 0 ∨ k = 1 ∨ k = 2 by omega) with rfl | rfl | rfl <;> kernel_rfl
theorem trip_ok {r : Rc} (h : RcOk r) {k : Nat} (hk : k < 3) : 0 ≤ trip r k ∧ trip r k < 9223372036854775808 := by
  have h1 := h.num
  have h2 := h.hour
  have h3 := h.sign
  rcases (show k = 0 ∨ k = 1 ∨ k = 2 by omega) with rfl | rfl | rfl
  · show 0 ≤ r.num ∧ r.num < _; omega
  · show 0 ≤ r.hour ∧ r.hour < _; omega
  · show 0 ≤ r.sign ∧ r.sign < _; omega
def packT (r : Rc) : Nat → List UInt8
  | 0 => [UInt8.ofNat r.tab.toNat]
  | k + 1 => packT r k ++ numBs 4 (trip r k).toNat
theorem packT_len (r : Rc) : ∀ k, (packT r k).length = 1 + 4 * k
  | 0 => rfl
  | k + 1 => by rw [packT, List.length_append, packT_len r k, numBs_len]; omega
theorem packT_all (r : Rc) : packT r 3 ++ [UInt8.ofNat r.fld.toNat] ++ numBs 8 (r.val + 1099511627776).toNat = packS r 0 := rfl

set_option maxHeartbeats 4000000 in
set_option maxRecDepth 100000 in
theorem ppack_calls (r : Rc) (w : World) : Calls Try.prog 40 #[rcV r] w fun e w' => PackPost w r e w' := by
  obtain ⟨i0, hi, hz0, hz1, hz2⟩ := info_parts info_u8
  have HB := hid (below_alloc w (.cells (rcA r) 33))
  have HX := hid (RcAt.new w r)
  show Calls Try.prog 40 #[.agg #[.int .i64 r.tab, .int .i64 r.num, .int .i64 r.hour, .int .i64 r.sign, .int .i64 r.fld, .int .i64 r.val, .int .i64 r.s0, .int .i64 r.s1, .int .i64 r.s2, .int .i64 r.s3, .int .i64 r.s4, .int .i64 r.s5, .int .i64 r.s6, .int .i64 r.s7]] w _
  go_enter Try.func40, Try.ntmps40
  go_upto_region 1 with (fail)
  change Code.wp _ _ _ _ (w.alloc (.cells (rcA r) 33))
  obtain ⟨X, hX⟩ : ∃ X, X = w.heap.size := ⟨_, rfl⟩
  rw [← hX] at HX ⊢
  have HXE := hid hX
  clear hX
  generalize w.alloc (.cells (rcA r) 33) = W at *
  obtain ⟨c0, c1, c2, c3, c4, c5⟩ := (unhid HX).cells
  obtain ⟨e0, e1, e2, e3, e4, e5, e6, e7⟩ := (unhid HX).seen8
  go_wp2_with fail
  refine (valid_calls r W).mono ?_
  rintro e W2 ⟨rfl, hb2⟩
  have HB := hid ((unhid HB).trans (hb2.mono (unhid HB).size))
  have HX := hid ((unhid HX).below hb2 (unhid HX).lt)
  clear c0 c1 c2 c3 c4 c5 e0 e1 e2 e3 e4 e5 e6 e7 hb2
  cases hv : rcB r with
  | false =>
    have HP := hid (show PackPost w r (.returned (.tuple #[.slice none 0 0, .int .i64 90])) W2 from ⟨.slice none 0 0, by simp [packE, hv], by simp only [packL, hv, Bool.false_eq_true, if_false]; exact World.ownsRow_nil _ _ _ _, unhid HB⟩)
    clear hv
    go_wp2_with fail
    go_ret2
    exact unhid HP
  | true =>
    have HOK := hid (rc_ok hv)
    have HPE := hid (⟨by simp [packE, hv], by simp [packL, hv]⟩ : packE r = 0 ∧ packL r = packS r 8)
    clear hv
    obtain ⟨tb, htb⟩ : ∃ tb, tb = UInt8.ofNat r.tab.toNat := ⟨_, rfl⟩
    obtain ⟨fb, hfb⟩ : ∃ fb, fb = UInt8.ofNat r.fld.toNat := ⟨_, rfl⟩
    have htab : IntKind.u8.wrap r.tab = (tb.toNat : Int) := by rw [htb]; exact u8_of (by have := (unhid HOK).tab; omega)
    have hfld : IntKind.u8.wrap r.fld = (fb.toNat : Int) := by rw [hfb]; exact u8_of (by have := (unhid HOK).fld; omega)
    have HTB := hid (⟨htb, hfb⟩ : tb = UInt8.ofNat r.tab.toNat ∧ fb = UInt8.ofNat r.fld.toNat)
    clear htb hfb
    have hval : IntKind.i64.wrap (r.val + 1099511627776) = r.val + 1099511627776 := wrap_s64 (by have := (unhid HOK).val; omega) (by have := (unhid HOK).val; omega)
    have hval' : wrap64 (r.val + 1099511627776) = r.val + 1099511627776 := by have := (unhid HOK).val; unfold wrap64; omega
    have hmkE : ∀ W : World, ∃ mk, mk.size = 54 ∧ (Instr.makeSlice 43 (.int .i64 0) (.int .i64 54)).run Try.prog W = .ok (.slice (some ⟨W.heap.size, 0, none⟩) 0 54) (W.alloc (.cells mk 5)) := fun W =>
      ⟨madeCells #[.int .u8 0] 54, size_madeCells _ _, by
        have h := run_make (P := Try.prog) W 43 5 i0 (.int .u8 0) Try.underlying43 hi hz0 .i64 .i64 0 54 (by omega) (by omega) (by rw [hz2]; decide) (by omega)
        rw [hz1] at h
        exact h⟩
    have HSF := hid (show ∀ w', Below W2.heap.size W2 w' → w'.cell? ⟨X, 0, none⟩ = some (.int .i64 r.tab) from fun w' hb => ((unhid HX).below hb (unhid HX).lt).cells.1)
    go_upto_region 3 with (fail)
    go_cut [4] from 12 to 17 (fun s4 wz => NumI W2 W2.heap.size [tb] s4 wz)
    case first =>
      refine wp_region_noPanic ?_
      refine wp_region_E (S := fun w' => w'.cell? ⟨X, 0, none⟩ = some (.int .i64 r.tab)) 6 7 rfl (by kernel_rfl) (by kernel_rfl) ((unhid HSF) _ (Below.drew (Below.refl _ _))) ?_
      intro hSE
      have HBe := hid (Below.drew (Below.refl W2.heap.size W2))
      generalize W2.drew = Wd at *
      (refine WE_take (i := 1) (v := ?_) rfl (by kernel_rfl) (by decide) (by kernel_rfl) (by kernel_rfl) (fun _ _ _ h => h) (by rfl) hSE ?_ ?_; rotate_left; (focus (intro w hSw; (try dsimp only at hSw); go_simp; (try with_reducible rfl))); simp only [Act.put, List.setIfInBounds_toArray, List.set_cons_zero, List.set_cons_succ])
      (refine WE_take (i := 2) (v := ?_) rfl (by kernel_rfl) (by decide) (by kernel_rfl) (by kernel_rfl) (fun _ _ _ h => h) (by rfl) hSE ?_ ?_; rotate_left; (focus (intro w hSw; (try dsimp only at hSw); go_simp; (try with_reducible rfl))); simp only [Act.put, List.setIfInBounds_toArray, List.set_cons_zero, List.set_cons_succ])
      (refine WE_take (i := 3) (v := ?_) rfl (by kernel_rfl) (by decide) (by kernel_rfl) (by kernel_rfl) (fun _ _ _ h => h) (by rfl) hSE ?_ ?_; rotate_left; (focus (intro w hSw; (try dsimp only at hSw); go_simp; (try with_reducible rfl))); simp only [Act.put, List.setIfInBounds_toArray, List.set_cons_zero, List.set_cons_succ])
      refine WE_two (i := 0) (j := 4) rfl rfl (by decide) (by decide) (by kernel_rfl) ?_ ?_
      · intro K hK
        obtain ⟨mk, hms, hmk⟩ := hmkE Wd
        go_simp
        have HO := hid (World.ownsRow_made (e := 5) (size := 1) Wd mk 54 (unhid HBe).size (by unfold maxLen; omega) hms)
        obtain ⟨Bm, hBm⟩ : ∃ Bm, Bm = Wd.heap.size := ⟨_, rfl⟩
        rw [← hBm] at HO ⊢
        have HBe := hid ((unhid HBe).alloc (unhid HBe).size (.cells mk 5))
        refine hK.out _ _ ((unhid HSF) _ (unhid HBe)) ?_
        clear hSE hK K hmk hms hBm
        intro hSE
        (try simp only [Act.put, List.setIfInBounds_toArray, List.set_cons_zero, List.set_cons_succ])
        generalize Wd.alloc (.cells mk 5) = Wa at *
        (refine WE_one (i := 4) rfl (by decide) (by kernel_rfl) ?_; intro K hK)
        go_simp
        have HNW := hid (byt_news Wa (tb.toNat : Int))
        have HO := hid ((unhid HO).alloc (.cells #[.int .u8 (tb.toNat : Int)] 5))
        obtain ⟨Bn, hBn⟩ : ∃ Bn, Bn = Wa.heap.size := ⟨_, rfl⟩
        rw [← hBn] at HNW ⊢
        have HBe := hid ((unhid HBe).alloc (unhid HBe).size (.cells #[.int .u8 (tb.toNat : Int)] 5))
        refine hK.out _ _ ((unhid HSF) _ (unhid HBe)) ?_
        clear hSE hK K hBn
        intro hSE
        (try simp only [Act.put, List.setIfInBounds_toArray, List.set_cons_zero, List.set_cons_succ])
        generalize Wa.alloc (.cells #[.int .u8 (tb.toNat : Int)] 5) = Wb at *
        (refine WE_one (i := 5) rfl (by decide) (by kernel_rfl) ?_; intro K hK)
        refine step_append_lies _ (by rfl) _ _ _ (by rfl) W2.heap.size 5 i0 _ 1 1 Try.underlying43 hi hz0 hz1 hz2 rfl (by omega) (.slice (some ⟨Bm, 0, none⟩) 0 54) 0 [] (by rfl) (unhid HO) ⟨Bn, 0, none⟩ 1 1 [.int .u8 (tb.toNat : Int)] (by rfl) (by rfl) (unhid HNW) (by simp [Value.oneCell']) (by omega) (by unfold maxLen; omega) (by omega) (unhid HBe).size Wb.heap.size rfl ?_
        intro g3 cap3 w9 hown hg hat hlt3
        have HB9 := hid (Below.grown (unhid HBe) hg (unhid HBe).size (fun q hq => (own_block_lt (unhid HO) hq).1))
        refine hK.out _ _ ((unhid HSF) _ (unhid HB9)) ?_
        clear hSE hK K
        intro hSE
        (try simp only [Act.put, List.setIfInBounds_toArray, List.set_cons_zero, List.set_cons_succ])
        (refine WE_last rfl (by kernel_rfl) (by kernel_rfl) (by kernel_rfl) ?_; intro K hK; go_simp; refine hK.out _ _ (NoPanic.normal ?_); clear hK K)
        have HNI := hid (⟨hown, unhid HB9⟩ : NumI W2 W2.heap.size [tb] (.slice (some ⟨g3, 0, none⟩) 1 cap3) w9)
        clear hown hg hat hlt3 hSE
        go_wp2_with fail
        go_meet
        case rel => exact unhid HNI
      · intro K hK
        go_simp
        have HNW := hid (byt_news Wd (tb.toNat : Int))
        obtain ⟨Bn, hBn⟩ : ∃ Bn, Bn = Wd.heap.size := ⟨_, rfl⟩
        rw [← hBn] at HNW ⊢
        have HBe := hid ((unhid HBe).alloc (unhid HBe).size (.cells #[.int .u8 (tb.toNat : Int)] 5))
        refine hK.out _ _ ((unhid HSF) _ (unhid HBe)) ?_
        clear hSE hK K
        intro hSE
        (try simp only [Act.put, List.setIfInBounds_toArray, List.set_cons_zero, List.set_cons_succ])
        have HNS := hid (show Bn < (Wd.alloc (.cells #[.int .u8 (tb.toNat : Int)] 5)).heap.size by rw [hBn]; simp)
        clear hBn
        generalize Wd.alloc (.cells #[.int .u8 (tb.toNat : Int)] 5) = Wa at *
        (refine WE_one (i := 0) rfl (by decide) (by kernel_rfl) ?_; intro K hK)
        obtain ⟨mk, hms, hmk⟩ := hmkE Wa
        go_simp
        have HO := hid (World.ownsRow_made (e := 5) (size := 1) Wa mk 54 (unhid HBe).size (by unfold maxLen; omega) hms)
        have HNW := hid (fun (j : Nat) (u : Value) (hu : ([Value.int .u8 (tb.toNat : Int)])[j]? = some u) => (show (Wa.alloc (.cells mk 5)).cell? ((⟨Bn, 0, none⟩ : Addr).add j) = some u from by
          have h := (unhid HNW) j u hu
          rw [add_at] at h ⊢
          rw [World.cell?_alloc_lt _ _ _ (unhid HNS)]
          exact h))
        obtain ⟨Bm, hBm⟩ : ∃ Bm, Bm = Wa.heap.size := ⟨_, rfl⟩
        rw [← hBm] at HO ⊢
        have HBe := hid ((unhid HBe).alloc (unhid HBe).size (.cells mk 5))
        refine hK.out _ _ ((unhid HSF) _ (unhid HBe)) ?_
        clear hSE hK K hmk hms hBm
        intro hSE
        (try simp only [Act.put, List.setIfInBounds_toArray, List.set_cons_zero, List.set_cons_succ])
        generalize Wa.alloc (.cells mk 5) = Wb at *
        (refine WE_one (i := 5) rfl (by decide) (by kernel_rfl) ?_; intro K hK)
        refine step_append_lies _ (by rfl) _ _ _ (by rfl) W2.heap.size 5 i0 _ 1 1 Try.underlying43 hi hz0 hz1 hz2 rfl (by omega) (.slice (some ⟨Bm, 0, none⟩) 0 54) 0 [] (by rfl) (unhid HO) ⟨Bn, 0, none⟩ 1 1 [.int .u8 (tb.toNat : Int)] (by rfl) (by rfl) (unhid HNW) (by simp [Value.oneCell']) (by omega) (by unfold maxLen; omega) (by omega) (unhid HBe).size Wb.heap.size rfl ?_
        intro g3 cap3 w9 hown hg hat hlt3
        have HB9 := hid (Below.grown (unhid HBe) hg (unhid HBe).size (fun q hq => (own_block_lt (unhid HO) hq).1))
        refine hK.out _ _ ((unhid HSF) _ (unhid HB9)) ?_
        clear hSE hK K
        intro hSE
        (try simp only [Act.put, List.setIfInBounds_toArray, List.set_cons_zero, List.set_cons_succ])
        (refine WE_last rfl (by kernel_rfl) (by kernel_rfl) (by kernel_rfl) ?_; intro K hK; go_simp; refine hK.out _ _ (NoPanic.normal ?_); clear hK K)
        have HNI := hid (⟨hown, unhid HB9⟩ : NumI W2 W2.heap.size [tb] (.slice (some ⟨g3, 0, none⟩) 1 cap3) w9)
        clear hown hg hat hlt3 hSE
        go_wp2_with fail
        go_meet
        case rel => exact unhid HNI
    case rest =>
    have HN := hid (show NumI W2 W2.heap.size (packT r 0) u4 wc from by
      have e : packT r 0 = [tb] := by rw [(unhid HTB).1]; rfl
      rw [e]; exact hcut)
    clear hcut htab HSF hmkE
    have HX2 := HX
    have h1 := ((unhid HX).below (unhid HN).b (unhid HX).lt).cells
    obtain ⟨c0, c1, c2, c3, c4, c5⟩ := h1
    go_upto_region 5 with (fail)
    clear c0 c1 c2 c3 c4 c5
    go_loopw [25, 4] (fun kv uv wr => ∃ k : Nat, k ≤ 3 ∧ kv = .int .i64 k ∧ NumI W2 W2.heap.size (packT r k) uv wr) (fun kv _ _ => 3 - (intOf kv).toNat)
    case atStart => exact ⟨0, by omega, rfl, unhid HN⟩
    case round =>
      obtain ⟨k, hk, rfl, hI⟩ := hrel
      have HI := hid hI
      clear hI
      by_cases hlt : k < 3
      · have hki : (k : Int) < 3 := by omega
        have hix := trip_index r hlt
        have HTR := hid (trip_ok (unhid HOK) hlt)
        have hwt : IntKind.u64.wrap (trip r k) = trip r k := wrap_u64 (unhid HTR).1 (by have := (unhid HTR).2; omega)
        go_wp2_with (go_at_call 78; refine (number_at 4 4 rfl (trip r k) (unhid HTR) (by omega) _ (unhid HI) (by rw [packT_len]; omega) (Nat.le_refl _)).mono ?_; rintro e V6 ⟨u6, rfl, hN⟩; have HN3 := hid hN; clear hN)
        go_roundw
        case rel => exact ⟨k + 1, by omega, by go_num, unhid HN3⟩
        case measure => simp [intOf]; omega
      · obtain rfl : k = 3 := by omega
        rw [show ((3 : Nat) : Int) = 3 from rfl]
        have HSF := hid (show ∀ w', Below W2.heap.size W2 w' → w'.cell? ⟨X, 4, none⟩ = some (.int .i64 r.fld) ∧ w'.cell? ⟨X, 5, none⟩ = some (.int .i64 r.val) from fun w' hb => ⟨((unhid HX).below hb (unhid HX).lt).cells.2.2.2.2.1, ((unhid HX).below hb (unhid HX).lt).cells.2.2.2.2.2⟩)
        have HLT := hid (packT_len r 3)
        have hwv : IntKind.u64.wrap (r.val + 1099511627776) = r.val + 1099511627776 := wrap_u64 (by have := (unhid HOK).val; omega) (by have := (unhid HOK).val; omega)
        obtain ⟨lt, hlt3⟩ : ∃ lt, lt = packT r 3 := ⟨_, rfl⟩
        rw [← hlt3] at HI HLT
        have HLE := hid hlt3
        clear hlt3
        go_upto_region 9 with (fail)
        have HX0 := hid (unhid HI).b
        go_cut [4] from 33 to 43 (fun s4 wz => NumI W2 W2.heap.size (packS r 0) s4 wz)
        case first =>
          refine wp_region_noPanic ?_
          refine wp_region_E (S := fun w' => w'.cell? ⟨X, 4, none⟩ = some (.int .i64 r.fld) ∧ w'.cell? ⟨X, 5, none⟩ = some (.int .i64 r.val)) 11 12 rfl (by kernel_rfl) (by kernel_rfl) ((unhid HSF) _ (Below.drew (unhid HI).b)) ?_
          intro hSE
          have HBe := hid (Below.drew (unhid HI).b)
          have HO := hid ((unhid HI).own.drew)
          generalize wr.drew = Wd at *
          (refine WE_take (i := 0) (v := ?_) rfl (by kernel_rfl) (by decide) (by kernel_rfl) (by kernel_rfl) (fun _ _ _ h => h) (by rfl) hSE ?_ ?_; rotate_left; (focus (intro w hSw; (try dsimp only at hSw); go_simp; (try with_reducible rfl))); simp only [Act.put, List.setIfInBounds_toArray, List.set_cons_zero, List.set_cons_succ])
          (refine WE_take (i := 1) (v := ?_) rfl (by kernel_rfl) (by decide) (by kernel_rfl) (by kernel_rfl) (fun _ _ _ h => h) (by rfl) hSE ?_ ?_; rotate_left; (focus (intro w hSw; (try dsimp only at hSw); go_simp; (try with_reducible rfl))); simp only [Act.put, List.setIfInBounds_toArray, List.set_cons_zero, List.set_cons_succ])
          (refine WE_take (i := 2) (v := ?_) rfl (by kernel_rfl) (by decide) (by kernel_rfl) (by kernel_rfl) (fun _ _ _ h => h) (by rfl) hSE ?_ ?_; rotate_left; (focus (intro w hSw; (try dsimp only at hSw); go_simp; (try with_reducible rfl))); simp only [Act.put, List.setIfInBounds_toArray, List.set_cons_zero, List.set_cons_succ])
          (refine WE_take (i := 3) (v := ?_) rfl (by kernel_rfl) (by decide) (by kernel_rfl) (by kernel_rfl) (fun _ _ _ h => h) (by rfl) hSE ?_ ?_; rotate_left; (focus (intro w hSw; (try dsimp only at hSw); go_simp; (try with_reducible rfl))); simp only [Act.put, List.setIfInBounds_toArray, List.set_cons_zero, List.set_cons_succ])
          (refine WE_take (i := 6) (v := ?_) rfl (by kernel_rfl) (by decide) (by kernel_rfl) (by kernel_rfl) (fun _ _ _ h => h) (by rfl) hSE ?_ ?_; rotate_left; (focus (intro w hSw; (try dsimp only at hSw); go_simp; (try with_reducible rfl))); simp only [Act.put, List.setIfInBounds_toArray, List.set_cons_zero, List.set_cons_succ])
          (refine WE_take (i := 7) (v := ?_) rfl (by kernel_rfl) (by decide) (by kernel_rfl) (by kernel_rfl) (fun _ _ _ h => h) (by rfl) hSE ?_ ?_; rotate_left; (focus (intro w hSw; (try dsimp only at hSw); go_simp; (try with_reducible rfl))); simp only [Act.put, List.setIfInBounds_toArray, List.set_cons_zero, List.set_cons_succ])
          (refine WE_take (i := 8) (v := ?_) rfl (by kernel_rfl) (by decide) (by kernel_rfl) (by kernel_rfl) (fun _ _ _ h => h) (by rfl) hSE ?_ ?_; rotate_left; (focus (intro w hSw; (try dsimp only at hSw); go_simp; (try with_reducible rfl))); simp only [Act.put, List.setIfInBounds_toArray, List.set_cons_zero, List.set_cons_succ])
          (refine WE_take (i := 9) (v := ?_) rfl (by kernel_rfl) (by decide) (by kernel_rfl) (by kernel_rfl) (fun _ _ _ h => h) (by rfl) hSE ?_ ?_; rotate_left; (focus (intro w hSw; (try dsimp only at hSw); go_simp; (try with_reducible rfl))); simp only [Act.put, List.setIfInBounds_toArray, List.set_cons_zero, List.set_cons_succ])
          (refine WE_one (i := 4) rfl (by decide) (by kernel_rfl) ?_; intro K hK)
          go_simp
          have HNW := hid (byt_news Wd (fb.toNat : Int))
          have HO := hid ((unhid HO).alloc (.cells #[.int .u8 (fb.toNat : Int)] 5))
          obtain ⟨Bn, hBn⟩ : ∃ Bn, Bn = Wd.heap.size := ⟨_, rfl⟩
          rw [← hBn] at HNW ⊢
          have HBe := hid ((unhid HBe).alloc (unhid HBe).size (.cells #[.int .u8 (fb.toNat : Int)] 5))
          refine hK.out _ _ ((unhid HSF) _ (unhid HBe)) ?_
          clear hSE hK K hBn
          intro hSE
          (try simp only [Act.put, List.setIfInBounds_toArray, List.set_cons_zero, List.set_cons_succ])
          generalize Wd.alloc (.cells #[.int .u8 (fb.toNat : Int)] 5) = Wb at *
          (refine WE_one (i := 5) rfl (by decide) (by kernel_rfl) ?_; intro K hK)
          refine step_append_lies _ (by rfl) _ _ _ (by rfl) W2.heap.size 5 i0 _ 1 1 Try.underlying43 hi hz0 hz1 hz2 rfl (by omega) _ lt.length (bys lt) (by rfl) (unhid HO) ⟨Bn, 0, none⟩ 1 1 [.int .u8 (fb.toNat : Int)] (by rfl) (by rfl) (unhid HNW) (by simp [Value.oneCell']) (by omega) (by have := unhid HLT; unfold maxLen; omega) (by have := unhid HLT; omega) (unhid HBe).size Wb.heap.size rfl ?_
          intro g3 cap3 w9 hown hg hat hltg
          have HB9 := hid (Below.grown (unhid HBe) hg (unhid HBe).size (fun q hq => (own_block_lt (unhid HO) hq).1))
          refine hK.out _ _ ((unhid HSF) _ (unhid HB9)) ?_
          clear hSE hK K
          intro hSE
          (try simp only [Act.put, List.setIfInBounds_toArray, List.set_cons_zero, List.set_cons_succ])
          have HNI := hid (show NumI W2 W2.heap.size (lt ++ [fb]) (.slice (some ⟨g3, 0, none⟩) (lt.length + 1) cap3) w9 from ⟨by rw [List.length_append, bys_append]; exact hown, unhid HB9⟩)
          clear hown hg hat hltg
          (refine WE_one (i := 10) rfl (by decide) (by kernel_rfl) ?_; intro K hK)
          go_simp
          refine (number_at 8 8 rfl (r.val + 1099511627776) (by have := (unhid HOK).val; omega) (by omega) _ (unhid HNI) (by rw [List.length_append, unhid HLT]; simp) (Nat.le_refl _)).mono ?_
          rintro e w10 ⟨u10, rfl, hN⟩
          have HN2 := hid (show NumI W2 W2.heap.size (packS r 0) u10 w10 from by
            rw [unhid HLE, (unhid HTB).2, packT_all] at hN
            exact hN)
          clear hN
          refine hK.out _ _ ((unhid HSF) _ (unhid HN2).b) ?_
          clear hSE hK K
          intro hSE
          (try simp only [Act.put, List.setIfInBounds_toArray, List.set_cons_zero, List.set_cons_succ])
          (refine WE_last rfl (by kernel_rfl) (by kernel_rfl) (by kernel_rfl) ?_; intro K hK; go_simp; refine hK.out _ _ (NoPanic.normal ?_); clear hK K)
          go_wp2_with fail
          go_meet
          case rel => exact unhid HN2
        case rest =>
          have HN := hid hcut
          clear hcut hwv hfld HSF
          have h1 := ((unhid HX).below (unhid HN).b (unhid HX).lt).seen8
          obtain ⟨e0, e1, e2, e3, e4, e5, e6, e7⟩ := h1
          go_upto_region 11 with (fail)
          clear e0 e1 e2 e3 e4 e5 e6 e7
          go_loopw [46, 4] (fun kv uv wr => ∃ k : Nat, k ≤ 8 ∧ kv = .int .i64 k ∧ NumI W2 W2.heap.size (packS r k) uv wr) (fun kv _ _ => 8 - (intOf kv).toNat)
          case atStart => exact ⟨0, by omega, rfl, unhid HN⟩
          case round =>
            obtain ⟨k, hk, rfl, hI⟩ := hrel
            have HI := hid hI
            clear hI
            by_cases hlt : k < 8
            · have hki : (k : Int) < 8 := by omega
              have hix := seen_index r hlt
              have HSB := hid (show 0 ≤ r.sn k ∧ r.sn k < 9223372036854775808 from by have := (unhid HOK).seen k hlt; omega)
              have hwt : IntKind.u64.wrap (r.sn k) = r.sn k := wrap_u64 (unhid HSB).1 (by have := (unhid HSB).2; omega)
              go_wp2_with (go_at_call 78; refine (number_at 4 4 rfl (r.sn k) (unhid HSB) (by omega) _ (unhid HI) (by rw [packS_len]; omega) (Nat.le_refl _)).mono ?_; rintro e V6 ⟨u6, rfl, hN⟩; have HN3 := hid hN; clear hN)
              go_roundw
              case rel => exact ⟨k + 1, by omega, by go_num, unhid HN3⟩
              case measure => simp [intOf]; omega
            · obtain rfl : k = 8 := by omega
              have HP := hid (fun uv wq (h : NumI W2 W2.heap.size (packS r 8) uv wq) => (show PackPost w r (.returned (.tuple #[uv, .int .i64 0])) wq from ⟨uv, by rw [(unhid HPE).1], by rw [(unhid HPE).2]; exact own_base h.own (unhid HB).size, (unhid HB).trans (h.b.mono (unhid HB).size)⟩))
              go_wp2_with fail
              go_ret2
              exact unhid HP _ _ (unhid HI)

end Go.Proofs.Ytegghimjmbgghaa
