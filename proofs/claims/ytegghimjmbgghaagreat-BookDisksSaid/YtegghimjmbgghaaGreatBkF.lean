/-
  The order of records: cmp.Compare, cmp.Or, slices.Compare, order; slices.SortFunc at records.
-/
import Derived.Test.YtegghimjmbgghaaGreatBkD
import Derived.Test.YtegghimjmbgghaaGreatSortK
import Derived.Test.YtegghimjmbgghaaGreatBkSort
set_option linter.unusedSimpArgs false
set_option linter.unusedVariables false
namespace Go.Proofs.YtegghimjmbgghaaGreat
open Go.RowKit Go.Shelf Go.Sort

/-! ### Plain -/
def cmpI (a b : Int) : Int := if a < b then -1 else if b < a then 1 else 0
/-- The first number that is not 0. -/
def orI : List Int → Int
  | [] => 0
  | a :: l => if a = 0 then orI l else a
def cmpK (r q : Rc) : Nat → Nat → Int
  | 0, _ => 0
  | n + 1, k => if cmpI (r.sn k) (q.sn k) = 0 then cmpK r q n (k + 1) else cmpI (r.sn k) (q.sn k)
def ordI (r q : Rc) : Int := orI [cmpI r.tab q.tab, cmpI r.num q.num, cmpI r.hour q.hour, cmpI r.sign q.sign, cmpI r.fld q.fld, cmpI r.val q.val, cmpK r q 8 0]
def cmpL : List Int → List Int → Int
  | a :: l, b :: m => if cmpI a b = 0 then cmpL l m else cmpI a b
  | _, _ => 0
theorem cmpI_zero {a b : Int} : cmpI a b = 0 ↔ a = b := by
  unfold cmpI
  split
  · constructor <;> intro h <;> omega
  · split
    · constructor <;> intro h <;> omega
    · constructor <;> intro h <;> omega
theorem cmpI_neg {a b : Int} : cmpI a b < 0 ↔ a < b := by
  unfold cmpI
  split
  · constructor <;> intro h <;> omega
  · split
    · constructor <;> intro h <;> omega
    · constructor <;> intro h <;> omega
theorem cmpI_range (a b : Int) : cmpI a b = -1 ∨ cmpI a b = 0 ∨ cmpI a b = 1 := by
  unfold cmpI
  split
  · exact .inl rfl
  · split
    · exact .inr (.inr rfl)
    · exact .inr (.inl rfl)
theorem cmpL_neg : ∀ {a b : List Int}, cmpL a b < 0 ↔ ltL a b = true
  | [], _ => by simp [cmpL, ltL]
  | _ :: _, [] => by simp [cmpL, ltL]
  | a :: l, b :: m => by
    simp only [cmpL, ltL, Bool.or_eq_true, decide_eq_true_eq, Bool.and_eq_true]
    by_cases h : cmpI a b = 0
    · rw [if_pos h, cmpL_neg]
      have := cmpI_zero.1 h
      constructor
      · exact fun h => .inr ⟨this, h⟩
      · rintro (h2 | ⟨_, h2⟩)
        · omega
        · exact h2
    · rw [if_neg h, cmpI_neg]
      have : a ≠ b := fun e => h (cmpI_zero.2 e)
      constructor
      · exact .inl
      · rintro (h2 | ⟨h2, _⟩)
        · exact h2
        · exact absurd h2 this
theorem orI_cons (a : Int) (l : List Int) : orI (a :: l) = if a = 0 then orI l else a := rfl
theorem orI_one (a : Int) : orI [a] = a := by
  rw [orI_cons]
  split
  · rename_i h; rw [h]; rfl
  · rfl
theorem ordI_eq (r q : Rc) : ordI r q = cmpL r.flds q.flds := by
  unfold ordI
  rw [orI_cons, orI_cons, orI_cons, orI_cons, orI_cons, orI_cons, orI_one]
  rfl
theorem ordI_lt {r q : Rc} : ltOf ordI r q = rls r q := by
  unfold ltOf rls
  rw [ordI_eq]
  cases h : ltL r.flds q.flds
  · exact decide_eq_false fun h2 => by rw [cmpL_neg.1 h2] at h; cases h
  · exact decide_eq_true (cmpL_neg.2 h)
theorem ordI_swo : SWO (ltOf ordI) where
  irrefl x := by rw [ordI_lt]; exact rls_irr x
  trans x y z h1 h2 := by rw [ordI_lt] at *; exact rls_trans h1 h2
  ntrans x y z h1 h2 := by
    rw [ordI_lt] at *
    cases h : rls x z
    · rfl
    · exfalso
      by_cases e1 : x = y
      · rw [e1, h2] at h; cases h
      · by_cases e2 : y = z
        · rw [← e2, h1] at h; cases h
        · have a : rls y x = true := (rls_total e1).resolve_left (by rw [h1]; simp)
          have b : rls z y = true := (rls_total e2).resolve_left (by rw [h2]; simp)
          have := rls_asymm (rls_trans b a)
          rw [h] at this; cases this

/-! ### The walks -/
theorem isNaN_calls (x : Int) (w : World) : Calls Tryz.prog 119 #[.int .i64 x] w fun e w' => e = .returned (.bool false) ∧ w = w' := by
  go_enter Tryz.func119, Tryz.ntmps119
  go_wp2_with fail
  go_ret
  exact ⟨retb (by simp), rfl⟩
theorem compare_calls (a b : Int) (w : World) : Calls Tryz.prog 98 #[.int .i64 a, .int .i64 b] w fun e w' => e = .returned (.int .i64 (cmpI a b)) ∧ w = w' := by
  go_enter Tryz.func98, Tryz.ntmps98
  go_wp2_with (go_at_call 119; refine (isNaN_calls _ _).mono ?_; rintro e w' ⟨rfl, rfl⟩)
  all_goals (go_ret; refine ⟨reti ?_, rfl⟩; go_light; unfold cmpI; (repeat' split) <;> first | rfl | omega)
theorem orI_zero {l : List Int} (h : ∀ x ∈ l, x = 0) : orI l = 0 := by
  induction l with
  | nil => rfl
  | cons x l ih => rw [orI, if_pos (h x List.mem_cons_self)]; exact ih fun y hy => h y (List.mem_cons_of_mem _ hy)
theorem orI_at {l : List Int} {k : Nat} (hk : k < l.length) (h : ∀ x ∈ l.take k, x = 0) (hne : l[k] ≠ 0) : orI l = l[k] := by
  induction l generalizing k with
  | nil => simp at hk
  | cons x l ih =>
    cases k with
    | zero => simp at hne; simp [orI, hne]
    | succ k =>
      have hx : x = 0 := h x (by simp)
      rw [orI, if_pos hx]
      exact ih (by simpa using hk) (fun y hy => h y (by simp [hy])) (by simpa using hne)

set_option maxHeartbeats 400000 in
theorem or_calls (A : Option Addr) (l : List Int) (n c : Nat) (hn : n = l.length) (w : World) (hl : l.length ≤ 100000) (hr : Rd w A (ints l)) :
    Calls Tryz.prog 97 #[.slice A n c] w fun e w' => e = .returned (.int .i64 (orI l)) ∧ w = w' := by
  subst hn
  go_enter Tryz.func97, Tryz.ntmps97
  go_wp2_with fail
  go_loop [8] (fun i => ∃ k : Nat, k ≤ l.length ∧ i = .int .i64 k ∧ Upto l k (fun x => x = 0)) (fun i => l.length - (intOf i).toNat)
  case atStart => exact ⟨0, Nat.zero_le _, rfl, Upto.zero⟩
  case round =>
    obtain ⟨k, hk, rfl, hup⟩ := hrel
    by_cases hlt : k < l.length
    · obtain ⟨b, off, rfl, hb, hc⟩ := hr (ints_ne hlt)
      have hck := hc k _ (ints_at l k hlt)
      clear hc
      by_cases hz : l[k] = 0
      · have hz' : (l[k] != 0) = false := by simpa using hz
        have HZ := hid hz
        clear hz
        go_wp2_with fail
        go_round
        case rel => exact ⟨k + 1, by omega, by go_num, hup.next hlt (unhid HZ)⟩
        case measure => simp [intOf]; omega
      · have hz' : (l[k] != 0) = true := by simpa using hz
        go_wp2_with fail
        go_ret
        exact ⟨reti (orI_at hlt hup hz).symm, rfl⟩
    · go_wp2_with fail
      go_ret
      exact ⟨reti (orI_zero (hup.all (by omega))).symm, rfl⟩


theorem cmpK_go {r q : Rc} {n k : Nat} (h : cmpI (r.sn k) (q.sn k) = 0) : cmpK r q (n + 1) k = cmpK r q n (k + 1) := if_pos h
theorem cmpK_at {r q : Rc} {n k : Nat} (h : cmpI (r.sn k) (q.sn k) ≠ 0) : cmpK r q (n + 1) k = cmpI (r.sn k) (q.sn k) := if_neg h
set_option maxHeartbeats 1000000 in
set_option maxRecDepth 100000 in
theorem compareS_calls (r q : Rc) (B C : Nat) (w : World) (hr : RcAt w B r) (hq : RcAt w C q) :
    Calls Tryz.prog 99 #[.slice (some ⟨B, 6, none⟩) 8 8, .slice (some ⟨C, 6, none⟩) 8 8] w fun e w' => e = .returned (.int .i64 (cmpK r q 8 0)) ∧ w = w' := by
  have HR := hid hr
  have HQ := hid hq
  clear hr hq
  go_enter Tryz.func99, Tryz.ntmps99
  go_upto_region 2 with (fail)
  go_loop [11] (fun i => ∃ k : Nat, k ≤ 8 ∧ i = .int .i64 k ∧ cmpK r q 8 0 = cmpK r q (8 - k) k) (fun i => 8 - (intOf i).toNat)
  case atStart => exact ⟨0, Nat.zero_le _, rfl, rfl⟩
  case round =>
    obtain ⟨k, hk, rfl, he⟩ := hrel
    have HE := hid he
    clear he
    by_cases hlt : k < 8
    · have hki : (k : Int) < 8 := by omega
      have hkj : decide (8 ≤ (k : Int)) = false := decide_eq_false (by omega)
      have c1 := (unhid HR).seen hlt
      have c2 := (unhid HQ).seen hlt
      obtain ⟨n, hn⟩ : ∃ n, 8 - k = n + 1 := ⟨7 - k, by omega⟩
      have HN := hid hn
      clear hn
      by_cases hz : cmpI (r.sn k) (q.sn k) = 0
      · have hz' : (cmpI (r.sn k) (q.sn k) != 0) = false := by simpa using hz
        have HZ := hid (show cmpK r q 8 0 = cmpK r q (8 - (k + 1)) (k + 1) by rw [unhid HE, unhid HN, cmpK_go hz]; congr 1; have := unhid HN; omega)
        clear hz
        go_wp2_with (go_at_call 98; refine (compare_calls _ _ _).mono ?_; rintro e w' ⟨rfl, rfl⟩)
        go_round
        case rel => exact ⟨k + 1, by omega, by go_num, unhid HZ⟩
        case measure => simp [intOf]; omega
      · have hz' : (cmpI (r.sn k) (q.sn k) != 0) = true := by simpa using hz
        have HZ := hid (show cmpK r q 8 0 = cmpI (r.sn k) (q.sn k) by rw [unhid HE, unhid HN, cmpK_at hz])
        clear hz
        go_wp2_with (go_at_call 98; refine (compare_calls _ _ _).mono ?_; rintro e w' ⟨rfl, rfl⟩)
        go_ret
        exact ⟨reti (unhid HZ).symm, rfl⟩
    · obtain rfl : k = 8 := by omega
      have HZ := hid (show cmpK r q 8 0 = 0 by rw [unhid HE]; rfl)
      go_wp2_with fail
      go_ret
      exact ⟨reti (unhid HZ).symm, rfl⟩

theorem rd7 (w : World) (x0 x1 x2 x3 x4 x5 x6 : Int) : Rd (w.alloc (.cells #[.int .i64 x0, .int .i64 x1, .int .i64 x2, .int .i64 x3, .int .i64 x4, .int .i64 x5, .int .i64 x6] 3)) (some ⟨w.heap.size, 0, none⟩) (ints [x0, x1, x2, x3, x4, x5, x6]) := fun _ => by
  refine ⟨w.heap.size, 0, rfl, by simp, fun j u hu => ?_⟩
  rw [Nat.zero_add, cell_of_row _ w.heap.size j _ _ _ (heap_alloc_new w _)]
  rw [← hu]
  simp [ints]
theorem growOrd (w : World) (a b c : Obj) : (((w.alloc a).alloc b).drew.alloc c) = grow (w.drewN 1) #[a, b, c] := by
  rw [alloc_eq_grow (((w.alloc a).alloc b).drew) c, alloc_eq_grow (w.alloc a) b, alloc_eq_grow w a]
  have : (grow (grow w #[a]) #[b]).drew = grow (grow (w.drewN 1) #[a]) #[b] := rfl
  rw [this, grow_grow, grow_grow]
  rfl
set_option maxHeartbeats 4000000 in
set_option maxRecDepth 100000 in
theorem order_calls (w : World) (r q : Rc) : Calls Tryz.prog 62 #[.agg (rcC r).toArray, .agg (rcC q).toArray] w fun e w' => e = .returned (.int .i64 (ordI r q)) ∧ ∃ n os, w' = grow (w.drewN n) os := by
  obtain ⟨hr, hq, -⟩ := two_boxes w r q
  have HR := hid hr
  have HQ := hid hq
  have HG := hid (growOrd w (.cells (rcA r) 82) (.cells (rcA q) 82))
  clear hr hq
  show Calls Tryz.prog 62 #[.agg #[.int .i64 r.tab, .int .i64 r.num, .int .i64 r.hour, .int .i64 r.sign, .int .i64 r.fld, .int .i64 r.val, .int .i64 r.s0, .int .i64 r.s1, .int .i64 r.s2, .int .i64 r.s3, .int .i64 r.s4, .int .i64 r.s5, .int .i64 r.s6, .int .i64 r.s7], .agg #[.int .i64 q.tab, .int .i64 q.num, .int .i64 q.hour, .int .i64 q.sign, .int .i64 q.fld, .int .i64 q.val, .int .i64 q.s0, .int .i64 q.s1, .int .i64 q.s2, .int .i64 q.s3, .int .i64 q.s4, .int .i64 q.s5, .int .i64 q.s6, .int .i64 q.s7]] w _
  go_enter Tryz.func62, Tryz.ntmps62
  go_upto_region 1 with (fail)
  change Code.wp _ _ _ _ ((w.alloc (.cells (rcA r) 82)).alloc (.cells (rcA q) 82))
  obtain ⟨B, hB⟩ : ∃ B, B = w.heap.size := ⟨_, rfl⟩
  rw [← hB] at HR HQ ⊢
  clear hB
  have HS := hid (show ((w.alloc (.cells (rcA r) 82)).alloc (.cells (rcA q) 82)).drew.heap.size = ((w.alloc (.cells (rcA r) 82)).alloc (.cells (rcA q) 82)).heap.size from rfl)
  generalize (w.alloc (.cells (rcA r) 82)).alloc (.cells (rcA q) 82) = W at *
  obtain ⟨c0, c1, c2, c3, c4, c5⟩ := (unhid HR).cells
  obtain ⟨d0, d1, d2, d3, d4, d5⟩ := (unhid HQ).cells
  have HRD := hid (show RcAt W.drew B r from unhid HR)
  have HQD := hid (show RcAt W.drew (B + 1) q from unhid HQ)
  refine wp_region_still_tail 35 (by kernel_rfl) (by kernel_rfl) ?_
  simp only [List.take_succ_cons, List.take_zero, List.drop_succ_cons, List.drop_zero]
  repeat (first | still_step | still_call ((compare_calls _ _ _).mono fun _ _ ⟨he, hw⟩ => ⟨he, hw.symm⟩) | still_call ((compareS_calls r q B (B + 1) W.drew (unhid HRD) (unhid HQD)).mono fun _ _ ⟨he, hw⟩ => ⟨he, hw.symm⟩))
  refine wpStill_nil ?_
  change wpList _ _ _ _ _ W.drew
  clear c0 c1 c2 c3 c4 c5 d0 d1 d2 d3 d4 d5 HRD HQD HR HQ HS
  have HGE := hid (show grow (w.drewN 0) #[] = w from by simp [grow, World.drewN])
  have HORD := hid (show ordI r q = orI [cmpI r.tab q.tab, cmpI r.num q.num, cmpI r.hour q.hour, cmpI r.sign q.sign, cmpI r.fld q.fld, cmpI r.val q.val, cmpK r q 8 0] from rfl)
  generalize cmpI r.tab q.tab = x0 at *
  generalize cmpI r.num q.num = x1 at *
  generalize cmpI r.hour q.hour = x2 at *
  generalize cmpI r.sign q.sign = x3 at *
  generalize cmpI r.fld q.fld = x4 at *
  generalize cmpI r.val q.val = x5 at *
  generalize cmpK r q 8 0 = x6 at *
  have HG1 := hid ((unhid HG) (.cells #[.int .i64 x0, .int .i64 x1, .int .i64 x2, .int .i64 x3, .int .i64 x4, .int .i64 x5, .int .i64 x6] 3))
  have HRD := hid (rd7 W.drew x0 x1 x2 x3 x4 x5 x6)
  generalize W.drew = Wd at *
  go_wp2_with (go_at_call 97; refine (or_calls _ [x0, x1, x2, x3, x4, x5, x6] 7 7 rfl _ (by simp) (unhid HRD)).mono ?_; rintro e w' ⟨rfl, rfl⟩)
  go_ret
  exact ⟨by rw [unhid HORD]; rfl, 1, _, unhid HG1⟩


/-! ### slices.SortFunc -/
/-- A list of records as it lies in memory. -/
def recs (l : List Rc) : List Value := l.flatMap rcC
theorem recs_len (l : List Rc) : (recs l).length = l.length * 14 := flat_len (f := rcC) (K := 14) (fun _ => rfl) l
theorem rcC_one {l : List Rc} : ∀ u ∈ recs l, u.oneCell' = true := by
  intro u hu
  obtain ⟨r, -, hu⟩ := List.mem_flatMap.1 hu
  simp only [rcC, List.mem_cons, List.not_mem_nil, or_false] at hu
  rcases hu with rfl | rfl | rfl | rfl | rfl | rfl | rfl | rfl | rfl | rfl | rfl | rfl | rfl | rfl <;> rfl
theorem recs_append (l m : List Rc) : recs (l ++ m) = recs l ++ recs m := by simp [recs]
theorem recs_one (r : Rc) : recs [r] = rcC r := by simp [recs]
instance : Inhabited Rc := ⟨rc0⟩
theorem sortRec_calls (l : List Rc) (hn : l.Nodup) (v : Value) (base : Nat) (w : World) (hown : w.ownsRow base 82 14 v l.length (recs l)) (hl : l.length ≤ 1000000) :
    Calls Tryz.prog 95 #[v, .func (.func 62) #[] #[]] w fun e w' =>
      e = .returned (.tuple #[]) ∧ ∃ L : List Rc, L.Perm l ∧ Asc L ∧ w'.ownsRow base 82 14 v L.length (recs L) ∧ w.grownBy w' v.ownBlock := by
  have hcon := sortK Tryz.sortRec 14 (by omega) Tryz.isAgg82 Tryz.sizeOf82 rcC (fun _ => rfl) (fun x v hv => rcC_one (l := [x]) v (by simpa [recs] using hv)) ordI ordI_swo 62
    (fun args w => by simp [go_sem]) (fun W x y => order_calls W x y) l v base 82 w hown (by omega)
  change Calls Tryz.prog 95 _ _ _ at hcon
  refine hcon.mono ?_
  rintro e w' ⟨rfl, L, hp, hs, hown', hg⟩
  refine ⟨rfl, L, hp, ?_, by rw [hp.length_eq]; exact hown', hg⟩
  have hnd : L.Nodup := hp.nodup_iff.2 hn
  unfold Asc
  rw [List.pairwise_iff_getElem] at hs ⊢
  rw [List.Nodup, List.pairwise_iff_getElem] at hnd
  intro i j hi hj hij
  have a := hs i j hi hj hij
  rw [ordI_lt] at a
  rcases rls_total (hnd i j hi hj hij) with h | h
  · exact h
  · rw [a] at h; cases h

end Go.Proofs.YtegghimjmbgghaaGreat
