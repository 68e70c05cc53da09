/-
  A region that draws its order, under a condition on the world that may fail behind the region's last operation, which waits for all others: an append to a variable that the region itself loads. Package rule's codes. Package rule's Faults. The closure of package rule's Compare. Package rule's Compare.
-/
import Derived.Deep.RegionHeld3
import Derived.Deep.AppendLies
import Derived.StillTailTactics
import Derived.Test.YtmpngoejnmlmbaaGreatKit
import Derived.Test.YtmpngoejnmlmbaaGreatFaultM
import Derived.Test.YtmpngoejnmlmbaaGreatCmpK
import Derived.Test.YtmpngoejnmlmbaaGreatEach
import Derived.Deep.DeepCutAuto
import Derived.Test.YtmpngoejnmlmbaaGreatRowM
set_option linter.unusedSimpArgs false
set_option linter.unusedVariables false
namespace Go.Proofs.YtmpngoejnmlmbaaGreat
open Go.RowKit

section
section
variable {P : Program} {l : List Oper} {Q : Exit → Act → World → Prop} {md : Region.Mode} {S : World → Prop} {s : Nat}

/-- Whatever order is picked from here on, and S holds behind every operation, as long as number s has not come up. -/
def wpAnyE (P : Program) (md : Region.Mode) (l : List Oper) (Q : Exit → Act → World → Prop) (S : World → Prop) (s : Nat) : Nat → Array Bool → Act → World → Prop
  | 0, listed, a, w => Region.ready md l.toArray listed = [] ∧ Q .normal a w
  | f + 1, listed, a, w =>
    (Region.ready md l.toArray listed = [] → Q .normal a w) ∧
    ∀ i ∈ Region.ready md l.toArray listed, wpOp P l.toArray Q i (fun a' w' => ((listed.setIfInBounds i true).getD s true = false → S w') ∧ wpAnyE P md l Q S s f (listed.setIfInBounds i true) a' w') a w

theorem wpAny_of_E : ∀ (f : Nat) (listed : Array Bool) (a : Act) (w : World), wpAnyE P md l Q S s f listed a w → wpAny P md l.toArray Q f listed a w
  | 0, _, _, _, h => h
  | f + 1, _, _, _, h => ⟨h.1, fun i hi => wpOp_mono (fun _ _ h' => wpAny_of_E f _ _ _ h'.2) (h.2 i hi)⟩

theorem wpAnyE_first {i : Nat} {oi : Oper} {v : Value} (hi : l.toArray[i]? = some oi) (hsel : ∀ (j : Nat) (o : Oper) cs b, l.toArray[j]? = some o → o.op ≠ .select cs b)
    (hs : Region.sinkB md l.toArray s = true) (hc : Region.chainB md l.toArray s = true) (hn : s < l.toArray.size) (his : i < s)
    (hQ : ∀ c a w, Q (.panic c) (a.put oi.dst v) w → Q (.panic c) a w) :
    ∀ (f : Nat) (listed : Array Bool) (a : Act) (w : World), HeadInv md l.toArray s listed →
      (∀ j oj, l.toArray[j]? = some oj → j ≠ i → listed.getD j true = false → (∀ e ∈ oj.after, Region.binds md e = true → e.on ≠ i) → oi.apart l.toArray oj = true) →
      i ∈ Region.ready md l.toArray listed → YieldsIf P l.toArray S oi v a → S w →
      wpAnyE P md l Q S s f (listed.setIfInBounds i true) (a.put oi.dst v) w → wpAnyE P md l Q S s (f + 1) listed a w := by
  intro f
  induction f with
  | zero =>
    intro listed a w _ _ hr hy hS H
    refine ⟨fun h => (by rw [h] at hr; cases hr), fun j hj => ?_⟩
    by_cases hji : j = i
    · subst hji; exact hy.wpOp hi hS ⟨fun _ => hS, H⟩
    · have := ready_mono hj hji
      rw [H.1] at this
      cases this
  | succ f ih =>
    intro listed a w inv hfree hr hy hS H
    refine ⟨fun h => (by rw [h] at hr; cases hr), fun j hj => ?_⟩
    by_cases hji : j = i
    · subst hji; exact hy.wpOp hi hS ⟨fun _ => hS, H⟩
    · have h1 := H.2 j (ready_mono hj hji)
      have hri := ready_mono hr (Ne.symm hji)
      have hun := (mem_ready.1 hr).1
      have hjs : j < s := by
        rcases Nat.lt_or_ge j s with h | h
        · exact h
        · exact absurd hj (tail_waits hs hc hn inv _ i rfl his hun j h)
      obtain ⟨hjun, oj, hoj, hall⟩ := mem_ready.1 hj
      have hnot : ∀ e ∈ oj.after, Region.binds md e = true → e.on ≠ i := fun e he hb heq => by
        have h2 := hall e he hb
        rw [heq, getD_both hun] at h2
        cases h2
      have h2 := wpOp_putIf hoj (hfree j oj hoj hji hjun hnot) (fun cs b => hsel i oi cs b hi) (fun cs b => hsel j oj cs b hoj) hQ hy h1
      have hls : ((listed.setIfInBounds i true).setIfInBounds j true).getD s true = false := by
        rw [getD_set_ne true (by omega), getD_set_ne true (by omega)]
        exact inv.tail s (Nat.le_refl _) hn
      refine wpOp_mono (fun a' w' h3 => ?_) h2
      have hS' := h3.2.1 hls
      refine ⟨fun _ => hS', ih (listed.setIfInBounds j true) a' w' (inv.set hj hjs) ?_ hri h3.1 hS' ?_⟩
      · intro k ok hk hki hkun hno
        refine hfree k ok hk hki ?_ hno
        by_cases hjk : j = k
        · subst hjk; exact hjun
        · rw [getD_set_ne true hjk] at hkun; exact hkun
      · rw [Array.setIfInBounds_comm _ _ hji]
        exact h3.2.2

/-- The same, where the walk keeps the list of what has come up by itself. -/
def WE (P : Program) (md : Region.Mode) (l : List Oper) (Q : Exit → Act → World → Prop) (S : World → Prop) (s f : Nat) (listed : Array Bool) (a : Act) (w : World) : Prop :=
  HeadInv md l.toArray s listed → wpAnyE P md l Q S s f listed a w

def tailOkB (md : Region.Mode) (l : List Oper) (s : Nat) : Bool :=
  Region.noSelect l.toArray && decide (s < l.toArray.size) && Region.sinkB md l.toArray s && Region.chainB md l.toArray s

theorem WE_take {i : Nat} {oi : Oper} {v : Value} {f : Nat} {listed : Array Bool} {a : Act} {w : World} (hi : l[i]? = some oi) (hT : tailOkB md l s = true) (his : i < s)
    (hf : Region.free md l.toArray listed i = true) (hr : (Region.ready md l.toArray listed).contains i = true)
    (hQ : ∀ c a w, Q (.panic c) (a.put oi.dst v) w → Q (.panic c) a w) (hw : Region.wanted oi (yielded l.toArray a.tmps) = true) (hS : S w)
    (hy : ∀ w, S w → (execOp a.eval oi).run P w = .ok (.value v) w)
    (h : WE P md l Q S s f (listed.setIfInBounds i true) (a.put oi.dst v) w) : WE P md l Q S s (f + 1) listed a w := fun inv => by
  have hi' : l.toArray[i]? = some oi := by simpa using hi
  simp only [tailOkB, Bool.and_eq_true, decide_eq_true_eq] at hT
  obtain ⟨⟨⟨hsel, hn⟩, hs⟩, hc⟩ := hT
  have hr' : i ∈ Region.ready md l.toArray listed := by simpa using hr
  exact wpAnyE_first hi' (Region.noSelect_spec hsel) hs hc hn his hQ f listed a w inv (Region.free_spec hi' hf) hr' (.inl ⟨hw, hy⟩) hS (h (inv.set hr' his))

theorem WE_one {i : Nat} {o : Oper} {f : Nat} {listed : Array Bool} {a : Act} {w : World} (hi : l[i]? = some o) (his : i < s) (hr : Region.ready md l.toArray listed = [i])
    (h : ∀ K : Act → World → Prop, Shut (∀ a w, S w → (S w → WE P md l Q S s f (listed.setIfInBounds i true) a w) → K a w) → if Region.wanted o (yielded l.toArray a.tmps) = true then Oper.wp P o a w K Q else K (a.put o.dst undef) w) :
    WE P md l Q S s (f + 1) listed a w := fun inv => by
  have hi' : l.toArray[i]? = some o := by simpa using hi
  have hm : i ∈ Region.ready md l.toArray listed := by rw [hr]; simp
  refine ⟨fun h => (by rw [h] at hr; cases hr), fun j hj => ?_⟩
  rw [hr] at hj
  obtain rfl : j = i := by simpa using hj
  exact wpOp_step hi' (fun K hK => h K (fun a w hS hW => hK a w ⟨fun _ => hS, hW hS (inv.set hm his)⟩))

theorem WE_last {o : Oper} {f : Nat} {listed : Array Bool} {a : Act} {w : World} (hi : l[s]? = some o) (hr : Region.ready md l.toArray listed = [s]) (hr2 : Region.ready md l.toArray (listed.setIfInBounds s true) = []) (hb : (listed.setIfInBounds s true).getD s true = true)
    (h : ∀ K : Act → World → Prop, Shut (∀ a w, Q .normal a w → K a w) → if Region.wanted o (yielded l.toArray a.tmps) = true then Oper.wp P o a w K Q else K (a.put o.dst undef) w) :
    WE P md l Q S s (f + 1) listed a w := fun _ => by
  have hi' : l.toArray[s]? = some o := by simpa using hi
  refine ⟨fun h => (by rw [h] at hr; cases hr), fun j hj => ?_⟩
  rw [hr] at hj
  obtain rfl : j = s := by simpa using hj
  refine wpOp_step hi' (fun K hK => h K (fun a w hQ => hK a w ⟨fun e => (by rw [hb] at e; cases e), ?_⟩))
  cases f with
  | zero => exact ⟨hr2, hQ⟩
  | succ f => exact ⟨fun _ => hQ, by rw [hr2]; simp⟩

theorem wp_region_E {id : Nat} {a : Act} {w : World} (s n : Nat) (hn : l.length = n) (hm : P.follows .mixedOrders = true) (hT : tailOkB .any l s = true) (hS : S w.drew)
    (h : S w.drew → WE P .any l Q S s n (Array.replicate n false) a w.drew) : (Code.region id l.toArray true).wp P Q a w := by
  have hsz : l.toArray.size = n := by simpa using hn
  refine wp_region_any hm (wpAny_of_E (S := S) (s := s) _ _ _ _ ?_)
  rw [hsz]
  exact h hS ⟨by simp [hsz], fun j oj _ hl => (by rw [getD_replicate_false] at hl; cases hl), fun t _ ht => getD_in (by simpa [hsz] using ht) (getD_replicate_false _ _)⟩
end
end

section
theorem WE_skip {P : Program} {l : List Oper} {Q : Exit → Act → World → Prop} {md : Region.Mode} {S : World → Prop} {s i : Nat} {oi : Oper} {f : Nat} {listed : Array Bool} {a : Act} {w : World} (hi : l[i]? = some oi) (hT : tailOkB md l s = true) (his : i < s)
    (hf : Region.free md l.toArray listed i = true) (hr : (Region.ready md l.toArray listed).contains i = true)
    (hQ : ∀ c a w, Q (.panic c) (a.put oi.dst undef) w → Q (.panic c) a w) (hw : Region.wanted oi (yielded l.toArray a.tmps) = false) (hS : S w)
    (h : WE P md l Q S s f (listed.setIfInBounds i true) (a.put oi.dst undef) w) : WE P md l Q S s (f + 1) listed a w := fun inv => by
  have hi' : l.toArray[i]? = some oi := by simpa using hi
  simp only [tailOkB, Bool.and_eq_true, decide_eq_true_eq] at hT
  obtain ⟨⟨⟨hsel, hn⟩, hs⟩, hc⟩ := hT
  have hr' : i ∈ Region.ready md l.toArray listed := by simpa using hr
  exact wpAnyE_first hi' (Region.noSelect_spec hsel) hs hc hn his hQ f listed a w inv (Region.free_spec hi' hf) hr' (.inr ⟨hw, rfl⟩) hS (h (inv.set hr' his))

theorem codes_box (w : World) (c1 c2 c3 : Array Value) (t1 t2 t3 : TypeId) :
    (((w.alloc (.cells c1 t1)).alloc (.cells c2 t2)).alloc (.cells c3 t3)).heap[w.heap.size]? = some (.cells c1 t1 (0, 0)) ∧
    (((w.alloc (.cells c1 t1)).alloc (.cells c2 t2)).alloc (.cells c3 t3)).heap[w.heap.size + 1]? = some (.cells c2 t2 (0, 0)) ∧
    (((w.alloc (.cells c1 t1)).alloc (.cells c2 t2)).alloc (.cells c3 t3)).heap[w.heap.size + 2]? = some (.cells c3 t3 (0, 0)) ∧
    Below w.heap.size w (((w.alloc (.cells c1 t1)).alloc (.cells c2 t2)).alloc (.cells c3 t3)) ∧
    (((w.alloc (.cells c1 t1)).alloc (.cells c2 t2)).alloc (.cells c3 t3)).heap.size = w.heap.size + 3 := by
  have s1 : (w.alloc (.cells c1 t1)).heap.size = w.heap.size + 1 := by simp
  have s2 : ((w.alloc (.cells c1 t1)).alloc (.cells c2 t2)).heap.size = w.heap.size + 2 := by simp
  refine ⟨?_, ?_, ?_, below_alloc' (below_alloc' (below_alloc w _) _) _, by simp⟩
  · rw [Below.heap_alloc _ _ _ (by omega), Below.heap_alloc _ _ _ (by omega)]; exact heap_alloc_new w _
  · rw [Below.heap_alloc _ _ _ (by omega), ← s1]; exact heap_alloc_new _ _
  · rw [← s2]; exact heap_alloc_new _ _

set_option maxHeartbeats 8000000 in
set_option maxRecDepth 100000 in
theorem codes_calls (n : Nat) (A : Option Addr) (k c : Nat) (A2 : Option Addr) (R : List Mt) (c2 : Nat) (A4 : Option Addr) (e1 : List (Int × Int)) (c4 : Nat) (A5 : Option Addr) (e2 : List (Int × Int)) (c5 : Nat) (i : Nat) (w : World)
    (hr : Rd w A2 (mts R)) (h1 : Rd w A4 (evs e1)) (h2 : Rd w A5 (evs e2)) (hn1 : e1.length ≤ 100000000) (hn2 : e2.length ≤ 100000000) (hR : R.length ≤ 100000) (hi : i < R.length) (hn : n ≤ 100000) (hok : RowOk n R) :
    Calls Tryz.prog 55 #[.agg #[.int .i64 n, .slice A k c, .slice A2 R.length c2, .slice none 0 0, .slice A4 e1.length c4, .slice A5 e2.length c5], .int .i64 i] w (CodesPost n e1 e2 R i w) := by
  have HR := hid hr
  have H1 := hid h1
  have H2 := hid h2
  obtain ⟨b, off, rfl, hb, hc⟩ := hr (mts_ne hi)
  obtain ⟨m0, m1, m2, m3, m4, m5, m6, m7, m8, m9⟩ := mts_cells hc hi
  have HPV := hid (fun q (hq : q < R.length) => (show w.cell? ⟨b, off + q * 10 + 1, none⟩ = some (.int .i64 R[q].s.kind) from (mts_cells hc hq).2.1))
  have hx := hok R[i] (List.getElem_mem hi)
  have HXE := hid (show R[i]? = some R[i] from List.getElem?_eq_getElem hi)
  have HCP := hid (codeP_at (n := n) (e1 := e1) (e2 := e2) (List.getElem?_eq_getElem hi))
  generalize R[i] = x at *
  have hf0 := hx.1
  have hf1 := hx.2.1
  clear hr h1 h2 hc hx hok
  have hi0 : (0 : Int) ≤ (i : Int) := by omega
  have hi1 : (i : Int) < (R.length : Int) := by omega
  go_enter Tryz.func55, Tryz.ntmps55
  rcases (show x.s.kind = 7 ∨ x.s.kind = 6 ∨ x.s.kind = 2 ∨ x.s.kind = 4 ∨ x.s.kind = 5 ∨ x.s.kind = 1 ∨ x.s.kind = 3 ∨ (¬ x.s.kind = 7 ∧ ¬ x.s.kind = 6 ∧ ¬ x.s.kind = 2 ∧ ¬ x.s.kind = 4 ∧ ¬ x.s.kind = 5 ∧ ¬ x.s.kind = 1 ∧ ¬ x.s.kind = 3) by omega) with hk | hk | hk | hk | hk | hk | hk | ⟨k7, k6, k2, k4, k5, k1, k3⟩
  · rw [hk] at m1
    have HCQ := hid (show codeP n e1 e2 R i = codeL 1 (!mineB R i || decide ((n : Int) - x.far < x.s.val)) from by rw [unhid HCP, hk]; simp)
    clear hk HCP
    have HBX := hid (codes_box w #[.int .i64 n, .slice A k c, .slice (some ⟨b, off, none⟩) R.length c2, .slice none 0 0, .slice A4 e1.length c4, .slice A5 e2.length c5] #[.int .i64 x.s.num, .int .i64 7, .int .i64 x.s.val, .int .i64 x.s.chain, .int .i64 x.s.dir, .int .i64 x.s.rank, .int .i64 x.s.up, .int .i64 x.s.down, .slice x.s.cA x.s.cov.length x.s.cc, .int .i64 x.far] #[.slice none 0 0] 107 97 22)
    have hs9 : IntKind.i64.wrap ((n : Int) - x.far) = (n : Int) - x.far := IntWalk.i64_in _ (by omega)
    by_cases h0 : i = 0
    · have HCQ := hid (show codeP n e1 e2 R i = codeL 1 true from by rw [unhid HCQ]; simp [mineB, h0])
      have b0 : decide ((0 : Int) < (i : Int)) = false := decide_eq_false (by omega)
      have hi2 : ¬ (0 : Int) < (i : Int) := by omega
      clear h0
      go_wp2_with fail
      obtain ⟨g0, g1, g2, hbw, hsz⟩ := unhid HBX
      refine (add_calls 1 true (w.heap.size + 2) _ (by exact g2)).mono ?_
      rintro e w8 ⟨rfl, A8, c8, hO8, hrd8, hb8⟩
      have o8 := cell_of_one hO8
      have HRD8 := hid hrd8
      have HB8 := hid hb8
      clear hrd8 hO8 hb8
      go_wp2_with fail
      go_ret
      exact codesPost_of (unhid HCQ) (unhid HRD8) ((hbw).trans ((unhid HB8).mono (by omega)))
    · obtain ⟨q, hq⟩ : ∃ q, i = q + 1 := ⟨i - 1, by omega⟩
      have hqR : q < R.length := by omega
      have hw1 : IntKind.i64.wrap ((i : Int) - 1) = (q : Int) := by rw [IntWalk.i64_in _ (by omega)]; omega
      have b0 : decide ((0 : Int) < (i : Int)) = true := decide_eq_true (by omega)
      have hi2 : (0 : Int) < (i : Int) := by omega
      have hq0 : (0 : Int) ≤ (q : Int) := by omega
      have hbb1 : b < w.heap.size + 1 := by omega
      have hbb2 : b < w.heap.size + 1 + 1 := by omega
      have hbb3 : b < w.heap.size + 2 := by omega
      have hq1 : (q : Int) < (R.length : Int) := by omega
      have p1 := (unhid HPV) q hqR
      have HMB := hid (show mineB R i = (true && decide (R[q].s.kind = 1 ∨ R[q].s.kind = 3) && platedP R q) from by
        unfold mineB
        rw [show i - 1 = q by omega, List.getElem?_eq_getElem hqR, decide_eq_true (show 0 < i by omega)])
      generalize R[q].s.kind = y at *
      clear hq h0
      rcases (show y = 1 ∨ y = 3 ∨ (¬ y = 1 ∧ ¬ y = 3) by omega) with rfl | rfl | ⟨y1, y3⟩
      · have HMB := hid (show mineB R i = platedP R q from by rw [unhid HMB]; simp)
        have KP := hid (fun W hr' => plated_calls (some ⟨b, off, none⟩) R c2 q hqR W hr' (by omega))
        generalize hpl : platedP R q = pl at *
        have HPL := hid hpl
        clear hpl
        go_wp2_with fail
        obtain ⟨g0, g1, g2, hbw, hsz⟩ := unhid HBX
        refine ((unhid KP) _ ((unhid HR).below hbw)).mono ?_
        rintro e w5 ⟨rfl, m5, rfl⟩
        cases pl with
        | false =>
          have HCQ := hid (show codeP n e1 e2 R i = codeL 1 true from by rw [unhid HCQ, unhid HMB]; rfl)
          clear g0 g1 g2 hbw hsz
          go_wp2_with fail
          obtain ⟨g0, g1, g2, hbw, hsz⟩ := unhid HBX
          refine (add_calls 1 true (w.heap.size + 2) _ (by exact g2)).mono ?_
          rintro e w8 ⟨rfl, A8, c8, hO8, hrd8, hb8⟩
          have o8 := cell_of_one hO8
          have HRD8 := hid hrd8
          have HB8 := hid hb8
          clear hrd8 hO8 hb8
          go_wp2_with fail
          go_ret
          exact codesPost_of (unhid HCQ) (unhid HRD8) ((below_drewN' hbw m5).trans ((unhid HB8).mono (by omega)))
        | true =>
          have HCQ := hid (show codeP n e1 e2 R i = codeL 1 (decide ((n : Int) - x.far < x.s.val)) from by rw [unhid HCQ, unhid HMB]; rfl)
          clear g0 g1 g2 hbw hsz
          by_cases hgt : (n : Int) - x.far < x.s.val
          · have b8 := decide_eq_true hgt
            have HCQ := hid (show codeP n e1 e2 R i = codeL 1 true from by rw [unhid HCQ, b8])
            go_wp2_with fail
            obtain ⟨g0, g1, g2, hbw, hsz⟩ := unhid HBX
            refine (add_calls 1 true (w.heap.size + 2) _ (by exact g2)).mono ?_
            rintro e w8 ⟨rfl, A8, c8, hO8, hrd8, hb8⟩
            have o8 := cell_of_one hO8
            have HRD8 := hid hrd8
            have HB8 := hid hb8
            clear hrd8 hO8 hb8
            go_wp2_with fail
            go_ret
            exact codesPost_of (unhid HCQ) (unhid HRD8) ((below_drewN' hbw m5).trans ((unhid HB8).mono (by omega)))
          · have b8 := decide_eq_false hgt
            have HCQ := hid (show codeP n e1 e2 R i = codeL 1 false from by rw [unhid HCQ, b8])
            go_wp2_with fail
            obtain ⟨g0, g1, g2, hbw, hsz⟩ := unhid HBX
            refine (add_calls 1 false (w.heap.size + 2) _ (by exact g2)).mono ?_
            rintro e w8 ⟨rfl, A8, c8, hO8, hrd8, hb8⟩
            have o8 := cell_of_one hO8
            have HRD8 := hid hrd8
            have HB8 := hid hb8
            clear hrd8 hO8 hb8
            go_wp2_with fail
            go_ret
            exact codesPost_of (unhid HCQ) (unhid HRD8) ((below_drewN' hbw m5).trans ((unhid HB8).mono (by omega)))
      · have HMB := hid (show mineB R i = platedP R q from by rw [unhid HMB]; simp)
        have KP := hid (fun W hr' => plated_calls (some ⟨b, off, none⟩) R c2 q hqR W hr' (by omega))
        generalize hpl : platedP R q = pl at *
        have HPL := hid hpl
        clear hpl
        go_wp2_with fail
        obtain ⟨g0, g1, g2, hbw, hsz⟩ := unhid HBX
        refine ((unhid KP) _ ((unhid HR).below hbw)).mono ?_
        rintro e w5 ⟨rfl, m5, rfl⟩
        cases pl with
        | false =>
          have HCQ := hid (show codeP n e1 e2 R i = codeL 1 true from by rw [unhid HCQ, unhid HMB]; rfl)
          clear g0 g1 g2 hbw hsz
          go_wp2_with fail
          obtain ⟨g0, g1, g2, hbw, hsz⟩ := unhid HBX
          refine (add_calls 1 true (w.heap.size + 2) _ (by exact g2)).mono ?_
          rintro e w8 ⟨rfl, A8, c8, hO8, hrd8, hb8⟩
          have o8 := cell_of_one hO8
          have HRD8 := hid hrd8
          have HB8 := hid hb8
          clear hrd8 hO8 hb8
          go_wp2_with fail
          go_ret
          exact codesPost_of (unhid HCQ) (unhid HRD8) ((below_drewN' hbw m5).trans ((unhid HB8).mono (by omega)))
        | true =>
          have HCQ := hid (show codeP n e1 e2 R i = codeL 1 (decide ((n : Int) - x.far < x.s.val)) from by rw [unhid HCQ, unhid HMB]; rfl)
          clear g0 g1 g2 hbw hsz
          by_cases hgt : (n : Int) - x.far < x.s.val
          · have b8 := decide_eq_true hgt
            have HCQ := hid (show codeP n e1 e2 R i = codeL 1 true from by rw [unhid HCQ, b8])
            go_wp2_with fail
            obtain ⟨g0, g1, g2, hbw, hsz⟩ := unhid HBX
            refine (add_calls 1 true (w.heap.size + 2) _ (by exact g2)).mono ?_
            rintro e w8 ⟨rfl, A8, c8, hO8, hrd8, hb8⟩
            have o8 := cell_of_one hO8
            have HRD8 := hid hrd8
            have HB8 := hid hb8
            clear hrd8 hO8 hb8
            go_wp2_with fail
            go_ret
            exact codesPost_of (unhid HCQ) (unhid HRD8) ((below_drewN' hbw m5).trans ((unhid HB8).mono (by omega)))
          · have b8 := decide_eq_false hgt
            have HCQ := hid (show codeP n e1 e2 R i = codeL 1 false from by rw [unhid HCQ, b8])
            go_wp2_with fail
            obtain ⟨g0, g1, g2, hbw, hsz⟩ := unhid HBX
            refine (add_calls 1 false (w.heap.size + 2) _ (by exact g2)).mono ?_
            rintro e w8 ⟨rfl, A8, c8, hO8, hrd8, hb8⟩
            have o8 := cell_of_one hO8
            have HRD8 := hid hrd8
            have HB8 := hid hb8
            clear hrd8 hO8 hb8
            go_wp2_with fail
            go_ret
            exact codesPost_of (unhid HCQ) (unhid HRD8) ((below_drewN' hbw m5).trans ((unhid HB8).mono (by omega)))
      · have z1 : (y == 1) = false := by simpa using y1
        have z3 : (y == 3) = false := by simpa using y3
        have HCQ := hid (show codeP n e1 e2 R i = codeL 1 true from by rw [unhid HCQ, unhid HMB]; simp [y1, y3])
        clear y1 y3
        go_wp2_with fail
        obtain ⟨g0, g1, g2, hbw, hsz⟩ := unhid HBX
        refine (add_calls 1 true (w.heap.size + 2) _ (by exact g2)).mono ?_
        rintro e w8 ⟨rfl, A8, c8, hO8, hrd8, hb8⟩
        have o8 := cell_of_one hO8
        have HRD8 := hid hrd8
        have HB8 := hid hb8
        clear hrd8 hO8 hb8
        go_wp2_with fail
        go_ret
        exact codesPost_of (unhid HCQ) (unhid HRD8) ((hbw).trans ((unhid HB8).mono (by omega)))
  · rw [hk] at m1
    have HCQ := hid (show codeP n e1 e2 R i = codeL 2 (decide (x.far = n) || !decide (atP e1 x.far = x.s.val)) from by rw [unhid HCP, hk]; simp)
    clear hk HCP
    have HBX := hid (codes_box w #[.int .i64 n, .slice A k c, .slice (some ⟨b, off, none⟩) R.length c2, .slice none 0 0, .slice A4 e1.length c4, .slice A5 e2.length c5] #[.int .i64 x.s.num, .int .i64 6, .int .i64 x.s.val, .int .i64 x.s.chain, .int .i64 x.s.dir, .int .i64 x.s.rank, .int .i64 x.s.up, .int .i64 x.s.down, .slice x.s.cA x.s.cov.length x.s.cc, .int .i64 x.far] #[.slice none 0 0] 107 97 22)
    have hs9 : (0 : Nat) < 1 := by omega
    clear hs9
    go_wp2_with fail
    obtain ⟨g0, g1, g2, hbw, hsz⟩ := unhid HBX
    have H1b := hid ((unhid H1).below hbw)
    have HBW := hid hbw
    generalize hWB : ((w.alloc _).alloc _).alloc _ = wb at *
    clear hWB HBX hbw
    have f0 := cell_of_row _ w.heap.size 0 _ _ _ g0
    have f4 := cell_of_row _ w.heap.size 4 _ _ _ g0
    have f9 := cell_of_row _ (w.heap.size + 1) 9 _ _ _ g1
    have f2 := cell_of_row _ (w.heap.size + 1) 2 _ _ _ g1
    simp at f0 f4 f9 f2
    have G2 := hid g2
    clear g0 g1 g2
    by_cases hfn : x.far = n
    · have b9 : (x.far == (n : Int)) = true := by simpa using hfn
      have HCQ := hid (show codeP n e1 e2 R i = codeL 2 true from by rw [unhid HCQ, decide_eq_true hfn]; rfl)
      clear hfn
      refine wp_region_noPanic ?_
      refine wp_region_E (S := fun w' => w'.cell? ⟨w.heap.size, 0, none⟩ = some (.int .i64 n) ∧ w'.cell? ⟨w.heap.size + 1, 9, none⟩ = some (.int .i64 x.far)) 19 20 rfl (by kernel_rfl) (by kernel_rfl) ⟨f0, f9⟩ ?_
      intro hSE
      (refine WE_take (i := 0) (v := ?_) rfl (by kernel_rfl) (by decide) (by kernel_rfl) (by kernel_rfl) (fun _ _ _ h => h) (by rfl) hSE ?_ ?_; rotate_left; (focus (intro w hSw; (try dsimp only at hSw); go_simp; (try with_reducible rfl))); simp only [Act.put, List.setIfInBounds_toArray, List.set_cons_zero, List.set_cons_succ])
      (refine WE_take (i := 1) (v := ?_) rfl (by kernel_rfl) (by decide) (by kernel_rfl) (by kernel_rfl) (fun _ _ _ h => h) (by rfl) hSE ?_ ?_; rotate_left; (focus (intro w hSw; (try dsimp only at hSw); go_simp; (try with_reducible rfl))); simp only [Act.put, List.setIfInBounds_toArray, List.set_cons_zero, List.set_cons_succ])
      (refine WE_take (i := 2) (v := ?_) rfl (by kernel_rfl) (by decide) (by kernel_rfl) (by kernel_rfl) (fun _ _ _ h => h) (by rfl) hSE ?_ ?_; rotate_left; (focus (intro w hSw; (try dsimp only at hSw); go_simp; (try with_reducible rfl))); simp only [Act.put, List.setIfInBounds_toArray, List.set_cons_zero, List.set_cons_succ])
      (refine WE_take (i := 3) (v := ?_) rfl (by kernel_rfl) (by decide) (by kernel_rfl) (by kernel_rfl) (fun _ _ _ h => h) (by rfl) hSE ?_ ?_; rotate_left; (focus (intro w hSw; (try dsimp only at hSw); go_simp; (try with_reducible rfl))); simp only [Act.put, List.setIfInBounds_toArray, List.set_cons_zero, List.set_cons_succ])
      (refine WE_take (i := 4) (v := ?_) rfl (by kernel_rfl) (by decide) (by kernel_rfl) (by kernel_rfl) (fun _ _ _ h => h) (by rfl) hSE ?_ ?_; rotate_left; (focus (intro w hSw; (try dsimp only at hSw); go_simp; (try with_reducible rfl))); simp only [Act.put, List.setIfInBounds_toArray, List.set_cons_zero, List.set_cons_succ])
      (refine WE_take (i := 5) (v := ?_) rfl (by kernel_rfl) (by decide) (by kernel_rfl) (by kernel_rfl) (fun _ _ _ h => h) (by rfl) hSE ?_ ?_; rotate_left; (focus (intro w hSw; (try dsimp only at hSw); go_simp; (try with_reducible rfl))); simp only [Act.put, List.setIfInBounds_toArray, List.set_cons_zero, List.set_cons_succ])
      (refine WE_take (i := 6) (v := ?_) rfl (by kernel_rfl) (by decide) (by kernel_rfl) (by kernel_rfl) (fun _ _ _ h => h) (by rfl) hSE ?_ ?_; rotate_left; (focus (intro w hSw; (try dsimp only at hSw); go_simp; (try with_reducible rfl))); simp only [Act.put, List.setIfInBounds_toArray, List.set_cons_zero, List.set_cons_succ])
      (refine WE_take (i := 7) (v := ?_) rfl (by kernel_rfl) (by decide) (by kernel_rfl) (by kernel_rfl) (fun _ _ _ h => h) (by rfl) hSE ?_ ?_; rotate_left; (focus (intro w hSw; (try dsimp only at hSw); go_simp; (try with_reducible rfl))); simp only [Act.put, List.setIfInBounds_toArray, List.set_cons_zero, List.set_cons_succ])
      (refine WE_skip (i := 8) rfl (by kernel_rfl) (by decide) (by kernel_rfl) (by kernel_rfl) (fun _ _ _ h => h) (by rfl) hSE ?_; simp only [Act.put, List.setIfInBounds_toArray, List.set_cons_zero, List.set_cons_succ])
      (refine WE_skip (i := 9) rfl (by kernel_rfl) (by decide) (by kernel_rfl) (by kernel_rfl) (fun _ _ _ h => h) (by rfl) hSE ?_; simp only [Act.put, List.setIfInBounds_toArray, List.set_cons_zero, List.set_cons_succ])
      (refine WE_skip (i := 10) rfl (by kernel_rfl) (by decide) (by kernel_rfl) (by kernel_rfl) (fun _ _ _ h => h) (by rfl) hSE ?_; simp only [Act.put, List.setIfInBounds_toArray, List.set_cons_zero, List.set_cons_succ])
      (refine WE_skip (i := 11) rfl (by kernel_rfl) (by decide) (by kernel_rfl) (by kernel_rfl) (fun _ _ _ h => h) (by rfl) hSE ?_; simp only [Act.put, List.setIfInBounds_toArray, List.set_cons_zero, List.set_cons_succ])
      (refine WE_skip (i := 12) rfl (by kernel_rfl) (by decide) (by kernel_rfl) (by kernel_rfl) (fun _ _ _ h => h) (by rfl) hSE ?_; simp only [Act.put, List.setIfInBounds_toArray, List.set_cons_zero, List.set_cons_succ])
      (refine WE_skip (i := 13) rfl (by kernel_rfl) (by decide) (by kernel_rfl) (by kernel_rfl) (fun _ _ _ h => h) (by rfl) hSE ?_; simp only [Act.put, List.setIfInBounds_toArray, List.set_cons_zero, List.set_cons_succ])
      (refine WE_skip (i := 14) rfl (by kernel_rfl) (by decide) (by kernel_rfl) (by kernel_rfl) (fun _ _ _ h => h) (by rfl) hSE ?_; simp only [Act.put, List.setIfInBounds_toArray, List.set_cons_zero, List.set_cons_succ])
      (refine WE_skip (i := 15) rfl (by kernel_rfl) (by decide) (by kernel_rfl) (by kernel_rfl) (fun _ _ _ h => h) (by rfl) hSE ?_; simp only [Act.put, List.setIfInBounds_toArray, List.set_cons_zero, List.set_cons_succ])
      (refine WE_skip (i := 16) rfl (by kernel_rfl) (by decide) (by kernel_rfl) (by kernel_rfl) (fun _ _ _ h => h) (by rfl) hSE ?_; simp only [Act.put, List.setIfInBounds_toArray, List.set_cons_zero, List.set_cons_succ])
      (refine WE_skip (i := 17) rfl (by kernel_rfl) (by decide) (by kernel_rfl) (by kernel_rfl) (fun _ _ _ h => h) (by rfl) hSE ?_; simp only [Act.put, List.setIfInBounds_toArray, List.set_cons_zero, List.set_cons_succ])
      (refine WE_take (i := 18) (v := ?_) rfl (by kernel_rfl) (by decide) (by kernel_rfl) (by kernel_rfl) (fun _ _ _ h => h) (by rfl) hSE ?_ ?_; rotate_left; (focus (intro w hSw; (try dsimp only at hSw); go_simp; (try with_reducible rfl))); simp only [Act.put, List.setIfInBounds_toArray, List.set_cons_zero, List.set_cons_succ])
      refine WE_last rfl (by kernel_rfl) (by kernel_rfl) (by kernel_rfl) ?_
      intro K hK
      go_simp
      go_at_call 95
      refine (add_calls 2 true (w.heap.size + 2) _ (by exact unhid G2)).mono ?_
      rintro e w8 ⟨rfl, A8, c8, hO8, hrd8, hb8⟩
      refine hK.out _ _ (NoPanic.normal ?_)
      clear hSE hK K
      have o8 := cell_of_one hO8
      have HRD8 := hid hrd8
      have HB8 := hid hb8
      clear hrd8 hO8 hb8
      go_wp2_with fail
      go_ret
      exact codesPost_of (unhid HCQ) (unhid HRD8) ((Below.drew (unhid HBW)).trans ((unhid HB8).mono (by omega)))
    · have b9 : (x.far == (n : Int)) = false := by simpa using hfn
      have HCQ := hid (show codeP n e1 e2 R i = codeL 2 (!decide (atP e1 x.far = x.s.val)) from by rw [unhid HCQ, decide_eq_false hfn]; rfl)
      clear hfn
      generalize hv : atP e1 x.far = v at *
      have HV := hid hv
      clear hv
      by_cases hvv : v = x.s.val
      · have b8 : (v != x.s.val) = false := by simpa using hvv
        have HCQ := hid (show codeP n e1 e2 R i = codeL 2 false from by rw [unhid HCQ, decide_eq_true hvv]; rfl)
        clear hvv
        go_region_held3 (fun w' => w'.cell? ⟨w.heap.size, 0, none⟩ = some (.int .i64 n) ∧ w'.cell? ⟨w.heap.size, 4, none⟩ = some (.slice A4 e1.length c4) ∧ w'.cell? ⟨w.heap.size + 1, 9, none⟩ = some (.int .i64 x.far) ∧ w'.cell? ⟨w.heap.size + 1, 2, none⟩ = some (.int .i64 x.s.val)) (first | (refine ⟨?_, ?_, ?_, ?_⟩ <;> assumption) | go_keep)
          (first
            | (go_at_call 51; refine (at_calls A4 e1 c4 x.far _ ((unhid H1b).below (Below.drew (Below.refl _ _))) (by omega)).mono ?_; rintro e w5 ⟨rfl, hb5⟩; have hb5' : Below wb.heap.size wb w5 := (Below.drew (Below.refl _ _)).trans hb5; have p0 := (hb5'.cell (p := ⟨w.heap.size, 0, none⟩) (by dsimp only; omega)).trans f0; have p4 := (hb5'.cell (p := ⟨w.heap.size, 4, none⟩) (by dsimp only; omega)).trans f4; have p9 := (hb5'.cell (p := ⟨w.heap.size + 1, 9, none⟩) (by dsimp only; omega)).trans f9; have p2 := (hb5'.cell (p := ⟨w.heap.size + 1, 2, none⟩) (by dsimp only; omega)).trans f2; have hO5 := (hb5'.block (w.heap.size + 2) (by omega)).trans (unhid G2); have HBW5 := hid ((unhid HBW).trans (hb5'.mono (by omega))); rw [unhid HV]; clear hb5 hb5')
            | (go_at_call 95; refine (add_calls 2 false (w.heap.size + 2) _ hO5).mono ?_; rintro e w8 ⟨rfl, A8, c8, hO8, hrd8, hb8⟩; have q0 := (hb8.cell (p := ⟨w.heap.size, 0, none⟩) (by dsimp only; omega)).trans p0; have q4 := (hb8.cell (p := ⟨w.heap.size, 4, none⟩) (by dsimp only; omega)).trans p4; have q9 := (hb8.cell (p := ⟨w.heap.size + 1, 9, none⟩) (by dsimp only; omega)).trans p9; have q2 := (hb8.cell (p := ⟨w.heap.size + 1, 2, none⟩) (by dsimp only; omega)).trans p2))
        have o8 := cell_of_one hO8
        have HRD8 := hid hrd8
        have HB8 := hid hb8
        clear hrd8 hO8 hb8
        go_wp2_with fail
        go_ret
        exact codesPost_of (unhid HCQ) (unhid HRD8) ((unhid HBW5).trans ((unhid HB8).mono (by omega)))
      · have b8 : (v != x.s.val) = true := by simpa using hvv
        have HCQ := hid (show codeP n e1 e2 R i = codeL 2 true from by rw [unhid HCQ, decide_eq_false hvv]; rfl)
        clear hvv
        go_region_held3 (fun w' => w'.cell? ⟨w.heap.size, 0, none⟩ = some (.int .i64 n) ∧ w'.cell? ⟨w.heap.size, 4, none⟩ = some (.slice A4 e1.length c4) ∧ w'.cell? ⟨w.heap.size + 1, 9, none⟩ = some (.int .i64 x.far) ∧ w'.cell? ⟨w.heap.size + 1, 2, none⟩ = some (.int .i64 x.s.val)) (first | (refine ⟨?_, ?_, ?_, ?_⟩ <;> assumption) | go_keep)
          (first
            | (go_at_call 51; refine (at_calls A4 e1 c4 x.far _ ((unhid H1b).below (Below.drew (Below.refl _ _))) (by omega)).mono ?_; rintro e w5 ⟨rfl, hb5⟩; have hb5' : Below wb.heap.size wb w5 := (Below.drew (Below.refl _ _)).trans hb5; have p0 := (hb5'.cell (p := ⟨w.heap.size, 0, none⟩) (by dsimp only; omega)).trans f0; have p4 := (hb5'.cell (p := ⟨w.heap.size, 4, none⟩) (by dsimp only; omega)).trans f4; have p9 := (hb5'.cell (p := ⟨w.heap.size + 1, 9, none⟩) (by dsimp only; omega)).trans f9; have p2 := (hb5'.cell (p := ⟨w.heap.size + 1, 2, none⟩) (by dsimp only; omega)).trans f2; have hO5 := (hb5'.block (w.heap.size + 2) (by omega)).trans (unhid G2); have HBW5 := hid ((unhid HBW).trans (hb5'.mono (by omega))); rw [unhid HV]; clear hb5 hb5')
            | (go_at_call 95; refine (add_calls 2 true (w.heap.size + 2) _ hO5).mono ?_; rintro e w8 ⟨rfl, A8, c8, hO8, hrd8, hb8⟩; have q0 := (hb8.cell (p := ⟨w.heap.size, 0, none⟩) (by dsimp only; omega)).trans p0; have q4 := (hb8.cell (p := ⟨w.heap.size, 4, none⟩) (by dsimp only; omega)).trans p4; have q9 := (hb8.cell (p := ⟨w.heap.size + 1, 9, none⟩) (by dsimp only; omega)).trans p9; have q2 := (hb8.cell (p := ⟨w.heap.size + 1, 2, none⟩) (by dsimp only; omega)).trans p2))
        have o8 := cell_of_one hO8
        have HRD8 := hid hrd8
        have HB8 := hid hb8
        clear hrd8 hO8 hb8
        go_wp2_with fail
        go_ret
        exact codesPost_of (unhid HCQ) (unhid HRD8) ((unhid HBW5).trans ((unhid HB8).mono (by omega)))
  · rw [hk] at m1
    have HCQ := hid (show codeP n e1 e2 R i = codeL 3 (idleB e1 x.far) from by rw [unhid HCP, hk]; simp)
    clear hk HCP
    have HBX := hid (codes_box w #[.int .i64 n, .slice A k c, .slice (some ⟨b, off, none⟩) R.length c2, .slice none 0 0, .slice A4 e1.length c4, .slice A5 e2.length c5] #[.int .i64 x.s.num, .int .i64 2, .int .i64 x.s.val, .int .i64 x.s.chain, .int .i64 x.s.dir, .int .i64 x.s.rank, .int .i64 x.s.up, .int .i64 x.s.down, .slice x.s.cA x.s.cov.length x.s.cc, .int .i64 x.far] #[.slice none 0 0] 107 97 22)
    go_wp2_with fail
    obtain ⟨g0, g1, g2, hbw, hsz⟩ := unhid HBX
    refine (idle_calls n A k c (some ⟨b, off, none⟩) R.length c2 A4 e1 c4 A5 e2 c5 1 x.far _ ((unhid H1).below hbw) ((unhid H2).below hbw) hn1 hn2 (by omega) (by omega)).mono ?_
    rintro e w5 ⟨rfl, hb5⟩
    have hO5 := (hb5.block (w.heap.size + 2) (by omega)).trans g2
    have HBW := hid (hbw.trans (hb5.mono hbw.size))
    clear g0 g1 g2 hbw hsz hb5 HBX
    first | rw [if_pos rfl] | rw [if_neg (by decide)]
    generalize hbb : idleB e1 x.far = bb at *
    clear hbb
    go_wp2_with fail
    refine (add_calls 3 bb (w.heap.size + 2) _ (by exact hO5)).mono ?_
    rintro e w8 ⟨rfl, A8, c8, hO8, hrd8, hb8⟩
    have o8 := cell_of_one hO8
    have HRD8 := hid hrd8
    have HB8 := hid hb8
    clear hrd8 hO8 hb8
    go_wp2_with fail
    go_ret
    exact codesPost_of (unhid HCQ) (unhid HRD8) ((unhid HBW).trans ((unhid HB8).mono (by omega)))
  · rw [hk] at m1
    have HCQ := hid (show codeP n e1 e2 R i = codeL 3 (idleB e2 x.far) from by rw [unhid HCP, hk]; simp)
    clear hk HCP
    have HBX := hid (codes_box w #[.int .i64 n, .slice A k c, .slice (some ⟨b, off, none⟩) R.length c2, .slice none 0 0, .slice A4 e1.length c4, .slice A5 e2.length c5] #[.int .i64 x.s.num, .int .i64 4, .int .i64 x.s.val, .int .i64 x.s.chain, .int .i64 x.s.dir, .int .i64 x.s.rank, .int .i64 x.s.up, .int .i64 x.s.down, .slice x.s.cA x.s.cov.length x.s.cc, .int .i64 x.far] #[.slice none 0 0] 107 97 22)
    go_wp2_with fail
    obtain ⟨g0, g1, g2, hbw, hsz⟩ := unhid HBX
    refine (idle_calls n A k c (some ⟨b, off, none⟩) R.length c2 A4 e1 c4 A5 e2 c5 2 x.far _ ((unhid H1).below hbw) ((unhid H2).below hbw) hn1 hn2 (by omega) (by omega)).mono ?_
    rintro e w5 ⟨rfl, hb5⟩
    have hO5 := (hb5.block (w.heap.size + 2) (by omega)).trans g2
    have HBW := hid (hbw.trans (hb5.mono hbw.size))
    clear g0 g1 g2 hbw hsz hb5 HBX
    first | rw [if_pos rfl] | rw [if_neg (by decide)]
    generalize hbb : idleB e2 x.far = bb at *
    clear hbb
    go_wp2_with fail
    refine (add_calls 3 bb (w.heap.size + 2) _ (by exact hO5)).mono ?_
    rintro e w8 ⟨rfl, A8, c8, hO8, hrd8, hb8⟩
    have o8 := cell_of_one hO8
    have HRD8 := hid hrd8
    have HB8 := hid hb8
    clear hrd8 hO8 hb8
    go_wp2_with fail
    go_ret
    exact codesPost_of (unhid HCQ) (unhid HRD8) ((unhid HBW).trans ((unhid HB8).mono (by omega)))
  · rw [hk] at m1
    have HCQ := hid (show codeP n e1 e2 R i = codeL 3 (idleB e1 x.far && idleB e2 x.far) from by rw [unhid HCP, hk]; simp)
    clear hk HCP
    have HBX := hid (codes_box w #[.int .i64 n, .slice A k c, .slice (some ⟨b, off, none⟩) R.length c2, .slice none 0 0, .slice A4 e1.length c4, .slice A5 e2.length c5] #[.int .i64 x.s.num, .int .i64 5, .int .i64 x.s.val, .int .i64 x.s.chain, .int .i64 x.s.dir, .int .i64 x.s.rank, .int .i64 x.s.up, .int .i64 x.s.down, .slice x.s.cA x.s.cov.length x.s.cc, .int .i64 x.far] #[.slice none 0 0] 107 97 22)
    go_wp2_with fail
    obtain ⟨g0, g1, g2, hbw, hsz⟩ := unhid HBX
    refine (every_calls n A k c (some ⟨b, off, none⟩) R.length c2 A4 e1 c4 A5 e2 c5 x.far _ ((unhid H1).below hbw) ((unhid H2).below hbw) hn1 hn2 (by omega)).mono ?_
    rintro e w5 ⟨rfl, hb5⟩
    have hO5 := (hb5.block (w.heap.size + 2) (by omega)).trans g2
    have HBW := hid (hbw.trans (hb5.mono hbw.size))
    clear g0 g1 g2 hbw hsz hb5 HBX
    generalize hbb : (idleB e1 x.far && idleB e2 x.far) = bb at *
    clear hbb
    go_wp2_with fail
    refine (add_calls 3 bb (w.heap.size + 2) _ (by exact hO5)).mono ?_
    rintro e w8 ⟨rfl, A8, c8, hO8, hrd8, hb8⟩
    have o8 := cell_of_one hO8
    have HRD8 := hid hrd8
    have HB8 := hid hb8
    clear hrd8 hO8 hb8
    go_wp2_with fail
    go_ret
    exact codesPost_of (unhid HCQ) (unhid HRD8) ((unhid HBW).trans ((unhid HB8).mono (by omega)))
  · rw [hk] at m1
    have HCQ := hid (show codeP n e1 e2 R i = codeL 4 (decide (x.far = n)) from by rw [unhid HCP, hk]; simp)
    clear hk HCP
    have HBX := hid (codes_box w #[.int .i64 n, .slice A k c, .slice (some ⟨b, off, none⟩) R.length c2, .slice none 0 0, .slice A4 e1.length c4, .slice A5 e2.length c5] #[.int .i64 x.s.num, .int .i64 1, .int .i64 x.s.val, .int .i64 x.s.chain, .int .i64 x.s.dir, .int .i64 x.s.rank, .int .i64 x.s.up, .int .i64 x.s.down, .slice x.s.cA x.s.cov.length x.s.cc, .int .i64 x.far] #[.slice none 0 0] 107 97 22)
    by_cases hfn : x.far = n
    · have b9 : (x.far == (n : Int)) = true := by simpa using hfn
      have HCQ := hid (show codeP n e1 e2 R i = codeL 4 true from by rw [unhid HCQ, decide_eq_true hfn])
      clear hfn
      go_wp2_with fail
      obtain ⟨g0, g1, g2, hbw, hsz⟩ := unhid HBX
      refine (add_calls 4 true (w.heap.size + 2) _ (by exact g2)).mono ?_
      rintro e w8 ⟨rfl, A8, c8, hO8, hrd8, hb8⟩
      have o8 := cell_of_one hO8
      have HRD8 := hid hrd8
      have HB8 := hid hb8
      clear hrd8 hO8 hb8
      go_wp2_with fail
      go_ret
      exact codesPost_of (unhid HCQ) (unhid HRD8) ((hbw).trans ((unhid HB8).mono (by omega)))
    · have b9 : (x.far == (n : Int)) = false := by simpa using hfn
      have HCQ := hid (show codeP n e1 e2 R i = codeL 4 false from by rw [unhid HCQ, decide_eq_false hfn])
      clear hfn
      go_wp2_with fail
      obtain ⟨g0, g1, g2, hbw, hsz⟩ := unhid HBX
      refine (add_calls 4 false (w.heap.size + 2) _ (by exact g2)).mono ?_
      rintro e w8 ⟨rfl, A8, c8, hO8, hrd8, hb8⟩
      have o8 := cell_of_one hO8
      have HRD8 := hid hrd8
      have HB8 := hid hb8
      clear hrd8 hO8 hb8
      go_wp2_with fail
      go_ret
      exact codesPost_of (unhid HCQ) (unhid HRD8) ((hbw).trans ((unhid HB8).mono (by omega)))
  · rw [hk] at m1
    have HCQ := hid (show codeP n e1 e2 R i = codeL 4 (decide (x.far = n)) from by rw [unhid HCP, hk]; simp)
    clear hk HCP
    have HBX := hid (codes_box w #[.int .i64 n, .slice A k c, .slice (some ⟨b, off, none⟩) R.length c2, .slice none 0 0, .slice A4 e1.length c4, .slice A5 e2.length c5] #[.int .i64 x.s.num, .int .i64 3, .int .i64 x.s.val, .int .i64 x.s.chain, .int .i64 x.s.dir, .int .i64 x.s.rank, .int .i64 x.s.up, .int .i64 x.s.down, .slice x.s.cA x.s.cov.length x.s.cc, .int .i64 x.far] #[.slice none 0 0] 107 97 22)
    by_cases hfn : x.far = n
    · have b9 : (x.far == (n : Int)) = true := by simpa using hfn
      have HCQ := hid (show codeP n e1 e2 R i = codeL 4 true from by rw [unhid HCQ, decide_eq_true hfn])
      clear hfn
      go_wp2_with fail
      obtain ⟨g0, g1, g2, hbw, hsz⟩ := unhid HBX
      refine (add_calls 4 true (w.heap.size + 2) _ (by exact g2)).mono ?_
      rintro e w8 ⟨rfl, A8, c8, hO8, hrd8, hb8⟩
      have o8 := cell_of_one hO8
      have HRD8 := hid hrd8
      have HB8 := hid hb8
      clear hrd8 hO8 hb8
      go_wp2_with fail
      go_ret
      exact codesPost_of (unhid HCQ) (unhid HRD8) ((hbw).trans ((unhid HB8).mono (by omega)))
    · have b9 : (x.far == (n : Int)) = false := by simpa using hfn
      have HCQ := hid (show codeP n e1 e2 R i = codeL 4 false from by rw [unhid HCQ, decide_eq_false hfn])
      clear hfn
      go_wp2_with fail
      obtain ⟨g0, g1, g2, hbw, hsz⟩ := unhid HBX
      refine (add_calls 4 false (w.heap.size + 2) _ (by exact g2)).mono ?_
      rintro e w8 ⟨rfl, A8, c8, hO8, hrd8, hb8⟩
      have o8 := cell_of_one hO8
      have HRD8 := hid hrd8
      have HB8 := hid hb8
      clear hrd8 hO8 hb8
      go_wp2_with fail
      go_ret
      exact codesPost_of (unhid HCQ) (unhid HRD8) ((hbw).trans ((unhid HB8).mono (by omega)))
  · have HCQ := hid (show codeP n e1 e2 R i = [] from by rw [unhid HCP]; simp [k7, k6, k2, k4, k5, k1, k3])
    have b7 : (x.s.kind == 7) = false := by simpa using k7
    have b6 : (x.s.kind == 6) = false := by simpa using k6
    have b2 : (x.s.kind == 2) = false := by simpa using k2
    have b4 : (x.s.kind == 4) = false := by simpa using k4
    have b5 : (x.s.kind == 5) = false := by simpa using k5
    have b1 : (x.s.kind == 1) = false := by simpa using k1
    have b3 : (x.s.kind == 3) = false := by simpa using k3
    clear k7 k6 k2 k4 k5 k1 k3 HCP
    go_wp2_with fail
    go_ret
    exact codesPost_of (A := none) (c := 0) (unhid HCQ) (Rd.nil _ _) (below_alloc' (below_alloc' (below_alloc w _) _) _)
end

section
def FaultsPost (len : Int) (js : List Int) (l : List Sg) (hour : Int) (w : World) (e : Ending) (w' : World) : Prop :=
  ∃ (A' : Option Addr) (c' : Nat) (L : List (Int × Int)), e = .returned (.tuple #[.slice A' L.length c', .int .i64 (allE len js l [] hour)]) ∧
    (allE len js l [] hour = 0 → L.Perm (fltAll len.toNat js l hour) ∧ L.Pairwise (fun a b => a.1 ≤ b.1) ∧ IsRow len hour 1 l (rowM len hour 1 l) ∧ IsRow len hour (-1) l (rowM len hour (-1) l)) ∧
    (allE len js l [] hour ≠ 0 → L = []) ∧ Rd w' A' (fts L) ∧ L.length ≤ 1000 ∧ Below w.heap.size w w'
theorem allE_zeroF {len : Int} {js : List Int} {l : List Sg} {ed : List Ed} {hour : Int} (h : allE len js l ed hour = 0) : lineB len js = true ∧ sgsB len js l = true ∧ edsB len js ed = true ∧ 0 ≤ hour ∧ hour ≤ 10000000 := by
  unfold allE at h
  split at h
  · omega
  · rename_i h1
    split at h
    · omega
    · rename_i h2
      split at h
      · omega
      · rename_i h3
        split at h
        · rename_i h4
          exact ⟨by simpa using h1, by simpa using h2, by simpa using h3, h4.1, h4.2⟩
        · omega
theorem info_fault : (Tryz.prog.info? 110).map (fun i => (i.zero, i.size, i.bytes)) = some (some (.agg #[.int .i64 0, .int .i64 0]), 2, 16) := by kernel_rfl
theorem EdsOk.nilF (w : World) : EdsOk w none [] := ⟨by simp, Rd.nil _ _, fun s h => by cases h⟩

theorem sgsB_num {len : Int} {js : List Int} {l : List Sg} (h : sgsB len js l = true) : ∀ s ∈ l, 0 ≤ s.num ∧ s.num ≤ 1000000000 := fun s hm => by
  simp [sgsB] at h
  have := (signOk_iff.1 (h.1.2 s hm)).1
  omega
theorem flt_bounds {n : Nat} {js : List Int} {l : List Sg} {hour : Int} (h1 : IsRow n hour 1 l (rowM n hour 1 l)) (h2 : IsRow n hour (-1) l (rowM n hour (-1) l)) (hn : ∀ s ∈ l, 0 ≤ s.num ∧ s.num ≤ 1000000000) :
    ∀ f ∈ fltAll n js l hour, (0 ≤ f.1 ∧ f.1 ≤ 1000000000) ∧ 0 ≤ f.2 ∧ f.2 ≤ 10 := by
  have key : ∀ {dir : Int} {R : List Mt}, IsRow n hour dir l R → ∀ m ∈ R, m.s ∈ l := fun {dir R} h m hm => by
    have := h.perm.subset hm
    simp [selP] at this
    obtain ⟨s, ⟨hs, -⟩, rfl⟩ := this
    exact hs
  intro f hf
  rcases List.mem_append.1 hf with h | h
  · obtain ⟨⟨m, hm, e⟩, h3⟩ := fltRow_mem (Nat.le_refl _) h
    have := hn _ (key h1 m hm)
    omega
  · obtain ⟨⟨m, hm, e⟩, h3⟩ := fltRow_mem (Nat.le_refl _) h
    have := hn _ (key h2 m hm)
    omega
theorem flt_len {n : Nat} {js : List Int} {l : List Sg} {hour : Int} (h1 : IsRow n hour 1 l (rowM n hour 1 l)) (h2 : IsRow n hour (-1) l (rowM n hour (-1) l)) : (fltAll n js l hour).length ≤ 2 * l.length := by
  have a := fltRow_len n js (rowM n hour 1 l) 1 (rowM n hour 1 l).length
  have b := fltRow_len n js (rowM n hour (-1) l) (-1) (rowM n hour (-1) l).length
  have c := selP_len n hour 1 l
  have d := selP_len n hour (-1) l
  have e := h1.perm.length_eq
  have f := h2.perm.length_eq
  rw [fltAll, List.length_append]
  omega
theorem events_len (n : Int) (js : List Int) (R : List Mt) (dir topic : Int) : (eventsP n js R dir topic).length ≤ 2 * R.length + 1 := by
  have h := evRun_len n js R dir topic R.length
  unfold eventsP stopP
  split
  · dsimp only; rw [List.length_append, List.length_singleton]; omega
  · dsimp only; omega
theorem rowNe {w5 : World} {B2 : Nat} {A7 : Option Addr} {R : List Mt} (hz : w5.heap[B2]? = some (.cells #[.int .i64 0, .slice none 0 0, .slice none 0 0, .slice none 0 0, .slice none 0 0, .slice none 0 0] 107 (0, 0))) (hrd : Rd w5 A7 (mts R)) (hR : R ≠ []) : ∀ a, A7 = some a → a.block ≠ B2 := by
  intro a ha e
  have hp : 0 < R.length := List.length_pos_iff.2 hR
  obtain ⟨b, off, hA, hb, hc⟩ := hrd (mts_ne hp)
  rw [ha] at hA
  injection hA with hA
  subst hA
  dsimp only at e
  subst e
  obtain ⟨c0, c1, -⟩ := mts_cells hc hp
  rw [cell_of_row _ b _ _ _ _ hz] at c0 c1
  rcases (show off = 0 ∨ off = 1 ∨ off = 2 ∨ off = 3 ∨ off = 4 ∨ off = 5 ∨ 6 ≤ off by omega) with rfl | rfl | rfl | rfl | rfl | rfl | h
  · simp at c1
  all_goals first
    | (simp at c0; done)
    | (rw [Array.getElem?_eq_none (by simp; omega)] at c0; cases c0)
theorem WE_two {P : Program} {l : List Oper} {Q : Exit → Act → World → Prop} {md : Region.Mode} {S : World → Prop} {s i j : Nat} {o o' : Oper} {f : Nat} {listed : Array Bool} {a : Act} {w : World} (hi : l[i]? = some o) (hj : l[j]? = some o') (his : i < s) (hjs : j < s) (hr : Region.ready md l.toArray listed = [i, j])
    (h : ∀ K : Act → World → Prop, Shut (∀ a w, S w → (S w → WE P md l Q S s f (listed.setIfInBounds i true) a w) → K a w) → if Region.wanted o (yielded l.toArray a.tmps) = true then Oper.wp P o a w K Q else K (a.put o.dst undef) w)
    (h' : ∀ K : Act → World → Prop, Shut (∀ a w, S w → (S w → WE P md l Q S s f (listed.setIfInBounds j true) a w) → K a w) → if Region.wanted o' (yielded l.toArray a.tmps) = true then Oper.wp P o' a w K Q else K (a.put o'.dst undef) w) :
    WE P md l Q S s (f + 1) listed a w := fun inv => by
  have hi' : l.toArray[i]? = some o := by simpa using hi
  have hj' : l.toArray[j]? = some o' := by simpa using hj
  have hmi : i ∈ Region.ready md l.toArray listed := by rw [hr]; simp
  have hmj : j ∈ Region.ready md l.toArray listed := by rw [hr]; simp
  refine ⟨fun h => (by rw [h] at hr; cases hr), fun q hq => ?_⟩
  rw [hr] at hq
  rcases (show q = i ∨ q = j from by simpa using hq) with rfl | rfl
  · exact wpOp_step hi' (fun K hK => h K (fun a w hS hW => hK a w ⟨fun _ => hS, hW hS (inv.set hmi his)⟩))
  · exact wpOp_step hj' (fun K hK => h' K (fun a w hS hW => hK a w ⟨fun _ => hS, hW hS (inv.set hmj hjs)⟩))

set_option maxHeartbeats 1500000 in
set_option maxRecDepth 100000 in
theorem faults_calls (len : Int) (A : Option Addr) (js : List Int) (c : Nat) (A2 : Option Addr) (l : List Sg) (c2 : Nat) (hour : Int) (w : World) (hl : LnOk w A js) (hs : SgsOk w A2 l) :
    Calls Tryz.prog 26 #[.agg #[.int .i64 len, .slice A js.length c], .slice A2 l.length c2, .int .i64 hour] w (FaultsPost len js l hour w) := by
  have HL := hid hl
  have HS := hid hs
  clear hl hs
  have x0 : ∀ (w : World) (a b : Value), (Instr.index 104 (.agg #[a, b]) (.int .i64 0)).run Tryz.prog w = .ok a w := fun w a b => by kernel_rfl
  have x1 : ∀ (w : World) (a b : Value), (Instr.index 104 (.agg #[a, b]) (.int .i64 1)).run Tryz.prog w = .ok b w := fun w a b => by kernel_rfl
  go_enter Tryz.func26, Tryz.ntmps26
  go_wp2_with fail
  refine (all_calls len A js c A2 l c2 none [] 0 hour _ ((unhid HL).below (below_alloc _ _)) ((unhid HS).below (below_alloc _ _)) (EdsOk.nilF _)).mono ?_
  rintro e w1 ⟨rfl, hb1⟩
  have d0 := hb1.cell (p := ⟨w.heap.size, 0, none⟩) (by simp)
  have d1 := hb1.cell (p := ⟨w.heap.size, 1, none⟩) (by simp)
  simp [go_sem] at d0 d1
  have hbw1 : Below w.heap.size w w1 := (below_alloc w _).trans (hb1.mono (by simp))
  have hB1 : w.heap.size < w1.heap.size := Nat.lt_of_lt_of_le (by simp) hb1.size
  clear hb1
  generalize hal : allE len js l [] hour = al
  by_cases h0 : al = 0
  · subst h0
    have hv := allE_zeroF hal
    have HAL := hid hal
    clear hal
    obtain ⟨n, rfl⟩ := Int.eq_ofNat_of_zero_le (show 0 ≤ len by have := (lineB_len hv.1).1; omega)
    have hn := (lineB_len hv.1).2
    have HJ := hid (lineB_mem hv.1)
    have HCH := hid (sgsB_chain hv.2.1)
    have HBD := hid (sgsB_bounds hv.2.1)
    have hl100 := sgsB_len hv.2.1
    have HND := hid (sgsB_nodup hv.2.1)
    have HNU := hid (sgsB_num hv.2.1)
    clear hv
    obtain ⟨i0, hi, hz0, hz1, hz2⟩ := info_parts info_fault
    go_wp2_with fail
    go_loopw [9, 27] (fun v i wr => ∃ (k : Nat) (A6 : Option Addr) (c6 : Nat) (L : List (Int × Int)), k ≤ 2 ∧ i = .int .i64 k ∧ v = .slice A6 L.length c6 ∧ wr.ownsRow w1.heap.size 110 2 (.slice A6 L.length c6) L.length (fts L) ∧ Below w1.heap.size w1 wr ∧
      (k = 0 → L = []) ∧ (k = 1 → L = fltRow n js (rowM n hour 1 l) 1 (rowM n hour 1 l).length ∧ IsRow n hour 1 l (rowM n hour 1 l)) ∧ (k = 2 → L = fltAll n js l hour ∧ IsRow n hour 1 l (rowM n hour 1 l) ∧ IsRow n hour (-1) l (rowM n hour (-1) l))) (fun _ i _ => 2 - (intOf i).toNat)
    case atStart => exact ⟨0, none, 0, [], by omega, rfl, rfl, World.ownsRow_nil _ _ _ _, Below.refl _ _, fun _ => rfl, fun h => absurd h (by omega), fun h => absurd h (by omega)⟩
    case round =>
      obtain ⟨k, A6, c6, L, hk, rfl, rfl, hown, hbel, hk0, hk1, hk2⟩ := hrel
      have HO := hid hown
      have HK0 := hid hk0
      have HK1 := hid hk1
      have HK2 := hid hk2
      clear hown hk0 hk1 hk2
      have f0 := (hbel.cell (p := ⟨w.heap.size, 0, none⟩) hB1).trans d0
      have f1 := (hbel.cell (p := ⟨w.heap.size, 1, none⟩) hB1).trans d1
      have hBr := Nat.lt_of_lt_of_le hB1 hbel.size
      have hne : ¬ wr.heap.size = w.heap.size := by omega
      have HLr := hid ((unhid HL).below (hbw1.trans (hbel.mono hbw1.size)))
      have HSr := hid ((unhid HS).below (hbw1.trans (hbel.mono hbw1.size)))
      rcases (show k = 0 ∨ k = 1 ∨ k = 2 by omega) with rfl | rfl | rfl
      · rw [show (((0 : Nat)) : Int) = 0 from rfl]
        go_wp2_with fail
        go_cut [12] (fun s12 wz => ∃ (B2 : Nat) (A7 : Option Addr) (R : List Mt) (c7 : Nat), s12 = .pointer (some ⟨B2, 0, none⟩) ∧ IsRow n hour 1 l R ∧ wr.heap.size ≤ B2 ∧ Below wr.heap.size wr wz ∧ Rd wz A7 (mts R) ∧ (R ≠ [] → ∀ a, A7 = some a → a.block ≠ B2) ∧ (∀ a, A7 = some a → wr.heap.size ≤ a.block) ∧
          wz.heap[B2]? = some (.cells #[.int .i64 n, .slice A js.length c, .slice A7 R.length c7, .slice none 0 0, .slice none 0 0, .slice none 0 0] 107 (0, 0)))
        case first =>
          refine wp_region_noPanic ?_
          refine wp_region_E (S := fun w' => w'.cell? ⟨w.heap.size, 0, none⟩ = some (.int .i64 n) ∧ w'.cell? ⟨w.heap.size, 1, none⟩ = some (.slice A js.length c)) 8 9 rfl (by kernel_rfl) (by kernel_rfl) ⟨f0, f1⟩ ?_
          intro hSE
          (refine WE_take (i := 0) (v := ?_) rfl (by kernel_rfl) (by decide) (by kernel_rfl) (by kernel_rfl) (fun _ _ _ h => h) (by rfl) hSE ?_ ?_; rotate_left; (focus (intro w hSw; (try dsimp only at hSw); go_simp; (try with_reducible rfl))); simp only [Act.put, List.setIfInBounds_toArray, List.set_cons_zero, List.set_cons_succ])
          (refine WE_take (i := 1) (v := ?_) rfl (by kernel_rfl) (by decide) (by kernel_rfl) (by kernel_rfl) (fun _ _ _ h => h) (by rfl) hSE ?_ ?_; rotate_left; (focus (intro w hSw; (try dsimp only at hSw); go_simp; (try with_reducible rfl))); simp only [Act.put, List.setIfInBounds_toArray, List.set_cons_zero, List.set_cons_succ])
          (refine WE_take (i := 2) (v := ?_) rfl (by kernel_rfl) (by decide) (by kernel_rfl) (by kernel_rfl) (fun _ _ _ h => h) (by rfl) hSE ?_ ?_; rotate_left; (focus (intro w hSw; (try dsimp only at hSw); go_simp; (try with_reducible rfl))); simp only [Act.put, List.setIfInBounds_toArray, List.set_cons_zero, List.set_cons_succ])
          (refine WE_take (i := 3) (v := ?_) rfl (by kernel_rfl) (by decide) (by kernel_rfl) (by kernel_rfl) (fun _ _ _ h => h) (by rfl) hSE ?_ ?_; rotate_left; (focus (intro w hSw; (try dsimp only at hSw); go_simp; (try with_reducible rfl))); simp only [Act.put, List.setIfInBounds_toArray, List.set_cons_zero, List.set_cons_succ])
          (refine WE_take (i := 4) (v := ?_) rfl (by kernel_rfl) (by decide) (by kernel_rfl) (by kernel_rfl) (fun _ _ _ h => h) (by rfl) hSE ?_ ?_; rotate_left; (focus (intro w hSw; (try dsimp only at hSw); go_simp; (try with_reducible rfl))); simp only [Act.put, List.setIfInBounds_toArray, List.set_cons_zero, List.set_cons_succ])
          refine WE_two (i := 5) (j := 7) rfl rfl (by decide) (by decide) (by kernel_rfl) ?_ ?_
          · intro K hK
            go_simp
            go_at_call 49
            refine (rowOf_calls' n A js.length c A2 l c2 hour 1 _ ((unhid HSr).below (Below.drew (Below.refl _ _))) (by omega) (by omega) (unhid HCH)).mono ?_
            rintro e w5 ⟨A7, c7, R, rfl, hrow, hrd, hb5, hf7⟩
            have hB5 : Below wr.heap.size wr w5 := (Below.drew (Below.refl _ _)).trans hb5
            refine hK.out _ _ ⟨(hB5.cell (p := ⟨w.heap.size, 0, none⟩) hBr).trans f0, (hB5.cell (p := ⟨w.heap.size, 1, none⟩) hBr).trans f1⟩ ?_
            clear hSE hK K
            intro hSE
            (try simp only [Act.put, List.setIfInBounds_toArray, List.set_cons_zero, List.set_cons_succ])
            have hB5s := hB5.size
            (refine WE_take (i := 6) (v := ?_) rfl (by kernel_rfl) (by decide) (by kernel_rfl) (by kernel_rfl) (fun _ _ _ h => h) (by rfl) hSE ?_ ?_; rotate_left; (focus (intro w hSw; (try dsimp only at hSw); go_simp; (try with_reducible rfl))); simp only [Act.put, List.setIfInBounds_toArray, List.set_cons_zero, List.set_cons_succ])
            (refine WE_one (i := 7) rfl (by decide) (by kernel_rfl) ?_; intro K hK)
            go_simp
            refine hK.out _ _ ⟨(World.cell?_alloc_lt w5 _ ⟨w.heap.size, 0, none⟩ (by dsimp only; omega)).trans ((hB5.cell (p := ⟨w.heap.size, 0, none⟩) hBr).trans f0), (World.cell?_alloc_lt w5 _ ⟨w.heap.size, 1, none⟩ (by dsimp only; omega)).trans ((hB5.cell (p := ⟨w.heap.size, 1, none⟩) hBr).trans f1)⟩ ?_
            clear hSE hK K
            intro hSE
            (try simp only [Act.put, List.setIfInBounds_toArray, List.set_cons_zero, List.set_cons_succ])
            (refine WE_last rfl (by kernel_rfl) (by kernel_rfl) (by kernel_rfl) ?_; intro K hK; go_simp; refine hK.out _ _ (NoPanic.normal ?_); clear hK K)
            go_wp2_with fail
            go_meet
            case rel => exact ⟨w5.heap.size, A7, R, c7, rfl, hrow, hB5s, hB5.alloc hB5s _, hrd.alloc _, fun hR a ha => (by
              obtain ⟨b, off, hA, hb, -⟩ := hrd (mts_ne (List.length_pos_iff.2 hR))
              rw [ha] at hA
              injection hA with hA
              subst hA
              exact Nat.ne_of_lt hb), fun a ha => hf7 a ha, heap_alloc_new w5 _⟩
          · intro K hK
            go_simp
            refine hK.out _ _ ⟨(World.cell?_alloc_lt wr _ ⟨w.heap.size, 0, none⟩ hBr).trans f0, (World.cell?_alloc_lt wr _ ⟨w.heap.size, 1, none⟩ hBr).trans f1⟩ ?_
            clear hSE hK K
            intro hSE
            (try simp only [Act.put, List.setIfInBounds_toArray, List.set_cons_zero, List.set_cons_succ])
            (refine WE_one (i := 5) rfl (by decide) (by kernel_rfl) ?_; intro K hK)
            go_simp
            go_at_call 49
            refine (rowOf_calls' n A js.length c A2 l c2 hour 1 _ ((unhid HSr).below (Below.drew (below_alloc _ _))) (by omega) (by omega) (unhid HCH)).mono ?_
            rintro e w5 ⟨A7, c7, R, rfl, hrow, hrd, hb5, hf7⟩
            have hsz5 : (wr.alloc (.cells #[.int .i64 0, .slice none 0 0, .slice none 0 0, .slice none 0 0, .slice none 0 0, .slice none 0 0] 107)).drew.heap.size = wr.heap.size + 1 := by simp
            have hB5 : Below wr.heap.size wr w5 := (Below.drew (below_alloc _ _)).trans (hb5.mono (by rw [hsz5]; omega))
            have hzb : w5.heap[wr.heap.size]? = some (.cells #[.int .i64 0, .slice none 0 0, .slice none 0 0, .slice none 0 0, .slice none 0 0, .slice none 0 0] 107 (0, 0)) := by
              have h1 := hb5.block wr.heap.size (by rw [hsz5]; omega)
              exact h1.trans (heap_alloc_new wr _)
            have z0 : w5.cell? ⟨wr.heap.size, 0, none⟩ = some (.int .i64 0) := (cell_of_row _ wr.heap.size 0 _ _ _ hzb).trans rfl
            have zf0 := frozen_of_row _ wr.heap.size 0 _ _ hzb
            have z1 : w5.cell? ⟨wr.heap.size, 1, none⟩ = some (.slice none 0 0) := (cell_of_row _ wr.heap.size 1 _ _ _ hzb).trans rfl
            have zf1 := frozen_of_row _ wr.heap.size 1 _ _ hzb
            have z2 : w5.cell? ⟨wr.heap.size, 2, none⟩ = some (.slice none 0 0) := (cell_of_row _ wr.heap.size 2 _ _ _ hzb).trans rfl
            have zf2 := frozen_of_row _ wr.heap.size 2 _ _ hzb
            have z3 : w5.cell? ⟨wr.heap.size, 3, none⟩ = some (.slice none 0 0) := (cell_of_row _ wr.heap.size 3 _ _ _ hzb).trans rfl
            have zf3 := frozen_of_row _ wr.heap.size 3 _ _ hzb
            have z4 : w5.cell? ⟨wr.heap.size, 4, none⟩ = some (.slice none 0 0) := (cell_of_row _ wr.heap.size 4 _ _ _ hzb).trans rfl
            have zf4 := frozen_of_row _ wr.heap.size 4 _ _ hzb
            have z5 : w5.cell? ⟨wr.heap.size, 5, none⟩ = some (.slice none 0 0) := (cell_of_row _ wr.heap.size 5 _ _ _ hzb).trans rfl
            have zf5 := frozen_of_row _ wr.heap.size 5 _ _ hzb
            refine hK.out _ _ ⟨(hB5.cell (p := ⟨w.heap.size, 0, none⟩) hBr).trans f0, (hB5.cell (p := ⟨w.heap.size, 1, none⟩) hBr).trans f1⟩ ?_
            clear hSE hK K
            intro hSE
            (try simp only [Act.put, List.setIfInBounds_toArray, List.set_cons_zero, List.set_cons_succ])
            (refine WE_take (i := 6) (v := ?_) rfl (by kernel_rfl) (by decide) (by kernel_rfl) (by kernel_rfl) (fun _ _ _ h => h) (by rfl) hSE ?_ ?_; rotate_left; (focus (intro w hSw; (try dsimp only at hSw); go_simp; (try with_reducible rfl))); simp only [Act.put, List.setIfInBounds_toArray, List.set_cons_zero, List.set_cons_succ])
            (refine WE_last rfl (by kernel_rfl) (by kernel_rfl) (by kernel_rfl) ?_; intro K hK; go_simp; refine hK.out _ _ (NoPanic.normal ?_); clear hK K)
            go_wp2_with fail
            go_meet
            case rel =>
              have hRN := fun hR => rowNe hzb hrd hR
              refine ⟨wr.heap.size, A7, R, c7, rfl, hrow, Nat.le_refl _, ?_, ?_, hRN, fun a ha => (by have := hf7 a ha; rw [hsz5] at this; omega), ?_⟩
              · exact Below.setCell (Below.setCell (Below.setCell (Below.setCell (Below.setCell (Below.setCell hB5 (Nat.le_refl _) _) (Nat.le_refl _) _) (Nat.le_refl _) _) (Nat.le_refl _) _) (Nat.le_refl _) _) (Nat.le_refl _) _
              · intro hx
                have hR : R ≠ [] := fun e => hx (by rw [e]; rfl)
                obtain ⟨b, off, rfl, hb, hc⟩ := hrd hx
                have hbn := hRN hR _ rfl
                refine ⟨b, off, rfl, by simpa using hb, fun j u hu => ?_⟩
                rw [World.cell?_setCell_far _ _ _ _ (Ne.symm hbn), World.cell?_setCell_far _ _ _ _ (Ne.symm hbn), World.cell?_setCell_far _ _ _ _ (Ne.symm hbn), World.cell?_setCell_far _ _ _ _ (Ne.symm hbn), World.cell?_setCell_far _ _ _ _ (Ne.symm hbn), World.cell?_setCell_far _ _ _ _ (Ne.symm hbn)]
                exact hc j u hu
              · exact block_set_same (block_set_same (block_set_same (block_set_same (block_set_same (block_set_same hzb 0 _) 1 _) 2 _) 3 _) 4 _) 5 _
        case rest =>
          obtain ⟨N7, hN7⟩ : ∃ N7, N7 = wr.heap.size := ⟨_, rfl⟩
          have HN7 := hid hN7
          clear hN7
          obtain ⟨B2, A7, R, c7, rfl, hrow, hB2, hbw, hrd, hneR, hfr7, hblk⟩ := hcut
          have HFR7 := hid hfr7
          clear hfr7
          have HROW := hid hrow
          have HNE := hid hneR
          have HRO := hid (rowOk_of hrow (unhid HBD))
          have hRl : R.length ≤ 100 := by have := selP_len n hour 1 l; have := hrow.perm.length_eq; omega
          have HRD := hid hrd
          clear f0 f1 hrow hneR hrd
          go_wp2_with fail
          go_loopw [38] (fun i wz => ∃ (t : Nat) (v1 v2 : Value), t ≤ 2 ∧ i = .int .i64 t ∧ Below wr.heap.size wr wz ∧ Rd wz A7 (mts R) ∧ wz.heap[B2]? = some (.cells #[.int .i64 n, .slice A js.length c, .slice A7 R.length c7, .slice none 0 0, v1, v2] 107 (0, 0)) ∧
            (1 ≤ t → ∃ (A4 : Option Addr) (c4 : Nat), v1 = .slice A4 (eventsP n js R 1 1).length c4 ∧ Rd wz A4 (evs (eventsP n js R 1 1)) ∧ ∀ a, A4 = some a → a.block ≠ B2 ∧ N7 ≤ a.block) ∧
            (2 ≤ t → ∃ (A5 : Option Addr) (c5 : Nat), v2 = .slice A5 (eventsP n js R 1 2).length c5 ∧ Rd wz A5 (evs (eventsP n js R 1 2)) ∧ ∀ a, A5 = some a → a.block ≠ B2 ∧ N7 ≤ a.block)) (fun i _ => 2 - (intOf i).toNat)
          case atStart => exact ⟨0, _, _, by omega, rfl, hbw, unhid HRD, hblk, fun h => absurd h (by omega), fun h => absurd h (by omega)⟩
          case round =>
            clear hbw hblk HRD
            obtain ⟨t, v1, v2, ht, rfl, hbz, hrdz, hblk, hv1, hv2⟩ := hrel
            have HRDz := hid hrdz
            have HV1 := hid hv1
            have HV2 := hid hv2
            have f0 := ((hbel.trans (hbz.mono hbel.size)).cell (p := ⟨w.heap.size, 0, none⟩) hB1).trans d0
            have f1 := ((hbel.trans (hbz.mono hbel.size)).cell (p := ⟨w.heap.size, 1, none⟩) hB1).trans d1
            have hBz : B2 < wr.heap.size := (Array.getElem?_eq_some_iff.1 hblk).1
            have y0 := (cell_of_row _ B2 0 _ _ _ hblk).trans (show _ = some _ from rfl)
            have y2 : wr.cell? ⟨B2, 2, none⟩ = some (.slice A7 R.length c7) := (cell_of_row _ B2 2 _ _ _ hblk).trans rfl
            clear hrdz hv1 hv2 y0
            rcases (show t = 0 ∨ t = 1 ∨ t = 2 by omega) with rfl | rfl | rfl
            · rw [show (((0 : Nat)) : Int) = 0 from rfl]
              have y4f := frozen_of_row _ B2 4 _ _ hblk
              go_wp2_with fail
              refine (events_calls n A js c A7 R c7 1 1 _ ((unhid HLr).below hbz) (unhid HJ) (by omega) (unhid HRDz) (by omega) (unhid HRO)).mono ?_
              rintro e w5 ⟨A8, c8, rfl, hrd8, hf8, hb5⟩
              have hblk5 := (hb5.block B2 hBz).trans hblk
              have y4g := frozen_of_row _ B2 4 _ _ hblk5
              have y4h : w5.cell? ⟨B2, 4, none⟩ = some v1 := (cell_of_row _ B2 4 _ _ _ hblk5).trans rfl
              have HBK := hid hblk5
              have hbz5 := hbz.trans (hb5.mono hbz.size)
              have HR8 := hid hrd8
              have HF8 := hid (fun a (ha : A8 = some a) => (show a.block ≠ B2 ∧ N7 ≤ a.block from by have := hf8 a ha; have := hbz.size; have := unhid HN7; exact ⟨by omega, by omega⟩))
              have HRDz := hid ((unhid HRDz).below hb5)
              have HVV := hid (fun (h : 1 ≤ 0) => (show ∃ (A4 : Option Addr) (c4 : Nat), v1 = .slice A4 (eventsP n js R 1 1).length c4 ∧ Rd w5 A4 (evs (eventsP n js R 1 1)) ∧ ∀ a, A4 = some a → a.block ≠ B2 ∧ N7 ≤ a.block from by
                obtain ⟨A4, c4, g1, g2, g3⟩ := (unhid HV1) h
                exact ⟨A4, c4, g1, g2.below hb5, g3⟩))
              clear hrd8 hf8 hb5 hblk5
              go_wp2_with fail
              go_roundw
              case rel =>
                have hst : ∀ {A : Option Addr} {xs : List Value} (u : Value), Rd w5 A xs → (xs ≠ [] → ∀ a, A = some a → a.block ≠ B2) → Rd (w5.setCell ⟨B2, 4, none⟩ u) A xs := fun u h h2 hx => by
                  obtain ⟨b, off, rfl, hb, hc⟩ := h hx
                  refine ⟨b, off, rfl, by simpa using hb, fun j v hj => ?_⟩
                  rw [World.cell?_setCell_far _ _ _ _ (Ne.symm (h2 hx _ rfl))]
                  exact hc j v hj
                exact ⟨1, .slice A8 (eventsP n js R 1 1).length c8, v2, by omega, by go_num, Below.setCell hbz5 hB2 _, hst _ (unhid HRDz) (fun hx => unhid HNE (fun e => hx (by rw [e]; rfl))), block_set_same (unhid HBK) 4 _, fun _ => ⟨A8, c8, rfl, hst _ (unhid HR8) (fun _ a ha => (unhid HF8 a ha).1), unhid HF8⟩, fun h => absurd h (by omega)⟩
              case measure => simp [intOf]
            · rw [show (((1 : Nat)) : Int) = 1 from rfl]
              have y4f := frozen_of_row _ B2 5 _ _ hblk
              go_wp2_with fail
              refine (events_calls n A js c A7 R c7 1 2 _ ((unhid HLr).below hbz) (unhid HJ) (by omega) (unhid HRDz) (by omega) (unhid HRO)).mono ?_
              rintro e w5 ⟨A8, c8, rfl, hrd8, hf8, hb5⟩
              have hblk5 := (hb5.block B2 hBz).trans hblk
              have y4g := frozen_of_row _ B2 5 _ _ hblk5
              have y4h : w5.cell? ⟨B2, 5, none⟩ = some v2 := (cell_of_row _ B2 5 _ _ _ hblk5).trans rfl
              have HBK := hid hblk5
              have hbz5 := hbz.trans (hb5.mono hbz.size)
              have HR8 := hid hrd8
              have HF8 := hid (fun a (ha : A8 = some a) => (show a.block ≠ B2 ∧ N7 ≤ a.block from by have := hf8 a ha; have := hbz.size; have := unhid HN7; exact ⟨by omega, by omega⟩))
              have HRDz := hid ((unhid HRDz).below hb5)
              have HVV := hid (fun (h : 1 ≤ 1) => (show ∃ (A4 : Option Addr) (c4 : Nat), v1 = .slice A4 (eventsP n js R 1 1).length c4 ∧ Rd w5 A4 (evs (eventsP n js R 1 1)) ∧ ∀ a, A4 = some a → a.block ≠ B2 ∧ N7 ≤ a.block from by
                obtain ⟨A4, c4, g1, g2, g3⟩ := (unhid HV1) h
                exact ⟨A4, c4, g1, g2.below hb5, g3⟩))
              clear hrd8 hf8 hb5 hblk5
              go_wp2_with fail
              go_roundw
              case rel =>
                have hst : ∀ {A : Option Addr} {xs : List Value} (u : Value), Rd w5 A xs → (xs ≠ [] → ∀ a, A = some a → a.block ≠ B2) → Rd (w5.setCell ⟨B2, 5, none⟩ u) A xs := fun u h h2 hx => by
                  obtain ⟨b, off, rfl, hb, hc⟩ := h hx
                  refine ⟨b, off, rfl, by simpa using hb, fun j v hj => ?_⟩
                  rw [World.cell?_setCell_far _ _ _ _ (Ne.symm (h2 hx _ rfl))]
                  exact hc j v hj
                obtain ⟨A4, c4, g1, g2, g3⟩ := (unhid HVV) (by omega)
                exact ⟨2, v1, .slice A8 (eventsP n js R 1 2).length c8, by omega, by go_num, Below.setCell hbz5 hB2 _, hst _ (unhid HRDz) (fun hx => unhid HNE (fun e => hx (by rw [e]; rfl))), block_set_same (unhid HBK) 5 _, fun _ => ⟨A4, c4, g1, hst _ g2 (fun _ a ha => (g3 a ha).1), g3⟩, fun _ => ⟨A8, c8, rfl, hst _ (unhid HR8) (fun _ a ha => (unhid HF8 a ha).1), unhid HF8⟩⟩
              case measure => simp [intOf]
            · obtain ⟨A4, c4, rfl, hrd4, hn4⟩ := (unhid HV1) (by omega)
              obtain ⟨A5, c5, rfl, hrd5, hn5⟩ := (unhid HV2) (by omega)
              have hL100 : L.length ≤ 100 := by
                rw [(unhid HK0) trivial]; simp
              rw [show (((2 : Nat)) : Int) = 2 from rfl]
              have hoS := own_below (unhid HO) hbz
              have hbwS : Below w1.heap.size w1 wr := hbel.trans (hbz.mono hbel.size)
              obtain ⟨gS, hgS⟩ : ∃ gS, gS = (Value.slice A6 L.length c6).ownBlock := ⟨_, rfl⟩
              have HGS := hid hgS
              have hownlt : ∀ g, gS = some g → g < N7 := fun g e => by rw [hgS] at e; have := (own_lt' (unhid HO) e).2; have := unhid HN7; omega
              have hNw : w.heap.size < N7 := by have := unhid HN7; omega
              have N4 := hid (fun a (h : A4 = some a) => (show a.block ≠ w.heap.size ∧ gS ≠ some a.block from by
                have h1 := (hn4 a h).2
                exact ⟨by omega, fun e => by have := hownlt _ e; omega⟩))
              have N5 := hid (fun a (h : A5 = some a) => (show a.block ≠ w.heap.size ∧ gS ≠ some a.block from by
                have h1 := (hn5 a h).2
                exact ⟨by omega, fun e => by have := hownlt _ e; omega⟩))
              have N7a := hid (fun a (h : A7 = some a) => (show a.block ≠ w.heap.size ∧ gS ≠ some a.block from by
                have h1 := unhid HFR7 a h
                have := unhid HN7
                exact ⟨by omega, fun e => by have := hownlt _ e; omega⟩))
              have NB2 := hid (show B2 ≠ w.heap.size ∧ gS ≠ some B2 from by
                have := unhid HN7
                exact ⟨by omega, fun e => by have := hownlt _ e; omega⟩)
              obtain ⟨wS, rfl⟩ : ∃ wS : World, wS = wr := ⟨_, rfl⟩
              have HF0 := hid (show GpFr wS wS w.heap.size gS (.slice A6 L.length c6) from ⟨Nat.le_refl _, fun _ _ _ _ => rfl, fun g hg => .inl (by rw [unhid HGS]; exact hg)⟩)
              have HOS := hid hoS
              have HR4 := hid hrd4
              have HR5 := hid hrd5
              have HBK := hid hblk
              have HBW := hid hbwS
              have HEV1 := hid (events_len n js R 1 1)
              have HEV2 := hid (events_len n js R 1 2)
              clear hgS hownlt hoS HO hn4 hn5 hrd4 hrd5 hblk hbwS HV1 HV2
              go_wp2_with fail
              go_loopw [9, 54] (fun v i wr => ∃ (q : Nat) (o : List (Int × Int)) (A6 : Option Addr) (c6 : Nat), q ≤ R.length ∧ i = .int .i64 q ∧ v = .slice A6 o.length c6 ∧ o = L ++ fltRow n js R 1 q ∧ wr.ownsRow w1.heap.size 110 2 (.slice A6 o.length c6) o.length (fts o) ∧ Below w1.heap.size w1 wr ∧ GpFr wS wr w.heap.size gS (.slice A6 o.length c6)) (fun _ i _ => R.length - (intOf i).toNat)
              case atStart => exact ⟨0, L, A6, c6, Nat.zero_le _, rfl, rfl, by simp [fltRow], unhid HOS, unhid HBW, unhid HF0⟩
              case round =>
                clear HOS HF0
                obtain ⟨q, o, A6, c6, hq, rfl, rfl, ho, hown, hbelz, hF⟩ := hrel
                have holen : o.length ≤ 200 := by rw [ho, List.length_append]; have := fltRow_len n js R 1 q; omega
                have HF := hid hF
                have HOE := hid ho
                have HO := hid hown
                clear ho hown hF f0 f1 y2
                by_cases hlt : q < R.length
                · have hr7 := (unhid HF).rd (unhid HRDz) (fun a h => (unhid N7a a h).1) (fun a h => (unhid N7a a h).2)
                  have HR7 := hid hr7
                  obtain ⟨b, off, rfl, hb, hc⟩ := hr7 (mts_ne hlt)
                  obtain ⟨m0, m1, m2, m3, m4, m5, m6, m7, m8, m9⟩ := mts_cells hc hlt
                  have hblkz := ((unhid HF).same B2 hBz (unhid NB2).1 (unhid NB2).2).trans (unhid HBK)
                  have hBzz : B2 < wr.heap.size := Nat.lt_of_lt_of_le hBz (unhid HF).size
                  have y0 := (cell_of_row _ B2 0 _ _ _ hblkz).trans (show _ = some _ from rfl)
                  have y1 := (cell_of_row _ B2 1 _ _ _ hblkz).trans (show _ = some _ from rfl)
                  have y2 := (cell_of_row _ B2 2 _ _ _ hblkz).trans (show _ = some _ from rfl)
                  have y3 := (cell_of_row _ B2 3 _ _ _ hblkz).trans (show _ = some _ from rfl)
                  have y4 := (cell_of_row _ B2 4 _ _ _ hblkz).trans (show _ = some _ from rfl)
                  have y5 := (cell_of_row _ B2 5 _ _ _ hblkz).trans (show _ = some _ from rfl)
                  clear hc hr7 hblkz
                  have HR4z := hid ((unhid HF).rd (unhid HR4) (fun a h => (unhid N4 a h).1) (fun a h => (unhid N4 a h).2))
                  have HR5z := hid ((unhid HF).rd (unhid HR5) (fun a h => (unhid N5 a h).1) (fun a h => (unhid N5 a h).2))
                  have HFS := hid (fltRow_succ n js R 1 q)
                  have HCL := hid (codeH_len n js R 1 q)
                  have HNA := hid (show numAt R q = R[q].s.num from by simp [numAt, List.getElem?_eq_getElem hlt])
                  go_wp2_with fail
                  refine (codes_calls n A js.length c _ R c7 A4 _ c4 A5 _ c5 q _ ((unhid HR7).below (below_alloc _ _)) ((unhid HR4z).below (below_alloc _ _)) ((unhid HR5z).below (below_alloc _ _)) (by have := unhid HEV1; omega) (by have := unhid HEV2; omega) (by omega) hlt (by omega) (unhid HRO)).mono ?_
                  rintro e w5 ⟨A8, c8, rfl, hrd8, hb5⟩
                  rw [codeP_codeH (unhid HRO) (row_dir (unhid HROW))] at hrd8 ⊢
                  have hb5w : Below wr.heap.size wr w5 := (below_alloc _ _).trans (hb5.mono (by simp))
                  have g0 : w5.cell? ⟨wr.heap.size, 0, none⟩ = some (.int .i64 R[q].s.num) := (hb5.cell (p := ⟨wr.heap.size, 0, none⟩) (by simp)).trans (by simp [go_sem])
                  have hB9 : wr.heap.size < w5.heap.size := Nat.lt_of_lt_of_le (by simp) hb5.size
                  have HO5 := hid (own_below (unhid HO) hb5w)
                  have HB5 := hid (hbelz.trans (hb5w.mono hbelz.size))
                  have HF5 := hid ((unhid HF).kept hb5w)
                  obtain ⟨cs, hcs⟩ : ∃ cs, cs = codeH n js R 1 q := ⟨_, rfl⟩
                  rw [← hcs] at hrd8 HFS HCL ⊢
                  have hcl := unhid HCL
                  have HR8 := hid hrd8
                  obtain ⟨B9, hB9e⟩ : ∃ B9, B9 = wr.heap.size := ⟨_, rfl⟩
                  rw [← hB9e] at g0 hB9 ⊢
                  have hna := unhid HNA
                  rw [hna] at HFS
                  have hg := g0
                  generalize R[q].s.num = num at HFS hg
                  have HG := hid hg
                  have HB9e := hid hB9e
                  clear hb5 hb5w hrd8 hcs hna hg g0 HCL HNA m0 m1 m2 m3 m4 m5 m6 m7 m8 m9 y0 y1 y2 y3 y4 y5 hBzz HR4z HR5z HR7 hb hB9e HO HF
                  go_wp2_with fail
                  go_loopw [9, 63] (fun v i wr => ∃ (p : Nat) (o2 : List (Int × Int)) (A6 : Option Addr) (c6 : Nat), p ≤ cs.length ∧ i = .int .i64 p ∧ v = .slice A6 o2.length c6 ∧ o2 = o ++ (cs.take p).map (fun c => (num, c)) ∧ wr.ownsRow w1.heap.size 110 2 (.slice A6 o2.length c6) o2.length (fts o2) ∧ Below w1.heap.size w1 wr ∧ GpFr wS wr w.heap.size gS (.slice A6 o2.length c6) ∧ (p = 0 → Rd wr A8 (ints cs) ∧ wr.cell? ⟨B9, 0, none⟩ = some (.int .i64 num) ∧ B9 < wr.heap.size)) (fun _ i _ => cs.length - (intOf i).toNat)
                  case atStart => exact ⟨0, o, A6, c6, Nat.zero_le _, rfl, rfl, by simp, unhid HO5, unhid HB5, unhid HF5, fun _ => ⟨unhid HR8, unhid HG, hB9⟩⟩
                  case round =>
                    clear HO5 HB5 HF5 HR8 HG hB9
                    obtain ⟨p, o2, A6, c6, hp, rfl, rfl, ho2, hown, hbelp, hFp, hz⟩ := hrel
                    have HO := hid hown
                    have HF := hid hFp
                    have HBP := hid hbelp
                    clear hown hFp
                    by_cases hpt : p < cs.length
                    · obtain rfl : p = 0 := by omega
                      obtain ⟨hr8, g0, hB9⟩ := hz rfl
                      obtain rfl : o2 = o := by simpa using ho2
                      obtain ⟨b8, off8, rfl, hb8, hc8⟩ := hr8 (ints_ne (k := 0) hpt)
                      have z0 := hc8 0 _ (ints_at cs 0 hpt)
                      have HT := hid (show cs.take 1 = [cs[0]] from by rw [List.take_succ_eq_append_getElem hpt]; rfl)
                      generalize cs[0] = cd at z0 HT
                      rw [Nat.add_zero] at z0
                      rw [show (((0 : Nat)) : Int) = 0 from rfl]
                      clear hr8 hc8 hz ho2
                      go_wp2_with (at_builtin; refine wpList_append_lies _ rfl _ _ 49 rfl w1.heap.size 110 i0 (.agg #[.int .i64 0, .int .i64 0]) 2 16 Tryz.underlying49 hi hz0 hz1 hz2 rfl (by decide) _ _ _ rfl ((unhid HO).alloc _) ⟨wr.heap.size, 0, none⟩ 1 1 [.int .i64 num, .int .i64 cd] rfl rfl (World.news_of_block (cs := #[.int .i64 num, .int .i64 cd]) (t := 110) (fr := (0, 0)) (heap_alloc_new wr _)) ?_ (by decide) ?_ ?_ ?_ (wr.heap.size + 1) (by simp) ?_)
                      all_goals try (first | (unfold maxLen; omega) | omega | (have := hbelp.size; simp; omega) | exact ⟨rfl, rfl⟩ | (intro u hu; simp at hu; rcases hu with rfl | rfl <;> rfl))
                      intro g8 c8' w3 hown3 hg3 hat3 hlt8
                      have hb3 : Below w1.heap.size w1 w3 := by
                        refine Below.grown (hbelp.alloc hbelp.size _) hg3 (by have := hbelp.size; simp; omega) (fun i hi => ?_)
                        rcases Nat.lt_or_ge i w1.heap.size with h | h
                        · exact absurd hi (own_ne (unhid HO) (Or.inl h))
                        · exact h
                      have HF3 := hid ((unhid HF).append (v2 := .slice (some ⟨g8, 0, none⟩) (o2.length + 1) c8') hg3 (fun g hg => by
                        have e : g = g8 := by simpa [Value.ownBlock] using hg.symm
                        subst e
                        rcases hat3 with h | h
                        · exact .inl h
                        · exact .inr (by omega)))
                      have HO3 := hid hown3
                      clear hown3 hg3 hat3 hlt8 z0 g0
                      go_wp2_with fail
                      go_roundw
                      case rel =>
                        refine ⟨1, o2 ++ [(num, cd)], some ⟨g8, 0, none⟩, c8', by omega, by go_num, by simp, by rw [unhid HT]; rfl, ?_, hb3, ?_, fun h => absurd h (by omega)⟩
                        · have h5 := unhid HO3
                          rw [show (o2 ++ [(num, cd)]).length = o2.length + 1 from by simp, show fts (o2 ++ [(num, cd)]) = fts o2 ++ [.int .i64 num, .int .i64 cd] from by simp [fts, ftC]]
                          exact h5
                        · rw [show (o2 ++ [(num, cd)]).length = o2.length + 1 from by simp]
                          exact unhid HF3
                      case measure => simp [intOf]; omega
                    · go_wp2_with fail
                      go_roundw
                      case rel =>
                        refine ⟨q + 1, o2, A6, c6, by omega, by go_num, rfl, ?_, unhid HO, unhid HBP, unhid HF⟩
                        rw [ho2, List.take_of_length_le (by omega), unhid HOE, unhid HFS, List.append_assoc]
                      case measure => simp [intOf]; omega
                · obtain rfl : q = R.length := by omega
                  have HRM := hid (rowM_eq (unhid HROW) (unhid HND))
                  go_wp2_with fail
                  go_roundw
                  case rel => exact ⟨1, A6, c6, o, by omega, by go_num, rfl, unhid HO, hbelz, fun h => absurd h (by omega), fun _ => ⟨by rw [unhid HOE, (unhid HK0) trivial, List.nil_append, ← unhid HRM], by rw [← unhid HRM]; exact unhid HROW⟩, fun h => absurd h (by omega)⟩
                  case measure => simp [intOf]
      · rw [show (((1 : Nat)) : Int) = 1 from rfl]
        go_wp2_with fail
        go_cut [12] (fun s12 wz => ∃ (B2 : Nat) (A7 : Option Addr) (R : List Mt) (c7 : Nat), s12 = .pointer (some ⟨B2, 0, none⟩) ∧ IsRow n hour (-1) l R ∧ wr.heap.size ≤ B2 ∧ Below wr.heap.size wr wz ∧ Rd wz A7 (mts R) ∧ (R ≠ [] → ∀ a, A7 = some a → a.block ≠ B2) ∧ (∀ a, A7 = some a → wr.heap.size ≤ a.block) ∧
          wz.heap[B2]? = some (.cells #[.int .i64 n, .slice A js.length c, .slice A7 R.length c7, .slice none 0 0, .slice none 0 0, .slice none 0 0] 107 (0, 0)))
        case first =>
          refine wp_region_noPanic ?_
          refine wp_region_E (S := fun w' => w'.cell? ⟨w.heap.size, 0, none⟩ = some (.int .i64 n) ∧ w'.cell? ⟨w.heap.size, 1, none⟩ = some (.slice A js.length c)) 8 9 rfl (by kernel_rfl) (by kernel_rfl) ⟨f0, f1⟩ ?_
          intro hSE
          (refine WE_take (i := 0) (v := ?_) rfl (by kernel_rfl) (by decide) (by kernel_rfl) (by kernel_rfl) (fun _ _ _ h => h) (by rfl) hSE ?_ ?_; rotate_left; (focus (intro w hSw; (try dsimp only at hSw); go_simp; (try with_reducible rfl))); simp only [Act.put, List.setIfInBounds_toArray, List.set_cons_zero, List.set_cons_succ])
          (refine WE_take (i := 1) (v := ?_) rfl (by kernel_rfl) (by decide) (by kernel_rfl) (by kernel_rfl) (fun _ _ _ h => h) (by rfl) hSE ?_ ?_; rotate_left; (focus (intro w hSw; (try dsimp only at hSw); go_simp; (try with_reducible rfl))); simp only [Act.put, List.setIfInBounds_toArray, List.set_cons_zero, List.set_cons_succ])
          (refine WE_take (i := 2) (v := ?_) rfl (by kernel_rfl) (by decide) (by kernel_rfl) (by kernel_rfl) (fun _ _ _ h => h) (by rfl) hSE ?_ ?_; rotate_left; (focus (intro w hSw; (try dsimp only at hSw); go_simp; (try with_reducible rfl))); simp only [Act.put, List.setIfInBounds_toArray, List.set_cons_zero, List.set_cons_succ])
          (refine WE_take (i := 3) (v := ?_) rfl (by kernel_rfl) (by decide) (by kernel_rfl) (by kernel_rfl) (fun _ _ _ h => h) (by rfl) hSE ?_ ?_; rotate_left; (focus (intro w hSw; (try dsimp only at hSw); go_simp; (try with_reducible rfl))); simp only [Act.put, List.setIfInBounds_toArray, List.set_cons_zero, List.set_cons_succ])
          (refine WE_take (i := 4) (v := ?_) rfl (by kernel_rfl) (by decide) (by kernel_rfl) (by kernel_rfl) (fun _ _ _ h => h) (by rfl) hSE ?_ ?_; rotate_left; (focus (intro w hSw; (try dsimp only at hSw); go_simp; (try with_reducible rfl))); simp only [Act.put, List.setIfInBounds_toArray, List.set_cons_zero, List.set_cons_succ])
          refine WE_two (i := 5) (j := 7) rfl rfl (by decide) (by decide) (by kernel_rfl) ?_ ?_
          · intro K hK
            go_simp
            go_at_call 49
            refine (rowOf_calls' n A js.length c A2 l c2 hour (-1) _ ((unhid HSr).below (Below.drew (Below.refl _ _))) (by omega) (by omega) (unhid HCH)).mono ?_
            rintro e w5 ⟨A7, c7, R, rfl, hrow, hrd, hb5, hf7⟩
            have hB5 : Below wr.heap.size wr w5 := (Below.drew (Below.refl _ _)).trans hb5
            refine hK.out _ _ ⟨(hB5.cell (p := ⟨w.heap.size, 0, none⟩) hBr).trans f0, (hB5.cell (p := ⟨w.heap.size, 1, none⟩) hBr).trans f1⟩ ?_
            clear hSE hK K
            intro hSE
            (try simp only [Act.put, List.setIfInBounds_toArray, List.set_cons_zero, List.set_cons_succ])
            have hB5s := hB5.size
            (refine WE_take (i := 6) (v := ?_) rfl (by kernel_rfl) (by decide) (by kernel_rfl) (by kernel_rfl) (fun _ _ _ h => h) (by rfl) hSE ?_ ?_; rotate_left; (focus (intro w hSw; (try dsimp only at hSw); go_simp; (try with_reducible rfl))); simp only [Act.put, List.setIfInBounds_toArray, List.set_cons_zero, List.set_cons_succ])
            (refine WE_one (i := 7) rfl (by decide) (by kernel_rfl) ?_; intro K hK)
            go_simp
            refine hK.out _ _ ⟨(World.cell?_alloc_lt w5 _ ⟨w.heap.size, 0, none⟩ (by dsimp only; omega)).trans ((hB5.cell (p := ⟨w.heap.size, 0, none⟩) hBr).trans f0), (World.cell?_alloc_lt w5 _ ⟨w.heap.size, 1, none⟩ (by dsimp only; omega)).trans ((hB5.cell (p := ⟨w.heap.size, 1, none⟩) hBr).trans f1)⟩ ?_
            clear hSE hK K
            intro hSE
            (try simp only [Act.put, List.setIfInBounds_toArray, List.set_cons_zero, List.set_cons_succ])
            (refine WE_last rfl (by kernel_rfl) (by kernel_rfl) (by kernel_rfl) ?_; intro K hK; go_simp; refine hK.out _ _ (NoPanic.normal ?_); clear hK K)
            go_wp2_with fail
            go_meet
            case rel => exact ⟨w5.heap.size, A7, R, c7, rfl, hrow, hB5s, hB5.alloc hB5s _, hrd.alloc _, fun hR a ha => (by
              obtain ⟨b, off, hA, hb, -⟩ := hrd (mts_ne (List.length_pos_iff.2 hR))
              rw [ha] at hA
              injection hA with hA
              subst hA
              exact Nat.ne_of_lt hb), fun a ha => hf7 a ha, heap_alloc_new w5 _⟩
          · intro K hK
            go_simp
            refine hK.out _ _ ⟨(World.cell?_alloc_lt wr _ ⟨w.heap.size, 0, none⟩ hBr).trans f0, (World.cell?_alloc_lt wr _ ⟨w.heap.size, 1, none⟩ hBr).trans f1⟩ ?_
            clear hSE hK K
            intro hSE
            (try simp only [Act.put, List.setIfInBounds_toArray, List.set_cons_zero, List.set_cons_succ])
            (refine WE_one (i := 5) rfl (by decide) (by kernel_rfl) ?_; intro K hK)
            go_simp
            go_at_call 49
            refine (rowOf_calls' n A js.length c A2 l c2 hour (-1) _ ((unhid HSr).below (Below.drew (below_alloc _ _))) (by omega) (by omega) (unhid HCH)).mono ?_
            rintro e w5 ⟨A7, c7, R, rfl, hrow, hrd, hb5, hf7⟩
            have hsz5 : (wr.alloc (.cells #[.int .i64 0, .slice none 0 0, .slice none 0 0, .slice none 0 0, .slice none 0 0, .slice none 0 0] 107)).drew.heap.size = wr.heap.size + 1 := by simp
            have hB5 : Below wr.heap.size wr w5 := (Below.drew (below_alloc _ _)).trans (hb5.mono (by rw [hsz5]; omega))
            have hzb : w5.heap[wr.heap.size]? = some (.cells #[.int .i64 0, .slice none 0 0, .slice none 0 0, .slice none 0 0, .slice none 0 0, .slice none 0 0] 107 (0, 0)) := by
              have h1 := hb5.block wr.heap.size (by rw [hsz5]; omega)
              exact h1.trans (heap_alloc_new wr _)
            have z0 : w5.cell? ⟨wr.heap.size, 0, none⟩ = some (.int .i64 0) := (cell_of_row _ wr.heap.size 0 _ _ _ hzb).trans rfl
            have zf0 := frozen_of_row _ wr.heap.size 0 _ _ hzb
            have z1 : w5.cell? ⟨wr.heap.size, 1, none⟩ = some (.slice none 0 0) := (cell_of_row _ wr.heap.size 1 _ _ _ hzb).trans rfl
            have zf1 := frozen_of_row _ wr.heap.size 1 _ _ hzb
            have z2 : w5.cell? ⟨wr.heap.size, 2, none⟩ = some (.slice none 0 0) := (cell_of_row _ wr.heap.size 2 _ _ _ hzb).trans rfl
            have zf2 := frozen_of_row _ wr.heap.size 2 _ _ hzb
            have z3 : w5.cell? ⟨wr.heap.size, 3, none⟩ = some (.slice none 0 0) := (cell_of_row _ wr.heap.size 3 _ _ _ hzb).trans rfl
            have zf3 := frozen_of_row _ wr.heap.size 3 _ _ hzb
            have z4 : w5.cell? ⟨wr.heap.size, 4, none⟩ = some (.slice none 0 0) := (cell_of_row _ wr.heap.size 4 _ _ _ hzb).trans rfl
            have zf4 := frozen_of_row _ wr.heap.size 4 _ _ hzb
            have z5 : w5.cell? ⟨wr.heap.size, 5, none⟩ = some (.slice none 0 0) := (cell_of_row _ wr.heap.size 5 _ _ _ hzb).trans rfl
            have zf5 := frozen_of_row _ wr.heap.size 5 _ _ hzb
            refine hK.out _ _ ⟨(hB5.cell (p := ⟨w.heap.size, 0, none⟩) hBr).trans f0, (hB5.cell (p := ⟨w.heap.size, 1, none⟩) hBr).trans f1⟩ ?_
            clear hSE hK K
            intro hSE
            (try simp only [Act.put, List.setIfInBounds_toArray, List.set_cons_zero, List.set_cons_succ])
            (refine WE_take (i := 6) (v := ?_) rfl (by kernel_rfl) (by decide) (by kernel_rfl) (by kernel_rfl) (fun _ _ _ h => h) (by rfl) hSE ?_ ?_; rotate_left; (focus (intro w hSw; (try dsimp only at hSw); go_simp; (try with_reducible rfl))); simp only [Act.put, List.setIfInBounds_toArray, List.set_cons_zero, List.set_cons_succ])
            (refine WE_last rfl (by kernel_rfl) (by kernel_rfl) (by kernel_rfl) ?_; intro K hK; go_simp; refine hK.out _ _ (NoPanic.normal ?_); clear hK K)
            go_wp2_with fail
            go_meet
            case rel =>
              have hRN := fun hR => rowNe hzb hrd hR
              refine ⟨wr.heap.size, A7, R, c7, rfl, hrow, Nat.le_refl _, ?_, ?_, hRN, fun a ha => (by have := hf7 a ha; rw [hsz5] at this; omega), ?_⟩
              · exact Below.setCell (Below.setCell (Below.setCell (Below.setCell (Below.setCell (Below.setCell hB5 (Nat.le_refl _) _) (Nat.le_refl _) _) (Nat.le_refl _) _) (Nat.le_refl _) _) (Nat.le_refl _) _) (Nat.le_refl _) _
              · intro hx
                have hR : R ≠ [] := fun e => hx (by rw [e]; rfl)
                obtain ⟨b, off, rfl, hb, hc⟩ := hrd hx
                have hbn := hRN hR _ rfl
                refine ⟨b, off, rfl, by simpa using hb, fun j u hu => ?_⟩
                rw [World.cell?_setCell_far _ _ _ _ (Ne.symm hbn), World.cell?_setCell_far _ _ _ _ (Ne.symm hbn), World.cell?_setCell_far _ _ _ _ (Ne.symm hbn), World.cell?_setCell_far _ _ _ _ (Ne.symm hbn), World.cell?_setCell_far _ _ _ _ (Ne.symm hbn), World.cell?_setCell_far _ _ _ _ (Ne.symm hbn)]
                exact hc j u hu
              · exact block_set_same (block_set_same (block_set_same (block_set_same (block_set_same (block_set_same hzb 0 _) 1 _) 2 _) 3 _) 4 _) 5 _
        case rest =>
          obtain ⟨N7, hN7⟩ : ∃ N7, N7 = wr.heap.size := ⟨_, rfl⟩
          have HN7 := hid hN7
          clear hN7
          obtain ⟨B2, A7, R, c7, rfl, hrow, hB2, hbw, hrd, hneR, hfr7, hblk⟩ := hcut
          have HFR7 := hid hfr7
          clear hfr7
          have HROW := hid hrow
          have HNE := hid hneR
          have HRO := hid (rowOk_of hrow (unhid HBD))
          have hRl : R.length ≤ 100 := by have := selP_len n hour (-1) l; have := hrow.perm.length_eq; omega
          have HRD := hid hrd
          clear f0 f1 hrow hneR hrd
          go_wp2_with fail
          go_loopw [38] (fun i wz => ∃ (t : Nat) (v1 v2 : Value), t ≤ 2 ∧ i = .int .i64 t ∧ Below wr.heap.size wr wz ∧ Rd wz A7 (mts R) ∧ wz.heap[B2]? = some (.cells #[.int .i64 n, .slice A js.length c, .slice A7 R.length c7, .slice none 0 0, v1, v2] 107 (0, 0)) ∧
            (1 ≤ t → ∃ (A4 : Option Addr) (c4 : Nat), v1 = .slice A4 (eventsP n js R (-1) 1).length c4 ∧ Rd wz A4 (evs (eventsP n js R (-1) 1)) ∧ ∀ a, A4 = some a → a.block ≠ B2 ∧ N7 ≤ a.block) ∧
            (2 ≤ t → ∃ (A5 : Option Addr) (c5 : Nat), v2 = .slice A5 (eventsP n js R (-1) 2).length c5 ∧ Rd wz A5 (evs (eventsP n js R (-1) 2)) ∧ ∀ a, A5 = some a → a.block ≠ B2 ∧ N7 ≤ a.block)) (fun i _ => 2 - (intOf i).toNat)
          case atStart => exact ⟨0, _, _, by omega, rfl, hbw, unhid HRD, hblk, fun h => absurd h (by omega), fun h => absurd h (by omega)⟩
          case round =>
            clear hbw hblk HRD
            obtain ⟨t, v1, v2, ht, rfl, hbz, hrdz, hblk, hv1, hv2⟩ := hrel
            have HRDz := hid hrdz
            have HV1 := hid hv1
            have HV2 := hid hv2
            have f0 := ((hbel.trans (hbz.mono hbel.size)).cell (p := ⟨w.heap.size, 0, none⟩) hB1).trans d0
            have f1 := ((hbel.trans (hbz.mono hbel.size)).cell (p := ⟨w.heap.size, 1, none⟩) hB1).trans d1
            have hBz : B2 < wr.heap.size := (Array.getElem?_eq_some_iff.1 hblk).1
            have y0 := (cell_of_row _ B2 0 _ _ _ hblk).trans (show _ = some _ from rfl)
            have y2 : wr.cell? ⟨B2, 2, none⟩ = some (.slice A7 R.length c7) := (cell_of_row _ B2 2 _ _ _ hblk).trans rfl
            clear hrdz hv1 hv2 y0
            rcases (show t = 0 ∨ t = 1 ∨ t = 2 by omega) with rfl | rfl | rfl
            · rw [show (((0 : Nat)) : Int) = 0 from rfl]
              have y4f := frozen_of_row _ B2 4 _ _ hblk
              go_wp2_with fail
              refine (events_calls n A js c A7 R c7 (-1) 1 _ ((unhid HLr).below hbz) (unhid HJ) (by omega) (unhid HRDz) (by omega) (unhid HRO)).mono ?_
              rintro e w5 ⟨A8, c8, rfl, hrd8, hf8, hb5⟩
              have hblk5 := (hb5.block B2 hBz).trans hblk
              have y4g := frozen_of_row _ B2 4 _ _ hblk5
              have y4h : w5.cell? ⟨B2, 4, none⟩ = some v1 := (cell_of_row _ B2 4 _ _ _ hblk5).trans rfl
              have HBK := hid hblk5
              have hbz5 := hbz.trans (hb5.mono hbz.size)
              have HR8 := hid hrd8
              have HF8 := hid (fun a (ha : A8 = some a) => (show a.block ≠ B2 ∧ N7 ≤ a.block from by have := hf8 a ha; have := hbz.size; have := unhid HN7; exact ⟨by omega, by omega⟩))
              have HRDz := hid ((unhid HRDz).below hb5)
              have HVV := hid (fun (h : 1 ≤ 0) => (show ∃ (A4 : Option Addr) (c4 : Nat), v1 = .slice A4 (eventsP n js R (-1) 1).length c4 ∧ Rd w5 A4 (evs (eventsP n js R (-1) 1)) ∧ ∀ a, A4 = some a → a.block ≠ B2 ∧ N7 ≤ a.block from by
                obtain ⟨A4, c4, g1, g2, g3⟩ := (unhid HV1) h
                exact ⟨A4, c4, g1, g2.below hb5, g3⟩))
              clear hrd8 hf8 hb5 hblk5
              go_wp2_with fail
              go_roundw
              case rel =>
                have hst : ∀ {A : Option Addr} {xs : List Value} (u : Value), Rd w5 A xs → (xs ≠ [] → ∀ a, A = some a → a.block ≠ B2) → Rd (w5.setCell ⟨B2, 4, none⟩ u) A xs := fun u h h2 hx => by
                  obtain ⟨b, off, rfl, hb, hc⟩ := h hx
                  refine ⟨b, off, rfl, by simpa using hb, fun j v hj => ?_⟩
                  rw [World.cell?_setCell_far _ _ _ _ (Ne.symm (h2 hx _ rfl))]
                  exact hc j v hj
                exact ⟨1, .slice A8 (eventsP n js R (-1) 1).length c8, v2, by omega, by go_num, Below.setCell hbz5 hB2 _, hst _ (unhid HRDz) (fun hx => unhid HNE (fun e => hx (by rw [e]; rfl))), block_set_same (unhid HBK) 4 _, fun _ => ⟨A8, c8, rfl, hst _ (unhid HR8) (fun _ a ha => (unhid HF8 a ha).1), unhid HF8⟩, fun h => absurd h (by omega)⟩
              case measure => simp [intOf]
            · rw [show (((1 : Nat)) : Int) = 1 from rfl]
              have y4f := frozen_of_row _ B2 5 _ _ hblk
              go_wp2_with fail
              refine (events_calls n A js c A7 R c7 (-1) 2 _ ((unhid HLr).below hbz) (unhid HJ) (by omega) (unhid HRDz) (by omega) (unhid HRO)).mono ?_
              rintro e w5 ⟨A8, c8, rfl, hrd8, hf8, hb5⟩
              have hblk5 := (hb5.block B2 hBz).trans hblk
              have y4g := frozen_of_row _ B2 5 _ _ hblk5
              have y4h : w5.cell? ⟨B2, 5, none⟩ = some v2 := (cell_of_row _ B2 5 _ _ _ hblk5).trans rfl
              have HBK := hid hblk5
              have hbz5 := hbz.trans (hb5.mono hbz.size)
              have HR8 := hid hrd8
              have HF8 := hid (fun a (ha : A8 = some a) => (show a.block ≠ B2 ∧ N7 ≤ a.block from by have := hf8 a ha; have := hbz.size; have := unhid HN7; exact ⟨by omega, by omega⟩))
              have HRDz := hid ((unhid HRDz).below hb5)
              have HVV := hid (fun (h : 1 ≤ 1) => (show ∃ (A4 : Option Addr) (c4 : Nat), v1 = .slice A4 (eventsP n js R (-1) 1).length c4 ∧ Rd w5 A4 (evs (eventsP n js R (-1) 1)) ∧ ∀ a, A4 = some a → a.block ≠ B2 ∧ N7 ≤ a.block from by
                obtain ⟨A4, c4, g1, g2, g3⟩ := (unhid HV1) h
                exact ⟨A4, c4, g1, g2.below hb5, g3⟩))
              clear hrd8 hf8 hb5 hblk5
              go_wp2_with fail
              go_roundw
              case rel =>
                have hst : ∀ {A : Option Addr} {xs : List Value} (u : Value), Rd w5 A xs → (xs ≠ [] → ∀ a, A = some a → a.block ≠ B2) → Rd (w5.setCell ⟨B2, 5, none⟩ u) A xs := fun u h h2 hx => by
                  obtain ⟨b, off, rfl, hb, hc⟩ := h hx
                  refine ⟨b, off, rfl, by simpa using hb, fun j v hj => ?_⟩
                  rw [World.cell?_setCell_far _ _ _ _ (Ne.symm (h2 hx _ rfl))]
                  exact hc j v hj
                obtain ⟨A4, c4, g1, g2, g3⟩ := (unhid HVV) (by omega)
                exact ⟨2, v1, .slice A8 (eventsP n js R (-1) 2).length c8, by omega, by go_num, Below.setCell hbz5 hB2 _, hst _ (unhid HRDz) (fun hx => unhid HNE (fun e => hx (by rw [e]; rfl))), block_set_same (unhid HBK) 5 _, fun _ => ⟨A4, c4, g1, hst _ g2 (fun _ a ha => (g3 a ha).1), g3⟩, fun _ => ⟨A8, c8, rfl, hst _ (unhid HR8) (fun _ a ha => (unhid HF8 a ha).1), unhid HF8⟩⟩
              case measure => simp [intOf]
            · obtain ⟨A4, c4, rfl, hrd4, hn4⟩ := (unhid HV1) (by omega)
              obtain ⟨A5, c5, rfl, hrd5, hn5⟩ := (unhid HV2) (by omega)
              have hL100 : L.length ≤ 100 := by
                rw [((unhid HK1) trivial).1]; have h1 := fltRow_len n js (rowM n hour 1 l) 1 (rowM n hour 1 l).length; have h2 := rowM_len n hour 1 l; omega
              rw [show (((2 : Nat)) : Int) = 2 from rfl]
              have hoS := own_below (unhid HO) hbz
              have hbwS : Below w1.heap.size w1 wr := hbel.trans (hbz.mono hbel.size)
              obtain ⟨gS, hgS⟩ : ∃ gS, gS = (Value.slice A6 L.length c6).ownBlock := ⟨_, rfl⟩
              have HGS := hid hgS
              have hownlt : ∀ g, gS = some g → g < N7 := fun g e => by rw [hgS] at e; have := (own_lt' (unhid HO) e).2; have := unhid HN7; omega
              have hNw : w.heap.size < N7 := by have := unhid HN7; omega
              have N4 := hid (fun a (h : A4 = some a) => (show a.block ≠ w.heap.size ∧ gS ≠ some a.block from by
                have h1 := (hn4 a h).2
                exact ⟨by omega, fun e => by have := hownlt _ e; omega⟩))
              have N5 := hid (fun a (h : A5 = some a) => (show a.block ≠ w.heap.size ∧ gS ≠ some a.block from by
                have h1 := (hn5 a h).2
                exact ⟨by omega, fun e => by have := hownlt _ e; omega⟩))
              have N7a := hid (fun a (h : A7 = some a) => (show a.block ≠ w.heap.size ∧ gS ≠ some a.block from by
                have h1 := unhid HFR7 a h
                have := unhid HN7
                exact ⟨by omega, fun e => by have := hownlt _ e; omega⟩))
              have NB2 := hid (show B2 ≠ w.heap.size ∧ gS ≠ some B2 from by
                have := unhid HN7
                exact ⟨by omega, fun e => by have := hownlt _ e; omega⟩)
              obtain ⟨wS, rfl⟩ : ∃ wS : World, wS = wr := ⟨_, rfl⟩
              have HF0 := hid (show GpFr wS wS w.heap.size gS (.slice A6 L.length c6) from ⟨Nat.le_refl _, fun _ _ _ _ => rfl, fun g hg => .inl (by rw [unhid HGS]; exact hg)⟩)
              have HOS := hid hoS
              have HR4 := hid hrd4
              have HR5 := hid hrd5
              have HBK := hid hblk
              have HBW := hid hbwS
              have HEV1 := hid (events_len n js R (-1) 1)
              have HEV2 := hid (events_len n js R (-1) 2)
              clear hgS hownlt hoS HO hn4 hn5 hrd4 hrd5 hblk hbwS HV1 HV2
              go_wp2_with fail
              go_loopw [9, 54] (fun v i wr => ∃ (q : Nat) (o : List (Int × Int)) (A6 : Option Addr) (c6 : Nat), q ≤ R.length ∧ i = .int .i64 q ∧ v = .slice A6 o.length c6 ∧ o = L ++ fltRow n js R (-1) q ∧ wr.ownsRow w1.heap.size 110 2 (.slice A6 o.length c6) o.length (fts o) ∧ Below w1.heap.size w1 wr ∧ GpFr wS wr w.heap.size gS (.slice A6 o.length c6)) (fun _ i _ => R.length - (intOf i).toNat)
              case atStart => exact ⟨0, L, A6, c6, Nat.zero_le _, rfl, rfl, by simp [fltRow], unhid HOS, unhid HBW, unhid HF0⟩
              case round =>
                clear HOS HF0
                obtain ⟨q, o, A6, c6, hq, rfl, rfl, ho, hown, hbelz, hF⟩ := hrel
                have holen : o.length ≤ 200 := by rw [ho, List.length_append]; have := fltRow_len n js R (-1) q; omega
                have HF := hid hF
                have HOE := hid ho
                have HO := hid hown
                clear ho hown hF f0 f1 y2
                by_cases hlt : q < R.length
                · have hr7 := (unhid HF).rd (unhid HRDz) (fun a h => (unhid N7a a h).1) (fun a h => (unhid N7a a h).2)
                  have HR7 := hid hr7
                  obtain ⟨b, off, rfl, hb, hc⟩ := hr7 (mts_ne hlt)
                  obtain ⟨m0, m1, m2, m3, m4, m5, m6, m7, m8, m9⟩ := mts_cells hc hlt
                  have hblkz := ((unhid HF).same B2 hBz (unhid NB2).1 (unhid NB2).2).trans (unhid HBK)
                  have hBzz : B2 < wr.heap.size := Nat.lt_of_lt_of_le hBz (unhid HF).size
                  have y0 := (cell_of_row _ B2 0 _ _ _ hblkz).trans (show _ = some _ from rfl)
                  have y1 := (cell_of_row _ B2 1 _ _ _ hblkz).trans (show _ = some _ from rfl)
                  have y2 := (cell_of_row _ B2 2 _ _ _ hblkz).trans (show _ = some _ from rfl)
                  have y3 := (cell_of_row _ B2 3 _ _ _ hblkz).trans (show _ = some _ from rfl)
                  have y4 := (cell_of_row _ B2 4 _ _ _ hblkz).trans (show _ = some _ from rfl)
                  have y5 := (cell_of_row _ B2 5 _ _ _ hblkz).trans (show _ = some _ from rfl)
                  clear hc hr7 hblkz
                  have HR4z := hid ((unhid HF).rd (unhid HR4) (fun a h => (unhid N4 a h).1) (fun a h => (unhid N4 a h).2))
                  have HR5z := hid ((unhid HF).rd (unhid HR5) (fun a h => (unhid N5 a h).1) (fun a h => (unhid N5 a h).2))
                  have HFS := hid (fltRow_succ n js R (-1) q)
                  have HCL := hid (codeH_len n js R (-1) q)
                  have HNA := hid (show numAt R q = R[q].s.num from by simp [numAt, List.getElem?_eq_getElem hlt])
                  go_wp2_with fail
                  refine (codes_calls n A js.length c _ R c7 A4 _ c4 A5 _ c5 q _ ((unhid HR7).below (below_alloc _ _)) ((unhid HR4z).below (below_alloc _ _)) ((unhid HR5z).below (below_alloc _ _)) (by have := unhid HEV1; omega) (by have := unhid HEV2; omega) (by omega) hlt (by omega) (unhid HRO)).mono ?_
                  rintro e w5 ⟨A8, c8, rfl, hrd8, hb5⟩
                  rw [codeP_codeH (unhid HRO) (row_dir (unhid HROW))] at hrd8 ⊢
                  have hb5w : Below wr.heap.size wr w5 := (below_alloc _ _).trans (hb5.mono (by simp))
                  have g0 : w5.cell? ⟨wr.heap.size, 0, none⟩ = some (.int .i64 R[q].s.num) := (hb5.cell (p := ⟨wr.heap.size, 0, none⟩) (by simp)).trans (by simp [go_sem])
                  have hB9 : wr.heap.size < w5.heap.size := Nat.lt_of_lt_of_le (by simp) hb5.size
                  have HO5 := hid (own_below (unhid HO) hb5w)
                  have HB5 := hid (hbelz.trans (hb5w.mono hbelz.size))
                  have HF5 := hid ((unhid HF).kept hb5w)
                  obtain ⟨cs, hcs⟩ : ∃ cs, cs = codeH n js R (-1) q := ⟨_, rfl⟩
                  rw [← hcs] at hrd8 HFS HCL ⊢
                  have hcl := unhid HCL
                  have HR8 := hid hrd8
                  obtain ⟨B9, hB9e⟩ : ∃ B9, B9 = wr.heap.size := ⟨_, rfl⟩
                  rw [← hB9e] at g0 hB9 ⊢
                  have hna := unhid HNA
                  rw [hna] at HFS
                  have hg := g0
                  generalize R[q].s.num = num at HFS hg
                  have HG := hid hg
                  have HB9e := hid hB9e
                  clear hb5 hb5w hrd8 hcs hna hg g0 HCL HNA m0 m1 m2 m3 m4 m5 m6 m7 m8 m9 y0 y1 y2 y3 y4 y5 hBzz HR4z HR5z HR7 hb hB9e HO HF
                  go_wp2_with fail
                  go_loopw [9, 63] (fun v i wr => ∃ (p : Nat) (o2 : List (Int × Int)) (A6 : Option Addr) (c6 : Nat), p ≤ cs.length ∧ i = .int .i64 p ∧ v = .slice A6 o2.length c6 ∧ o2 = o ++ (cs.take p).map (fun c => (num, c)) ∧ wr.ownsRow w1.heap.size 110 2 (.slice A6 o2.length c6) o2.length (fts o2) ∧ Below w1.heap.size w1 wr ∧ GpFr wS wr w.heap.size gS (.slice A6 o2.length c6) ∧ (p = 0 → Rd wr A8 (ints cs) ∧ wr.cell? ⟨B9, 0, none⟩ = some (.int .i64 num) ∧ B9 < wr.heap.size)) (fun _ i _ => cs.length - (intOf i).toNat)
                  case atStart => exact ⟨0, o, A6, c6, Nat.zero_le _, rfl, rfl, by simp, unhid HO5, unhid HB5, unhid HF5, fun _ => ⟨unhid HR8, unhid HG, hB9⟩⟩
                  case round =>
                    clear HO5 HB5 HF5 HR8 HG hB9
                    obtain ⟨p, o2, A6, c6, hp, rfl, rfl, ho2, hown, hbelp, hFp, hz⟩ := hrel
                    have HO := hid hown
                    have HF := hid hFp
                    have HBP := hid hbelp
                    clear hown hFp
                    by_cases hpt : p < cs.length
                    · obtain rfl : p = 0 := by omega
                      obtain ⟨hr8, g0, hB9⟩ := hz rfl
                      obtain rfl : o2 = o := by simpa using ho2
                      obtain ⟨b8, off8, rfl, hb8, hc8⟩ := hr8 (ints_ne (k := 0) hpt)
                      have z0 := hc8 0 _ (ints_at cs 0 hpt)
                      have HT := hid (show cs.take 1 = [cs[0]] from by rw [List.take_succ_eq_append_getElem hpt]; rfl)
                      generalize cs[0] = cd at z0 HT
                      rw [Nat.add_zero] at z0
                      rw [show (((0 : Nat)) : Int) = 0 from rfl]
                      clear hr8 hc8 hz ho2
                      go_wp2_with (at_builtin; refine wpList_append_lies _ rfl _ _ 49 rfl w1.heap.size 110 i0 (.agg #[.int .i64 0, .int .i64 0]) 2 16 Tryz.underlying49 hi hz0 hz1 hz2 rfl (by decide) _ _ _ rfl ((unhid HO).alloc _) ⟨wr.heap.size, 0, none⟩ 1 1 [.int .i64 num, .int .i64 cd] rfl rfl (World.news_of_block (cs := #[.int .i64 num, .int .i64 cd]) (t := 110) (fr := (0, 0)) (heap_alloc_new wr _)) ?_ (by decide) ?_ ?_ ?_ (wr.heap.size + 1) (by simp) ?_)
                      all_goals try (first | (unfold maxLen; omega) | omega | (have := hbelp.size; simp; omega) | exact ⟨rfl, rfl⟩ | (intro u hu; simp at hu; rcases hu with rfl | rfl <;> rfl))
                      intro g8 c8' w3 hown3 hg3 hat3 hlt8
                      have hb3 : Below w1.heap.size w1 w3 := by
                        refine Below.grown (hbelp.alloc hbelp.size _) hg3 (by have := hbelp.size; simp; omega) (fun i hi => ?_)
                        rcases Nat.lt_or_ge i w1.heap.size with h | h
                        · exact absurd hi (own_ne (unhid HO) (Or.inl h))
                        · exact h
                      have HF3 := hid ((unhid HF).append (v2 := .slice (some ⟨g8, 0, none⟩) (o2.length + 1) c8') hg3 (fun g hg => by
                        have e : g = g8 := by simpa [Value.ownBlock] using hg.symm
                        subst e
                        rcases hat3 with h | h
                        · exact .inl h
                        · exact .inr (by omega)))
                      have HO3 := hid hown3
                      clear hown3 hg3 hat3 hlt8 z0 g0
                      go_wp2_with fail
                      go_roundw
                      case rel =>
                        refine ⟨1, o2 ++ [(num, cd)], some ⟨g8, 0, none⟩, c8', by omega, by go_num, by simp, by rw [unhid HT]; rfl, ?_, hb3, ?_, fun h => absurd h (by omega)⟩
                        · have h5 := unhid HO3
                          rw [show (o2 ++ [(num, cd)]).length = o2.length + 1 from by simp, show fts (o2 ++ [(num, cd)]) = fts o2 ++ [.int .i64 num, .int .i64 cd] from by simp [fts, ftC]]
                          exact h5
                        · rw [show (o2 ++ [(num, cd)]).length = o2.length + 1 from by simp]
                          exact unhid HF3
                      case measure => simp [intOf]; omega
                    · go_wp2_with fail
                      go_roundw
                      case rel =>
                        refine ⟨q + 1, o2, A6, c6, by omega, by go_num, rfl, ?_, unhid HO, unhid HBP, unhid HF⟩
                        rw [ho2, List.take_of_length_le (by omega), unhid HOE, unhid HFS, List.append_assoc]
                      case measure => simp [intOf]; omega
                · obtain rfl : q = R.length := by omega
                  have HRM := hid (rowM_eq (unhid HROW) (unhid HND))
                  go_wp2_with fail
                  go_roundw
                  case rel => exact ⟨2, A6, c6, o, by omega, by go_num, rfl, unhid HO, hbelz, fun h => absurd h (by omega), fun h => absurd h (by omega), fun _ => ⟨by rw [unhid HOE, ((unhid HK1) trivial).1, fltAll, ← unhid HRM], ((unhid HK1) trivial).2, by rw [← unhid HRM]; exact unhid HROW⟩⟩
                  case measure => simp [intOf]
      · obtain ⟨hL, hr1, hr2⟩ := (unhid HK2) rfl
        have hbd := flt_bounds (js := js) hr1 hr2 (unhid HNU)
        have hln := flt_len (js := js) hr1 hr2
        rw [← hL] at hbd hln
        have KS := hid (sortFault_calls L hbd (.slice A6 L.length c6) w1.heap.size wr (unhid HO) (by omega))
        have HLF := hid hL
        have HR1 := hid hr1
        have HR2 := hid hr2
        clear hbd hL hr1 hr2
        rw [show (((2 : Nat)) : Int) = 2 from rfl]
        go_wp2_with fail
        refine (unhid KS).mono ?_
        rintro e w2 ⟨rfl, L2, hp, hs, hown2, hg⟩
        have hlen2 := hp.length_eq
        have hb2 : Below w1.heap.size w1 w2 := Below.grown hbel hg hbel.size (fun i hi => by
          rcases Nat.lt_or_ge i w1.heap.size with h | h
          · exact absurd hi (own_ne (unhid HO) (Or.inl h))
          · exact h)
        obtain ⟨A9, c9, hv9, hrd9, -⟩ := own_slice hown2
        injection hv9 with q1 q2 q3
        subst q1
        have HP := hid hp
        have HS2 := hid hs
        have HRD9 := hid hrd9
        clear hp hs hown2 hg hrd9
        go_wp2_with fail
        go_ret2
        exact ⟨A6, c6, L2, by rw [unhid HAL, hlen2]; rfl, fun _ => ⟨by rw [← show (fltAll n js l hour) = fltAll ((n : Int)).toNat js l hour from rfl, ← unhid HLF]; exact unhid HP, unhid HS2, unhid HR1, unhid HR2⟩, fun h => absurd (unhid HAL) h, unhid HRD9, by omega, hbw1.trans (hb2.mono hbw1.size)⟩
  · have h0' : (al != 0) = true := by simpa using h0
    have HAL := hid hal
    have H0 := hid h0
    clear hal h0
    go_wp2_with fail
    go_ret2
    exact ⟨none, 0, [], by rw [unhid HAL]; rfl, fun h => absurd ((unhid HAL).symm.trans h) (unhid H0), fun _ => rfl, Rd.nil _ _, by simp, hbw1⟩
end

section
theorem info_gap : (Tryz.prog.info? 74).map (fun i => (i.zero, i.size, i.bytes)) = some (some (.agg #[.int .i64 0, .int .i64 0, .int .i64 0, .int .i64 0, .int .i64 0, .int .i64 0]), 6, 48) := by kernel_rfl
theorem gps_ne {l : List Gp} {k : Nat} (h : k < l.length) : gps l ≠ [] := flat_ne (f := gpC) (K := 6) (fun _ => rfl) (by omega) h
theorem gps_at {l : List Gp} {k : Nat} (h : k < l.length) (j : Nat) (hj : j < 6) : (gps l)[k * 6 + j]? = (gpC l[k])[j]? := flat_at (f := gpC) (K := 6) (fun _ => rfl) l k j h hj
theorem lt_of_cell {w : World} {a : Addr} {v : Value} (h : w.cell? a = some v) : a.block < w.heap.size := by
  rcases Nat.lt_or_ge a.block w.heap.size with h1 | h1
  · exact h1
  · simp [World.cell?, Array.getElem?_eq_none h1] at h

set_option maxHeartbeats 8000000 in
set_option maxRecDepth 100000 in
theorem cmp_calls (n : Nat) (A : Option Addr) (js : List Int) (c : Nat) (A2 : Option Addr) (l : List Sg) (c2 : Nat) (A3 : Option Addr) (ed : List Ed) (c3 : Nat) (hour topic dir : Int) (bl bs be bh O : Nat) (w0 w : World) (out : List Gp) (Ao : Option Addr) (co : Nat)
    (hl : LnOk w0 A js) (hs : SgsOk w0 A2 l) (he : EdsOk w0 A3 ed) (hv : lineB n js = true) (hv2 : sgsB n js l = true) (hv3 : edsB n js ed = true)
    (st : CmpI w w0 bl bs be bh O #[.int .i64 n, .slice A js.length c] (.slice A2 l.length c2) (.slice A3 ed.length c3) (.int .i64 hour) out Ao co) (hol : out.length ≤ 1000000) :
    Calls Tryz.prog 68 #[.int .i64 topic, .int .i64 dir, .pointer (some ⟨bl, 0, none⟩), .pointer (some ⟨bs, 0, none⟩), .pointer (some ⟨bh, 0, none⟩), .pointer (some ⟨be, 0, none⟩), .pointer (some ⟨O, 0, none⟩)] w fun e w' =>
      e = .returned (.tuple #[]) ∧ ∃ (R : List Mt) (A' : Option Addr) (c' : Nat), IsRow n hour dir l R ∧
        CmpI w' w0 bl bs be bh O #[.int .i64 n, .slice A js.length c] (.slice A2 l.length c2) (.slice A3 ed.length c3) (.int .i64 hour) (gpRun topic dir out.length (holdS n js R dir topic) (mustS n ed hour dir topic) out n) A' c' := by
  have hlen2 := lineB_len hv
  have HJ := hid (lineB_mem hv)
  have HB := hid (sgsB_bounds hv2)
  have hl100 := sgsB_len hv2
  have HEB := hid (edsB_bounds hv3)
  have hl50 := edsB_len hv3
  have HEN := hid (edsB_nodup hv3)
  have HLw := hid (hl.below st.below)
  have HSw := hid (hs.below st.below)
  have HEw := hid (he.below st.below)
  clear hl hs he hv hv2 hv3
  obtain ⟨i0, hi, hz0, hz1, hz2⟩ := info_parts info_gap
  have l0 := cell_of_row _ bl 0 _ _ _ st.l
  have l1 := cell_of_row _ bl 1 _ _ _ st.l
  have s0 := cell_of_one st.s
  have e0 := cell_of_one st.e
  have h0 := cell_of_one st.h
  have o0 := cell_of_one st.o
  simp at l0 l1
  have b1 := st.ll
  have b2 := st.sl
  have b3 := st.el
  have b4 := st.hl
  have b5 := st.lt
  have ST := hid st
  clear st
  go_enter Tryz.func68, Tryz.ntmps68
  go_wp2_with fail
  go_region_held3 (fun w' => w'.cell? ⟨bl, 0, none⟩ = some (.int .i64 n) ∧ w'.cell? ⟨bl, 1, none⟩ = some (.slice A js.length c) ∧ w'.cell? ⟨bs, 0, none⟩ = some (.slice A2 l.length c2) ∧ w'.cell? ⟨be, 0, none⟩ = some (.slice A3 ed.length c3) ∧ w'.cell? ⟨bh, 0, none⟩ = some (.int .i64 hour) ∧ Below w.heap.size w w') (first | (refine ⟨?_, ?_, ?_, ?_, ?_, ?_⟩ <;> assumption) | (exact ⟨by assumption, by assumption, by assumption, by assumption, by assumption, Below.drew (Below.refl _ _)⟩) | go_keep)
    (first
      | (go_at_call 40; have hh := ‹_ ∧ _ ∧ _ ∧ _ ∧ _ ∧ Below w.heap.size w _›; refine (stripOf_calls n A js c A2 l c2 hour dir topic _ ((unhid HLw).below hh.2.2.2.2.2) (unhid HJ) hlen2.2 ((unhid HSw).below hh.2.2.2.2.2) (by omega) (unhid HB)).mono ?_; rintro e w2 ⟨A4, R, hrow, rfl, hrd4, hb2, hf4⟩; have hf4' : ∀ a, A4 = some a → w.heap.size ≤ a.block := (fun a ha => Nat.le_trans hh.2.2.2.2.2.size (hf4 a ha)); have hB2 := hh.2.2.2.2.2.trans (hb2.mono hh.2.2.2.2.2.size); have q0 := (hB2.cell (p := ⟨bl, 0, none⟩) (by dsimp only; omega)).trans l0; have q1 := (hB2.cell (p := ⟨bl, 1, none⟩) (by dsimp only; omega)).trans l1; have q2 := (hB2.cell (p := ⟨bs, 0, none⟩) (by dsimp only; omega)).trans s0; have q3 := (hB2.cell (p := ⟨be, 0, none⟩) (by dsimp only; omega)).trans e0; have q4 := (hB2.cell (p := ⟨bh, 0, none⟩) (by dsimp only; omega)).trans h0; clear hh)
      | (go_at_call 43; have hh := ‹_ ∧ _ ∧ _ ∧ _ ∧ _ ∧ Below w.heap.size w _›; refine (mustStrip_calls n A js.length c A3 ed c3 hour dir topic _ hlen2.2 ((unhid HEw).below hh.2.2.2.2.2).rd (by omega) (unhid HEB) (unhid HEN)).mono ?_; rintro e w3 ⟨A5, rfl, hrd5, hb2, hf5⟩; have hf5' : ∀ a, A5 = some a → w.heap.size ≤ a.block := (fun a ha => Nat.le_trans hh.2.2.2.2.2.size (hf5 a ha)); have hrd4 := hrd4.below hb2; have hB2 := hh.2.2.2.2.2.trans (hb2.mono hh.2.2.2.2.2.size); have q0 := (hB2.cell (p := ⟨bl, 0, none⟩) (by dsimp only; omega)).trans l0; have q1 := (hB2.cell (p := ⟨bl, 1, none⟩) (by dsimp only; omega)).trans l1; have q2 := (hB2.cell (p := ⟨bs, 0, none⟩) (by dsimp only; omega)).trans s0; have q3 := (hB2.cell (p := ⟨be, 0, none⟩) (by dsimp only; omega)).trans e0; have q4 := (hB2.cell (p := ⟨bh, 0, none⟩) (by dsimp only; omega)).trans h0; clear hh))
  have hh := ‹_ ∧ _ ∧ _ ∧ _ ∧ _ ∧ Below w.heap.size w _›
  have HST := hid ((unhid ST).kept hh.2.2.2.2.2)
  have hszS := hh.2.2.2.2.2.size
  clear hb2 hf4 hf5
  rw [strip_hold (rowOk_of hrow (unhid HB)) hrow.far] at hrd4
  have HROW := hid hrow
  clear hrow hh q0 q1 q2 q3 q4 l0 l1 s0 e0 h0 o0
  have HH4 := hid (show (holdS n js R dir topic).length = n from holdS_len _ _ _ _ _)
  have HH5 := hid (show (mustS n ed hour dir topic).length = n from mustS_len _ _ _ _ _)
  generalize hHS : holdS n js R dir topic = HS at *
  generalize hMS : mustS n ed hour dir topic = MS at *
  have HHS := hid hHS
  have HMS := hid hMS
  clear hHS hMS
  have HR4 := hid hrd4
  have HR5 := hid hrd5
  have hrl4 := unhid HH4
  have hrl5 := unhid HH5
  have F4 := hid hf4'
  have F5 := hid hf5'
  clear hrd4 hrd5 hf4' hf5' hB2 b5
  obtain ⟨wS, hwS⟩ : ∃ wS : World, wS = w3 := ⟨_, rfl⟩
  rw [← hwS]
  rw [← hwS] at HST HR4 HR5 hszS
  clear hwS
  have HO := hid (unhid HST).lt
  have HOw := hid (unhid ST).own
  have HLw2 := hid (unhid ST).lt
  have cO := cell_of_one (unhid HST).o
  obtain ⟨gS, hgS⟩ : ∃ gS, gS = (Value.slice Ao out.length co).ownBlock := ⟨_, rfl⟩
  have HGS := hid hgS
  have HF0 := hid (show GpFr wS wS O gS (.slice Ao out.length co) from ⟨Nat.le_refl _, fun _ _ _ _ => rfl, fun g hg => .inl (by rw [unhid HGS]; exact hg)⟩)
  clear hgS
  have N4 := hid (fun a (h : A4 = some a) => (show a.block ≠ O ∧ gS ≠ some a.block from by
    have h1 := unhid F4 a h
    have h2 := unhid HLw2
    refine ⟨by omega, fun e => ?_⟩
    rw [unhid HGS] at e
    have := (own_lt' (unhid HOw) e).2; omega))
  have N5 := hid (fun a (h : A5 = some a) => (show a.block ≠ O ∧ gS ≠ some a.block from by
    have h1 := unhid F5 a h
    have h2 := unhid HLw2
    refine ⟨by omega, fun e => ?_⟩
    rw [unhid HGS] at e
    have := (own_lt' (unhid HOw) e).2; omega))
  obtain ⟨out0, ho0⟩ : ∃ o, o = out := ⟨_, rfl⟩
  obtain ⟨F1, hF1⟩ : ∃ f, f = out.length := ⟨_, rfl⟩
  have HO0 := hid ho0
  have HF1 := hid hF1
  have hF1b : F1 ≤ 1000000 := by omega
  clear ho0 hF1 HLw HSw HEw
  go_wp2_with fail
  rw [← unhid HF1]
  clear cO
  go_loopw [30] (fun i wr => ∃ (k : Nat) (o : List Gp) (A6 : Option Addr) (c6 : Nat), k ≤ n ∧ i = .int .i64 k ∧ o = gpRun topic dir F1 HS MS out0 k ∧ CmpI wr w0 bl bs be bh O #[.int .i64 n, .slice A js.length c] (.slice A2 l.length c2) (.slice A3 ed.length c3) (.int .i64 hour) o A6 c6 ∧ GpFr wS wr O gS (.slice A6 o.length c6)) (fun i _ => n - (intOf i).toNat)
  case atStart => exact ⟨0, out, Ao, co, Nat.zero_le _, rfl, by rw [unhid HO0]; rfl, unhid HST, unhid HF0⟩
  case round =>
    obtain ⟨k, o, A6, c6, hk, rfl, ho, hI, hF⟩ := hrel
    have cO := cell_of_one hI.o
    have fo := free_of_one hI.o
    have holen := gpRun_len topic dir F1 HS MS out0 k
    rw [← ho] at holen
    have hol2 : out0.length = F1 := by rw [unhid HO0, unhid HF1]
    rw [hol2] at holen
    clear hol2
    have HI := hid hI
    have HF := hid hF
    have HOE := hid ho
    have hOl := hI.lt
    clear hI hF
    by_cases hlt : k < n
    · have HSC := hid (show gpRun topic dir F1 HS MS out0 (k + 1) = gpStep topic dir F1 o k (HS[k]'(by omega)) (MS[k]'(by omega)) from by rw [unhid HOE]; exact gpRun_succ topic dir F1 HS MS out0 k (by omega) (by omega))
      clear ho
      have hr4 : Rd wr A4 (ints HS) := (unhid HF).rd (unhid HR4) (fun a h => (unhid N4 a h).1) (fun a h => (unhid N4 a h).2)
      have hr5 : Rd wr A5 (ints MS) := (unhid HF).rd (unhid HR5) (fun a h => (unhid N5 a h).1) (fun a h => (unhid N5 a h).2)
      obtain ⟨b4, off4, rfl, hb4, hc4⟩ := hr4 (ints_ne (k := k) (by omega))
      obtain ⟨b5, off5, rfl, hb5, hc5⟩ := hr5 (ints_ne (k := k) (by omega))
      have c4 := hc4 k _ (ints_at HS k (by omega))
      have c5 := hc5 k _ (ints_at MS k (by omega))
      clear hc4 hc5
      generalize HS[k]'(by omega) = x at *
      generalize MS[k]'(by omega) = y at *
      by_cases hxy : x = y
      · have hxy' : (x == y) = true := by simpa using hxy
        have HNX := hid (show gpRun topic dir F1 HS MS out0 (k + 1) = o from by rw [unhid HSC, gpStep, if_pos hxy])
        have HXY := hid hxy
        clear hxy
        go_wp2_with fail
        go_quiet (fail)
        go_wp2_with fail
        go_roundw
        case rel => exact ⟨k + 1, o, A6, c6, by omega, by go_num, (unhid HNX).symm, (unhid HI).kept (below_drewN' (Below.refl _ _) nq), (unhid HF).drewN nq⟩
        case measure => simp [intOf]; omega
      · have hxy' : (x == y) = false := by simpa using hxy
        have HXY := hid hxy
        clear hxy
        go_wp2_with fail
        go_quiet (fail)
        have HI := hid ((unhid HI).kept (below_drewN' (Below.refl _ _) nq))
        have HF := hid ((unhid HF).drewN nq)
        have c4' : (wr.drewN nq).cell? ⟨b4, off4 + k, none⟩ = some (.int .i64 x) := c4
        have c5' : (wr.drewN nq).cell? ⟨b5, off5 + k, none⟩ = some (.int .i64 y) := c5
        have cO' : (wr.drewN nq).cell? ⟨O, 0, none⟩ = some (.slice A6 o.length c6) := cO
        have fo' : (wr.drewN nq).frozen? ⟨O, 0, none⟩ = false := fo
        clear c4 c5 cO fo hr4 hr5 hb4 hb5 hOl
        generalize wr.drewN nq = wx at *
        have c4 := c4'
        have c5 := c5'
        have cO := cO'
        have fo := fo'
        clear c4' c5' cO' fo'
        have hOl := (unhid HI).lt
        go_wp2_with fail
        go_cut [82] (fun s82 wz => ∃ tb : Bool, s82 = .bool tb ∧ (tb = true → ∃ q z, o.length = q + 1 ∧ o[q]? = some z ∧ z.to = (k : Int) ∧ gpRun topic dir F1 HS MS out0 (k + 1) = o.set q z.up) ∧ (tb = false → gpRun topic dir F1 HS MS out0 (k + 1) = o ++ [⟨topic, dir, k, k + 1, x, y⟩]) ∧ CmpI wz w0 bl bs be bh O #[.int .i64 n, .slice A js.length c] (.slice A2 l.length c2) (.slice A3 ed.length c3) (.int .i64 hour) o A6 c6 ∧ GpFr wS wz O gS (.slice A6 o.length c6) ∧ wz.cell? ⟨b4, off4 + k, none⟩ = some (.int .i64 x) ∧ wz.cell? ⟨b5, off5 + k, none⟩ = some (.int .i64 y) ∧ wz.cell? ⟨O, 0, none⟩ = some (.slice A6 o.length c6) ∧ wz.frozen? ⟨O, 0, none⟩ = false)
        case first =>
          by_cases hfl : F1 < o.length
          · have := decide_eq_true (show (F1 : Int) < (o.length : Int) by omega)
            obtain ⟨g, cg, hvv, hbg, hgs, hcells⟩ := own_some (unhid HI).own (by omega)
            injection hvv with hv1 hv2 hv3
            subst hv1 hv3
            obtain ⟨q, hq⟩ : ∃ q, o.length = q + 1 := ⟨o.length - 1, by omega⟩
            have HQ := hid hq
            have hq1 : IntKind.i64.wrap ((o.length : Int) - 1) = (o.length : Int) - 1 := IntWalk.i64_in _ (by omega)
            have hq2 : (0 : Int) ≤ (o.length : Int) - 1 := by omega
            have hq3 : ((o.length : Int) - 1).toNat = q := by omega
            have hq4 : (o.length : Int) - 1 < (o.length : Int) := by omega
            clear hq
            have t3 : wx.cell? ⟨g, q * 6 + 3, none⟩ = some (.int .i64 (o[q]'(by have := unhid HQ; omega)).to) := hcells _ _ (gps_at (by have := unhid HQ; omega) 3 (by omega))
            have t4 : wx.cell? ⟨g, q * 6 + 4, none⟩ = some (.int .i64 (o[q]'(by have := unhid HQ; omega)).has) := hcells _ _ (gps_at (by have := unhid HQ; omega) 4 (by omega))
            have t5 : wx.cell? ⟨g, q * 6 + 5, none⟩ = some (.int .i64 (o[q]'(by have := unhid HQ; omega)).should) := hcells _ _ (gps_at (by have := unhid HQ; omega) 5 (by omega))
            have tf := (unhid HI).own.frozenAt (q * 6 + 3)
            have HZE := hid (show o[q]? = some (o[q]'(by have := unhid HQ; omega)) from List.getElem?_eq_getElem _)
            have HLA := hid (show o.getLast? = some (o[q]'(by have := unhid HQ; omega)) by rw [List.getLast?_eq_getElem?, show o.length - 1 = q by have := unhid HQ; omega]; exact List.getElem?_eq_getElem _)
            clear hcells
            generalize hz : o[q]'(by have := unhid HQ; omega) = z at *
            have HZ := hid hz
            clear hz
            rcases (show (¬ z.to = k) ∨ (z.to = k ∧ ¬ z.has = x) ∨ (z.to = k ∧ z.has = x ∧ ¬ z.should = y) ∨ (z.to = k ∧ z.has = x ∧ z.should = y) by omega) with e | ⟨e, e2⟩ | ⟨e, e2, e3⟩ | ⟨e, e2, e3⟩
            · have a1 : (z.to == (k : Int)) = false := by simpa using e
              have HE := hid e
              clear e
              have HNX := (show gpRun topic dir F1 HS MS out0 (k + 1) = o ++ [⟨topic, dir, k, k + 1, x, y⟩] from by rw [unhid HSC]; exact gpStep_push (unhid HXY) (fun g hg => by rw [unhid HLA] at hg; injection hg with hg; subst hg; exact fun h => unhid HE h.2.1))
              go_wp2_with fail
              go_quiet (fail)
              go_wp2_with fail
              go_meet
              case rel => exact ⟨false, rfl, fun h => (Bool.noConfusion h), fun _ => HNX, (unhid HI).kept (below_drewN' (Below.refl _ _) nq), (unhid HF).drewN nq, c4, c5, cO, fo⟩
            · have a1 : (z.to == (k : Int)) = true := by simpa using e
              have a2 : (z.has == x) = false := by simpa using e2
              have HE := hid e2
              clear e e2
              have HNX := (show gpRun topic dir F1 HS MS out0 (k + 1) = o ++ [⟨topic, dir, k, k + 1, x, y⟩] from by rw [unhid HSC]; exact gpStep_push (unhid HXY) (fun g hg => by rw [unhid HLA] at hg; injection hg with hg; subst hg; exact fun h => unhid HE h.2.2.1))
              go_wp2_with fail
              go_quiet (fail)
              go_wp2_with fail
              go_meet
              case rel => exact ⟨false, rfl, fun h => (Bool.noConfusion h), fun _ => HNX, (unhid HI).kept (below_drewN' (Below.refl _ _) nq), (unhid HF).drewN nq, c4, c5, cO, fo⟩
            · have a1 : (z.to == (k : Int)) = true := by simpa using e
              have a2 : (z.has == x) = true := by simpa using e2
              have a3 : (z.should == y) = false := by simpa using e3
              have HE := hid e3
              clear e e2 e3
              have HNX := (show gpRun topic dir F1 HS MS out0 (k + 1) = o ++ [⟨topic, dir, k, k + 1, x, y⟩] from by rw [unhid HSC]; exact gpStep_push (unhid HXY) (fun g hg => by rw [unhid HLA] at hg; injection hg with hg; subst hg; exact fun h => unhid HE h.2.2.2))
              go_wp2_with fail
              go_quiet (fail)
              go_wp2_with fail
              go_meet
              case rel => exact ⟨false, rfl, fun h => (Bool.noConfusion h), fun _ => HNX, (unhid HI).kept (below_drewN' (Below.refl _ _) nq), (unhid HF).drewN nq, c4, c5, cO, fo⟩
            · have a1 : (z.to == (k : Int)) = true := by simpa using e
              have a2 : (z.has == x) = true := by simpa using e2
              have a3 : (z.should == y) = true := by simpa using e3
              have HNY := hid (show ∃ q z, o.length = q + 1 ∧ o[q]? = some z ∧ z.to = (k : Int) ∧ gpRun topic dir F1 HS MS out0 (k + 1) = o.set q z.up from ⟨q, z, unhid HQ, unhid HZE, e, by rw [unhid HSC]; exact gpStep_inc (unhid HXY) (unhid HQ) (unhid HZE) hfl e e2 e3⟩)
              clear e e2 e3
              have HNX := unhid HNY
              go_wp2_with fail
              go_quiet (fail)
              go_wp2_with fail
              go_meet
              case rel => exact ⟨true, rfl, fun _ => HNX, fun h => (Bool.noConfusion h), (unhid HI).kept (below_drewN' (Below.refl _ _) nq), (unhid HF).drewN nq, c4, c5, cO, fo⟩
          · have := decide_eq_false (show ¬ ((F1 : Int) < (o.length : Int)) by omega)
            have HNF := hid hfl
            have HNX := (show gpRun topic dir F1 HS MS out0 (k + 1) = o ++ [⟨topic, dir, k, k + 1, x, y⟩] from by rw [unhid HSC]; exact gpStep_push (unhid HXY) (fun g hg h => unhid HNF h.1))
            go_wp2_with fail
            go_quiet (fail)
            go_wp2_with fail
            go_meet
            case rel => exact ⟨false, rfl, fun h => (Bool.noConfusion h), fun _ => HNX, (unhid HI).kept (below_drewN' (Below.refl _ _) nq), (unhid HF).drewN nq, c4, c5, cO, fo⟩
        case rest =>
          obtain ⟨tb, rfl, hT, hN, hIz, hFz, r4, r5, ro, rf⟩ := hcut
          clear c4 c5 cO fo HI HF
          have hOz := hIz.lt
          have HI := hid hIz
          have HF := hid hFz
          clear hIz hFz hOl
          cases tb with
          | true =>
            obtain ⟨q1, z1, hq9, hz9, hto, HN9⟩ := hT rfl
            have HNX := hid HN9
            have HQ9 := hid hq9
            have HZ9 := hid hz9
            have hto' := hid hto
            clear HN9 hT hN hto hz9
            obtain ⟨g, cg, hvv, hbg, hgs, hcells⟩ := own_some (unhid HI).own (by omega)
            injection hvv with hv1 hv2 hv3
            subst hv1 hv3
            obtain ⟨q, hq⟩ : ∃ q, o.length = q + 1 := ⟨o.length - 1, by omega⟩
            have HQ := hid hq
            have hq1 : IntKind.i64.wrap ((o.length : Int) - 1) = (o.length : Int) - 1 := IntWalk.i64_in _ (by omega)
            have hq2 : (0 : Int) ≤ (o.length : Int) - 1 := by omega
            have hq3 : ((o.length : Int) - 1).toNat = q := by omega
            have hq4 : (o.length : Int) - 1 < (o.length : Int) := by omega
            clear hq
            have t3 : wc.cell? ⟨g, q * 6 + 3, none⟩ = some (.int .i64 (o[q]'(by have := unhid HQ; omega)).to) := hcells _ _ (gps_at (by have := unhid HQ; omega) 3 (by omega))
            have t4 : wc.cell? ⟨g, q * 6 + 4, none⟩ = some (.int .i64 (o[q]'(by have := unhid HQ; omega)).has) := hcells _ _ (gps_at (by have := unhid HQ; omega) 4 (by omega))
            have t5 : wc.cell? ⟨g, q * 6 + 5, none⟩ = some (.int .i64 (o[q]'(by have := unhid HQ; omega)).should) := hcells _ _ (gps_at (by have := unhid HQ; omega) 5 (by omega))
            have tf := (unhid HI).own.frozenAt (q * 6 + 3)
            have HZE := hid (show o[q]? = some (o[q]'(by have := unhid HQ; omega)) from List.getElem?_eq_getElem _)
            have HLA := hid (show o.getLast? = some (o[q]'(by have := unhid HQ; omega)) by rw [List.getLast?_eq_getElem?, show o.length - 1 = q by have := unhid HQ; omega]; exact List.getElem?_eq_getElem _)
            clear hcells
            generalize hz : o[q]'(by have := unhid HQ; omega) = z at *
            have HZ := hid hz
            clear hz
            obtain rfl : q1 = q := by have := unhid HQ; omega
            have e9 : z1 = z := by have := unhid HZE; rw [unhid HZ9] at this; injection this
            subst e9
            have hk2 : -9223372036854775808 ≤ z1.to + 1 ∧ z1.to + 1 ≤ 9223372036854775807 := by have := unhid hto'; omega
            go_wp2_with fail
            go_roundw
            case rel =>
              have h9 := (unhid HI).inc (unhid HF) (g := g) (q := q1) rfl (by have := unhid HQ; omega)
              rw [unhid HZ] at h9
              refine ⟨k + 1, o.set q1 z1.up, some ⟨g, 0, none⟩, c6, by omega, by go_num, (unhid HNX).symm, h9.1, by rw [List.length_set]; exact h9.2⟩
            case measure => simp [intOf]; omega
          | false =>
            have HNX := hid (hN rfl)
            clear hN hT
            have hk1 : IntKind.i64.wrap ((k : Int) + 1) = (k : Int) + 1 := IntWalk.i64_in _ (by omega)
            go_wp2_with fail
            have lb4 : b4 < wc.heap.size := lt_of_cell r4
            have lb5 : b5 < wc.heap.size := lt_of_cell r5
            have n4 : ¬ b4 = O := (unhid N4 _ rfl).1
            have n5 : ¬ b5 = O := (unhid N5 _ rfl).1
            have M4 := hid (show (Value.slice A6 o.length c6).ownBlock ≠ some b4 from fun e => by
              rcases (unhid HF).ob _ e with h | h
              · exact (unhid N4 _ rfl).2 h
              · obtain ⟨b', off', e', hb', -⟩ := (unhid HR4) (ints_ne (k := k) (by have := unhid HH4; omega))
                injection e' with e'; injection e' with e1 e2; omega)
            have M5 := hid (show (Value.slice A6 o.length c6).ownBlock ≠ some b5 from fun e => by
              rcases (unhid HF).ob _ e with h | h
              · exact (unhid N5 _ rfl).2 h
              · obtain ⟨b', off', e', hb', -⟩ := (unhid HR5) (ints_ne (k := k) (by have := unhid HH5; omega))
                injection e' with e'; injection e' with e1 e2; omega)
            refine wp_region_noPanic ?_
            refine wp_region_E (S := fun w' => w'.cell? ⟨O, 0, none⟩ = some (.slice A6 o.length c6) ∧ w'.cell? ⟨b4, off4 + k, none⟩ = some (.int .i64 x) ∧ w'.cell? ⟨b5, off5 + k, none⟩ = some (.int .i64 y)) 17 18 rfl (by kernel_rfl) (by kernel_rfl) ⟨ro, r4, r5⟩ ?_
            intro hSE
            (refine WE_take (i := 0) (v := ?_) rfl (by kernel_rfl) (by decide) (by kernel_rfl) (by kernel_rfl) (fun _ _ _ h => h) (by rfl) hSE ?_ ?_; rotate_left; (focus (intro w hSw; (try dsimp only at hSw); go_simp; (try with_reducible rfl))); simp only [Act.put, List.setIfInBounds_toArray, List.set_cons_zero, List.set_cons_succ])
            (refine WE_take (i := 1) (v := ?_) rfl (by kernel_rfl) (by decide) (by kernel_rfl) (by kernel_rfl) (fun _ _ _ h => h) (by rfl) hSE ?_ ?_; rotate_left; (focus (intro w hSw; (try dsimp only at hSw); go_simp; (try with_reducible rfl))); simp only [Act.put, List.setIfInBounds_toArray, List.set_cons_zero, List.set_cons_succ])
            (refine WE_take (i := 2) (v := ?_) rfl (by kernel_rfl) (by decide) (by kernel_rfl) (by kernel_rfl) (fun _ _ _ h => h) (by rfl) hSE ?_ ?_; rotate_left; (focus (intro w hSw; (try dsimp only at hSw); go_simp; (try with_reducible rfl))); simp only [Act.put, List.setIfInBounds_toArray, List.set_cons_zero, List.set_cons_succ])
            (refine WE_take (i := 3) (v := ?_) rfl (by kernel_rfl) (by decide) (by kernel_rfl) (by kernel_rfl) (fun _ _ _ h => h) (by rfl) hSE ?_ ?_; rotate_left; (focus (intro w hSw; (try dsimp only at hSw); go_simp; (try with_reducible rfl))); simp only [Act.put, List.setIfInBounds_toArray, List.set_cons_zero, List.set_cons_succ])
            (refine WE_take (i := 4) (v := ?_) rfl (by kernel_rfl) (by decide) (by kernel_rfl) (by kernel_rfl) (fun _ _ _ h => h) (by rfl) hSE ?_ ?_; rotate_left; (focus (intro w hSw; (try dsimp only at hSw); go_simp; (try with_reducible rfl))); simp only [Act.put, List.setIfInBounds_toArray, List.set_cons_zero, List.set_cons_succ])
            (refine WE_take (i := 5) (v := ?_) rfl (by kernel_rfl) (by decide) (by kernel_rfl) (by kernel_rfl) (fun _ _ _ h => h) (by rfl) hSE ?_ ?_; rotate_left; (focus (intro w hSw; (try dsimp only at hSw); go_simp; (try with_reducible rfl))); simp only [Act.put, List.setIfInBounds_toArray, List.set_cons_zero, List.set_cons_succ])
            (refine WE_take (i := 6) (v := ?_) rfl (by kernel_rfl) (by decide) (by kernel_rfl) (by kernel_rfl) (fun _ _ _ h => h) (by rfl) hSE ?_ ?_; rotate_left; (focus (intro w hSw; (try dsimp only at hSw); go_simp; (try with_reducible rfl))); simp only [Act.put, List.setIfInBounds_toArray, List.set_cons_zero, List.set_cons_succ])
            (refine WE_take (i := 7) (v := ?_) rfl (by kernel_rfl) (by decide) (by kernel_rfl) (by kernel_rfl) (fun _ _ _ h => h) (by rfl) hSE ?_ ?_; rotate_left; (focus (intro w hSw; (try dsimp only at hSw); go_simp; (try with_reducible rfl))); simp only [Act.put, List.setIfInBounds_toArray, List.set_cons_zero, List.set_cons_succ])
            (refine WE_take (i := 8) (v := ?_) rfl (by kernel_rfl) (by decide) (by kernel_rfl) (by kernel_rfl) (fun _ _ _ h => h) (by rfl) hSE ?_ ?_; rotate_left; (focus (intro w hSw; (try dsimp only at hSw); go_simp; (try with_reducible rfl))); simp only [Act.put, List.setIfInBounds_toArray, List.set_cons_zero, List.set_cons_succ])
            (refine WE_take (i := 9) (v := ?_) rfl (by kernel_rfl) (by decide) (by kernel_rfl) (by kernel_rfl) (fun _ _ _ h => h) (by rfl) hSE ?_ ?_; rotate_left; (focus (intro w hSw; (try dsimp only at hSw); go_simp; (try with_reducible rfl))); simp only [Act.put, List.setIfInBounds_toArray, List.set_cons_zero, List.set_cons_succ])
            (refine WE_take (i := 10) (v := ?_) rfl (by kernel_rfl) (by decide) (by kernel_rfl) (by kernel_rfl) (fun _ _ _ h => h) (by rfl) hSE ?_ ?_; rotate_left; (focus (intro w hSw; (try dsimp only at hSw); go_simp; (try with_reducible rfl))); simp only [Act.put, List.setIfInBounds_toArray, List.set_cons_zero, List.set_cons_succ])
            (refine WE_take (i := 11) (v := ?_) rfl (by kernel_rfl) (by decide) (by kernel_rfl) (by kernel_rfl) (fun _ _ _ h => h) (by rfl) hSE ?_ ?_; rotate_left; (focus (intro w hSw; (try dsimp only at hSw); go_simp; (try with_reducible rfl))); simp only [Act.put, List.setIfInBounds_toArray, List.set_cons_zero, List.set_cons_succ])
            (refine WE_take (i := 12) (v := ?_) rfl (by kernel_rfl) (by decide) (by kernel_rfl) (by kernel_rfl) (fun _ _ _ h => h) (by rfl) hSE ?_ ?_; rotate_left; (focus (intro w hSw; (try dsimp only at hSw); go_simp; (try with_reducible rfl))); simp only [Act.put, List.setIfInBounds_toArray, List.set_cons_zero, List.set_cons_succ])
            (refine WE_take (i := 13) (v := ?_) rfl (by kernel_rfl) (by decide) (by kernel_rfl) (by kernel_rfl) (fun _ _ _ h => h) (by rfl) hSE ?_ ?_; rotate_left; (focus (intro w hSw; (try dsimp only at hSw); go_simp; (try with_reducible rfl))); simp only [Act.put, List.setIfInBounds_toArray, List.set_cons_zero, List.set_cons_succ])
            (refine WE_take (i := 14) (v := ?_) rfl (by kernel_rfl) (by decide) (by kernel_rfl) (by kernel_rfl) (fun _ _ _ h => h) (by rfl) hSE ?_ ?_; rotate_left; (focus (intro w hSw; (try dsimp only at hSw); go_simp; (try with_reducible rfl))); simp only [Act.put, List.setIfInBounds_toArray, List.set_cons_zero, List.set_cons_succ])
            (refine WE_one (i := 15) rfl (by decide) (by kernel_rfl) ?_; intro K hK)
            go_simp
            refine hK.out _ _ ⟨(World.cell?_alloc_lt wc _ _ hOz).trans ro, (World.cell?_alloc_lt wc _ _ lb4).trans r4, (World.cell?_alloc_lt wc _ _ lb5).trans r5⟩ ?_
            clear hSE hK K
            intro hSE
            (try simp only [Act.put, List.setIfInBounds_toArray, List.set_cons_zero, List.set_cons_succ])
            (refine WE_one (i := 16) rfl (by decide) (by kernel_rfl) ?_; intro K hK)
            refine step_append_lies _ (by rfl) _ _ _ (by rfl) (O + 1) 74 i0 _ 6 48 Tryz.underlying57 hi hz0 hz1 hz2 rfl (by omega) (.slice A6 o.length c6) o.length (gps o) (by rfl) (((unhid HI).own.alloc (.cells #[.int .i64 topic, .int .i64 dir, .int .i64 k, .int .i64 (k + 1), .int .i64 x, .int .i64 y] 74)).drew) ⟨wc.heap.size, 0, none⟩ 1 1 [.int .i64 topic, .int .i64 dir, .int .i64 k, .int .i64 (k + 1), .int .i64 x, .int .i64 y] (by rfl) (by rfl) (World.news_of_block (cs := #[.int .i64 topic, .int .i64 dir, .int .i64 k, .int .i64 (k + 1), .int .i64 x, .int .i64 y]) (t := 74) (fr := (0, 0)) (heap_alloc_new wc _)) (by simp [Value.oneCell']) (by omega) (by unfold maxLen; omega) (by omega) (by simp; omega) (wc.heap.size + 1) (by simp) ?_; intro g3 cap3 w7 hown hg hat hlt3; have hO7 : w7.cell? ⟨O, 0, none⟩ = some (.slice A6 o.length c6) := (hg.cell_far ⟨O, 0, none⟩ (by simp; omega) (fun e => by have := own_lt' (unhid HI).own e.symm; dsimp only at this; omega)).trans ((World.cell?_alloc_lt wc _ _ hOz).trans ro); have hF7 : w7.frozen? ⟨O, 0, none⟩ = false := (hg.frozen_far ⟨O, 0, none⟩ (by simp; omega) (fun e => by have := own_lt' (unhid HI).own e.symm; dsimp only at this; omega)).trans ((World.frozen?_alloc_old wc _ ⟨O, 0, none⟩ (by dsimp only; omega)).trans rf); have q4 : w7.cell? ⟨b4, off4 + k, none⟩ = some (.int .i64 x) := (hg.cell_far ⟨b4, off4 + k, none⟩ (by simp; omega) (fun e => unhid M4 e.symm)).trans ((World.cell?_alloc_lt wc _ _ lb4).trans r4); have q5 : w7.cell? ⟨b5, off5 + k, none⟩ = some (.int .i64 y) := (hg.cell_far ⟨b5, off5 + k, none⟩ (by simp; omega) (fun e => unhid M5 e.symm)).trans ((World.cell?_alloc_lt wc _ _ lb5).trans r5)
            refine hK.out _ _ ⟨hO7, q4, q5⟩ ?_
            clear hSE hK K
            intro hSE
            (try simp only [Act.put, List.setIfInBounds_toArray, List.set_cons_zero, List.set_cons_succ])
            (refine WE_last rfl (by kernel_rfl) (by kernel_rfl) (by kernel_rfl) ?_; intro K hK; go_simp; refine hK.out _ _ (NoPanic.normal ?_); clear hK K)
            have HP := hid ((unhid HI).push (x := ⟨topic, dir, k, k + 1, x, y⟩) (unhid HF) hown (show (wc.alloc (.cells #[.int .i64 topic, .int .i64 dir, .int .i64 k, .int .i64 (k + 1), .int .i64 x, .int .i64 y] 74)).grownBy w7 _ from ⟨hg.os, hg.tape, hg.output, hg.size, hg.block⟩) (fun g hg' => by
              have e : g = g3 := by simpa [Value.ownBlock] using hg'.symm
              subst e
              rcases hat with h | h
              · exact .inl h
              · exact .inr (by omega)))
            clear hown hg hat ro rf
            go_wp2_with fail
            go_roundw
            case rel =>
              have h9 := unhid HP
              refine ⟨k + 1, o ++ [⟨topic, dir, k, k + 1, x, y⟩], some ⟨g3, 0, none⟩, cap3, by omega, by go_num, (unhid HNX).symm, h9.1, h9.2⟩
            case measure => simp [intOf]; omega
    · obtain rfl : k = n := by omega
      go_wp2_with fail
      go_end0
      refine ⟨rfl, R, A6, c6, unhid HROW, ?_⟩
      have h9 := unhid HI
      rw [unhid HOE, unhid HO0, unhid HF1, ← unhid HHS, ← unhid HMS] at h9
      exact h9
end

section
theorem box_blocks (w : World) (c1 c2 c3 c4 : Array Value) (t1 t2 t3 t4 : TypeId) :
    ((((w.alloc (.cells c1 t1)).alloc (.cells c2 t2)).alloc (.cells c3 t3)).alloc (.cells c4 t4)).heap[w.heap.size]? = some (.cells c1 t1 (0, 0)) ∧
    ((((w.alloc (.cells c1 t1)).alloc (.cells c2 t2)).alloc (.cells c3 t3)).alloc (.cells c4 t4)).heap[w.heap.size + 1]? = some (.cells c2 t2 (0, 0)) ∧
    ((((w.alloc (.cells c1 t1)).alloc (.cells c2 t2)).alloc (.cells c3 t3)).alloc (.cells c4 t4)).heap[w.heap.size + 2]? = some (.cells c3 t3 (0, 0)) ∧
    ((((w.alloc (.cells c1 t1)).alloc (.cells c2 t2)).alloc (.cells c3 t3)).alloc (.cells c4 t4)).heap[w.heap.size + 3]? = some (.cells c4 t4 (0, 0)) ∧
    Below w.heap.size w ((((w.alloc (.cells c1 t1)).alloc (.cells c2 t2)).alloc (.cells c3 t3)).alloc (.cells c4 t4)) ∧
    ((((w.alloc (.cells c1 t1)).alloc (.cells c2 t2)).alloc (.cells c3 t3)).alloc (.cells c4 t4)).heap.size = w.heap.size + 4 := by
  have s1 : (w.alloc (.cells c1 t1)).heap.size = w.heap.size + 1 := by simp
  have s2 : ((w.alloc (.cells c1 t1)).alloc (.cells c2 t2)).heap.size = w.heap.size + 2 := by simp
  have s3 : (((w.alloc (.cells c1 t1)).alloc (.cells c2 t2)).alloc (.cells c3 t3)).heap.size = w.heap.size + 3 := by simp
  refine ⟨?_, ?_, ?_, ?_, below_alloc' (below_alloc' (below_alloc' (below_alloc w _) _) _) _, by simp⟩
  · rw [Below.heap_alloc _ _ _ (by omega), Below.heap_alloc _ _ _ (by omega), Below.heap_alloc _ _ _ (by omega)]; exact heap_alloc_new w _
  · rw [Below.heap_alloc _ _ _ (by omega), Below.heap_alloc _ _ _ (by omega), ← s1]; exact heap_alloc_new _ _
  · rw [Below.heap_alloc _ _ _ (by omega), ← s2]; exact heap_alloc_new _ _
  · rw [← s3]; exact heap_alloc_new _ _

theorem allE_zero {len : Int} {js : List Int} {l : List Sg} {ed : List Ed} {hour : Int} (h : allE len js l ed hour = 0) : lineB len js = true ∧ sgsB len js l = true ∧ edsB len js ed = true ∧ 0 ≤ hour ∧ hour ≤ 10000000 := by
  unfold allE at h
  split at h
  · omega
  · rename_i h1
    split at h
    · omega
    · rename_i h2
      split at h
      · omega
      · rename_i h3
        split at h
        · rename_i h4
          exact ⟨by simpa using h1, by simpa using h2, by simpa using h3, h4.1, h4.2⟩
        · omega

set_option maxHeartbeats 4000000 in
set_option maxRecDepth 100000 in
theorem rcomp_calls (len : Int) (A : Option Addr) (js : List Int) (c : Nat) (A2 : Option Addr) (l : List Sg) (c2 : Nat) (A3 : Option Addr) (ed : List Ed) (c3 : Nat) (hour : Int) (w : World) (hl : LnOk w A js) (hs : SgsOk w A2 l) (he : EdsOk w A3 ed) :
    Calls Tryz.prog 30 #[.agg #[.int .i64 len, .slice A js.length c], .slice A2 l.length c2, .slice A3 ed.length c3, .int .i64 hour] w (CmpPost len js l ed hour w) := by
  have HL := hid hl
  have HS := hid hs
  have HE := hid he
  clear hl hs he
  go_enter Tryz.func30, Tryz.ntmps30
  go_wp2_with fail
  obtain ⟨d0, d1, d2, d3, hbw, hsz⟩ := box_blocks w #[.int .i64 len, .slice A js.length c] #[.slice A2 l.length c2] #[.slice A3 ed.length c3] #[.int .i64 hour] 24 25 26 3
  refine (all_calls len A js c A2 l c2 A3 ed c3 hour _ ((unhid HL).below hbw) ((unhid HS).below hbw) ((unhid HE).below hbw)).mono ?_
  rintro e w1 ⟨rfl, hb1⟩
  have g0 := (hb1.block w.heap.size (by omega)).trans d0
  have g1 := (hb1.block (w.heap.size + 1) (by omega)).trans d1
  have g2 := (hb1.block (w.heap.size + 2) (by omega)).trans d2
  have g3 := (hb1.block (w.heap.size + 3) (by omega)).trans d3
  have hbw1 : Below w.heap.size w w1 := hbw.trans (hb1.mono hbw.size)
  have hsz1 : w.heap.size + 4 ≤ w1.heap.size := by have := hb1.size; omega
  clear d0 d1 d2 d3 hb1 hbw hsz
  generalize hal : allE len js l ed hour = al
  by_cases h0 : al = 0
  · subst h0
    have hv := allE_zero hal
    have HAL := hid hal
    clear hal
    obtain ⟨n, rfl⟩ := Int.eq_ofNat_of_zero_le (show 0 ≤ len by have := (lineB_len hv.1).1; omega)
    have hn := (lineB_len hv.1).2
    have HV := hid hv
    clear hv
    have HG := hid (And.intro g0 (And.intro g1 (And.intro g2 g3)))
    clear g0 g1 g2 g3
    go_wp2_with fail
    have hI0 : CmpI (w1.alloc (.cells #[.slice none 0 0] 57)) w w.heap.size (w.heap.size + 1) (w.heap.size + 2) (w.heap.size + 3) w1.heap.size #[.int .i64 n, .slice A js.length c] (.slice A2 l.length c2) (.slice A3 ed.length c3) (.int .i64 hour) (gapsP n js l ed hour 0) none 0 := by
      obtain ⟨g0, g1, g2, g3⟩ := unhid HG
      refine ⟨?_, ?_, ?_, ?_, by omega, by omega, by omega, by omega, heap_alloc_new _ _, World.ownsRow_nil _ _ _ _, below_alloc' hbw1 _, by omega⟩
      · rw [Below.heap_alloc _ _ _ (by omega)]; exact g0
      · rw [Below.heap_alloc _ _ _ (by omega)]; exact g1
      · rw [Below.heap_alloc _ _ _ (by omega)]; exact g2
      · rw [Below.heap_alloc _ _ _ (by omega)]; exact g3
    refine (each_calls 68 _ (fun i w' => ∃ (A' : Option Addr) (c' : Nat), CmpI w' w w.heap.size (w.heap.size + 1) (w.heap.size + 2) (w.heap.size + 3) w1.heap.size #[.int .i64 n, .slice A js.length c] (.slice A2 l.length c2) (.slice A3 ed.length c3) (.int .i64 hour) (gapsP n js l ed hour i) A' c') (fun _ _ => by rfl) ?_ _ ⟨none, 0, hI0⟩).mono ?_
    · rintro i wi hi ⟨A5, c5, st⟩
      have hlen := gapsP_len n js l ed hour i
      have hlen2 : i * n ≤ 4 * 100000 := Nat.mul_le_mul (by omega) (by omega)
      refine (cmp_calls n A js c A2 l c2 A3 ed c3 hour (topI i) (dirI i) _ _ _ _ _ w wi _ A5 c5 (unhid HL) (unhid HS) (unhid HE) (unhid HV).1 (unhid HV).2.1 (unhid HV).2.2.1 st (by omega)).mono ?_
      rintro e w' ⟨rfl, R, A6, c6, hrow, h6⟩
      refine ⟨rfl, A6, c6, ?_⟩
      rw [gapsP_succ]
      have e := rowM_eq hrow (sgsB_nodup (unhid HV).2.1)
      subst e
      exact h6
    · rintro e w2 ⟨rfl, A5, c5, hI⟩
      have o2 := cell_of_one hI.o
      obtain ⟨A7, c7, hvv, hrd, -⟩ := own_slice hI.own
      injection hvv with hv1 hv2 hv3
      subst hv1 hv3
      have HRD := hid hrd
      have HBL := hid hI.below
      have hlen := gapsP_len n js l ed hour 4
      clear hI hrd hI0
      go_wp2_with fail
      go_ret2
      exact ⟨A5, c5, gapsP n js l ed hour 4, by rw [unhid HAL]; rfl, fun _ => rfl, fun h => absurd (unhid HAL) h, unhid HRD, by omega, unhid HBL⟩
  · have h0' : (al != 0) = true := by simpa using h0
    have HAL := hid hal
    have H0 := hid h0
    clear hal h0 g0 g1 g2 g3
    go_wp2_with fail
    go_ret2
    exact ⟨none, 0, [], by rw [unhid HAL]; rfl, fun h => absurd ((unhid HAL).symm.trans h) (unhid H0), fun _ => rfl, Rd.nil _ _, by simp, hbw1⟩
end

end Go.Proofs.YtmpngoejnmlmbaaGreat
