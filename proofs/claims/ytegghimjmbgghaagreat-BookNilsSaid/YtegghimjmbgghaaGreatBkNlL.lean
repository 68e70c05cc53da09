/-
  The law BookNils.
-/
import Derived.Test.YtegghimjmbgghaaGreatBkNd
import Derived.Test.YtegghimjmbgghaaGreatBkNk
import Derived.Test.YtegghimjmbgghaaGreatBkOr
import Derived.Test.YtegghimjmbgghaaGreatBkEq
import Derived.Deep.MidRow
import Derived.Deep.WholeRow
set_option linter.unusedSimpArgs false
set_option linter.unusedVariables false
namespace Go.Proofs.YtegghimjmbgghaaGreat
open Go.RowKit Go.Shelf

/-- What the law has at hand along the books. -/
structure NiI (w0 : World) (X B G : Nat) (r : Rc) (w : World) : Prop where
  b : Below w0.heap.size w0 w
  rx : w.heap[X]? = some (.cells (rcA r) 82 (0, 0))
  nb : w.heap[B]? = some (.cells #[.map none] 85 (0, 0))
  g : w.heap[G]? = some (.cells #[.pointer none, .pointer (some ⟨B, 0, none⟩)] 24 (0, 0))
theorem blk {w w' : World} {X : Nat} {o : Obj} (h : w.heap[X]? = some o) (hb : Below w.heap.size w w') : w'.heap[X]? = some o := (hb.block X (Array.getElem?_eq_some_iff.1 h).1).trans h
theorem NiI.below {w0 w w' : World} {X B G : Nat} {r : Rc} (h : NiI w0 X B G r w) (hb : Below w.heap.size w w') : NiI w0 X B G r w' := ⟨h.b.trans (hb.mono h.b.size), blk h.rx hb, blk h.nb hb, blk h.g hb⟩
theorem NiI.pick {w0 w : World} {X B G : Nat} {r : Rc} (h : NiI w0 X B G r w) {i : Nat} (hi : i < 2) : ∃ p, NoBk w p ∧ w.cell? ⟨G, i, none⟩ = some (.pointer p) := by
  have : i = 0 ∨ i = 1 := by omega
  rcases this with rfl | rfl
  · exact ⟨none, .inl rfl, cell_of_row _ G 0 _ _ _ h.g⟩
  · exact ⟨_, .inr ⟨B, rfl, h.nb⟩, cell_of_row _ G 1 _ _ _ h.g⟩
/-- Along the disks. -/
structure DiI (w0 : World) (B G : Nat) (w : World) : Prop where
  b : Below w0.heap.size w0 w
  nb : w.heap[B]? = some (.cells #[.bool false, .bool false, .slice none 0 0, .int .i64 0, .int .i64 0, .int .i64 0] 95 (0, 0))
  g : w.heap[G]? = some (.cells #[.pointer none, .pointer (some ⟨B, 0, none⟩)] 49 (0, 0))
theorem DiI.below {w0 w w' : World} {B G : Nat} (h : DiI w0 B G w) (hb : Below w.heap.size w w') : DiI w0 B G w' := ⟨h.b.trans (hb.mono h.b.size), blk h.nb hb, blk h.g hb⟩
theorem DiI.pick {w0 w : World} {B G : Nat} (h : DiI w0 B G w) {i : Nat} (hi : i < 2) : ∃ p, NoDk w p ∧ w.cell? ⟨G, i, none⟩ = some (.pointer p) := by
  have : i = 0 ∨ i = 1 := by omega
  rcases this with rfl | rfl
  · exact ⟨none, .inl rfl, cell_of_row _ G 0 _ _ _ h.g⟩
  · exact ⟨_, .inr ⟨B, rfl, h.nb⟩, cell_of_row _ G 1 _ _ _ h.g⟩
/-- Along the logs. -/
structure LiI (w0 : World) (B G : Nat) (w : World) : Prop where
  b : Below w0.heap.size w0 w
  nb : w.heap[B]? = some (.cells #[.pointer none, .int .i64 0, .bool false, .slice none 0 0] 100 (0, 0))
  g : w.heap[G]? = some (.cells #[.pointer none, .pointer (some ⟨B, 0, none⟩)] 55 (0, 0))
theorem LiI.below {w0 w w' : World} {B G : Nat} (h : LiI w0 B G w) (hb : Below w.heap.size w w') : LiI w0 B G w' := ⟨h.b.trans (hb.mono h.b.size), blk h.nb hb, blk h.g hb⟩
theorem LiI.pick {w0 w : World} {B G : Nat} (h : LiI w0 B G w) {i : Nat} (hi : i < 2) : ∃ p, NoLg w p ∧ w.cell? ⟨G, i, none⟩ = some (.pointer p) := by
  have : i = 0 ∨ i = 1 := by omega
  rcases this with rfl | rfl
  · exact ⟨none, .inl rfl, cell_of_row _ G 0 _ _ _ h.g⟩
  · exact ⟨_, .inr ⟨B, rfl, h.nb⟩, cell_of_row _ G 1 _ _ _ h.g⟩
theorem seven {w : World} {E : Nat} (h : w.heap[E]? = some (.cells #[.int .i64 2, .int .i64 2, .int .i64 2, .int .i64 2, .int .i64 2, .int .i64 2, .int .i64 2] 28 (0, 0))) {i : Nat} (hi : i < 7) : w.cell? ⟨E, i, none⟩ = some (.int .i64 2) := by
  have : i = 0 ∨ i = 1 ∨ i = 2 ∨ i = 3 ∨ i = 4 ∨ i = 5 ∨ i = 6 := by omega
  rcases this with rfl | rfl | rfl | rfl | rfl | rfl | rfl <;> exact cell_of_row _ E _ _ _ _ h

set_option maxHeartbeats 16000000 in
set_option maxRecDepth 100000 in
theorem lnils_calls (r : Rc) (l : List UInt8) (A : Option Addr) (c : Nat) (n : Int) (w : World) (hr : RcW r) (h : InOk w A l.length c (bys l) reachBytes) (hn : I64 n) :
    Calls Tryz.prog 6 #[.agg (rcA r), .slice A l.length c, .int .i64 n] w fun e w' => e = .returned (.bool true) ∧ Below w.heap.size w w' := by
  have hb0 := below_alloc w (.cells (rcA r) 82)
  have hx0 := heap_alloc_new w (.cells (rcA r) 82)
  clear h hr hn
  go_enter Tryz.func6, Tryz.ntmps6
  go_upto_region 1 with (fail)
  change Code.wp _ _ _ _ (w.alloc (.cells (rcA r) 82))
  obtain ⟨X, hX⟩ : ∃ X, X = w.heap.size := ⟨_, rfl⟩
  rw [← hX] at hx0 ⊢
  have HX := hid hx0
  have HB := hid hb0
  clear hX hx0 hb0
  generalize w.alloc (.cells (rcA r) 82) = W0 at *
  by_cases h1 : 100 < l.length
  · have hni : (100 : Int) < (l.length : Int) := by omega
    go_wp2_with fail
    refine (first_calls W0).mono ?_
    rintro e w9 ⟨rfl, hb9⟩
    have HB := hid ((unhid HB).trans (hb9.mono (unhid HB).size))
    clear hb9
    go_wp2_with fail
    go_ret
    exact ⟨rfl, unhid HB⟩
  · have hni : ¬ (100 : Int) < (l.length : Int) := by omega
    clear h1
    go_upto_region 4 with (fail)
    have hb1 := below_alloc W0 (.cells #[.map none] 85)
    have hz1 := heap_alloc_new W0 (.cells #[.map none] 85)
    have hs1 : (W0.alloc (.cells #[.map none] 85)).heap.size = W0.heap.size + 1 := by simp
    have hb2 := below_alloc (W0.alloc (.cells #[.map none] 85)) (.cells #[.pointer none, .pointer (some ⟨W0.heap.size, 0, none⟩)] 24)
    have hg2 := heap_alloc_new (W0.alloc (.cells #[.map none] 85)) (.cells #[.pointer none, .pointer (some ⟨W0.heap.size, 0, none⟩)] 24)
    rw [hs1] at hg2
    have HI := hid (⟨(unhid HB).trans ((hb1.trans (hb2.mono hb1.size)).mono (unhid HB).size), blk (blk (unhid HX) hb1) hb2, blk hz1 hb2, hg2⟩ : NiI w X W0.heap.size (W0.heap.size + 1) r _)
    obtain ⟨B, hB⟩ : ∃ B, B = W0.heap.size := ⟨_, rfl⟩
    obtain ⟨G, hG⟩ : ∃ G, G = W0.heap.size + 1 := ⟨_, rfl⟩
    rw [← hG, ← hB] at HI ⊢
    clear hb1 hz1 hs1 hb2 hg2 hB hG
    change Code.wp _ _ _ _ ((W0.alloc (.cells #[.map none] 85)).alloc (.cells #[.pointer none, .pointer (some ⟨B, 0, none⟩)] 24))
    generalize (W0.alloc (.cells #[.map none] 85)).alloc (.cells #[.pointer none, .pointer (some ⟨B, 0, none⟩)] 24) = W1 at *
    clear HB HX
    go_loopw [39] (fun iv wr => ∃ i : Nat, i ≤ 2 ∧ iv = .int .i64 i ∧ NiI w X B G r wr) (fun iv _ => 2 - (intOf iv).toNat)
    case atStart => exact ⟨0, by omega, rfl, unhid HI⟩
    case round =>
      clear HI
      obtain ⟨i, hi2, rfl, hi⟩ := hrel
      have HI := hid hi
      clear hi
      by_cases hlt : i < 2
      · have hki : (i : Int) < 2 := by omega
        have HW1 := hid (show wrap64 ((i : Int) + 1) = ((i + 1 : Nat) : Int) from by unfold wrap64; omega)
        have HI2 := hid (show i + 1 ≤ 2 from by omega)
        obtain ⟨p, hn, hc⟩ := (unhid HI).pick hlt
        have HN := hid hn
        clear hn
        go_upto_region 6 with (fail)
        clear hc
        go_wp2_with fail
        refine (bookNew_calls wr).mono ?_
        rintro e w1 ⟨rfl, -, hb⟩
        have HI := hid ((unhid HI).below hb)
        have HN := hid ((unhid HN).below hb)
        clear hb
        go_wp2_with fail
        refine (njoin_calls (some ⟨wr.heap.size + 1, 0, none⟩) p w1 (unhid HN)).mono ?_
        rintro e w2 ⟨rfl, hb⟩
        have HI := hid ((unhid HI).below hb)
        have HN := hid ((unhid HN).below hb)
        clear hb
        go_wp2_with fail
        refine (nvalues_calls 1 1 p w2 (unhid HN)).mono ?_
        rintro e w3 ⟨rfl, hb⟩
        have HI := hid ((unhid HI).below hb)
        have HN := hid ((unhid HN).below hb)
        clear hb
        go_wp2_with fail
        refine (nwrite_calls 1 0 1 1 n p w3 (unhid HN)).mono ?_
        rintro e w4 ⟨rfl, hb⟩
        have HI := hid ((unhid HI).below hb)
        have HN := hid ((unhid HN).below hb)
        clear hb
        go_upto_region 9 with (refine wpList_store_row rfl 82 _ _ rfl w4.heap.size (rcA rc0) rfl rfl 82 _ (heap_alloc_new w4 _) (rc_size rc0) rfl (rc_one rc0) ?_; rw [World.setRow_alloc_new])
        change Code.wp _ _ _ _ (w4.alloc (.cells (rcA rc0) 82))
        have hb := below_alloc w4 (.cells (rcA rc0) 82)
        have HQ := hid (heap_alloc_new w4 (.cells (rcA rc0) 82))
        have HI := hid ((unhid HI).below hb)
        have HN := hid ((unhid HN).below hb)
        obtain ⟨Q, hQ⟩ : ∃ Q, Q = w4.heap.size := ⟨_, rfl⟩
        rw [← hQ] at HQ ⊢
        clear hb hQ
        generalize w4.alloc (.cells (rcA rc0) 82) = w5 at *
        go_wp2_with fail
        refine (nhistory_calls 1 p w5 (unhid HN)).mono ?_
        rintro e w6 ⟨rfl, hb⟩
        have HI := hid ((unhid HI).below hb)
        have HN := hid ((unhid HN).below hb)
        have HQ := hid (blk (unhid HQ) hb)
        clear hb
        go_wp2_with fail
        refine (nasof_calls 0 p w6 (unhid HN)).mono ?_
        rintro e w7 ⟨rfl, hb⟩
        have HI := hid ((unhid HI).below hb)
        have HN := hid ((unhid HN).below hb)
        have HQ := hid (blk (unhid HQ) hb)
        clear hb
        go_wp2_with fail
        refine (bookNew_calls w7).mono ?_
        rintro e w8 ⟨rfl, hk8, hb⟩
        have HI := hid ((unhid HI).below hb)
        have HN := hid ((unhid HN).below hb)
        have HQ := hid (blk (unhid HQ) hb)
        have HK8 := hid hk8
        clear hk8 hb
        go_wp2_with fail
        refine (njoin2_calls p w8 (unhid HK8) (unhid HN)).mono ?_
        rintro e w9 ⟨rfl, hb⟩
        have HI := hid ((unhid HI).below hb)
        have HN := hid ((unhid HN).below hb)
        have HQ := hid (blk (unhid HQ) hb)
        clear HK8
        clear hb
        go_wp2_with (refine wpList_load_row rfl 82 _ rfl X rfl 82 (rcA r) (0, 0) _ (unhid HI).rx Tryz.underlying82 rfl (rc_size r) ?_)
        refine (nadd_calls r p w9 (unhid HN)).mono ?_
        rintro e w10 ⟨rfl, hb⟩
        have HI := hid ((unhid HI).below hb)
        have HN := hid ((unhid HN).below hb)
        have HQ := hid (blk (unhid HQ) hb)
        clear hb
        go_upto_region 13 with (fail)
        have hb := below_alloc w10 (.cells #[.int .i64 2, .int .i64 2, .int .i64 2, .int .i64 2, .int .i64 2, .int .i64 2, .int .i64 2] 28)
        have he := heap_alloc_new w10 (.cells #[.int .i64 2, .int .i64 2, .int .i64 2, .int .i64 2, .int .i64 2, .int .i64 2, .int .i64 2] 28)
        have HI := hid ((unhid HI).below hb)
        have HN := hid ((unhid HN).below hb)
        have HQ := hid (blk (unhid HQ) hb)
        obtain ⟨E, hE⟩ : ∃ E, E = w10.heap.size := ⟨_, rfl⟩
        rw [← hE] at he ⊢
        have HE := hid (fun i (hi : i < 7) => seven he hi)
        clear hb he hE
        change Code.wp _ _ _ _ (w10.alloc (.cells #[.int .i64 2, .int .i64 2, .int .i64 2, .int .i64 2, .int .i64 2, .int .i64 2, .int .i64 2] 28))
        generalize w10.alloc (.cells #[.int .i64 2, .int .i64 2, .int .i64 2, .int .i64 2, .int .i64 2, .int .i64 2, .int .i64 2] 28) = w11 at *
        go_loopw [87] (fun kv wr2 => ∃ k : Nat, k ≤ 7 ∧ kv = .int .i64 k ∧ w11 = wr2) (fun kv _ => 7 - (intOf kv).toNat)
        case atStart => exact ⟨0, by omega, rfl, rfl⟩
        case round =>
          obtain ⟨k, hk7, rfl, rfl⟩ := hrel
          by_cases hk : k < 7
          · have hki2 : (k : Int) < 7 := by omega
            have HW2 := hid (show wrap64 ((k : Int) + 1) = ((k + 1 : Nat) : Int) from by unfold wrap64; omega)
            have HK7 := hid (show k + 1 ≤ 7 from by omega)
            have hce := unhid HE k hk
            go_wp2_with fail
            go_roundw
            case rel => exact ⟨k + 1, unhid HK7, by first | go_num | rw [unhid HW2], by first | trivial | rfl⟩
            case measure => first | (simp [intOf]; done) | (simp [intOf]; omega) | (rw [unhid HW2]; simp [intOf]; omega)
          · obtain rfl : k = 7 := by omega
            rw [show ((7 : Nat) : Int) = 7 from rfl]
            clear hk7 hk
            have q0 := cell_of_row _ Q 0 _ _ _ (unhid HQ)
            have q1 := cell_of_row _ Q 1 _ _ _ (unhid HQ)
            have q2 := cell_of_row _ Q 2 _ _ _ (unhid HQ)
            have q3 := cell_of_row _ Q 3 _ _ _ (unhid HQ)
            have q4 := cell_of_row _ Q 4 _ _ _ (unhid HQ)
            have q5 := cell_of_row _ Q 5 _ _ _ (unhid HQ)
            have q6 := cell_of_row _ Q 6 _ _ _ (unhid HQ)
            have q7 := cell_of_row _ Q 7 _ _ _ (unhid HQ)
            have q8 := cell_of_row _ Q 8 _ _ _ (unhid HQ)
            have q9 := cell_of_row _ Q 9 _ _ _ (unhid HQ)
            have q10 := cell_of_row _ Q 10 _ _ _ (unhid HQ)
            have q11 := cell_of_row _ Q 11 _ _ _ (unhid HQ)
            have q12 := cell_of_row _ Q 12 _ _ _ (unhid HQ)
            have q13 := cell_of_row _ Q 13 _ _ _ (unhid HQ)
            simp only [rcA, rc0, List.getElem?_toArray, List.getElem?_cons_zero, List.getElem?_cons_succ] at q0 q1 q2 q3 q4 q5 q6 q7 q8 q9 q10 q11 q12 q13
            have hsn := eq_seen rc0 rc0
            simp only [rc0] at hsn
            go_wp2_with fail
            clear q0 q1 q2 q3 q4 q5 q6 q7 q8 q9 q10 q11 q12 q13 hsn
            refine (nrecords_calls p w11 (unhid HN)).mono ?_
            rintro e w12 ⟨rfl, hb⟩
            have HI := hid ((unhid HI).below hb)
            have HN := hid ((unhid HN).below hb)
            clear hb
            go_wp2_with fail
            refine (nwaiting_calls p w12 (unhid HN)).mono ?_
            rintro e w13 ⟨rfl, hb⟩
            have HI := hid ((unhid HI).below hb)
            have HN := hid ((unhid HN).below hb)
            clear hb
            go_wp2_with fail
            refine (nforks_calls p w13 (unhid HN)).mono ?_
            rintro e w14 ⟨rfl, hb⟩
            have HI := hid ((unhid HI).below hb)
            have HN := hid ((unhid HN).below hb)
            clear hb
            go_wp2_with fail
            refine (ndisputes_calls p w14 (unhid HN)).mono ?_
            rintro e w15 ⟨Ad, cd, rfl, hb⟩
            have HI := hid ((unhid HI).below hb)
            have HN := hid ((unhid HN).below hb)
            clear hb
            go_wp2_with fail
            refine (nsigns_calls p w15 (unhid HN)).mono ?_
            rintro e w16 ⟨As, cs, rfl, hb⟩
            have HI := hid ((unhid HI).below hb)
            have HN := hid ((unhid HN).below hb)
            clear hb
            go_wp2_with fail
            refine (ncopy_calls p w16 (unhid HN)).mono ?_
            rintro e w17 ⟨rfl, hb⟩
            have HI := hid ((unhid HI).below hb)
            have HN := hid ((unhid HN).below hb)
            clear hb
            go_wp2_with fail
            go_roundw
            case rel => exact ⟨i + 1, unhid HI2, by first | go_num | rw [unhid HW1], unhid HI⟩
            case measure => first | (simp [intOf]; done) | (simp [intOf]; omega) | (rw [unhid HW1]; simp [intOf]; omega)
      · obtain rfl : i = 2 := by omega
        rw [show ((2 : Nat) : Int) = 2 from rfl]
        have HB := hid (unhid HI).b
        clear hi2 hlt HI
        go_upto_region 22 with (fail)
        have hb1 := below_alloc wr (.cells #[.bool false, .bool false, .slice none 0 0, .int .i64 0, .int .i64 0, .int .i64 0] 95)
        have hz1 := heap_alloc_new wr (.cells #[.bool false, .bool false, .slice none 0 0, .int .i64 0, .int .i64 0, .int .i64 0] 95)
        have hs1 : (wr.alloc (.cells #[.bool false, .bool false, .slice none 0 0, .int .i64 0, .int .i64 0, .int .i64 0] 95)).heap.size = wr.heap.size + 1 := by simp
        have hb2 := below_alloc (wr.alloc (.cells #[.bool false, .bool false, .slice none 0 0, .int .i64 0, .int .i64 0, .int .i64 0] 95)) (.cells #[.pointer none, .pointer (some ⟨wr.heap.size, 0, none⟩)] 49)
        have hg2 := heap_alloc_new (wr.alloc (.cells #[.bool false, .bool false, .slice none 0 0, .int .i64 0, .int .i64 0, .int .i64 0] 95)) (.cells #[.pointer none, .pointer (some ⟨wr.heap.size, 0, none⟩)] 49)
        rw [hs1] at hg2
        have HI := hid (⟨(unhid HB).trans ((hb1.trans (hb2.mono hb1.size)).mono (unhid HB).size), blk hz1 hb2, hg2⟩ : DiI w wr.heap.size (wr.heap.size + 1) _)
        obtain ⟨B, hB⟩ : ∃ B, B = wr.heap.size := ⟨_, rfl⟩
        obtain ⟨G, hG⟩ : ∃ G, G = wr.heap.size + 1 := ⟨_, rfl⟩
        rw [← hG, ← hB] at HI ⊢
        clear hb1 hz1 hs1 hb2 hg2 hB hG HB
        change Code.wp _ _ _ _ ((wr.alloc (.cells #[.bool false, .bool false, .slice none 0 0, .int .i64 0, .int .i64 0, .int .i64 0] 95)).alloc (.cells #[.pointer none, .pointer (some ⟨B, 0, none⟩)] 49))
        generalize (wr.alloc (.cells #[.bool false, .bool false, .slice none 0 0, .int .i64 0, .int .i64 0, .int .i64 0] 95)).alloc (.cells #[.pointer none, .pointer (some ⟨B, 0, none⟩)] 49) = W1 at *
        go_loopw [147] (fun iv wr => ∃ i : Nat, i ≤ 2 ∧ iv = .int .i64 i ∧ DiI w B G wr) (fun iv _ => 2 - (intOf iv).toNat)
        case atStart => exact ⟨0, by omega, rfl, unhid HI⟩
        case round =>
          clear HI
          obtain ⟨i, hi2, rfl, hi⟩ := hrel
          have HI := hid hi
          clear hi
          by_cases hlt : i < 2
          · have hki : (i : Int) < 2 := by omega
            have HW1 := hid (show wrap64 ((i : Int) + 1) = ((i + 1 : Nat) : Int) from by unfold wrap64; omega)
            have HI2 := hid (show i + 1 ≤ 2 from by omega)
            obtain ⟨p, hn, hc⟩ := (unhid HI).pick hlt
            have HN := hid hn
            clear hn
            go_upto_region 24 with (fail)
            clear hc
            go_wp2_with fail
            refine (darm_calls n p wr (unhid HN)).mono ?_
            rintro e w1 ⟨rfl, hb⟩
            have HI := hid ((unhid HI).below hb)
            have HN := hid ((unhid HN).below hb)
            clear hb
            go_wp2_with fail
            refine (dcrash_calls n p w1 (unhid HN)).mono ?_
            rintro e w2 ⟨rfl, hb⟩
            have HI := hid ((unhid HI).below hb)
            have HN := hid ((unhid HN).below hb)
            clear hb
            go_wp2_with fail
            refine (dread_calls p w2 (unhid HN)).mono ?_
            rintro e w3 ⟨rfl, hb⟩
            have HI := hid ((unhid HI).below hb)
            have HN := hid ((unhid HN).below hb)
            clear hb
            go_wp2_with fail
            refine (dopen_calls p w3 (unhid HN)).mono ?_
            rintro e w4 ⟨rfl, hb⟩
            have HI := hid ((unhid HI).below hb)
            have HN := hid ((unhid HN).below hb)
            clear hb
            go_wp2_with fail
            refine (dappend_calls A l.length c p w4 (unhid HN)).mono ?_
            rintro e w5 ⟨rfl, hb⟩
            have HI := hid ((unhid HI).below hb)
            have HN := hid ((unhid HN).below hb)
            clear hb
            go_wp2_with fail
            refine (dsync_calls p w5 (unhid HN)).mono ?_
            rintro e w6 ⟨rfl, hb⟩
            have HI := hid ((unhid HI).below hb)
            have HN := hid ((unhid HN).below hb)
            clear hb
            go_wp2_with fail
            refine (dcut_calls n p w6 (unhid HN)).mono ?_
            rintro e w7 ⟨rfl, hb⟩
            have HI := hid ((unhid HI).below hb)
            have HN := hid ((unhid HN).below hb)
            clear hb
            go_wp2_with fail
            refine (ddown_calls p w7 (unhid HN)).mono ?_
            rintro e w8 ⟨rfl, hb⟩
            have HI := hid ((unhid HI).below hb)
            have HN := hid ((unhid HN).below hb)
            clear hb
            go_wp2_with fail
            refine (dcopy_calls p w8 (unhid HN)).mono ?_
            rintro e w9 ⟨rfl, hb⟩
            have HI := hid ((unhid HI).below hb)
            have HN := hid ((unhid HN).below hb)
            clear hb
            go_wp2_with fail
            go_roundw
            case rel => exact ⟨i + 1, unhid HI2, by first | go_num | rw [unhid HW1], unhid HI⟩
            case measure => first | (simp [intOf]; done) | (simp [intOf]; omega) | (rw [unhid HW1]; simp [intOf]; omega)
          · obtain rfl : i = 2 := by omega
            rw [show ((2 : Nat) : Int) = 2 from rfl]
            have HB := hid (unhid HI).b
            clear hi2 hlt HI
            go_upto_region 32 with (fail)
            have hb1 := below_alloc wr (.cells #[.pointer none, .int .i64 0, .bool false, .slice none 0 0] 100)
            have hz1 := heap_alloc_new wr (.cells #[.pointer none, .int .i64 0, .bool false, .slice none 0 0] 100)
            have hs1 : (wr.alloc (.cells #[.pointer none, .int .i64 0, .bool false, .slice none 0 0] 100)).heap.size = wr.heap.size + 1 := by simp
            have hb2 := below_alloc (wr.alloc (.cells #[.pointer none, .int .i64 0, .bool false, .slice none 0 0] 100)) (.cells #[.pointer none, .pointer (some ⟨wr.heap.size, 0, none⟩)] 55)
            have hg2 := heap_alloc_new (wr.alloc (.cells #[.pointer none, .int .i64 0, .bool false, .slice none 0 0] 100)) (.cells #[.pointer none, .pointer (some ⟨wr.heap.size, 0, none⟩)] 55)
            rw [hs1] at hg2
            have HI := hid (⟨(unhid HB).trans ((hb1.trans (hb2.mono hb1.size)).mono (unhid HB).size), blk hz1 hb2, hg2⟩ : LiI w wr.heap.size (wr.heap.size + 1) _)
            obtain ⟨B, hB⟩ : ∃ B, B = wr.heap.size := ⟨_, rfl⟩
            obtain ⟨G, hG⟩ : ∃ G, G = wr.heap.size + 1 := ⟨_, rfl⟩
            rw [← hG, ← hB] at HI ⊢
            clear hb1 hz1 hs1 hb2 hg2 hB hG HB
            change Code.wp _ _ _ _ ((wr.alloc (.cells #[.pointer none, .int .i64 0, .bool false, .slice none 0 0] 100)).alloc (.cells #[.pointer none, .pointer (some ⟨B, 0, none⟩)] 55))
            generalize (wr.alloc (.cells #[.pointer none, .int .i64 0, .bool false, .slice none 0 0] 100)).alloc (.cells #[.pointer none, .pointer (some ⟨B, 0, none⟩)] 55) = W1 at *
            go_loopw [214] (fun iv wr => ∃ i : Nat, i ≤ 2 ∧ iv = .int .i64 i ∧ LiI w B G wr) (fun iv _ => 2 - (intOf iv).toNat)
            case atStart => exact ⟨0, by omega, rfl, unhid HI⟩
            case round =>
              clear HI
              obtain ⟨i, hi2, rfl, hi⟩ := hrel
              have HI := hid hi
              clear hi
              by_cases hlt : i < 2
              · have hki : (i : Int) < 2 := by omega
                have HW1 := hid (show wrap64 ((i : Int) + 1) = ((i + 1 : Nat) : Int) from by unfold wrap64; omega)
                have HI2 := hid (show i + 1 ≤ 2 from by omega)
                obtain ⟨p, hn, hc⟩ := (unhid HI).pick hlt
                have HN := hid hn
                clear hn
                go_upto_region 34 with (fail)
                clear hc
                go_wp2_with fail
                refine (lentries_calls p wr (unhid HN)).mono ?_
                rintro e w1 ⟨rfl, hb⟩
                have HI := hid ((unhid HI).below hb)
                have HN := hid ((unhid HN).below hb)
                clear hb
                go_wp2_with fail
                refine (lput_calls A l.length c p w1 (unhid HN)).mono ?_
                rintro e w2 ⟨rfl, hb⟩
                have HI := hid ((unhid HI).below hb)
                have HN := hid ((unhid HN).below hb)
                clear hb
                go_wp2_with fail
                go_roundw
                case rel => exact ⟨i + 1, unhid HI2, by first | go_num | rw [unhid HW1], unhid HI⟩
                case measure => first | (simp [intOf]; done) | (simp [intOf]; omega) | (rw [unhid HW1]; simp [intOf]; omega)
              · obtain rfl : i = 2 := by omega
                rw [show ((2 : Nat) : Int) = 2 from rfl]
                have HB := hid (unhid HI).b
                clear hi2 hlt HI
                go_wp2_with fail
                refine (first_calls wr).mono ?_
                rintro e w9 ⟨rfl, hb9⟩
                have HB := hid ((unhid HB).trans (hb9.mono (unhid HB).size))
                clear hb9
                go_wp2_with fail
                go_ret
                exact ⟨rfl, unhid HB⟩

end Go.Proofs.YtegghimjmbgghaaGreat
