/-
  The law FaceCovers.
-/
import Derived.Test.YtmagidoodlkeoaaGreatDoorFcLw
import Derived.Test.YtmagidoodlkeoaaGreatDoorFcSm
import Derived.Test.YtmagidoodlkeoaaGreatDoorFcLk
import Derived.Test.YtmagidoodlkeoaaGreatDoorFcAe
import Derived.Test.YtmagidoodlkeoaaGreatDoorAnyE
set_option linter.unusedSimpArgs false
set_option linter.unusedVariables false
namespace Go.Proofs.YtmagidoodlkeoaaGreatDoor
open Go.RowKit

/-- Two operations may come up. -/
theorem WE_two2 {P : Program} {l : List Oper} {Q : Exit → Act → World → Prop} {md : Region.Mode} {S : World → Prop} {s i j : Nat} {o o' : Oper} {f : Nat} {listed : Array Bool} {a : Act} {w : World} (hi : l[i]? = some o) (hj : l[j]? = some o') (his : i < s) (hjs : j < s) (hr : Region.ready md l.toArray listed = [i, j])
    (h : ∀ K : Act → World → Prop, Shut (∀ a w, S w → (S w → WE P md l Q S s f (listed.setIfInBounds i true) a w) → K a w) → if Region.wanted o (yielded l.toArray a.tmps) = true then Oper.wp P o a w K Q else K (a.put o.dst undef) w)
    (h' : ∀ K : Act → World → Prop, Shut (∀ a w, S w → (S w → WE P md l Q S s f (listed.setIfInBounds j true) a w) → K a w) → if Region.wanted o' (yielded l.toArray a.tmps) = true then Oper.wp P o' a w K Q else K (a.put o'.dst undef) w) :
    WE P md l Q S s (f + 1) listed a w := fun inv => by
  have hi' : l.toArray[i]? = some o := by simpa using hi
  have hj' : l.toArray[j]? = some o' := by simpa using hj
  have hmi : i ∈ Region.ready md l.toArray listed := by rw [hr]; simp
  have hmj : j ∈ Region.ready md l.toArray listed := by rw [hr]; simp
  refine ⟨fun h => (by rw [h] at hr; cases hr), fun q hq => ?_⟩
  rw [hr] at hq
  rcases (show q = i ∨ q = j from by simpa using hq) with rfl | rfl
  · exact wpOp_step hi' (fun K hK => h K (fun a w hS hW => hK a w ⟨fun _ => hS, hW hS (inv.set hmi his)⟩))
  · exact wpOp_step hj' (fun K hK => h' K (fun a w hS hW => hK a w ⟨fun _ => hS, hW hS (inv.set hmj hjs)⟩))

theorem over_valid {f : Fc} (h : fcB f = true) (h6 : f.items.length ≤ 6) {x : It} (hx : itB x = true) : fcB ⟨f.shape, f.size, f.height, f.items ++ [x]⟩ = true ∧ fcB ⟨f.shape, f.size, f.height, [x]⟩ = true := by
  simp only [fcB, Bool.and_eq_true, decide_eq_true_eq] at h ⊢
  obtain ⟨⟨⟨⟨h1, h2⟩, h3⟩, h4⟩, h5⟩ := h
  exact ⟨⟨⟨⟨⟨h1, h2⟩, by simp; omega⟩, h4⟩, by simp [List.all_append, hx]; simpa using h5⟩, ⟨⟨⟨h1, h2⟩, by simp⟩, h4⟩, by simp [hx]⟩
def fieldI (c : Int) : It := ⟨1, c, 0, 0, 0, 0, []⟩
theorem field_valid {c : Int} (h : 1 ≤ c ∧ c ≤ 8) : itB (fieldI c) = true := by
  simp [itB, fieldI, useB, h.1, h.2]
theorem look_over (f : Fc) {x : It} (hx : x.kind = 1) : lookB ⟨f.shape, f.size, f.height, f.items ++ [x]⟩ ⟨f.shape, f.size, f.height, [x]⟩ = true :=
  look_true (f := ⟨f.shape, f.size, f.height, f.items ++ [x]⟩) rfl rfl (fun n _ => col_field (f := f) x hx _ _)
theorem look_trim (f : Fc) : lookB f (trimF f) = true :=
  look_true rfl rfl (fun n hn => by
    obtain ⟨a, b⟩ := pix_lt hn
    exact (col_trim ⟨Int.natCast_nonneg _, a, Int.natCast_nonneg _, b⟩).symm)

theorem same_trim2 (f : Fc) (A A2 : Option Addr) (c c2 : Nat) (w : World) (h1 : ItsOk w A (trimF f).items) (h2 : ItsOk w A2 (trimF f).items) :
    Calls Tryz.prog 23 #[.agg #[.int .i64 f.shape, .int .i64 f.size, .int .i64 f.height, .slice A (trimF f).items.length c], .agg #[.int .i64 f.shape, .int .i64 f.size, .int .i64 f.height, .slice A2 (trimF f).items.length c2]] w fun e w' => e = .returned (.bool true) ∧ Below w.heap.size w w' := by
  have h := same_calls (trimF f) (trimF f) A A2 c c2 w h1 h2
  rw [eqF_self] at h
  exact h
theorem same_one (f : Fc) (x : It) (A A2 : Option Addr) (c c2 : Nat) (w : World) (h1 : ItsOk w A [x]) (h2 : ItsOk w A2 [x]) :
    Calls Tryz.prog 23 #[.agg #[.int .i64 f.shape, .int .i64 f.size, .int .i64 f.height, .slice A 1 c], .agg #[.int .i64 f.shape, .int .i64 f.size, .int .i64 f.height, .slice A2 1 c2]] w fun e w' => e = .returned (.bool true) ∧ Below w.heap.size w w' := by
  have h := same_calls ⟨f.shape, f.size, f.height, [x]⟩ ⟨f.shape, f.size, f.height, [x]⟩ A A2 c c2 w h1 h2
  rw [eqF_self] at h
  exact h
theorem ptrim_f (f : Fc) (A : Option Addr) (c : Nat) (w : World) (hit : ItsOk w A f.items) (hf : fcB f = true) :
    Calls Tryz.prog 50 #[.agg #[.int .i64 f.shape, .int .i64 f.size, .int .i64 f.height, .slice A f.items.length c]] w fun e w' => Below w.heap.size w w' ∧ ∃ (A1 : Option Addr) (k1 : Nat), e = .returned (.tuple #[.agg #[.int .i64 f.shape, .int .i64 f.size, .int .i64 f.height, .slice A1 (trimF f).items.length k1], .int .i64 0]) ∧ ItsOk w' A1 (trimF f).items := (ptrim_ok f A c w hit hf).mono (fun _ _ ⟨hb, A1, k1, he, hi, _⟩ => ⟨hb, A1, k1, he, hi⟩)
theorem ptrim_t (f : Fc) (A : Option Addr) (c : Nat) (w : World) (hit : ItsOk w A (trimF f).items) (hf : fcB f = true) :
    Calls Tryz.prog 50 #[.agg #[.int .i64 f.shape, .int .i64 f.size, .int .i64 f.height, .slice A (trimF f).items.length c]] w fun e w' => Below w.heap.size w w' ∧ ∃ (A1 : Option Addr) (k1 : Nat), e = .returned (.tuple #[.agg #[.int .i64 f.shape, .int .i64 f.size, .int .i64 f.height, .slice A1 (trimF f).items.length k1], .int .i64 0]) ∧ ItsOk w' A1 (trimF f).items := by
  have h := ptrim_ok (trimF f) A c w hit (trim_valid hf)
  rw [trim_trim] at h
  exact h.mono (fun _ _ ⟨hb, A1, k1, he, hi, _⟩ => ⟨hb, A1, k1, he, hi⟩)
theorem ptrim_o (f : Fc) (x : It) (A : Option Addr) (c : Nat) (w : World) (hit : ItsOk w A (f.items ++ [x])) (hf : fcB f = true) (h6 : f.items.length ≤ 6) (hx : itB x = true) (hk : x.kind = 1) :
    Calls Tryz.prog 50 #[.agg #[.int .i64 f.shape, .int .i64 f.size, .int .i64 f.height, .slice A (f.items.length + 1) c]] w fun e w' => Below w.heap.size w w' ∧ ∃ (A1 : Option Addr) (k1 : Nat), e = .returned (.tuple #[.agg #[.int .i64 f.shape, .int .i64 f.size, .int .i64 f.height, .slice A1 1 k1], .int .i64 0]) ∧ ItsOk w' A1 [x] ∧ ∀ a, A1 = some a → w.heap.size ≤ a.block := by
  have h := ptrim_ok ⟨f.shape, f.size, f.height, f.items ++ [x]⟩ A c w hit (over_valid hf h6 hx).1
  rw [trim_field hf x hk] at h
  simp only [List.length_append, List.length_singleton] at h
  exact h
theorem pequal_t (f : Fc) (A A2 : Option Addr) (c c2 : Nat) (w : World) (hit : ItsOk w A f.items) (hit2 : ItsOk w A2 (trimF f).items) (hf : fcB f = true) :
    Calls Tryz.prog 44 #[.agg #[.int .i64 f.shape, .int .i64 f.size, .int .i64 f.height, .slice A f.items.length c], .agg #[.int .i64 f.shape, .int .i64 f.size, .int .i64 f.height, .slice A2 (trimF f).items.length c2]] w fun e w' => e = .returned (.tuple #[.bool true, .int .i64 0]) ∧ Below w.heap.size w w' := by
  have h := pequal_calls f (trimF f) A A2 c c2 w hit hit2
  have he : equalR f (trimF f) = .tuple #[.bool true, .int .i64 0] := by unfold equalR; rw [if_pos ⟨hf, trim_valid hf⟩, look_trim]
  rw [he] at h
  exact h
theorem pequal_o (f : Fc) (x : It) (A A2 : Option Addr) (c c2 : Nat) (w : World) (hit : ItsOk w A (f.items ++ [x])) (hit2 : ItsOk w A2 [x]) (hf : fcB f = true) (h6 : f.items.length ≤ 6) (hx : itB x = true) (hk : x.kind = 1) :
    Calls Tryz.prog 44 #[.agg #[.int .i64 f.shape, .int .i64 f.size, .int .i64 f.height, .slice A (f.items.length + 1) c], .agg #[.int .i64 f.shape, .int .i64 f.size, .int .i64 f.height, .slice A2 1 c2]] w fun e w' => e = .returned (.tuple #[.bool true, .int .i64 0]) ∧ Below w.heap.size w w' := by
  have h := pequal_calls ⟨f.shape, f.size, f.height, f.items ++ [x]⟩ ⟨f.shape, f.size, f.height, [x]⟩ A A2 c c2 w hit hit2
  have he : equalR ⟨f.shape, f.size, f.height, f.items ++ [x]⟩ ⟨f.shape, f.size, f.height, [x]⟩ = .tuple #[.bool true, .int .i64 0] := by unfold equalR; rw [if_pos (over_valid hf h6 hx), look_over f hk]
  rw [he] at h
  simp only [List.length_append, List.length_singleton] at h
  exact h
theorem its_setRow {w : World} {A : Option Addr} {l : List It} {B : Nat} (h : ItsOk w A l) (ha : ∀ a, A = some a → a.block ≠ B) (us : Array Value) : ItsOk (w.setRow B us) A l := by
  refine ⟨h.n, fun hne => ?_, h.txt⟩
  obtain ⟨b, off, rfl, hb, hc⟩ := h.rd hne
  have hbB := ha _ rfl
  dsimp only at hbB
  refine ⟨b, off, rfl, by simpa [World.setRow] using hb, fun j u hu => ?_⟩
  rw [World.cell?_of_block (w := w) (setRow_other w B b us hbB)]
  exact hc j u hu
theorem heap_keptB {w w' : World} {b B : Nat} {o : Obj} (h : w.heap[b]? = some o) (hb : Below B w w') (hB : b < B) : w'.heap[b]? = some o := (hb.block b hB).trans h
theorem heap_kept {w w' : World} {b : Nat} {o : Obj} (h : w.heap[b]? = some o) (hb : Below w.heap.size w w') : w'.heap[b]? = some o := (hb.block b (Array.getElem?_eq_some_iff.1 h).1).trans h

set_option maxHeartbeats 8000000 in
set_option maxRecDepth 100000 in
theorem fcovers_calls (f : Fc) (A : Option Addr) (c : Nat) (a : Int) (w : World) (hg : Gl w) (hit : ItsOk w A f.items) (ha : 0 ≤ a ∧ a ≤ 255) :
    Calls Tryz.prog 17 #[.agg #[.int .i64 f.shape, .int .i64 f.size, .int .i64 f.height, .slice A f.items.length c], .int .u8 a] w fun e w' => e = .returned (.bool true) ∧ Below w.heap.size w w' := by
  obtain ⟨a0, a1⟩ := ha
  have HTXT := hid hit
  have HGL := hid hg
  have HF := hid (FaceAt.new w c hit)
  have HO := hid ((On.start hg).lay (.cells #[.int .i64 f.shape, .int .i64 f.size, .int .i64 f.height, .slice A f.items.length c] 25))
  clear hg hit
  go_enter Tryz.func17, Tryz.ntmps17
  go_wp2_with fail
  generalize w.alloc (.cells #[.int .i64 f.shape, .int .i64 f.size, .int .i64 f.height, .slice A f.items.length c] 25) = W at *
  refine (heavy_calls f A c W (unhid HF).ok).mono ?_
  rintro e w1 ⟨rfl, hb⟩
  have HF := hid ((unhid HF).below hb)
  have HO := hid ((unhid HO).next hb)
  clear hb
  cases hl : heavyF f with
  | true =>
    go_wp2_with fail
    refine (unhid HO).first.mono ?_
    rintro e w9 ⟨rfl, hb2⟩
    have HB2 := hid hb2
    clear hb2
    go_wp2_with fail
    go_ret
    exact ⟨rfl, unhid HB2⟩
  | false =>
    obtain ⟨c0, c1, c2, c3⟩ := (unhid HF).cells
    go_wp2_with fail
    refine (rvalid_calls f A c w1 (unhid HF).ok).mono ?_
    rintro e w2 ⟨rfl, hb⟩
    have HF := hid ((unhid HF).below hb)
    have HO := hid ((unhid HO).next hb)
    clear hb c0 c1 c2 c3
    obtain ⟨c0, c1, c2, c3⟩ := (unhid HF).cells
    cases hf : fcB f with
    | false =>
      go_wp2_with fail
      refine (unhid HO).first.mono ?_
      rintro e w9 ⟨rfl, hb2⟩
      have HB2 := hid hb2
      clear hb2
      go_wp2_with fail
      go_ret
      exact ⟨rfl, unhid HB2⟩

    | true =>
      have HFF := hid hf
      clear hf
      by_cases h1 : 40 < f.size
      · clear hl
        go_wp2_with fail
        refine (unhid HO).first.mono ?_
        rintro e w9 ⟨rfl, hb2⟩
        have HB2 := hid hb2
        clear hb2
        go_wp2_with fail
        go_ret
        exact ⟨rfl, unhid HB2⟩

      by_cases h2 : 40 < f.height
      · clear hl
        go_wp2_with fail
        refine (unhid HO).first.mono ?_
        rintro e w9 ⟨rfl, hb2⟩
        have HB2 := hid hb2
        clear hb2
        go_wp2_with fail
        go_ret
        exact ⟨rfl, unhid HB2⟩

      by_cases h3 : (6 : Int) < (f.items.length : Int)
      · clear hl
        go_wp2_with fail
        refine (unhid HO).first.mono ?_
        rintro e w9 ⟨rfl, hb2⟩
        have HB2 := hid hb2
        clear hb2
        go_wp2_with fail
        go_ret
        exact ⟨rfl, unhid HB2⟩

      have h6 : f.items.length ≤ 6 := by omega
      obtain ⟨i0, hi, hz0, hz1, hz2⟩ := info_parts info_item
      clear hl
      go_wp2_with fail
      refine (ptrim_f f A c w2 (unhid HF).ok (unhid HFF)).mono ?_
      rintro e w3 ⟨hb, A1, k1, rfl, hi1⟩
      have HTW := hid (Nat.le_trans (unhid HO).bel.size hb.size)
      have hbn := below_alloc w3 (.cells #[.int .i64 f.shape, .int .i64 f.size, .int .i64 f.height, .slice A1 (trimF f).items.length k1] 25)
      have HT := hid (heap_alloc_new w3 (.cells #[.int .i64 f.shape, .int .i64 f.size, .int .i64 f.height, .slice A1 (trimF f).items.length k1] 25))
      have HI1 := hid (hi1.below hbn)
      have hb := hb.trans (hbn.mono hb.size)
      clear hbn hi1
      go_upto_region 4 with (fail)
      generalize w3.alloc (.cells #[.int .i64 f.shape, .int .i64 f.size, .int .i64 f.height, .slice A1 (trimF f).items.length k1] 25) = W3 at *
      have HF := hid ((unhid HF).below hb)
      have HO := hid ((unhid HO).next hb)
      clear hb c0 c1 c2 c3
      obtain ⟨c0, c1, c2, c3⟩ := (unhid HF).cells

      generalize w3.heap.size = T at *
      have t0 := cell_of_row _ T 0 _ _ _ (unhid HT)
      have t1 := cell_of_row _ T 1 _ _ _ (unhid HT)
      have t2 := cell_of_row _ T 2 _ _ _ (unhid HT)
      have t3 := cell_of_row _ T 3 _ _ _ (unhid HT)
      simp at t0 t1 t2 t3
      have HPE := hid (pequal_t f A A1 c k1 W3 (unhid HF).ok (unhid HI1) (unhid HFF))
      go_wp2_with fail
      refine (unhid HPE).mono ?_
      rintro e w4 ⟨rfl, hb⟩
      have HT := hid (heap_kept (unhid HT) hb)
      have HI1 := hid ((unhid HI1).below hb)
      have HF := hid ((unhid HF).below hb)
      have HO := hid ((unhid HO).next hb)
      clear hb c0 c1 c2 c3 t0 t1 t2 t3 HPE
      obtain ⟨c0, c1, c2, c3⟩ := (unhid HF).cells

      have t0 := cell_of_row _ T 0 _ _ _ (unhid HT)
      have t1 := cell_of_row _ T 1 _ _ _ (unhid HT)
      have t2 := cell_of_row _ T 2 _ _ _ (unhid HT)
      have t3 := cell_of_row _ T 3 _ _ _ (unhid HT)
      simp at t0 t1 t2 t3
      have HPT := hid (ptrim_t f A1 k1 w4 (unhid HI1) (unhid HFF))
      go_wp2_with fail
      refine (unhid HPT).mono ?_
      rintro e w5 ⟨hb, A2, k2, rfl, hi2⟩
      have hbn := below_alloc w5 (.cells #[.int .i64 f.shape, .int .i64 f.size, .int .i64 f.height, .slice A2 (trimF f).items.length k2] 25)
      have HT2 := hid (heap_alloc_new w5 (.cells #[.int .i64 f.shape, .int .i64 f.size, .int .i64 f.height, .slice A2 (trimF f).items.length k2] 25))
      have HI2 := hid (hi2.below hbn)
      have hb := hb.trans (hbn.mono hb.size)
      clear hbn hi2
      go_upto_region 6 with (fail)
      generalize w5.alloc (.cells #[.int .i64 f.shape, .int .i64 f.size, .int .i64 f.height, .slice A2 (trimF f).items.length k2] 25) = W5 at *
      have HT := hid (heap_kept (unhid HT) hb)
      have HI1 := hid ((unhid HI1).below hb)
      have HF := hid ((unhid HF).below hb)
      have HO := hid ((unhid HO).next hb)
      clear hb c0 c1 c2 c3 t0 t1 t2 t3 HPT
      obtain ⟨c0, c1, c2, c3⟩ := (unhid HF).cells

      generalize w5.heap.size = T2 at *
      have t0 := cell_of_row _ T 0 _ _ _ (unhid HT)
      have t1 := cell_of_row _ T 1 _ _ _ (unhid HT)
      have t2 := cell_of_row _ T 2 _ _ _ (unhid HT)
      have t3 := cell_of_row _ T 3 _ _ _ (unhid HT)
      have u0 := cell_of_row _ T2 0 _ _ _ (unhid HT2)
      have u1 := cell_of_row _ T2 1 _ _ _ (unhid HT2)
      have u2 := cell_of_row _ T2 2 _ _ _ (unhid HT2)
      have u3 := cell_of_row _ T2 3 _ _ _ (unhid HT2)
      simp at t0 t1 t2 t3 u0 u1 u2 u3
      have HSS := hid (same_trim2 f A1 A2 k1 k2 W5 (unhid HI1) (unhid HI2))
      go_wp2_with fail
      refine (unhid HSS).mono ?_
      rintro e w6 ⟨rfl, hb⟩
      have HT := hid (heap_kept (unhid HT) hb)
      have HF := hid ((unhid HF).below hb)
      have HO := hid ((unhid HO).next hb)
      clear hb c0 c1 c2 c3 t0 t1 t2 t3 u0 u1 u2 u3 HSS
      obtain ⟨c0, c1, c2, c3⟩ := (unhid HF).cells

      obtain ⟨j, hj⟩ : ∃ j, j = a % 8 := ⟨_, rfl⟩
      have hj0 : 0 ≤ j ∧ j < 8 := by omega
      have et : a.tmod 8 = j := by rw [Int.tmod_eq_emod_of_nonneg a0, hj]
      obtain ⟨y0, y0'⟩ := w64 (n := a) (by omega) (by omega)
      obtain ⟨y1, y1'⟩ := w64 (n := 1 + j) (by omega) (by omega)
      obtain ⟨y2, y2'⟩ := w64 (n := j) (by omega) (by omega)
      clear hj
      go_upto_region 9 with (fail)
      obtain ⟨x, hx⟩ : ∃ x, x = fieldI (1 + j) := ⟨_, rfl⟩
      have hxc : x.colour = 1 + j := by rw [hx]; rfl
      have hxi : (itC x).toArray = #[Value.int .i64 1, .int .i64 x.colour, .int .i64 0, .int .i64 0, .int .i64 0, .int .i64 0, .string ⟨#[]⟩] := by rw [hx]; rfl
      have hxk : x.kind = 1 := by rw [hx]; rfl
      have hxv : itB x = true := by rw [hx]; exact field_valid (by omega)
      have hxt : x.text = [] := by rw [hx]; rfl
      rw [← hxc]
      have HXC := hid hxc
      have HXI := hid hxi
      have HXK := hid hxk
      have HXV := hid hxv
      have HXT := hid hxt
      clear hx hxc hxi hxk hxv hxt et y0 y0' y1 y1' y2 y2' hj0
      have hb := below_alloc w6 (.cells #[.int .i64 1, .int .i64 x.colour, .int .i64 0, .int .i64 0, .int .i64 0, .int .i64 0, .string ⟨#[]⟩] 66)
      have HX := hid (heap_alloc_new w6 (.cells #[.int .i64 1, .int .i64 x.colour, .int .i64 0, .int .i64 0, .int .i64 0, .int .i64 0, .string ⟨#[]⟩] 66))
      generalize w6.alloc (.cells #[.int .i64 1, .int .i64 x.colour, .int .i64 0, .int .i64 0, .int .i64 0, .int .i64 0, .string ⟨#[]⟩] 66) = W6 at *
      have HT := hid (heap_kept (unhid HT) hb)
      have HF := hid ((unhid HF).below hb)
      have HO := hid ((unhid HO).next hb)
      clear hb c0 c1 c2 c3
      obtain ⟨c0, c1, c2, c3⟩ := (unhid HF).cells

      generalize w6.heap.size = X at *
      have x0 := cell_of_row _ X 0 _ _ _ (unhid HX)
      have x1 := cell_of_row _ X 1 _ _ _ (unhid HX)
      have x2 := cell_of_row _ X 2 _ _ _ (unhid HX)
      have x3 := cell_of_row _ X 3 _ _ _ (unhid HX)
      have x4 := cell_of_row _ X 4 _ _ _ (unhid HX)
      have x5 := cell_of_row _ X 5 _ _ _ (unhid HX)
      have x6 := cell_of_row _ X 6 _ _ _ (unhid HX)
      simp at x0 x1 x2 x3 x4 x5 x6
      have hb := below_alloc W6 (.cells #[.int .i64 1, .int .i64 x.colour, .int .i64 0, .int .i64 0, .int .i64 0, .int .i64 0, .string ⟨#[]⟩] 66)
      have HGT := hid ((Array.getElem?_eq_some_iff.1 (unhid HT)).1)
      have hI3 := rdNew0 W6 [.int .i64 1, .int .i64 x.colour, .int .i64 0, .int .i64 0, .int .i64 0, .int .i64 0, .string ⟨#[]⟩] 66
      have HG0 := hid (show ItsOk (W6.alloc (.cells #[.int .i64 1, .int .i64 x.colour, .int .i64 0, .int .i64 0, .int .i64 0, .int .i64 0, .string ⟨#[]⟩] 66)) (some ⟨W6.heap.size, 0, none⟩) [x] from ⟨by simp, by
        have e : its [x] = [Value.int .i64 1, .int .i64 x.colour, .int .i64 0, .int .i64 0, .int .i64 0, .int .i64 0, .string ⟨#[]⟩] := by
          have h := unhid HXI
          have h2 : itC x = (itC x).toArray.toList := by simp
          simp only [its, List.flatMap_cons, List.flatMap_nil, List.append_nil]
          rw [h2, h]
        rw [e]
        exact hI3, fun y hy => by rw [List.mem_singleton.1 hy, unhid HXT]; simp⟩)
      clear hI3
      have hb2 := below_alloc (W6.alloc (.cells #[.int .i64 1, .int .i64 x.colour, .int .i64 0, .int .i64 0, .int .i64 0, .int .i64 0, .string ⟨#[]⟩] 66)) (.cells #[.int .i64 f.shape, .int .i64 f.size, .int .i64 f.height, .slice (some ⟨W6.heap.size, 0, none⟩) 1 1] 25)
      have HPL := hid (heap_alloc_new (W6.alloc (.cells #[.int .i64 1, .int .i64 x.colour, .int .i64 0, .int .i64 0, .int .i64 0, .int .i64 0, .string ⟨#[]⟩] 66)) (.cells #[.int .i64 f.shape, .int .i64 f.size, .int .i64 f.height, .slice (some ⟨W6.heap.size, 0, none⟩) 1 1] 25))
      have HG := hid ((unhid HG0).below hb2)
      have hb := hb.trans (hb2.mono hb.size)
      clear hb2
      go_upto_region 10 with (fail)
      generalize (W6.alloc (.cells #[.int .i64 1, .int .i64 x.colour, .int .i64 0, .int .i64 0, .int .i64 0, .int .i64 0, .string ⟨#[]⟩] 66)).alloc (.cells #[.int .i64 f.shape, .int .i64 f.size, .int .i64 f.height, .slice (some ⟨W6.heap.size, 0, none⟩) 1 1] 25) = W7 at *
      have HT := hid (heap_kept (unhid HT) hb)
      have HX := hid (heap_kept (unhid HX) hb)
      have HF := hid ((unhid HF).below hb)
      have HO := hid ((unhid HO).next hb)
      clear hb c0 c1 c2 c3 x0 x1 x2 x3 x4 x5 x6 HG0
      obtain ⟨c0, c1, c2, c3⟩ := (unhid HF).cells

      have hsz7 : (W6.alloc (.cells #[.int .i64 1, .int .i64 x.colour, .int .i64 0, .int .i64 0, .int .i64 0, .int .i64 0, .string ⟨#[]⟩] 66)).heap.size = W6.heap.size + 1 := by simp
      rw [hsz7] at HPL
      clear hsz7
      obtain ⟨PL, hPL⟩ : ∃ PL, PL = W6.heap.size + 1 := ⟨_, rfl⟩
      rw [← hPL] at HPL ⊢
      have HPG := hid hPL
      clear hPL
      obtain ⟨G, hGG⟩ : ∃ G, G = W6.heap.size := ⟨_, rfl⟩
      rw [← hGG] at HPL HG HPG HGT
      clear hGG
      have HF7 := HF
      have HO7 := HO
      have HT7 := HT
      have HG7 := HG
      have HPL7 := HPL
      have hb := below_alloc W7 (.cells #[.int .i64 f.shape, .int .i64 f.size, .int .i64 f.height, .slice A f.items.length c] 25)
      have HB78 := hid hb
      have HV := hid (heap_alloc_new W7 (.cells #[.int .i64 f.shape, .int .i64 f.size, .int .i64 f.height, .slice A f.items.length c] 25))
      have hsV : (W7.alloc (.cells #[.int .i64 f.shape, .int .i64 f.size, .int .i64 f.height, .slice A f.items.length c] 25)).heap.size = W7.heap.size + 1 := by simp
      go_upto_region 11 with (fail)
      generalize W7.alloc (.cells #[.int .i64 f.shape, .int .i64 f.size, .int .i64 f.height, .slice A f.items.length c] 25) = W8 at *
      have HT := hid (heap_kept (unhid HT) hb)
      have HX := hid (heap_kept (unhid HX) hb)
      have HG := hid ((unhid HG).below hb)
      have HPL := hid (heap_kept (unhid HPL) hb)
      have HF := hid ((unhid HF).below hb)
      have HO := hid ((unhid HO).next hb)
      clear hb c0 c1 c2 c3
      obtain ⟨c0, c1, c2, c3⟩ := (unhid HF).cells

      obtain ⟨V, hV⟩ : ∃ V, V = W7.heap.size := ⟨_, rfl⟩
      rw [← hV] at HV hsV ⊢
      have HVV := hid hV
      clear hV
      have HSV := hid hsV
      have hFB := (unhid HF).lt
      have hXB := (Array.getElem?_eq_some_iff.1 (unhid HX)).1
      have hSF : ∀ w' : World, Below (V + 1) W8 w' → (w'.cell? ⟨w.heap.size, 3, none⟩ = some (.slice A f.items.length c) ∧ w'.cell? ⟨X, 0, none⟩ = some (.int .i64 1) ∧ w'.cell? ⟨X, 1, none⟩ = some (.int .i64 x.colour) ∧ w'.cell? ⟨X, 2, none⟩ = some (.int .i64 0) ∧ w'.cell? ⟨X, 3, none⟩ = some (.int .i64 0) ∧ w'.cell? ⟨X, 4, none⟩ = some (.int .i64 0) ∧ w'.cell? ⟨X, 5, none⟩ = some (.int .i64 0) ∧ w'.cell? ⟨X, 6, none⟩ = some (.string ⟨#[]⟩)) := fun w' hb => by
        have hb' : Below W8.heap.size W8 w' := by rw [unhid HSV]; exact hb
        have h := ((unhid HF).below hb').cells
        have hx := heap_kept (unhid HX) hb'
        exact ⟨h.2.2.2, cell_of_row _ _ _ _ _ _ hx, cell_of_row _ _ _ _ _ _ hx, cell_of_row _ _ _ _ _ _ hx, cell_of_row _ _ _ _ _ _ hx, cell_of_row _ _ _ _ _ _ hx, cell_of_row _ _ _ _ _ _ hx, cell_of_row _ _ _ _ _ _ hx⟩
      have HSF := hid hSF
      clear hSF c0 c1 c2 c3 hsV hFB hXB
      go_cut [13] from 89 to 96 (fun s13 wz => s13 = .pointer (some ⟨V, 0, none⟩) ∧ ∃ g cap : Nat, wz.heap[V]? = some (.cells #[.int .i64 f.shape, .int .i64 f.size, .int .i64 f.height, .slice (some ⟨g, 0, none⟩) (f.items.length + 1) cap] 25 (0, 0)) ∧ wz.ownsRow (V + 1) 66 7 (.slice (some ⟨g, 0, none⟩) (f.items.length + 1) cap) (f.items.length + 1) (its (f.items ++ [x])) ∧ Below V W8 wz)
      case first =>
        go_wp2_with fail
        refine wp_region_noPanic ?_
        refine wp_region_E (S := fun w' => w'.cell? ⟨w.heap.size, 3, none⟩ = some (.slice A f.items.length c) ∧ w'.cell? ⟨X, 0, none⟩ = some (.int .i64 1) ∧ w'.cell? ⟨X, 1, none⟩ = some (.int .i64 x.colour) ∧ w'.cell? ⟨X, 2, none⟩ = some (.int .i64 0) ∧ w'.cell? ⟨X, 3, none⟩ = some (.int .i64 0) ∧ w'.cell? ⟨X, 4, none⟩ = some (.int .i64 0) ∧ w'.cell? ⟨X, 5, none⟩ = some (.int .i64 0) ∧ w'.cell? ⟨X, 6, none⟩ = some (.string ⟨#[]⟩)) 8 9 rfl (by kernel_rfl) (by kernel_rfl) ((unhid HSF) _ (Below.drew (Below.refl _ _))) ?_
        intro hSE
        have hbd : Below (V + 1) W8 W8.drew := Below.drew (Below.refl _ _)
        have hsd : W8.drew.heap.size = V + 1 := unhid HSV
        generalize W8.drew = Wd at *
        have HSD := hid hsd
        have HBD := hid hbd
        clear hsd hbd
        (refine WE_take (i := 1) (v := ?_) rfl (by kernel_rfl) (by decide) (by kernel_rfl) (by kernel_rfl) (fun _ _ _ h => h) (by rfl) hSE ?_ ?_; rotate_left; (focus (intro w hSw; (try dsimp only at hSw); go_simp; (try with_reducible rfl))); simp only [Act.put, List.setIfInBounds_toArray, List.set_cons_zero, List.set_cons_succ])
        (refine WE_take (i := 2) (v := ?_) rfl (by kernel_rfl) (by decide) (by kernel_rfl) (by kernel_rfl) (fun _ _ _ h => h) (by rfl) hSE ?_ ?_; rotate_left; (focus (intro w hSw; (try dsimp only at hSw); go_simp; (try with_reducible rfl))); simp only [Act.put, List.setIfInBounds_toArray, List.set_cons_zero, List.set_cons_succ])
        (refine WE_take (i := 4) (v := ?_) rfl (by kernel_rfl) (by decide) (by kernel_rfl) (by kernel_rfl) (fun _ _ _ h => h) (by rfl) hSE ?_ ?_; rotate_left; (focus (intro w hSw; (try dsimp only at hSw); go_simp; (try with_reducible rfl))); simp only [Act.put, List.setIfInBounds_toArray, List.set_cons_zero, List.set_cons_succ])
        refine WE_two2 (i := 0) (j := 5) rfl rfl (by decide) (by decide) (by kernel_rfl) ?_ ?_
        · intro K hK
          go_simp
          have HE0 := hid (heap_alloc_new Wd (.cells #[] 66))
          have HB1 := hid ((unhid HBD).trans ((below_alloc Wd (.cells #[] 66)).mono (by have := (unhid HBD).size; have := unhid HSD; have := unhid HSV; omega)))
          refine hK.out _ _ ((unhid HSF) _ (unhid HB1)) ?_
          clear hSE hK K
          intro hSE
          (try simp only [Act.put, List.setIfInBounds_toArray, List.set_cons_zero, List.set_cons_succ])
          have HS1 := hid (show (Wd.alloc (.cells #[] 66)).heap.size = V + 2 by have := unhid HSD; simp; omega)
          generalize Wd.alloc (.cells #[] 66) = Wa at *
          refine WE_two2 (i := 3) (j := 5) rfl rfl (by decide) (by decide) (by kernel_rfl) ?_ ?_
          · intro K hK
            refine step_items (l := f.items) (A := A) (c := c) (E := Wd.heap.size) (base := V + 1) (by rfl) _ _ (by rfl) (by rfl) (by rfl) ((unhid HF).ok.below (by rw [unhid HSV]; exact unhid HB1)) (by omega) (by have := unhid HSD; have := unhid HS1; omega) (unhid HE0) ?_
            intro g cap Wb hown hg hgl
            have HOW := hid hown
            have HB2 := hid (Below.grown (unhid HB1) hg (by have := (unhid HB1).size; have := unhid HSV; omega) (fun q hq => by cases hq; have := unhid HSD; have := unhid HS1; omega))
            refine hK.out _ _ ((unhid HSF) _ (unhid HB2)) ?_
            clear hSE hK K
            intro hSE
            (try simp only [Act.put, List.setIfInBounds_toArray, List.set_cons_zero, List.set_cons_succ])
            (refine WE_one (i := 5) rfl (by decide) (by kernel_rfl) ?_; intro K hK)
            go_simp
            have HY := hid (show (Wb.alloc (.cells #[.int .i64 1, .int .i64 x.colour, .int .i64 0, .int .i64 0, .int .i64 0, .int .i64 0, .string ⟨#[]⟩] 66)).heap[Wb.heap.size]? = some (.cells (itC x).toArray 66 (0, 0)) by rw [unhid HXI]; exact heap_alloc_new Wb _)
            have HOW := hid ((unhid HOW).alloc (.cells #[.int .i64 1, .int .i64 x.colour, .int .i64 0, .int .i64 0, .int .i64 0, .int .i64 0, .string ⟨#[]⟩] 66))
            have HB3 := hid ((unhid HB2).trans ((below_alloc Wb (.cells #[.int .i64 1, .int .i64 x.colour, .int .i64 0, .int .i64 0, .int .i64 0, .int .i64 0, .string ⟨#[]⟩] 66)).mono (by have := (unhid HB2).size; have := unhid HSD; have := unhid HSV; omega)))
            refine hK.out _ _ ((unhid HSF) _ (unhid HB3)) ?_
            clear hSE hK K
            intro hSE
            (try simp only [Act.put, List.setIfInBounds_toArray, List.set_cons_zero, List.set_cons_succ])
            generalize Wb.alloc (.cells #[.int .i64 1, .int .i64 x.colour, .int .i64 0, .int .i64 0, .int .i64 0, .int .i64 0, .string ⟨#[]⟩] 66) = Wc at *
            (refine WE_one (i := 6) rfl (by decide) (by kernel_rfl) ?_; intro K hK)
            refine step_append_lies _ (by rfl) _ _ _ (by rfl) (V + 1) 66 i0 _ 7 64 Tryz.underlying23 hi hz0 hz1 hz2 rfl (by omega) (.slice (some ⟨g, 0, none⟩) f.items.length cap) f.items.length (its f.items) (by rfl) (unhid HOW) ⟨Wb.heap.size, 0, none⟩ 1 1 (itC x) (by rfl) (by rfl) (World.news_of_block (cs := (itC x).toArray) (t := 66) (fr := (0, 0)) (unhid HY)) (by simp [itC, Value.oneCell']) (by omega) (by unfold maxLen; omega) (by omega) (by have := (unhid HB3).size; have := unhid HSV; omega) Wc.heap.size rfl ?_
            intro g3 cap3 w9 hown hg hat hlt3
            have hrow9 : ∀ q, (Value.slice (some ⟨g, 0, none⟩) f.items.length cap).ownBlock = some q → V + 1 ≤ q := fun q hq => by
              rcases Nat.lt_or_ge q (V + 1) with h' | h'
              · exact absurd hq (own_ne (unhid HOW) (Or.inl h'))
              · exact h'
            have HB9 := hid (Below.grown (unhid HB3) hg (by have := (unhid HB3).size; have := unhid HSV; omega) hrow9)
            have hv9 := heap_keptB (unhid HV) (unhid HB9) (Nat.lt_succ_self V)
            have c39 : w9.cell? ⟨V, 3, none⟩ = some (.slice A f.items.length c) := cell_of_row _ _ _ _ _ _ hv9
            have f39 : w9.frozen? ⟨V, 3, none⟩ = false := frozen_of_row _ _ _ _ _ hv9
            refine hK.out _ _ ((unhid HSF) _ (unhid HB9)) ?_
            clear hSE hK K
            intro hSE
            (try simp only [Act.put, List.setIfInBounds_toArray, List.set_cons_zero, List.set_cons_succ])
            (refine WE_take (i := 7) (v := ?_) rfl (by kernel_rfl) (by decide) (by kernel_rfl) (by kernel_rfl) (fun _ _ _ h => h) (by rfl) hSE ?_ ?_; rotate_left; (focus (intro w hSw; (try dsimp only at hSw); go_simp; (try with_reducible rfl))); simp only [Act.put, List.setIfInBounds_toArray, List.set_cons_zero, List.set_cons_succ])
            (refine WE_last rfl (by kernel_rfl) (by kernel_rfl) (by kernel_rfl) ?_; intro K hK; go_simp; refine hK.out _ _ (NoPanic.normal ?_); clear hK K)
            have HV9 := hid (show (w9.setCell ⟨V, 3, none⟩ (.slice (some ⟨g3, 0, none⟩) (f.items.length + 1) cap3)).heap[V]? = some (.cells #[.int .i64 f.shape, .int .i64 f.size, .int .i64 f.height, .slice (some ⟨g3, 0, none⟩) (f.items.length + 1) cap3] 25 (0, 0)) from heap_setCell_same _ _ _ _ _ _ hv9)
            have HO9 := hid (own_setCell hown (a := ⟨V, 3, none⟩) (by dsimp only; omega) (.slice (some ⟨g3, 0, none⟩) (f.items.length + 1) cap3))
            have HB10 := hid (Below.setCell (p := ⟨V, 3, none⟩) ((unhid HB9).mono (Nat.le_succ V)) (Nat.le_refl _) (.slice (some ⟨g3, 0, none⟩) (f.items.length + 1) cap3))
            clear hv9 c39 f39 hown hg hat hlt3 hrow9 hSE
            go_wp2_with fail
            go_meet
            case rel =>
              refine ⟨rfl, g3, cap3, unhid HV9, ?_, unhid HB10⟩
              have e : its (f.items ++ [x]) = its f.items ++ itC x := by simp [its]
              rw [e]
              exact unhid HO9
          · intro K hK
            go_simp
            have HY := hid (show (Wa.alloc (.cells #[.int .i64 1, .int .i64 x.colour, .int .i64 0, .int .i64 0, .int .i64 0, .int .i64 0, .string ⟨#[]⟩] 66)).heap[Wa.heap.size]? = some (.cells (itC x).toArray 66 (0, 0)) by rw [unhid HXI]; exact heap_alloc_new Wa _)
            have HE0 := hid (heap_kept (unhid HE0) (below_alloc Wa (.cells #[.int .i64 1, .int .i64 x.colour, .int .i64 0, .int .i64 0, .int .i64 0, .int .i64 0, .string ⟨#[]⟩] 66)))
            have HB2 := hid ((unhid HB1).trans ((below_alloc Wa (.cells #[.int .i64 1, .int .i64 x.colour, .int .i64 0, .int .i64 0, .int .i64 0, .int .i64 0, .string ⟨#[]⟩] 66)).mono (by have := (unhid HB1).size; have := unhid HSD; have := unhid HSV; omega)))
            refine hK.out _ _ ((unhid HSF) _ (unhid HB2)) ?_
            clear hSE hK K
            intro hSE
            (try simp only [Act.put, List.setIfInBounds_toArray, List.set_cons_zero, List.set_cons_succ])
            generalize Wa.alloc (.cells #[.int .i64 1, .int .i64 x.colour, .int .i64 0, .int .i64 0, .int .i64 0, .int .i64 0, .string ⟨#[]⟩] 66) = Wb at *
            (refine WE_one (i := 3) rfl (by decide) (by kernel_rfl) ?_; intro K hK)
            refine step_items (l := f.items) (A := A) (c := c) (E := Wd.heap.size) (base := V + 1) (by rfl) _ _ (by rfl) (by rfl) (by rfl) ((unhid HF).ok.below (by rw [unhid HSV]; exact unhid HB2)) (by omega) (by have := unhid HSD; have := unhid HS1; omega) (unhid HE0) ?_
            intro g cap Wc hown hg hgl
            have HOW := hid hown
            have HB3 := hid (Below.grown (unhid HB2) hg (by have := (unhid HB2).size; have := unhid HSV; omega) (fun q hq => by cases hq; have := unhid HSD; have := unhid HS1; omega))
            have HY := hid ((hg.block Wa.heap.size (Array.getElem?_eq_some_iff.1 (unhid HY)).1 (fun e => by injection e with e; have := unhid HSD; have := unhid HS1; omega)).trans (unhid HY))
            refine hK.out _ _ ((unhid HSF) _ (unhid HB3)) ?_
            clear hSE hK K
            intro hSE
            (try simp only [Act.put, List.setIfInBounds_toArray, List.set_cons_zero, List.set_cons_succ])
            (refine WE_one (i := 6) rfl (by decide) (by kernel_rfl) ?_; intro K hK)
            refine step_append_lies _ (by rfl) _ _ _ (by rfl) (V + 1) 66 i0 _ 7 64 Tryz.underlying23 hi hz0 hz1 hz2 rfl (by omega) (.slice (some ⟨g, 0, none⟩) f.items.length cap) f.items.length (its f.items) (by rfl) (unhid HOW) ⟨Wa.heap.size, 0, none⟩ 1 1 (itC x) (by rfl) (by rfl) (World.news_of_block (cs := (itC x).toArray) (t := 66) (fr := (0, 0)) (unhid HY)) (by simp [itC, Value.oneCell']) (by omega) (by unfold maxLen; omega) (by omega) (by have := (unhid HB3).size; have := unhid HSV; omega) Wc.heap.size rfl ?_
            intro g3 cap3 w9 hown hg hat hlt3
            have hrow9 : ∀ q, (Value.slice (some ⟨g, 0, none⟩) f.items.length cap).ownBlock = some q → V + 1 ≤ q := fun q hq => by
              rcases Nat.lt_or_ge q (V + 1) with h' | h'
              · exact absurd hq (own_ne (unhid HOW) (Or.inl h'))
              · exact h'
            have HB9 := hid (Below.grown (unhid HB3) hg (by have := (unhid HB3).size; have := unhid HSV; omega) hrow9)
            have hv9 := heap_keptB (unhid HV) (unhid HB9) (Nat.lt_succ_self V)
            have c39 : w9.cell? ⟨V, 3, none⟩ = some (.slice A f.items.length c) := cell_of_row _ _ _ _ _ _ hv9
            have f39 : w9.frozen? ⟨V, 3, none⟩ = false := frozen_of_row _ _ _ _ _ hv9
            refine hK.out _ _ ((unhid HSF) _ (unhid HB9)) ?_
            clear hSE hK K
            intro hSE
            (try simp only [Act.put, List.setIfInBounds_toArray, List.set_cons_zero, List.set_cons_succ])
            (refine WE_take (i := 7) (v := ?_) rfl (by kernel_rfl) (by decide) (by kernel_rfl) (by kernel_rfl) (fun _ _ _ h => h) (by rfl) hSE ?_ ?_; rotate_left; (focus (intro w hSw; (try dsimp only at hSw); go_simp; (try with_reducible rfl))); simp only [Act.put, List.setIfInBounds_toArray, List.set_cons_zero, List.set_cons_succ])
            (refine WE_last rfl (by kernel_rfl) (by kernel_rfl) (by kernel_rfl) ?_; intro K hK; go_simp; refine hK.out _ _ (NoPanic.normal ?_); clear hK K)
            have HV9 := hid (show (w9.setCell ⟨V, 3, none⟩ (.slice (some ⟨g3, 0, none⟩) (f.items.length + 1) cap3)).heap[V]? = some (.cells #[.int .i64 f.shape, .int .i64 f.size, .int .i64 f.height, .slice (some ⟨g3, 0, none⟩) (f.items.length + 1) cap3] 25 (0, 0)) from heap_setCell_same _ _ _ _ _ _ hv9)
            have HO9 := hid (own_setCell hown (a := ⟨V, 3, none⟩) (by dsimp only; omega) (.slice (some ⟨g3, 0, none⟩) (f.items.length + 1) cap3))
            have HB10 := hid (Below.setCell (p := ⟨V, 3, none⟩) ((unhid HB9).mono (Nat.le_succ V)) (Nat.le_refl _) (.slice (some ⟨g3, 0, none⟩) (f.items.length + 1) cap3))
            clear hv9 c39 f39 hown hg hat hlt3 hrow9 hSE
            go_wp2_with fail
            go_meet
            case rel =>
              refine ⟨rfl, g3, cap3, unhid HV9, ?_, unhid HB10⟩
              have e : its (f.items ++ [x]) = its f.items ++ itC x := by simp [its]
              rw [e]
              exact unhid HO9
        · intro K hK
          go_simp
          have HY := hid (show (Wd.alloc (.cells #[.int .i64 1, .int .i64 x.colour, .int .i64 0, .int .i64 0, .int .i64 0, .int .i64 0, .string ⟨#[]⟩] 66)).heap[Wd.heap.size]? = some (.cells (itC x).toArray 66 (0, 0)) by rw [unhid HXI]; exact heap_alloc_new Wd _)
          have HB1 := hid ((unhid HBD).trans ((below_alloc Wd (.cells #[.int .i64 1, .int .i64 x.colour, .int .i64 0, .int .i64 0, .int .i64 0, .int .i64 0, .string ⟨#[]⟩] 66)).mono (by have := (unhid HBD).size; have := unhid HSD; have := unhid HSV; omega)))
          refine hK.out _ _ ((unhid HSF) _ (unhid HB1)) ?_
          clear hSE hK K
          intro hSE
          (try simp only [Act.put, List.setIfInBounds_toArray, List.set_cons_zero, List.set_cons_succ])
          have HS1 := hid (show (Wd.alloc (.cells #[.int .i64 1, .int .i64 x.colour, .int .i64 0, .int .i64 0, .int .i64 0, .int .i64 0, .string ⟨#[]⟩] 66)).heap.size = V + 2 by have := unhid HSD; simp; omega)
          generalize Wd.alloc (.cells #[.int .i64 1, .int .i64 x.colour, .int .i64 0, .int .i64 0, .int .i64 0, .int .i64 0, .string ⟨#[]⟩] 66) = Wa at *
          (refine WE_one (i := 0) rfl (by decide) (by kernel_rfl) ?_; intro K hK)
          go_simp
          have HE0 := hid (heap_alloc_new Wa (.cells #[] 66))
          have HB2 := hid ((unhid HB1).trans ((below_alloc Wa (.cells #[] 66)).mono (by have := (unhid HB1).size; have := unhid HSD; have := unhid HSV; omega)))
          have HY := hid (heap_kept (unhid HY) (below_alloc Wa (.cells #[] 66)))
          refine hK.out _ _ ((unhid HSF) _ (unhid HB2)) ?_
          clear hSE hK K
          intro hSE
          (try simp only [Act.put, List.setIfInBounds_toArray, List.set_cons_zero, List.set_cons_succ])
          generalize Wa.alloc (.cells #[] 66) = Wb at *
          (refine WE_one (i := 3) rfl (by decide) (by kernel_rfl) ?_; intro K hK)
          refine step_items (l := f.items) (A := A) (c := c) (E := Wa.heap.size) (base := V + 1) (by rfl) _ _ (by rfl) (by rfl) (by rfl) ((unhid HF).ok.below (by rw [unhid HSV]; exact unhid HB2)) (by omega) (by have := unhid HSD; have := unhid HS1; omega) (unhid HE0) ?_
          intro g cap Wc hown hg hgl
          have HOW := hid hown
          have HB3 := hid (Below.grown (unhid HB2) hg (by have := (unhid HB2).size; have := unhid HSV; omega) (fun q hq => by cases hq; have := unhid HSD; have := unhid HS1; omega))
          have HY := hid ((hg.block Wd.heap.size (Array.getElem?_eq_some_iff.1 (unhid HY)).1 (fun e => by injection e with e; have := unhid HSD; have := unhid HS1; omega)).trans (unhid HY))
          refine hK.out _ _ ((unhid HSF) _ (unhid HB3)) ?_
          clear hSE hK K
          intro hSE
          (try simp only [Act.put, List.setIfInBounds_toArray, List.set_cons_zero, List.set_cons_succ])
          (refine WE_one (i := 6) rfl (by decide) (by kernel_rfl) ?_; intro K hK)
          refine step_append_lies _ (by rfl) _ _ _ (by rfl) (V + 1) 66 i0 _ 7 64 Tryz.underlying23 hi hz0 hz1 hz2 rfl (by omega) (.slice (some ⟨g, 0, none⟩) f.items.length cap) f.items.length (its f.items) (by rfl) (unhid HOW) ⟨Wd.heap.size, 0, none⟩ 1 1 (itC x) (by rfl) (by rfl) (World.news_of_block (cs := (itC x).toArray) (t := 66) (fr := (0, 0)) (unhid HY)) (by simp [itC, Value.oneCell']) (by omega) (by unfold maxLen; omega) (by omega) (by have := (unhid HB3).size; have := unhid HSV; omega) Wc.heap.size rfl ?_
          intro g3 cap3 w9 hown hg hat hlt3
          have hrow9 : ∀ q, (Value.slice (some ⟨g, 0, none⟩) f.items.length cap).ownBlock = some q → V + 1 ≤ q := fun q hq => by
            rcases Nat.lt_or_ge q (V + 1) with h' | h'
            · exact absurd hq (own_ne (unhid HOW) (Or.inl h'))
            · exact h'
          have HB9 := hid (Below.grown (unhid HB3) hg (by have := (unhid HB3).size; have := unhid HSV; omega) hrow9)
          have hv9 := heap_keptB (unhid HV) (unhid HB9) (Nat.lt_succ_self V)
          have c39 : w9.cell? ⟨V, 3, none⟩ = some (.slice A f.items.length c) := cell_of_row _ _ _ _ _ _ hv9
          have f39 : w9.frozen? ⟨V, 3, none⟩ = false := frozen_of_row _ _ _ _ _ hv9
          refine hK.out _ _ ((unhid HSF) _ (unhid HB9)) ?_
          clear hSE hK K
          intro hSE
          (try simp only [Act.put, List.setIfInBounds_toArray, List.set_cons_zero, List.set_cons_succ])
          (refine WE_take (i := 7) (v := ?_) rfl (by kernel_rfl) (by decide) (by kernel_rfl) (by kernel_rfl) (fun _ _ _ h => h) (by rfl) hSE ?_ ?_; rotate_left; (focus (intro w hSw; (try dsimp only at hSw); go_simp; (try with_reducible rfl))); simp only [Act.put, List.setIfInBounds_toArray, List.set_cons_zero, List.set_cons_succ])
          (refine WE_last rfl (by kernel_rfl) (by kernel_rfl) (by kernel_rfl) ?_; intro K hK; go_simp; refine hK.out _ _ (NoPanic.normal ?_); clear hK K)
          have HV9 := hid (show (w9.setCell ⟨V, 3, none⟩ (.slice (some ⟨g3, 0, none⟩) (f.items.length + 1) cap3)).heap[V]? = some (.cells #[.int .i64 f.shape, .int .i64 f.size, .int .i64 f.height, .slice (some ⟨g3, 0, none⟩) (f.items.length + 1) cap3] 25 (0, 0)) from heap_setCell_same _ _ _ _ _ _ hv9)
          have HO9 := hid (own_setCell hown (a := ⟨V, 3, none⟩) (by dsimp only; omega) (.slice (some ⟨g3, 0, none⟩) (f.items.length + 1) cap3))
          have HB10 := hid (Below.setCell (p := ⟨V, 3, none⟩) ((unhid HB9).mono (Nat.le_succ V)) (Nat.le_refl _) (.slice (some ⟨g3, 0, none⟩) (f.items.length + 1) cap3))
          clear hv9 c39 f39 hown hg hat hlt3 hrow9 hSE
          go_wp2_with fail
          go_meet
          case rel =>
            refine ⟨rfl, g3, cap3, unhid HV9, ?_, unhid HB10⟩
            have e : its (f.items ++ [x]) = its f.items ++ itC x := by simp [its]
            rw [e]
            exact unhid HO9

      case rest =>
        obtain ⟨rfl, g, cap, hv, hrow, hbel⟩ := hcut
        have hbz : Below W7.heap.size W7 wc := (unhid HB78).trans (by rw [← unhid HVV]; exact hbel)
        have HT := hid (heap_kept (unhid HT7) hbz)
        have HG := hid ((unhid HG7).below hbz)
        have HPL := hid (heap_kept (unhid HPL7) hbz)
        have HBZ := hid ((unhid HO7).bel.trans (hbz.mono (unhid HO7).bel.size))
        obtain ⟨A4, c4, hA4, hrd, -⟩ := own_slice hrow
        injection hA4 with e1 e2 e3
        subst e1 e3
        have HOV := hid (show ItsOk wc (some ⟨g, 0, none⟩) (f.items ++ [x]) from ⟨by simp; omega, hrd, fun y hy => by
          rcases List.mem_append.1 hy with hy | hy
          · exact (unhid HTXT).txt y hy
          · rw [List.mem_singleton.1 hy, unhid HXT]; simp⟩)
        have HV := hid hv
        clear hrd hrow hbel hbz hv
        have v0 := cell_of_row _ V 0 _ _ _ (unhid HV)
        have v1 := cell_of_row _ V 1 _ _ _ (unhid HV)
        have v2 := cell_of_row _ V 2 _ _ _ (unhid HV)
        have v3 := cell_of_row _ V 3 _ _ _ (unhid HV)
        have p0 := cell_of_row _ PL 0 _ _ _ (unhid HPL)
        have p1 := cell_of_row _ PL 1 _ _ _ (unhid HPL)
        have p2 := cell_of_row _ PL 2 _ _ _ (unhid HPL)
        have p3 := cell_of_row _ PL 3 _ _ _ (unhid HPL)
        simp at v0 v1 v2 v3 p0 p1 p2 p3
        have HPO := hid (pequal_o f x (some ⟨g, 0, none⟩) (some ⟨G, 0, none⟩) cap 1 wc (unhid HOV) (unhid HG) (unhid HFF) h6 (unhid HXV) (unhid HXK))
        go_wp2_with fail
        refine (unhid HPO).mono ?_
        rintro e w10 ⟨rfl, hb⟩
        have HT := hid (heap_kept (unhid HT) hb)
        have HG := hid ((unhid HG).below hb)
        have HPL := hid (heap_kept (unhid HPL) hb)
        have HOV := hid ((unhid HOV).below hb)
        have HV := hid (heap_kept (unhid HV) hb)
        have HBZ := hid ((unhid HBZ).trans (hb.mono (unhid HBZ).size))
        clear hb v0 v1 v2 v3 p0 p1 p2 p3 HPO
        have v0 := cell_of_row _ V 0 _ _ _ (unhid HV)
        have v1 := cell_of_row _ V 1 _ _ _ (unhid HV)
        have v2 := cell_of_row _ V 2 _ _ _ (unhid HV)
        have v3 := cell_of_row _ V 3 _ _ _ (unhid HV)
        simp at v0 v1 v2 v3
        have HPO := hid (ptrim_o f x (some ⟨g, 0, none⟩) cap w10 (unhid HOV) (unhid HFF) h6 (unhid HXV) (unhid HXK))
        go_wp2_with fail
        refine (unhid HPO).mono ?_
        rintro e w11 ⟨hb, A5, k5, rfl, hi5, hf5⟩
        have hTl := (Array.getElem?_eq_some_iff.1 (unhid HT)).1
        have hTw := unhid HTW
        have HT := hid (heap_kept (unhid HT) hb)
        have HG := hid ((unhid HG).below hb)
        have HPL := hid (heap_kept (unhid HPL) hb)
        have HBZ := hid ((unhid HBZ).trans (hb.mono (unhid HBZ).size))
        have HI5 := hid hi5
        have HF5 := hid hf5
        clear hb v0 v1 v2 v3 HPO hi5 hf5
        go_upto_region 14 with (refine wpList_store_row rfl 25 (.tmp 5) (.tmp 106) rfl T (fi f.shape f.size f.height (.slice A5 1 k5)) rfl rfl 25 _ (unhid HT) (fi_size _ _ _ _) rfl (fi_one _ _ _ _ _ _) ?_)
        have HT12 := hid (setRow_heap _ _ _ (fi f.shape f.size f.height (.slice A5 1 k5)) _ _ (unhid HT))
        have hplT := unhid HGT
        have HPL12 := hid ((setRow_other w11 T PL (fi f.shape f.size f.height (.slice A5 1 k5)) (by have := unhid HPG; omega)).trans (unhid HPL))
        have HG12 := hid (its_setRow (B := T) (unhid HG) (fun a ha => by cases ha; dsimp only; omega) (fi f.shape f.size f.height (.slice A5 1 k5)))
        have HI12 := hid (its_setRow (B := T) (unhid HI5) (fun a ha => by have := (unhid HF5) a ha; omega) (fi f.shape f.size f.height (.slice A5 1 k5)))
        have HB12 := hid (below_setRow (unhid HBZ) hTw (fi f.shape f.size f.height (.slice A5 1 k5)))
        clear hplT hTl hTw
        generalize w11.setRow T (fi f.shape f.size f.height (.slice A5 1 k5)) = W12 at *
        have t0 := cell_of_row _ T 0 _ _ _ (unhid HT12)
        have t1 := cell_of_row _ T 1 _ _ _ (unhid HT12)
        have t2 := cell_of_row _ T 2 _ _ _ (unhid HT12)
        have t3 := cell_of_row _ T 3 _ _ _ (unhid HT12)
        have p0 := cell_of_row _ PL 0 _ _ _ (unhid HPL12)
        have p1 := cell_of_row _ PL 1 _ _ _ (unhid HPL12)
        have p2 := cell_of_row _ PL 2 _ _ _ (unhid HPL12)
        have p3 := cell_of_row _ PL 3 _ _ _ (unhid HPL12)
        simp [fi] at t0 t1 t2 t3 p0 p1 p2 p3
        have HSO := hid (same_one f x A5 (some ⟨G, 0, none⟩) k5 1 W12 (unhid HI12) (unhid HG12))
        go_wp2_with fail
        refine (unhid HSO).mono ?_
        rintro e w13 ⟨rfl, hb⟩
        have HON := hid (show On w w13 from ⟨(unhid HB12).trans (hb.mono (unhid HB12).size), (unhid HGL).below ((unhid HB12).trans (hb.mono (unhid HB12).size))⟩)
        clear hb t0 t1 t2 t3 p0 p1 p2 p3 HSO
        go_wp2_with fail
        refine (unhid HON).first.mono ?_
        rintro e w14 ⟨rfl, hb2⟩
        have HBF := hid hb2
        clear hb2
        go_wp2_with fail
        go_ret
        exact ⟨rfl, unhid HBF⟩

end Go.Proofs.YtmagidoodlkeoaaGreatDoor
