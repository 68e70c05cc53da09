/-
  The line seen from its other end: the same holds, the same must hold, the same faults. Plain: no walk. mirrored: the ask as it is seen from the line's other end. The law RuleMirrors.
-/
import Derived.Test.YtmpngoejnmlmbaaGreatFaultM
import Derived.Test.YtmpngoejnmlmbaaGreatRight
import Derived.Test.YtmpngoejnmlmbaaGreatCmpK
import Derived.Test.YtmpngoejnmlmbaaGreatFaultsW
import Derived.Deep.AppendLies
import Derived.Deep.DeepCutAuto
import Derived.Test.YtmpngoejnmlmbaaGreatHolds2
import Derived.Test.YtmpngoejnmlmbaaGreatRowR
set_option linter.unusedSimpArgs false
set_option linter.unusedVariables false
namespace Go.Proofs.YtmpngoejnmlmbaaGreat
open Go.RowKit

section
def mirS (n : Int) (s : Sg) : Sg := { s with chain := n - s.chain, dir := -s.dir }
def mirE (n : Int) (e : Ed) : Ed := ⟨e.num, e.topic, e.val, -e.dir, n - e.to, n - e.fr, e.st, e.en⟩
def mirM (n : Int) (m : Mt) : Mt := ⟨mirS n m.s, m.far⟩
def mirJ (n : Int) (js : List Int) : List Int := js.reverse.map fun j => n - j

theorem mirJ_len (n : Int) (js : List Int) : (mirJ n js).length = js.length := by simp [mirJ]
theorem mirJ_at (n : Int) (js : List Int) {k : Nat} (h : k < js.length) : (mirJ n js)[k]'(by rw [mirJ_len]; exact h) = n - js[js.length - 1 - k] := by
  simp [mirJ, List.getElem_reverse]
theorem lineB_mir {n : Int} {js : List Int} (h : lineB n js = true) : lineB n (mirJ n js) = true := by
  rw [lineB_iff] at *
  obtain ⟨h1, h2, h3, h4⟩ := h
  refine ⟨h1, h2, by rw [mirJ_len]; exact h3, fun k hk => ?_⟩
  have hk' : k < js.length := by rw [mirJ_len] at hk; exact hk
  rw [lineOk_iff hk, mirJ_at n js hk']
  have a := (lineOk_iff (show js.length - 1 - k < js.length by omega)).1 (h4 (js.length - 1 - k) (by omega))
  refine ⟨by omega, by omega, fun h0 => ?_⟩
  rw [List.getElem?_eq_getElem (show k - 1 < (mirJ n js).length by omega), Option.getD_some, mirJ_at n js (show k - 1 < js.length by omega)]
  have b := (lineOk_iff (show js.length - 1 - (k - 1) < js.length by omega)).1 (h4 (js.length - 1 - (k - 1)) (by omega))
  have c := b.2.2 (by omega)
  have e : js.length - 1 - (k - 1) - 1 = js.length - 1 - k := by omega
  rw [e, List.getElem?_eq_getElem (show js.length - 1 - k < js.length by omega), Option.getD_some] at c
  omega
theorem dirB_neg (d : Int) : dirB (-d) = dirB d := by
  simp only [dirB]
  rw [decide_eq_decide]; omega
theorem signOk_mir (n : Int) (s : Sg) : signOk n (mirS n s) = signOk n s := by
  rw [Bool.eq_iff_iff, signOk_iff, signOk_iff]
  dsimp only [mirS]
  rw [dirB_neg]
  constructor <;> rintro ⟨h1, h2, h3, h4⟩ <;> exact ⟨h1, h2, by omega, h4⟩
theorem edOk_mir (n : Int) (e : Ed) : edOk n (mirE n e) = edOk n e := by
  rw [Bool.eq_iff_iff, edOk_iff, edOk_iff]
  dsimp only [mirE]
  rw [dirB_neg]
  constructor <;> rintro ⟨a, b, c, d, e, f, g⟩ <;> exact ⟨a, b, by omega, by omega, by omega, f, g⟩
theorem mirS_nums (n : Int) (l : List Sg) : (l.map (mirS n)).map Sg.num = l.map Sg.num := by rw [List.map_map]; rfl
theorem sgsB_mir {n : Int} {js : List Int} {l : List Sg} (h : sgsB n js l = true) : sgsB n (mirJ n js) (l.map (mirS n)) = true := by
  simp only [sgsB, Bool.and_eq_true] at *
  obtain ⟨⟨⟨h1, h2⟩, h3⟩, h4⟩ := h
  refine ⟨⟨⟨lineB_mir h1, by simpa using h2⟩, ?_⟩, by rw [mirS_nums]; exact h4⟩
  rw [List.all_map]
  rw [List.all_eq_true] at *
  intro x hx
  rw [Function.comp_apply, signOk_mir]; exact h3 x hx
theorem mirE_nums (n : Int) (l : List Ed) : (l.map (mirE n)).map Ed.num = l.map Ed.num := by rw [List.map_map]; rfl
theorem edsB_mir {n : Int} {js : List Int} {l : List Ed} (h : edsB n js l = true) : edsB n (mirJ n js) (l.map (mirE n)) = true := by
  simp only [edsB, Bool.and_eq_true] at *
  obtain ⟨⟨⟨h1, h2⟩, h3⟩, h4⟩ := h
  refine ⟨⟨⟨lineB_mir h1, by simpa using h2⟩, ?_⟩, by rw [mirE_nums]; exact h4⟩
  rw [List.all_map]
  rw [List.all_eq_true] at *
  intro x hx
  rw [Function.comp_apply, edOk_mir]; exact h3 x hx

theorem dist_mir {n dir c : Int} (hd : dir = 1 ∨ dir = -1) : distI n (-dir) (n - c) = distI n dir c := by
  rcases hd with rfl | rfl
  · rw [distI, distI, if_neg (by omega), if_pos rfl]; omega
  · rw [distI, distI, if_pos (by omega), if_neg (by omega)]
theorem metre_mir {n dir m : Int} (hd : dir = 1 ∨ dir = -1) : metreI n (-dir) (n - 1 - m) = metreI n dir m := by
  rcases hd with rfl | rfl
  · rw [metreI, metreI, if_neg (by omega), if_pos rfl]; omega
  · rw [metreI, metreI, if_pos (by omega), if_neg (by omega)]
theorem selP_mir {n hour dir : Int} (l : List Sg) (hd : dir = 1 ∨ dir = -1) : selP n hour (-dir) (l.map (mirS n)) = (selP n hour dir l).map (mirM n) := by
  unfold selP
  rw [List.filter_map, List.map_map, List.map_map]
  have hf : ((fun s => decide (s.dir = -dir) && spkB s hour) ∘ mirS n) = fun s => decide (s.dir = dir) && spkB s hour := by
    funext s
    rw [Bool.eq_iff_iff]
    simp only [Function.comp_apply, Bool.and_eq_true, decide_eq_true_eq]
    show (-s.dir = -dir ∧ spkB s hour = true) ↔ _
    exact ⟨fun ⟨a, b⟩ => ⟨by omega, b⟩, fun ⟨a, b⟩ => ⟨by omega, b⟩⟩
  rw [hf]
  refine List.map_congr_left fun s _ => ?_
  simp only [Function.comp_apply, mirM]
  rw [show (mirS n s).chain = n - s.chain from rfl, dist_mir hd]
theorem isRow_mir {n hour dir : Int} {l : List Sg} {R : List Mt} (hd : dir = 1 ∨ dir = -1) (h : IsRow n hour dir l R) : IsRow n hour (-dir) (l.map (mirS n)) (R.map (mirM n)) := by
  refine ⟨by rw [selP_mir l hd]; exact h.perm.map _, ?_⟩
  rw [List.pairwise_map]
  exact h.sorted
theorem rowM_mir {n hour dir : Int} {l : List Sg} {R : List Mt} (hd : dir = 1 ∨ dir = -1) (h : IsRow n hour dir l R) (hn : (l.map Sg.num).Nodup) : rowM n hour (-dir) (l.map (mirS n)) = (rowM n hour dir l).map (mirM n) := by
  rw [← rowM_eq h hn]
  exact (rowM_eq (isRow_mir hd h) (by rw [mirS_nums]; exact hn)).symm
theorem nums_mir {n hour dir : Int} {l : List Sg} {R R2 : List Mt} (hd : dir = 1 ∨ dir = -1) (h : IsRow n hour dir l R) (h2 : IsRow n hour (-dir) (l.map (mirS n)) R2) (hn : (l.map Sg.num).Nodup) : R2 = R.map (mirM n) := by
  rw [rowM_eq h2 (by rw [mirS_nums]; exact hn), rowM_mir hd h hn, ← rowM_eq h hn]

theorem says_mir (n : Int) (s : Sg) (topic : Int) : saysP (mirS n s) topic = saysP s topic := rfl
theorem plated_mir (n : Int) (R : List Mt) (i : Nat) : platedP (R.map (mirM n)) i = platedP R i := by
  unfold platedP
  rw [List.getElem?_map, List.getElem?_map]
  cases R[i]? with
  | none => rfl
  | some a => cases R[i + 1]? with
    | none => rfl
    | some b =>
      simp only [Option.map_some, mirM, mirS]
      have h : decide (n - b.s.chain = n - a.s.chain) = decide (b.s.chain = a.s.chain) := by rw [decide_eq_decide]; omega
      rw [h]
theorem junMin_mir {n dir far : Int} (js : List Int) (e : Int) (hd : dir = 1 ∨ dir = -1) : junMin n (-dir) far (mirJ n js) e = junMin n dir far js e := by
  unfold junMin mirJ
  rw [List.foldl_map]
  have hf : (fun (e : Int) (j : Int) => if far < distI n (-dir) (n - j) then min e (distI n (-dir) (n - j)) else e) = fun e j => if far < distI n dir j then min e (distI n dir j) else e := by
    funext e j; rw [dist_mir hd]
  rw [hf]
  refine List.Perm.foldl_eq' (List.reverse_perm js) (fun x _ y _ z => ?_) e
  repeat' split
  all_goals first | rfl | omega
theorem reach_mir {n dir : Int} (js : List Int) (R : List Mt) (i : Nat) (hd : dir = 1 ∨ dir = -1) : reachP n (mirJ n js) (R.map (mirM n)) i (-dir) = reachP n js R i dir := by
  unfold reachP
  rw [List.getElem?_map, List.getElem?_map, plated_mir]
  cases R[i]? with
  | none => rfl
  | some a => cases R[i + 1]? with
    | none => simp only [Option.map_some, Option.map_none, junMin_mir js _ hd]; rfl
    | some b => simp only [Option.map_some, junMin_mir js _ hd]; rfl
theorem hold_mir {n dir topic k : Int} (js : List Int) (R : List Mt) (hd : dir = 1 ∨ dir = -1) : holdP n (mirJ n js) (R.map (mirM n)) (-dir) topic k = holdP n js R dir topic k := by
  unfold holdP holdRun
  rw [List.length_map]
  have hf : holdStep n (mirJ n js) (R.map (mirM n)) (-dir) topic k = holdStep n js R dir topic k := by
    funext v i
    unfold holdStep
    rw [List.getElem?_map, reach_mir js R i hd]
    cases R[i]? with
    | none => rfl
    | some m => rfl
  rw [hf]
theorem must_mir {n hour dir topic m : Int} (ed : List Ed) : mustP (ed.map (mirE n)) hour (-dir) topic (n - 1 - m) = mustP ed hour dir topic m := by
  unfold mustP mustRun
  rw [List.foldl_map]
  have hf : (fun (st : Int × Int) (e : Ed) => mustStep hour (-dir) topic (n - 1 - m) st (mirE n e)) = mustStep hour dir topic m := by
    funext st e
    have h : edHit hour (-dir) topic (n - 1 - m) (mirE n e) = edHit hour dir topic m e := by
      rw [Bool.eq_iff_iff]
      simp only [edHit, Bool.and_eq_true, decide_eq_true_eq]
      dsimp only [mirE]
      constructor
      · rintro ⟨⟨⟨⟨⟨a, b⟩, c⟩, d⟩, e⟩, f⟩; exact ⟨⟨⟨⟨⟨a, by omega⟩, c⟩, d⟩, by omega⟩, by omega⟩
      · rintro ⟨⟨⟨⟨⟨a, b⟩, c⟩, d⟩, e⟩, f⟩; exact ⟨⟨⟨⟨⟨a, by omega⟩, c⟩, d⟩, by omega⟩, by omega⟩
    unfold mustStep
    rw [h]
    rfl
  rw [hf]
theorem mine_mir (n : Int) (R : List Mt) (i : Nat) : mineB (R.map (mirM n)) i = mineB R i := by
  unfold mineB
  rw [plated_mir, List.getElem?_map]
  cases R[i - 1]? <;> rfl
theorem code_mir {n dir : Int} (js : List Int) (R : List Mt) (i : Nat) (hd : dir = 1 ∨ dir = -1) (hR : ∀ m ∈ R, m.s.dir = dir) : codeH n (mirJ n js) (R.map (mirM n)) (-dir) i = codeH n js R dir i := by
  unfold codeH
  rw [List.getElem?_map, mine_mir]
  cases hm : R[i]? with
  | none => rfl
  | some m =>
    have hdm := hR m (List.mem_of_getElem? hm)
    have hid : ridleB n (mirJ n js) (R.map (mirM n)) (mirS n m.s) m.far = ridleB n js R m.s m.far := by
      have he : ∀ t, endsB n (mirJ n js) (R.map (mirM n)) (mirS n m.s) m.far t = endsB n js R m.s m.far t := fun t => by
        unfold endsB
        rw [show (mirS n m.s).dir = -dir from by rw [← hdm]; rfl, hdm, hold_mir js R hd]
        rfl
      unfold ridleB
      rw [he, he]
    simp only [Option.map_some]
    rw [show (mirM n m).s = mirS n m.s from rfl, show (mirM n m).far = m.far from rfl, hid, hold_mir js R hd]
    rfl
theorem numAt_mir (n : Int) (R : List Mt) (i : Nat) : numAt (R.map (mirM n)) i = numAt R i := by
  unfold numAt
  rw [List.getElem?_map]
  cases R[i]? <;> rfl
theorem fltRow_mir {n dir : Int} (js : List Int) (R : List Mt) (k : Nat) (hd : dir = 1 ∨ dir = -1) (hR : ∀ m ∈ R, m.s.dir = dir) : fltRow n (mirJ n js) (R.map (mirM n)) (-dir) k = fltRow n js R dir k := by
  unfold fltRow
  congr 1
  funext i
  rw [code_mir js R i hd hR, numAt_mir]
theorem fltAll_mir {n : Nat} {js : List Int} {l : List Sg} {hour : Int} (h1 : IsRow n hour 1 l (rowM n hour 1 l)) (h2 : IsRow n hour (-1) l (rowM n hour (-1) l)) (hn : (l.map Sg.num).Nodup) :
    (fltAll n (mirJ n js) (l.map (mirS n)) hour).Perm (fltAll n js l hour) := by
  unfold fltAll
  have e1 := rowM_mir (Or.inl rfl) h1 hn
  have e2 := rowM_mir (Or.inr rfl) h2 hn
  rw [show (- -1 : Int) = 1 from rfl] at e2
  rw [e1, e2, List.length_map, List.length_map]
  have f1 := fltRow_mir (n := n) js (rowM n hour 1 l) (rowM n hour 1 l).length (Or.inl rfl) (row_dir h1)
  have f2 := fltRow_mir (n := n) js (rowM n hour (-1) l) (rowM n hour (-1) l).length (Or.inr rfl) (row_dir h2)
  rw [show (- -1 : Int) = 1 from rfl] at f2
  rw [f1, f2]
  exact List.perm_append_comm
end

section
theorem info_signM : (Tryz.prog.info? 80).map (fun i => (i.zero, i.size, i.bytes)) = some (some (.agg #[.int .i64 0, .int .i64 0, .int .i64 0, .int .i64 0, .int .i64 0, .int .i64 0, .int .i64 0, .int .i64 0, .slice none 0 0]), 9, 88) := by kernel_rfl
theorem info_edictM : (Tryz.prog.info? 93).map (fun i => (i.zero, i.size, i.bytes)) = some (some (.agg #[.int .i64 0, .int .i64 0, .int .i64 0, .int .i64 0, .int .i64 0, .int .i64 0, .int .i64 0, .int .i64 0]), 8, 64) := by kernel_rfl
theorem box3m (w : World) (c1 c2 c3 : Array Value) (t1 t2 t3 : TypeId) :
    (((w.alloc (.cells c1 t1)).alloc (.cells c2 t2)).alloc (.cells c3 t3)).heap[w.heap.size]? = some (.cells c1 t1 (0, 0)) ∧
    (((w.alloc (.cells c1 t1)).alloc (.cells c2 t2)).alloc (.cells c3 t3)).heap[w.heap.size + 1]? = some (.cells c2 t2 (0, 0)) ∧
    (((w.alloc (.cells c1 t1)).alloc (.cells c2 t2)).alloc (.cells c3 t3)).heap[w.heap.size + 2]? = some (.cells c3 t3 (0, 0)) ∧
    Below w.heap.size w (((w.alloc (.cells c1 t1)).alloc (.cells c2 t2)).alloc (.cells c3 t3)) ∧
    (((w.alloc (.cells c1 t1)).alloc (.cells c2 t2)).alloc (.cells c3 t3)).heap.size = w.heap.size + 3 := by
  have s1 : (w.alloc (.cells c1 t1)).heap.size = w.heap.size + 1 := by simp
  have s2 : ((w.alloc (.cells c1 t1)).alloc (.cells c2 t2)).heap.size = w.heap.size + 2 := by simp
  refine ⟨?_, ?_, ?_, below_alloc' (below_alloc' (below_alloc w _) _) _, by simp⟩
  · rw [Below.heap_alloc _ _ _ (by omega), Below.heap_alloc _ _ _ (by omega)]; exact heap_alloc_new w _
  · rw [Below.heap_alloc _ _ _ (by omega), ← s1]; exact heap_alloc_new _ _
  · rw [← s2]; exact heap_alloc_new _ _
theorem GpFr.box {wS w : World} {O : Nat} {gS : Option Nat} {v : Value} (hf : GpFr wS w O gS v) (i : Nat) (u : Value) : GpFr wS (w.setCell ⟨O, i, none⟩ u) O gS v :=
  ⟨by simpa using hf.size, fun b hb h1 h2 => by rw [block_set_other _ _ h1]; exact hf.same b hb h1 h2, hf.ob⟩
theorem GpFr.start (w : World) (O : Nat) : GpFr w w O none (.slice none 0 0) := ⟨Nat.le_refl _, fun _ _ _ _ => rfl, fun g hg => by cases hg⟩
theorem GpFr.rdN {wS w : World} {O : Nat} {v : Value} (h : GpFr wS w O none v) {B : Option Addr} {xs : List Value} (hr : Rd wS B xs) (h1 : ∀ a, B = some a → a.block ≠ O) : Rd w B xs := h.rd hr h1 (fun _ _ e => by cases e)

def MirPost (n : Nat) (js : List Int) (l : List Sg) (ed : List Ed) (hour dir topic metre : Int) (w : World) (e : Ending) (w' : World) : Prop :=
      ∃ (B1 : Option Addr) (d1 : Nat) (B2 : Option Addr) (d2 : Nat) (B3 : Option Addr) (d3 : Nat), e = .returned (.agg #[.int .i64 n, .slice B1 (mirJ n js).length d1, .slice B2 (l.map (mirS n)).length d2, .slice B3 (ed.map (mirE n)).length d3, .int .i64 hour, .int .i64 (-dir), .int .i64 topic, .int .i64 (n - 1 - metre)]) ∧
        LnOk w' B1 (mirJ n js) ∧ SgsOk w' B2 (l.map (mirS n)) ∧ EdsOk w' B3 (ed.map (mirE n)) ∧ Below w.heap.size w w'
theorem Rd.setFar {w : World} {A : Option Addr} {xs : List Value} (hr : Rd w A xs) {k : Nat} (h : ∀ a, A = some a → a.block ≠ k) (i : Nat) (u : Value) : Rd (w.setCell ⟨k, i, none⟩ u) A xs := fun hx => by
  obtain ⟨b, off, rfl, hb, hc⟩ := hr hx
  refine ⟨b, off, rfl, by simpa using hb, fun j v hj => ?_⟩
  rw [World.cell?_setCell_far _ _ _ _ (Ne.symm (h _ rfl))]
  exact hc j v hj
theorem alloc2n (w : World) (o : Obj) (c : Array Value) (t : TypeId) : ((w.alloc o).alloc (.cells c t)).heap[w.heap.size + 1]? = some (.cells c t (0, 0)) := by
  have h := heap_alloc_new (w.alloc o) (.cells c t)
  rwa [show (w.alloc o).heap.size = w.heap.size + 1 from by simp] at h
theorem mir_push {wS w w3 : World} {B te size n n2 : Nat} {v v2 : Value} {xs xs2 : List Value} {o : Obj} {cs : Array Value} {t : TypeId} {i : Nat} (hBS : B < wS.heap.size) (hb : w.heap[B]? = some (.cells cs t (0, 0))) (hF : GpFr wS w B none v) (ho : w.ownsRow wS.heap.size te size v n xs) (hown : w3.ownsRow wS.heap.size te size v2 n2 xs2)
    (hg : (w.alloc o).grownBy w3 v.ownBlock) (hn : ∀ g, v2.ownBlock = some g → v.ownBlock = some g ∨ w.heap.size ≤ g) {cs2 : Array Value} (hcs : cs.setIfInBounds i v2 = cs2) :
    (w3.setCell ⟨B, i, none⟩ v2).heap[B]? = some (.cells cs2 t (0, 0)) ∧ (w3.setCell ⟨B, i, none⟩ v2).ownsRow wS.heap.size te size v2 n2 xs2 ∧ GpFr wS (w3.setCell ⟨B, i, none⟩ v2) B none v2 := by
  have hsz := hF.size
  have h3 : w3.heap[B]? = some (.cells cs t (0, 0)) := by
    rw [hg.block B (by simp; omega) (fun e => by have := (own_lt' ho e.symm).1; omega), Below.heap_alloc _ _ _ (by omega)]
    exact hb
  refine ⟨?_, own_set hown hBS i _, (hF.append hg hn).box i _⟩
  rw [← hcs]
  exact block_set_same h3 i _

set_option maxHeartbeats 4000000 in
set_option maxRecDepth 100000 in
theorem mirrored_calls (n : Nat) (A : Option Addr) (js : List Int) (c : Nat) (A2 : Option Addr) (l : List Sg) (c2 : Nat) (A3 : Option Addr) (ed : List Ed) (c3 : Nat) (hour dir topic metre : Int) (w : World) (hl : LnOk w A js) (hs : SgsOk w A2 l) (he : EdsOk w A3 ed)
    (hv : lineB n js = true) (hv2 : sgsB n js l = true) (hv3 : edsB n js ed = true) (hd : dirB dir = true) (hm : 0 ≤ metre ∧ metre < n) :
    Calls Tryz.prog 21 #[.agg #[.int .i64 n, .slice A js.length c, .slice A2 l.length c2, .slice A3 ed.length c3, .int .i64 hour, .int .i64 dir, .int .i64 topic, .int .i64 metre]] w (MirPost n js l ed hour dir topic metre w) := by
  have HL := hid hl
  have HS := hid hs
  have HE := hid he
  have hn := (lineB_len hv).2
  have HJ := hid (lineB_mem hv)
  have HV := hid hv
  have HV2 := hid hv2
  have HV3 := hid hv3
  have HSB := hid (show ∀ s ∈ l, (0 ≤ s.chain ∧ s.chain ≤ n) ∧ (s.dir = 1 ∨ s.dir = -1) from fun s hm => by
    simp [sgsB] at hv2
    have h := signOk_iff.1 (hv2.1.2 s hm)
    exact ⟨h.2.2.1, by simpa [dirB] using h.2.2.2.1⟩)
  have HEB := hid (show ∀ e ∈ ed, (0 ≤ e.fr ∧ e.fr ≤ n) ∧ (0 ≤ e.to ∧ e.to ≤ n) ∧ (e.dir = 1 ∨ e.dir = -1) from fun e hm => by
    simp [edsB] at hv3
    have h := edOk_iff.1 (hv3.1.2 e hm)
    have h2 : e.dir = 1 ∨ e.dir = -1 := by simpa [dirB] using h.2.1
    omega)
  have hl100 := sgsB_len hv2
  have he50 := edsB_len hv3
  have hj50 : js.length ≤ 50 := by have := hv; simp [lineB, lineP] at this; omega
  have hdd : dir = 1 ∨ dir = -1 := by simpa [dirB] using hd
  have hne : ∀ {A : Option Addr} {xs : List Value}, Rd w A xs → xs ≠ [] → ∀ a, A = some a → a.block < w.heap.size := fun h hx a ha => by
    obtain ⟨b, off, rfl, hb, -⟩ := h hx
    injection ha with ha
    subst ha
    exact hb
  clear hl hs he hv hv2 hv3 hd
  obtain ⟨i0, hi, hz0, hz1, hz2⟩ := info_parts info_int
  obtain ⟨i1, hi', hz0', hz1', hz2'⟩ := info_parts info_signM
  obtain ⟨i2, hi'', hz0'', hz1'', hz2''⟩ := info_parts info_edictM
  have hk1 : IntKind.i64.wrap ((n : Int) - 1) = (n : Int) - 1 := IntWalk.i64_in _ (by omega)
  have hk2 : IntKind.i64.wrap ((n : Int) - 1 - metre) = (n : Int) - 1 - metre := IntWalk.i64_in _ (by omega)
  have hk3 : IntKind.i64.wrap (-dir) = -dir := IntWalk.i64_in _ (by omega)
  go_enter Tryz.func21, Tryz.ntmps21
  go_wp2_with fail
  obtain ⟨k0, k1, k2, hbw1, hsz⟩ := box3m w #[.int .i64 n, .slice A js.length c, .slice A2 l.length c2, .slice A3 ed.length c3, .int .i64 hour, .int .i64 dir, .int .i64 topic, .int .i64 metre] #[.int .i64 0, .slice none 0 0, .slice none 0 0, .slice none 0 0, .int .i64 0, .int .i64 0, .int .i64 0, .int .i64 0] #[.int .i64 n, .slice none 0 0, .slice none 0 0, .slice none 0 0, .int .i64 hour, .int .i64 (-dir), .int .i64 topic, .int .i64 (n - 1 - metre)] 28 28 28
  generalize hW : World.alloc _ _ = w1 at k0 k1 k2 hbw1 hsz ⊢
  obtain ⟨B, hB⟩ : ∃ B, B = w.heap.size + 1 + 1 := ⟨_, rfl⟩
  obtain ⟨B1, hB1⟩ : ∃ B1, B1 = w.heap.size + 1 := ⟨_, rfl⟩
  obtain ⟨B0, hB0⟩ : ∃ B0, B0 = w.heap.size := ⟨_, rfl⟩
  rw [← hB, ← hB1, ← hB0]
  rw [show w.heap.size + 2 = B by omega] at k2
  rw [← hB1] at k1
  rw [← hB0] at k0
  have hBs : B + 1 = w1.heap.size := by omega
  have HB := hid (And.intro hB (And.intro hB1 hB0))
  have HW1 := hid hbw1
  have K0 := hid k0
  have K1 := hid k1
  have hB1B : B1 < B := by omega
  have hB0B : B0 < B := by omega
  clear hW hB hB1 hB0 hsz hbw1 k0 k1
  go_loopw [5] (fun i wr => ∃ (q t : Nat) (A' : Option Addr) (c' : Nat), js.length = q + t ∧ i = .int .i64 ((t : Int) - 1) ∧ wr.heap[B]? = some (.cells #[.int .i64 n, .slice A' q c', .slice none 0 0, .slice none 0 0, .int .i64 hour, .int .i64 (-dir), .int .i64 topic, .int .i64 (n - 1 - metre)] 28 (0, 0)) ∧ wr.ownsRow w1.heap.size 3 1 (.slice A' q c') q (ints ((mirJ n js).take q)) ∧ GpFr w1 wr B none (.slice A' q c') ∧ Below w.heap.size w wr) (fun i _ => (intOf i + 1).toNat)
  case atStart => exact ⟨0, js.length, none, 0, by omega, rfl, k2, World.ownsRow_nil _ _ _ _, GpFr.start _ _, unhid HW1⟩
  case round =>
    clear k2
    obtain ⟨q, t, A', c', hqt, rfl, hb, hown, hF, hbel⟩ := hrel
    have HBL := hid hbel
    have HF := hid hF
    have HO := hid hown
    have HBK := hid hb
    have hBw : B < wr.heap.size := (Array.getElem?_eq_some_iff.1 hb).1
    have hsw := hF.size
    have hb0 := (hF.same B0 (by omega) (by omega) (fun e => by cases e)).trans (unhid K0)
    have hb1 := (hF.same B1 (by omega) (by omega) (fun e => by cases e)).trans (unhid K1)
    clear hF hown hbel
    by_cases ht : t = 0
    · subst ht
      go_wp2_with fail
      obtain ⟨w2, rfl⟩ : ∃ w2 : World, w2 = wr := ⟨_, rfl⟩
      have hq : q = js.length := by omega
      subst hq
      obtain ⟨A9, c9, hv9, hrd9, -⟩ := own_slice (unhid HO)
      injection hv9 with q1 q2 q3
      subst q1 q3
      have et := List.take_of_length_le (l := mirJ n js) (i := js.length) (by rw [mirJ_len]; exact Nat.le_refl _)
      rw [et] at hrd9
      have HR1 := hid hrd9
      clear et
      have HA1 := hid (fun a (h : A' = some a) => (own_lt' (unhid HO) (show (Value.slice A' js.length c').ownBlock = some a.block by rw [h]; rfl)).1)
      have HBL2 := hid (unhid HBL)
      have hBw2 := hBw
      have HK02 := hid hb0
      have HK12 := hid hb1
      clear hrd9 hb0 hb1 hqt HO HF HBL HBK
      go_wp2_with fail
      go_loopw [6] (fun i wr => ∃ (q : Nat) (A2' : Option Addr) (c2' : Nat), q ≤ l.length ∧ i = .int .i64 q ∧ wr.heap[B]? = some (.cells #[.int .i64 n, .slice A' js.length c', .slice A2' q c2', .slice none 0 0, .int .i64 hour, .int .i64 (-dir), .int .i64 topic, .int .i64 (n - 1 - metre)] 28 (0, 0)) ∧ wr.ownsRow w2.heap.size 80 9 (.slice A2' q c2') q (signs ((l.map (mirS n)).take q)) ∧ GpFr w2 wr B none (.slice A2' q c2') ∧ Below w.heap.size w wr) (fun i _ => l.length - (intOf i).toNat)
      case atStart => exact ⟨0, none, 0, Nat.zero_le _, rfl, hb, World.ownsRow_nil _ _ _ _, GpFr.start _ _, unhid HBL2⟩
      case round =>
        clear hb hBw hsw
        obtain ⟨q, A2', c2', hq, rfl, hb, hown, hF, hbel⟩ := hrel
        have HBL := hid hbel
        have HF := hid hF
        have HO := hid hown
        have HBK := hid hb
        have hBw : B < wr.heap.size := (Array.getElem?_eq_some_iff.1 hb).1
        have hsw := hF.size
        have hb0 := (hF.same B0 (by omega) (by omega) (fun e => by cases e)).trans (unhid HK02)
        have hb1 := (hF.same B1 (by omega) (by omega) (fun e => by cases e)).trans (unhid HK12)
        clear hF hown hbel
        by_cases hlt : q < l.length
        · have hrd := (unhid HS).rd.below (unhid HBL)
          obtain ⟨b, off, hA2, hbl, hc⟩ := hrd (signs_ne hlt)
          obtain ⟨m0, m1, m2, m3, m4, m5, m6, m7, m8⟩ := signs_cells hc hlt
          have y1 : wr.cell? ⟨B0, 2, none⟩ = some (.slice A2 l.length c2) := (cell_of_row _ B0 2 _ _ _ hb0).trans rfl
          have z1 : wr.cell? ⟨B, 2, none⟩ = some (.slice A2' q c2') := (cell_of_row _ B 2 _ _ _ hb).trans rfl
          have zf := frozen_of_row _ B 2 _ _ hb
          have hxs := (unhid HSB) l[q] (List.getElem_mem _)
          have HMJ := hid (show (l.map (mirS n)).take (q + 1) = (l.map (mirS n)).take q ++ [mirS n l[q]] from by
            rw [List.take_succ_eq_append_getElem (by simpa using hlt)]
            simp)
          generalize l[q] = x at *
          have hx1 : IntKind.i64.wrap ((n : Int) - x.chain) = (n : Int) - x.chain := IntWalk.i64_in _ (by omega)
          have hx2 : IntKind.i64.wrap (-x.dir) = -x.dir := IntWalk.i64_in _ (by omega)
          subst hA2
          clear hb hb0 hb1 hrd hc
          go_wp2_with (at_builtin; refine wpList_append_lies _ rfl _ _ 25 rfl w2.heap.size 80 i1 (.agg #[.int .i64 0, .int .i64 0, .int .i64 0, .int .i64 0, .int .i64 0, .int .i64 0, .int .i64 0, .int .i64 0, .slice none 0 0]) 9 88 Tryz.underlying25 hi' hz0' hz1' hz2' rfl (by decide) _ _ _ rfl (((unhid HO).alloc _).alloc _) ⟨wr.heap.size + 1, 0, none⟩ 1 1 [.int .i64 x.num, .int .i64 x.kind, .int .i64 x.val, .int .i64 (n - x.chain), .int .i64 (-x.dir), .int .i64 x.rank, .int .i64 x.up, .int .i64 x.down, .slice x.cA x.cov.length x.cc] rfl rfl (World.news_of_block (cs := #[.int .i64 x.num, .int .i64 x.kind, .int .i64 x.val, .int .i64 (n - x.chain), .int .i64 (-x.dir), .int .i64 x.rank, .int .i64 x.up, .int .i64 x.down, .slice x.cA x.cov.length x.cc]) (t := 80) (fr := (0, 0)) (alloc2n wr _ _ _)) ?_ (by decide) ?_ ?_ ?_ (wr.heap.size + 2) (by simp) ?_)
          all_goals try (first | (unfold maxLen; omega) | omega | (simp; omega) | exact ⟨rfl, rfl, rfl, rfl, rfl, rfl, rfl, rfl, rfl⟩ | (intro u hu; simp at hu; rcases hu with rfl | rfl | rfl | rfl | rfl | rfl | rfl | rfl | rfl <;> rfl))
          intro g3 cap3 w7 hown hg hat hlt3
          obtain ⟨wa, hwa⟩ : ∃ wa, wa = wr.alloc (.cells #[.int .i64 x.num, .int .i64 x.kind, .int .i64 x.val, .int .i64 (n - x.chain), .int .i64 (-x.dir), .int .i64 x.rank, .int .i64 x.up, .int .i64 x.down, .slice x.cA x.cov.length x.cc] 80) := ⟨_, rfl⟩
          rw [← hwa] at hg
          have hba : Below wr.heap.size wr wa := by rw [hwa]; exact below_alloc _ _
          have hsa : wa.heap.size = wr.heap.size + 1 := by rw [hwa]; simp
          have hOa := own_below (unhid HO) hba
          have hfar : ∀ (k i : Nat), k < wr.heap.size → (Value.slice A2' q c2').ownBlock ≠ some k → w7.cell? ⟨k, i, none⟩ = wr.cell? ⟨k, i, none⟩ := fun k i hk hne => (hg.cell_far ⟨k, i, none⟩ (by simp; omega) (fun e => hne e.symm)).trans ((World.cell?_alloc_lt wa _ ⟨k, i, none⟩ (by dsimp only; omega)).trans (hba.cell (p := ⟨k, i, none⟩) hk))
          have hOB : (Value.slice A2' q c2').ownBlock ≠ some B := fun e => by have h1 := (own_lt' (unhid HO) e).1; omega
          have hu7 := (hfar B 2 hBw hOB).trans z1
          have HBa := hid (show wa.heap[B]? = _ from (hba.block B hBw).trans (unhid HBK))
          have hff : w7.frozen? ⟨B, 2, none⟩ = false := (hg.frozen_far ⟨B, 2, none⟩ (by simp; omega) (fun e => hOB e.symm)).trans ((World.frozen?_alloc_old wa _ ⟨B, 2, none⟩ (by dsimp only; omega)).trans (frozen_of_row _ B 2 _ _ (unhid HBa)))
          have HP := hid (mir_push (i := 2) (by omega) (unhid HBa) ((unhid HF).kept hba) hOa hown hg (fun g hgg => by
            have e : g = g3 := by simpa [Value.ownBlock] using hgg.symm
            subst e
            rcases hat with h | h
            · exact .inl h
            · exact .inr (by omega)) rfl)
          have HB7 := hid (show Below w.heap.size w (w7.setCell ⟨B, 2, none⟩ (.slice (some ⟨g3, 0, none⟩) (q + 1) cap3)) from by
            have hbel := (unhid HBL).trans (hba.mono (unhid HBL).size)
            refine Below.setCell (Below.grown (hbel.alloc hbel.size _) hg (by have := hbel.size; simp; omega) (fun i hi => ?_)) (by have := (unhid HB).1; dsimp only; omega) _
            have := own_lt' (unhid HO) hi
            have := (unhid HB).1
            omega)
          clear hown hg hat hfar hwa hba hsa hOa m0 m1 m2 m3 m4 m5 m6 m7 m8 z1 y1 zf
          go_wp2_with fail
          go_roundw
          case rel =>
            have hP := unhid HP
            refine ⟨q + 1, some ⟨g3, 0, none⟩, cap3, by omega, by go_num, hP.1, ?_, hP.2.2, unhid HB7⟩
            have := hP.2.1
            rw [unhid HMJ]
            simpa [signs, sgC, mirS] using this
          case measure => simp [intOf]; omega
        · have hq2 : q = l.length := by omega
          subst hq2
          have y1 : wr.cell? ⟨B0, 2, none⟩ = some (.slice A2 l.length c2) := (cell_of_row _ B0 2 _ _ _ hb0).trans rfl
          obtain ⟨w3, rfl⟩ : ∃ w3 : World, w3 = wr := ⟨_, rfl⟩
          obtain ⟨A9, c9, hv9, hrd9, -⟩ := own_slice (unhid HO)
          injection hv9 with q1 q2 q3
          subst q1 q3
          have et := List.take_of_length_le (l := l.map (mirS n)) (i := l.length) (by simp)
          rw [et] at hrd9
          have HR2 := hid hrd9
          have HA2 := hid (fun a (h : A2' = some a) => (own_lt' (unhid HO) (show (Value.slice A2' l.length c2').ownBlock = some a.block by rw [h]; rfl)).1)
          have HR1 := hid ((unhid HF).rdN (unhid HR1) (fun a ha => by have := unhid HA1 a ha; omega))
          have HBL2 := hid (unhid HBL)
          have HK02 := hid hb0
          have HK12 := hid hb1
          have hsw2 : w2.heap.size ≤ w3.heap.size := hsw
          have hBw3 := hBw
          clear hrd9 hb0 hb1 HO HF HBL HBK et
          go_wp2_with fail
          go_loopw [8] (fun i wr => ∃ (q : Nat) (A3' : Option Addr) (c3' : Nat), q ≤ ed.length ∧ i = .int .i64 q ∧ wr.heap[B]? = some (.cells #[.int .i64 n, .slice A' js.length c', .slice A2' l.length c2', .slice A3' q c3', .int .i64 hour, .int .i64 (-dir), .int .i64 topic, .int .i64 (n - 1 - metre)] 28 (0, 0)) ∧ wr.ownsRow w3.heap.size 93 8 (.slice A3' q c3') q (edicts ((ed.map (mirE n)).take q)) ∧ GpFr w3 wr B none (.slice A3' q c3') ∧ Below w.heap.size w wr) (fun i _ => ed.length - (intOf i).toNat)
          case atStart => exact ⟨0, none, 0, Nat.zero_le _, rfl, hb, World.ownsRow_nil _ _ _ _, GpFr.start _ _, unhid HBL2⟩
          case round =>
            clear hb hBw hsw
            obtain ⟨q, A3', c3', hq, rfl, hb, hown, hF, hbel⟩ := hrel
            have HBL := hid hbel
            have HF := hid hF
            have HO := hid hown
            have HBK := hid hb
            have hBw : B < wr.heap.size := (Array.getElem?_eq_some_iff.1 hb).1
            have hsw := hF.size
            have hb0 := (hF.same B0 (by omega) (by omega) (fun e => by cases e)).trans (unhid HK02)
            have hb1 := (hF.same B1 (by omega) (by omega) (fun e => by cases e)).trans (unhid HK12)
            clear hF hown hbel
            by_cases hlt : q < ed.length
            · have hrd := (unhid HE).rd.below (unhid HBL)
              obtain ⟨b, off, hA3, hbl, hc⟩ := hrd (edicts_ne hlt)
              obtain ⟨m0, m1, m2, m3, m4, m5, m6, m7⟩ := edicts_cells hc hlt
              have y1 : wr.cell? ⟨B0, 3, none⟩ = some (.slice A3 ed.length c3) := (cell_of_row _ B0 3 _ _ _ hb0).trans rfl
              have z1 : wr.cell? ⟨B, 3, none⟩ = some (.slice A3' q c3') := (cell_of_row _ B 3 _ _ _ hb).trans rfl
              have zf := frozen_of_row _ B 3 _ _ hb
              have hxs := (unhid HEB) ed[q] (List.getElem_mem _)
              have HMJ := hid (show (ed.map (mirE n)).take (q + 1) = (ed.map (mirE n)).take q ++ [mirE n ed[q]] from by
                rw [List.take_succ_eq_append_getElem (by simpa using hlt)]
                simp)
              generalize ed[q] = x at *
              have hx1 : IntKind.i64.wrap ((n : Int) - x.to) = (n : Int) - x.to := IntWalk.i64_in _ (by omega)
              have hx3 : IntKind.i64.wrap ((n : Int) - x.fr) = (n : Int) - x.fr := IntWalk.i64_in _ (by omega)
              have hx2 : IntKind.i64.wrap (-x.dir) = -x.dir := IntWalk.i64_in _ (by omega)
              subst hA3
              clear hb hb0 hb1 hrd hc
              go_wp2_with (at_builtin; refine wpList_append_lies _ rfl _ _ 26 rfl w3.heap.size 93 i2 (.agg #[.int .i64 0, .int .i64 0, .int .i64 0, .int .i64 0, .int .i64 0, .int .i64 0, .int .i64 0, .int .i64 0]) 8 64 Tryz.underlying26 hi'' hz0'' hz1'' hz2'' rfl (by decide) _ _ _ rfl (((unhid HO).alloc _).alloc _) ⟨wr.heap.size + 1, 0, none⟩ 1 1 [.int .i64 x.num, .int .i64 x.topic, .int .i64 x.val, .int .i64 (-x.dir), .int .i64 (n - x.to), .int .i64 (n - x.fr), .int .i64 x.st, .int .i64 x.en] rfl rfl (World.news_of_block (cs := #[.int .i64 x.num, .int .i64 x.topic, .int .i64 x.val, .int .i64 (-x.dir), .int .i64 (n - x.to), .int .i64 (n - x.fr), .int .i64 x.st, .int .i64 x.en]) (t := 93) (fr := (0, 0)) (alloc2n wr _ _ _)) ?_ (by decide) ?_ ?_ ?_ (wr.heap.size + 2) (by simp) ?_)
              all_goals try (first | (unfold maxLen; omega) | omega | (simp; omega) | exact ⟨rfl, rfl, rfl, rfl, rfl, rfl, rfl, rfl⟩ | (intro u hu; simp at hu; rcases hu with rfl | rfl | rfl | rfl | rfl | rfl | rfl | rfl <;> rfl))
              intro g3 cap3 w7 hown hg hat hlt3
              obtain ⟨wa, hwa⟩ : ∃ wa, wa = wr.alloc (.cells #[.int .i64 x.num, .int .i64 x.topic, .int .i64 x.val, .int .i64 (-x.dir), .int .i64 (n - x.to), .int .i64 (n - x.fr), .int .i64 x.st, .int .i64 x.en] 93) := ⟨_, rfl⟩
              rw [← hwa] at hg
              have hba : Below wr.heap.size wr wa := by rw [hwa]; exact below_alloc _ _
              have hsa : wa.heap.size = wr.heap.size + 1 := by rw [hwa]; simp
              have hOa := own_below (unhid HO) hba
              have hfar : ∀ (k i : Nat), k < wr.heap.size → (Value.slice A3' q c3').ownBlock ≠ some k → w7.cell? ⟨k, i, none⟩ = wr.cell? ⟨k, i, none⟩ := fun k i hk hne => (hg.cell_far ⟨k, i, none⟩ (by simp; omega) (fun e => hne e.symm)).trans ((World.cell?_alloc_lt wa _ ⟨k, i, none⟩ (by dsimp only; omega)).trans (hba.cell (p := ⟨k, i, none⟩) hk))
              have hOB : (Value.slice A3' q c3').ownBlock ≠ some B := fun e => by have h1 := (own_lt' (unhid HO) e).1; omega
              have hu7 := (hfar B 3 hBw hOB).trans z1
              have HBa := hid (show wa.heap[B]? = _ from (hba.block B hBw).trans (unhid HBK))
              have hff : w7.frozen? ⟨B, 3, none⟩ = false := (hg.frozen_far ⟨B, 3, none⟩ (by simp; omega) (fun e => hOB e.symm)).trans ((World.frozen?_alloc_old wa _ ⟨B, 3, none⟩ (by dsimp only; omega)).trans (frozen_of_row _ B 3 _ _ (unhid HBa)))
              have HP := hid (mir_push (i := 3) (by omega) (unhid HBa) ((unhid HF).kept hba) hOa hown hg (fun g hgg => by
                have e : g = g3 := by simpa [Value.ownBlock] using hgg.symm
                subst e
                rcases hat with h | h
                · exact .inl h
                · exact .inr (by omega)) rfl)
              have HB7 := hid (show Below w.heap.size w (w7.setCell ⟨B, 3, none⟩ (.slice (some ⟨g3, 0, none⟩) (q + 1) cap3)) from by
                have hbel := (unhid HBL).trans (hba.mono (unhid HBL).size)
                refine Below.setCell (Below.grown (hbel.alloc hbel.size _) hg (by have := hbel.size; simp; omega) (fun i hi => ?_)) (by have := (unhid HB).1; dsimp only; omega) _
                have := own_lt' (unhid HO) hi
                have := (unhid HB).1
                omega)
              clear hown hg hat hfar hwa hba hsa hOa m0 m1 m2 m3 m4 m5 m6 m7 z1 y1 zf
              go_wp2_with fail
              go_roundw
              case rel =>
                have hP := unhid HP
                refine ⟨q + 1, some ⟨g3, 0, none⟩, cap3, by omega, by go_num, hP.1, ?_, hP.2.2, unhid HB7⟩
                have := hP.2.1
                rw [unhid HMJ]
                simpa [edicts, edC, mirE] using this
              case measure => simp [intOf]; omega
            · have hq3 : q = ed.length := by omega
              subst hq3
              have y1 : wr.cell? ⟨B0, 3, none⟩ = some (.slice A3 ed.length c3) := (cell_of_row _ B0 3 _ _ _ hb0).trans rfl
              obtain ⟨w4, rfl⟩ : ∃ w4 : World, w4 = wr := ⟨_, rfl⟩
              obtain ⟨A9, c9, hv9, hrd9, -⟩ := own_slice (unhid HO)
              injection hv9 with q1 q2 q3
              subst q1 q3
              have et := List.take_of_length_le (l := ed.map (mirE n)) (i := ed.length) (by simp)
              rw [et] at hrd9
              have HR3 := hid hrd9
              have HA3 := hid (fun a (h : A3' = some a) => (own_lt' (unhid HO) (show (Value.slice A3' ed.length c3').ownBlock = some a.block by rw [h]; rfl)).1)
              have HR1 := hid ((unhid HF).rdN (unhid HR1) (fun a ha => by have := unhid HA1 a ha; omega))
              have HR2 := hid ((unhid HF).rdN (unhid HR2) (fun a ha => by have := unhid HA2 a ha; omega))
              have z0 := (cell_of_row _ B 0 _ _ _ hb).trans (show _ = some _ from rfl)
              have z1 := (cell_of_row _ B 1 _ _ _ hb).trans (show _ = some _ from rfl)
              have z2 := (cell_of_row _ B 2 _ _ _ hb).trans (show _ = some _ from rfl)
              have z3 := (cell_of_row _ B 3 _ _ _ hb).trans (show _ = some _ from rfl)
              have z4 := (cell_of_row _ B 4 _ _ _ hb).trans (show _ = some _ from rfl)
              have z5 := (cell_of_row _ B 5 _ _ _ hb).trans (show _ = some _ from rfl)
              have z6 := (cell_of_row _ B 6 _ _ _ hb).trans (show _ = some _ from rfl)
              have z7 := (cell_of_row _ B 7 _ _ _ hb).trans (show _ = some _ from rfl)
              have d0 := (cell_of_row _ B1 0 _ _ _ hb1).trans (show _ = some _ from rfl)
              have f0 := frozen_of_row _ B1 0 _ _ hb1
              have d1 := (cell_of_row _ B1 1 _ _ _ hb1).trans (show _ = some _ from rfl)
              have f1 := frozen_of_row _ B1 1 _ _ hb1
              have d2 := (cell_of_row _ B1 2 _ _ _ hb1).trans (show _ = some _ from rfl)
              have f2 := frozen_of_row _ B1 2 _ _ hb1
              have d3 := (cell_of_row _ B1 3 _ _ _ hb1).trans (show _ = some _ from rfl)
              have f3 := frozen_of_row _ B1 3 _ _ hb1
              have d4 := (cell_of_row _ B1 4 _ _ _ hb1).trans (show _ = some _ from rfl)
              have f4 := frozen_of_row _ B1 4 _ _ hb1
              have d5 := (cell_of_row _ B1 5 _ _ _ hb1).trans (show _ = some _ from rfl)
              have f5 := frozen_of_row _ B1 5 _ _ hb1
              have d6 := (cell_of_row _ B1 6 _ _ _ hb1).trans (show _ = some _ from rfl)
              have f6 := frozen_of_row _ B1 6 _ _ hb1
              have d7 := (cell_of_row _ B1 7 _ _ _ hb1).trans (show _ = some _ from rfl)
              have f7 := frozen_of_row _ B1 7 _ _ hb1
              have HKE := hid hb1
              clear hrd9 hb0 hb1 HO HF et
              go_wp2_with fail
              have hBe := (unhid HB)
              have hbel4 := unhid HBL
              generalize hW5 : World.setCell _ _ _ = w5
              have hk5 : w5.heap[B1]? = some (.cells #[.int .i64 n, .slice A' js.length c', .slice A2' l.length c2', .slice A3' ed.length c3', .int .i64 hour, .int .i64 (-dir), .int .i64 topic, .int .i64 (n - 1 - metre)] 28 (0, 0)) := by
                rw [← hW5]
                exact block_set_same (block_set_same (block_set_same (block_set_same (block_set_same (block_set_same (block_set_same (block_set_same (unhid HKE) 0 _) 1 _) 2 _) 3 _) 4 _) 5 _) 6 _) 7 _
              have hb5 : Below w.heap.size w w5 := by
                rw [← hW5]
                have hz : ∀ {wx : World} (i : Nat) (u : Value), Below w.heap.size w wx → Below w.heap.size w (wx.setCell ⟨B1, i, none⟩ u) := fun i u h => Below.setCell h (by dsimp only; omega) _
                exact hz _ _ (hz _ _ (hz _ _ (hz _ _ (hz _ _ (hz _ _ (hz _ _ (hz _ _ hbel4)))))))
              have hrd5 : ∀ {A : Option Addr} {xs : List Value}, Rd w4 A xs → (∀ a, A = some a → w1.heap.size ≤ a.block) → Rd w5 A xs := fun {A xs} h hh => by
                have hq : ∀ a : Addr, A = some a → a.block ≠ B1 := fun a ha => by have := hh a ha; omega
                rw [← hW5]
                exact Rd.setFar (Rd.setFar (Rd.setFar (Rd.setFar (Rd.setFar (Rd.setFar (Rd.setFar (Rd.setFar h hq _ _) hq _ _) hq _ _) hq _ _) hq _ _) hq _ _) hq _ _) hq _ _
              have HR1 := hid (hrd5 (unhid HR1) (unhid HA1))
              have HR2 := hid (hrd5 (unhid HR2) (fun a ha => by have := unhid HA2 a ha; omega))
              have HR3 := hid (hrd5 (unhid HR3) (fun a ha => by have := unhid HA3 a ha; omega))
              clear hW5 d0 d1 d2 d3 d4 d5 d6 d7 f0 f1 f2 f3 f4 f5 f6 f7 z0 z1 z2 z3 z4 z5 z6 z7 y1
              have d0 := (cell_of_row _ B1 0 _ _ _ hk5).trans (show _ = some _ from rfl)
              have d1 := (cell_of_row _ B1 1 _ _ _ hk5).trans (show _ = some _ from rfl)
              have d2 := (cell_of_row _ B1 2 _ _ _ hk5).trans (show _ = some _ from rfl)
              have d3 := (cell_of_row _ B1 3 _ _ _ hk5).trans (show _ = some _ from rfl)
              have d4 := (cell_of_row _ B1 4 _ _ _ hk5).trans (show _ = some _ from rfl)
              have d5 := (cell_of_row _ B1 5 _ _ _ hk5).trans (show _ = some _ from rfl)
              have d6 := (cell_of_row _ B1 6 _ _ _ hk5).trans (show _ = some _ from rfl)
              have d7 := (cell_of_row _ B1 7 _ _ _ hk5).trans (show _ = some _ from rfl)
              have hS5 := (unhid HS).below hb5
              have hE5 := (unhid HE).below hb5
              (try simp only [Exit.inBlock, Exit.then])
              refine bodyPost_ret_by (v := .agg #[.int .i64 n, .slice A' (mirJ n js).length c', .slice A2' (l.map (mirS n)).length c2', .slice A3' (ed.map (mirE n)).length c3', .int .i64 hour, .int .i64 (-dir), .int .i64 topic, .int .i64 (n - 1 - metre)]) ?_ rfl ⟨A', c', A2', c2', A3', c3', rfl, ⟨by rw [mirJ_len]; omega, unhid HR1⟩, ⟨by simp; omega, unhid HR2, fun s hs => ?_⟩, ⟨by simp; omega, unhid HR3, fun e he => ?_⟩, hb5⟩
              · have hres : Tryz.f21.results = #[.cell 2 28] := rfl
                rw [mirJ_len, List.length_map, List.length_map]
                simp [results, hres, go_sem, d0, d1, d2, d3, d4, d5, d6, d7]
              · obtain ⟨x, hx, rfl⟩ := List.mem_map.1 hs
                have h := hS5.all x hx
                exact ⟨h.n, h.rd, h.num⟩
              · obtain ⟨x, hx, rfl⟩ := List.mem_map.1 he
                have h := hE5.all x hx
                exact ⟨h.num, h.val⟩
    · obtain ⟨t, rfl⟩ : ∃ t', t = t' + 1 := ⟨t - 1, by omega⟩
      rw [show (((t + 1 : Nat) : Int) - 1) = (t : Int) by omega]
      have hAlt := hne (unhid HL).rd (ints_ne (k := t) (by omega))
      have hBe := (unhid HB).1
      have hrd := (unhid HL).rd.below (unhid HBL)
      obtain ⟨b, off, rfl, hbl, hc⟩ := hrd (ints_ne (k := t) (by omega))
      have c0 := hc t _ (ints_at js t (by omega))
      have hxj := (unhid HJ) js[t] (List.getElem_mem _)
      have HMJ := hid (show (mirJ n js).take (q + 1) = (mirJ n js).take q ++ [n - js[t]] from by
        rw [List.take_succ_eq_append_getElem (by rw [mirJ_len]; omega), mirJ_at n js (by omega)]
        congr 3
        congr 1
        omega)
      generalize js[t] = x at *
      clear hrd hc
      have hbw : b < w.heap.size := hAlt _ rfl
      have hbB : b ≠ B := by omega
      have hbO : (Value.slice A' q c').ownBlock ≠ some b := fun e => by have h1 := (own_lt' (unhid HO) e).1; omega
      have hOB : (Value.slice A' q c').ownBlock ≠ some B := fun e => by have h1 := (own_lt' (unhid HO) e).1; omega
      have hOB0 : (Value.slice A' q c').ownBlock ≠ some B0 := fun e => by have h1 := (own_lt' (unhid HO) e).1; omega
      have y1 : wr.cell? ⟨B0, 1, none⟩ = some (.slice (some ⟨b, off, none⟩) js.length c) := (cell_of_row _ B0 1 _ _ _ hb0).trans rfl
      have z1 : wr.cell? ⟨B, 1, none⟩ = some (.slice A' q c') := (cell_of_row _ B 1 _ _ _ hb).trans rfl
      have zf := frozen_of_row _ B 1 _ _ hb
      have hx1 : IntKind.i64.wrap ((n : Int) - x) = (n : Int) - x := IntWalk.i64_in _ (by omega)
      have hx2 : (t : Int) < (js.length : Int) := by omega
      have hx3 : (0 : Int) ≤ (t : Int) := by omega
      have HQT := hid hqt
      have hql : q ≤ 50 := by omega
      clear hb hb0 hb1 hAlt hBe hqt
      go_wp2_with fail
      refine wp_region_noPanic ?_
      refine wp_region_E (S := fun w' => w'.cell? ⟨B, 1, none⟩ = some (.slice A' q c') ∧ w'.cell? ⟨B0, 1, none⟩ = some (.slice (some ⟨b, off, none⟩) js.length c) ∧ w'.cell? ⟨b, off + t, none⟩ = some (.int .i64 x)) 15 16 rfl (by kernel_rfl) (by kernel_rfl) ⟨z1, y1, c0⟩ ?_
      intro hSE
      (refine WE_take (i := 0) (v := ?_) rfl (by kernel_rfl) (by decide) (by kernel_rfl) (by kernel_rfl) (fun _ _ _ h => h) (by rfl) hSE ?_ ?_; rotate_left; (focus (intro w hSw; (try dsimp only at hSw); go_simp; (try with_reducible rfl))); simp only [Act.put, List.setIfInBounds_toArray, List.set_cons_zero, List.set_cons_succ])
      (refine WE_take (i := 1) (v := ?_) rfl (by kernel_rfl) (by decide) (by kernel_rfl) (by kernel_rfl) (fun _ _ _ h => h) (by rfl) hSE ?_ ?_; rotate_left; (focus (intro w hSw; (try dsimp only at hSw); go_simp; (try with_reducible rfl))); simp only [Act.put, List.setIfInBounds_toArray, List.set_cons_zero, List.set_cons_succ])
      (refine WE_take (i := 2) (v := ?_) rfl (by kernel_rfl) (by decide) (by kernel_rfl) (by kernel_rfl) (fun _ _ _ h => h) (by rfl) hSE ?_ ?_; rotate_left; (focus (intro w hSw; (try dsimp only at hSw); go_simp; (try with_reducible rfl))); simp only [Act.put, List.setIfInBounds_toArray, List.set_cons_zero, List.set_cons_succ])
      (refine WE_take (i := 3) (v := ?_) rfl (by kernel_rfl) (by decide) (by kernel_rfl) (by kernel_rfl) (fun _ _ _ h => h) (by rfl) hSE ?_ ?_; rotate_left; (focus (intro w hSw; (try dsimp only at hSw); go_simp; (try with_reducible rfl))); simp only [Act.put, List.setIfInBounds_toArray, List.set_cons_zero, List.set_cons_succ])
      (refine WE_take (i := 4) (v := ?_) rfl (by kernel_rfl) (by decide) (by kernel_rfl) (by kernel_rfl) (fun _ _ _ h => h) (by rfl) hSE ?_ ?_; rotate_left; (focus (intro w hSw; (try dsimp only at hSw); go_simp; (try with_reducible rfl))); simp only [Act.put, List.setIfInBounds_toArray, List.set_cons_zero, List.set_cons_succ])
      (refine WE_take (i := 5) (v := ?_) rfl (by kernel_rfl) (by decide) (by kernel_rfl) (by kernel_rfl) (fun _ _ _ h => h) (by rfl) hSE ?_ ?_; rotate_left; (focus (intro w hSw; (try dsimp only at hSw); go_simp; (try with_reducible rfl))); simp only [Act.put, List.setIfInBounds_toArray, List.set_cons_zero, List.set_cons_succ])
      (refine WE_take (i := 6) (v := ?_) rfl (by kernel_rfl) (by decide) (by kernel_rfl) (by kernel_rfl) (fun _ _ _ h => h) (by rfl) hSE ?_ ?_; rotate_left; (focus (intro w hSw; (try dsimp only at hSw); go_simp; (try with_reducible rfl))); simp only [Act.put, List.setIfInBounds_toArray, List.set_cons_zero, List.set_cons_succ])
      (refine WE_take (i := 7) (v := ?_) rfl (by kernel_rfl) (by decide) (by kernel_rfl) (by kernel_rfl) (fun _ _ _ h => h) (by rfl) hSE ?_ ?_; rotate_left; (focus (intro w hSw; (try dsimp only at hSw); go_simp; (try with_reducible rfl))); simp only [Act.put, List.setIfInBounds_toArray, List.set_cons_zero, List.set_cons_succ])
      (refine WE_take (i := 8) (v := ?_) rfl (by kernel_rfl) (by decide) (by kernel_rfl) (by kernel_rfl) (fun _ _ _ h => h) (by rfl) hSE ?_ ?_; rotate_left; (focus (intro w hSw; (try dsimp only at hSw); go_simp; (try with_reducible rfl))); simp only [Act.put, List.setIfInBounds_toArray, List.set_cons_zero, List.set_cons_succ])
      (refine WE_take (i := 9) (v := ?_) rfl (by kernel_rfl) (by decide) (by kernel_rfl) (by kernel_rfl) (fun _ _ _ h => h) (by rfl) hSE ?_ ?_; rotate_left; (focus (intro w hSw; (try dsimp only at hSw); go_simp; (try with_reducible rfl))); simp only [Act.put, List.setIfInBounds_toArray, List.set_cons_zero, List.set_cons_succ])
      (refine WE_take (i := 10) (v := ?_) rfl (by kernel_rfl) (by decide) (by kernel_rfl) (by kernel_rfl) (fun _ _ _ h => h) (by rfl) hSE ?_ ?_; rotate_left; (focus (intro w hSw; (try dsimp only at hSw); go_simp; (try with_reducible rfl))); simp only [Act.put, List.setIfInBounds_toArray, List.set_cons_zero, List.set_cons_succ])
      (refine WE_one (i := 11) rfl (by decide) (by kernel_rfl) ?_; intro K hK)
      go_simp
      refine hK.out _ _ ⟨(World.cell?_alloc_lt _ _ ⟨B, 1, none⟩ (by first | (dsimp only; omega) | (simp; omega))).trans z1, (World.cell?_alloc_lt _ _ ⟨B0, 1, none⟩ (by first | (dsimp only; omega) | (simp; omega))).trans y1, (World.cell?_alloc_lt _ _ ⟨b, off + t, none⟩ (by first | (dsimp only; omega) | (simp; omega))).trans c0⟩ ?_
      clear hSE hK K
      intro hSE
      (try simp only [Act.put, List.setIfInBounds_toArray, List.set_cons_zero, List.set_cons_succ])
      (refine WE_one (i := 12) rfl (by decide) (by kernel_rfl) ?_; intro K hK)
      refine step_append_lies _ (by rfl) _ _ _ (by rfl) w1.heap.size 3 i0 _ 1 8 Tryz.underlying22 hi hz0 hz1 hz2 rfl (by omega) (.slice A' q c') q (ints ((mirJ n js).take q)) (by rfl) (((unhid HO).alloc (.cells #[.int .i64 (n - x)] 3)).drew) ⟨wr.heap.size, 0, none⟩ 1 1 [.int .i64 (n - x)] (by rfl) (by rfl) (World.news_of_block (cs := #[.int .i64 (n - x)]) (t := 3) (fr := (0, 0)) (heap_alloc_new wr _)) (by simp [Value.oneCell']) (by omega) (by unfold maxLen; omega) (by omega) (by simp; omega) (wr.heap.size + 1) (by simp) ?_
      intro g3 cap3 w7 hown hg hat hlt3
      have hg' : (wr.alloc (.cells #[.int .i64 (n - x)] 3)).grownBy w7 (Value.slice A' q c').ownBlock := ⟨hg.os, hg.tape, hg.output, hg.size, hg.block⟩
      have hfar : ∀ (k i : Nat), k < wr.heap.size → (Value.slice A' q c').ownBlock ≠ some k → w7.cell? ⟨k, i, none⟩ = wr.cell? ⟨k, i, none⟩ := fun k i hk hne => (hg'.cell_far ⟨k, i, none⟩ (by simp; omega) (fun e => hne e.symm)).trans (World.cell?_alloc_lt wr _ ⟨k, i, none⟩ hk)
      have hff : w7.frozen? ⟨B, 1, none⟩ = false := (hg'.frozen_far ⟨B, 1, none⟩ (by simp; omega) (fun e => hOB e.symm)).trans ((World.frozen?_alloc_old wr _ ⟨B, 1, none⟩ (by dsimp only; omega)).trans zf)
      refine hK.out _ _ ⟨(hfar B 1 hBw hOB).trans z1, (hfar B0 1 (by omega) hOB0).trans y1, (hfar b (off + t) hbl hbO).trans c0⟩ ?_
      clear hSE hK K
      intro hSE
      (try simp only [Act.put, List.setIfInBounds_toArray, List.set_cons_zero, List.set_cons_succ])
      (refine WE_take (i := 13) (v := ?_) rfl (by kernel_rfl) (by decide) (by kernel_rfl) (by kernel_rfl) (fun _ _ _ h => h) (by rfl) hSE ?_ ?_; rotate_left; (focus (intro w hSw; (try dsimp only at hSw); go_simp; (try with_reducible rfl))); simp only [Act.put, List.setIfInBounds_toArray, List.set_cons_zero, List.set_cons_succ])
      (refine WE_take (i := 14) (v := ?_) rfl (by kernel_rfl) (by decide) (by kernel_rfl) (by kernel_rfl) (fun _ _ _ h => h) (by rfl) hSE ?_ ?_; rotate_left; (focus (intro w hSw; (try dsimp only at hSw); go_simp; (try with_reducible rfl))); simp only [Act.put, List.setIfInBounds_toArray, List.set_cons_zero, List.set_cons_succ])
      have hu7 := hSE.1
      (refine WE_last rfl (by kernel_rfl) (by kernel_rfl) (by kernel_rfl) ?_; intro K hK; go_simp; refine hK.out _ _ (NoPanic.normal ?_); clear hK K)
      have HP := hid (mir_push (i := 1) (by omega) (unhid HBK) (unhid HF) (unhid HO) hown hg' (fun g hgg => by
        have e : g = g3 := by simpa [Value.ownBlock] using hgg.symm
        subst e
        rcases hat with h | h
        · exact .inl h
        · exact .inr (by omega)) rfl)
      have HB7 := hid (show Below w.heap.size w (w7.setCell ⟨B, 1, none⟩ (.slice (some ⟨g3, 0, none⟩) (q + 1) cap3)) from by
        have hbel := unhid HBL
        refine Below.setCell (Below.grown (hbel.alloc hbel.size _) hg' (by have := hbel.size; simp; omega) (fun i hi => ?_)) (by have := (unhid HB).1; dsimp only; omega) _
        have := own_lt' (unhid HO) hi
        have := (unhid HB).1
        omega)
      clear hown hg hg' hat hfar hff hu7 hSE
      go_wp2_with fail
      go_roundw
      case rel =>
        have hP := unhid HP
        refine ⟨q + 1, t, some ⟨g3, 0, none⟩, cap3, by have := unhid HQT; omega, by go_num, hP.1, ?_, hP.2.2, unhid HB7⟩
        have := hP.2.1
        rw [unhid HMJ]
        simpa [ints] using this
      case measure => simp [intOf]
end

section
theorem wrap_mod (metre : Int) (n : Nat) (h1 : 1 ≤ n) (h2 : n ≤ 200) : ∃ m : Nat, m < n ∧ wrap64 ((IntKind.u64.wrap metre).tmod n) = m := by
  have h0 : 0 ≤ IntKind.u64.wrap metre := by
    simp [IntKind.wrap, IntKind.signed, IntKind.bits]
    exact Int.emod_nonneg _ (by omega)
  have h3 : (IntKind.u64.wrap metre).tmod n = IntKind.u64.wrap metre % n := Int.tmod_eq_emod_of_nonneg h0
  have h4 := Int.emod_nonneg (IntKind.u64.wrap metre) (show (n : Int) ≠ 0 by omega)
  have h5 := Int.emod_lt_of_pos (IntKind.u64.wrap metre) (show (0 : Int) < n by omega)
  refine ⟨(IntKind.u64.wrap metre % n).toNat, by omega, ?_⟩
  rw [h3, IntWalk.wrap64_in _ ⟨by omega, by omega⟩]
  omega
theorem holdsE_ok {len : Int} {js : List Int} {l : List Sg} {hour dir topic m : Int} (h1 : lineB len js = true) (h2 : sgsB len js l = true) (h3 : 0 ≤ hour ∧ hour ≤ 10000000) (h4 : dirB dir = true) (h5 : topic = 1 ∨ topic = 2) (h6 : 0 ≤ m ∧ m ≤ len - 1) : holdsE len js l hour dir topic m = 0 := by
  unfold holdsE
  rw [askedE_ok h1 h2 h3 h4 h5, if_neg (by simp), if_pos h6]
theorem mustE_ok {len : Int} {js : List Int} {ed : List Ed} {hour dir topic m : Int} (h1 : lineB len js = true) (h2 : edsB len js ed = true) (h3 : 0 ≤ hour ∧ hour ≤ 10000000) (h4 : dirB dir = true) (h5 : topic = 1 ∨ topic = 2) (h6 : 0 ≤ m ∧ m ≤ len - 1) : mustE len js ed hour dir topic m = 0 := by
  have h7 : orderedE len js ed hour dir topic = 0 := by
    unfold orderedE
    rw [if_neg (by rw [h2]; simp)]
    exact askedE_ok h1 (by rw [sgsB_nil]; exact h1) h3 h4 h5
  unfold mustE
  rw [h7, if_neg (by simp), if_pos h6]
theorem allE_okF {len : Int} {js : List Int} {l : List Sg} {hour : Int} (h1 : lineB len js = true) (h2 : sgsB len js l = true) (h3 : 0 ≤ hour ∧ hour ≤ 10000000) : allE len js l [] hour = 0 := by
  unfold allE
  rw [h1, h2, show edsB len js [] = true from by simp [edsB, h1], if_pos h3]
  simp

theorem Ask8.of_block {w : World} {B : Nat} {v0 v1 v2 v3 v4 v5 v6 v7 : Value} {t : TypeId} {fr : Nat × Nat} (h : w.heap[B]? = some (.cells #[v0, v1, v2, v3, v4, v5, v6, v7] t fr)) : Ask8 w B v0 v1 v2 v3 v4 v5 v6 v7 :=
  ⟨(Array.getElem?_eq_some_iff.1 h).1, (cell_of_row _ B 0 _ _ _ h).trans rfl, (cell_of_row _ B 1 _ _ _ h).trans rfl, (cell_of_row _ B 2 _ _ _ h).trans rfl, (cell_of_row _ B 3 _ _ _ h).trans rfl, (cell_of_row _ B 4 _ _ _ h).trans rfl, (cell_of_row _ B 5 _ _ _ h).trans rfl, (cell_of_row _ B 6 _ _ _ h).trans rfl, (cell_of_row _ B 7 _ _ _ h).trans rfl⟩

set_option maxHeartbeats 4000000 in
set_option maxRecDepth 100000 in
theorem mirrors_calls (len : Int) (A : Option Addr) (js : List Int) (c : Nat) (A2 : Option Addr) (l : List Sg) (c2 : Nat) (A3 : Option Addr) (ed : List Ed) (c3 : Nat) (hour dir topic metre : Int) (w : World) (hl : LnOk w A js) (hs : SgsOk w A2 l) (he : EdsOk w A3 ed) (_ : I64 len) (_ : I64 hour) (_ : I64 dir) (_ : I64 topic) (im : I64 metre) :
    Calls Tryz.prog 4 #[.agg #[.int .i64 len, .slice A js.length c, .slice A2 l.length c2, .slice A3 ed.length c3, .int .i64 hour, .int .i64 dir, .int .i64 topic, .int .i64 metre]] w fun e w' => e = .returned (.bool true) ∧ Below w.heap.size w w' := by
  have HL := hid hl
  have HS := hid hs
  have HE := hid he
  clear hl hs he
  go_enter Tryz.func4, Tryz.ntmps4
  go_wp2_with fail
  refine (right_calls len A js c A2 l c2 A3 ed c3 hour dir topic metre _ ((unhid HL).below (below_alloc _ _)) ((unhid HS).below (below_alloc _ _)) ((unhid HE).below (below_alloc _ _))).mono ?_
  rintro e W ⟨rfl, hb1⟩
  have HA := (Ask8.new w (.int .i64 len) (.slice A js.length c) (.slice A2 l.length c2) (.slice A3 ed.length c3) (.int .i64 hour) (.int .i64 dir) (.int .i64 topic) (.int .i64 metre) 28).below hb1
  have hbk := (hb1.block w.heap.size (by simp)).trans (heap_alloc_new w (.cells #[.int .i64 len, .slice A js.length c, .slice A2 l.length c2, .slice A3 ed.length c3, .int .i64 hour, .int .i64 dir, .int .i64 topic, .int .i64 metre] 28))
  have hbw1 : Below w.heap.size w W := (below_alloc w _).trans (hb1.mono (by simp))
  clear hb1
  have HBW := hid hbw1
  clear hbw1
  obtain ⟨B, hBB⟩ : ∃ B, B = w.heap.size := ⟨_, rfl⟩
  rw [← hBB] at HA hbk ⊢
  have HBB := hid hBB
  clear hBB
  obtain ⟨e0, e1, e2, e3, e4, e5, e6, e7⟩ := HA.cells
  by_cases hrt : rightA len js l ed hour dir topic = true
  · have HOK := rightA_ok hrt
    rw [hrt]
    clear hrt
    have hlen1 := (lineB_len HOK.line).1
    have hlen2 := HOK.small
    have hl100 := sgsB_len HOK.signs
    have he50 := edsB_len HOK.eds
    obtain ⟨n, rfl⟩ := Int.eq_ofNat_of_zero_le (show 0 ≤ len by omega)
    obtain ⟨mm, hmm, hme⟩ := wrap_mod metre n (by omega) (by omega)
    have HME := hid hme
    have zf := frozen_of_row _ B 7 _ _ hbk
    have HBK := hid hbk
    have HOK := hid HOK
    clear hme hbk
    go_wp2_with fail
    rw [unhid HME]
    obtain ⟨W2, hW2⟩ : ∃ W2, W2 = W.setCell ⟨B, 7, none⟩ (.int .i64 mm) := ⟨_, rfl⟩
    rw [← hW2]
    have hbk2 : W2.heap[B]? = some (.cells #[.int .i64 n, .slice A js.length c, .slice A2 l.length c2, .slice A3 ed.length c3, .int .i64 hour, .int .i64 dir, .int .i64 topic, .int .i64 mm] 28 (0, 0)) := by rw [hW2]; exact block_set_same (unhid HBK) 7 _
    have hbw2 : Below w.heap.size w W2 := by rw [hW2]; exact Below.setCell (unhid HBW) (by have := unhid HBB; dsimp only; omega) _
    have HA2 := Ask8.of_block hbk2
    clear hW2 hbk2 e0 e1 e2 e3 e4 e5 e6 e7 zf HBK HA
    refine (mirrored_calls n A js c A2 l c2 A3 ed c3 hour dir topic mm _ ((unhid HL).below hbw2) ((unhid HS).below hbw2) ((unhid HE).below hbw2) (unhid HOK).line (unhid HOK).signs (unhid HOK).eds (unhid HOK).dir (by omega)).mono ?_
    rintro e w3 ⟨B1, d1, B2, d2, B3, d3, rfl, hl', hs', he', hb3⟩
    have hbw3 := hbw2.trans (hb3.mono hbw2.size)
    have HA3 := HA2.below hb3
    obtain ⟨e0, e1, e2, e3, e4, e5, e6, e7⟩ := HA3.cells
    have HL' := hid hl'
    have HS' := hid hs'
    have HE' := hid he'
    have HBW3 := hid hbw3
    have OKR := hid (fun t (ht : t = 1 ∨ t = 2) => askedE_ok (dir := dir) (topic := t) (unhid HOK).line (unhid HOK).signs (unhid HOK).hour (unhid HOK).dir ht)
    clear hl' hs' he' hb3 hbw2 hbw3 HA2
    --MID
    have hlt3 := HA3.lt
    have hne1 : ¬ B = w3.heap.size := by omega
    have hne2 : ¬ w3.heap.size = B := by omega
    have HA4 := HA3.below (below_alloc w3 (.cells #[.int .i64 n, .slice B1 (mirJ n js).length d1, .slice B2 l.length d2, .slice B3 ed.length d3, .int .i64 hour, .int .i64 (-dir), .int .i64 topic, .int .i64 (n - 1 - mm)] 28))
    have HC4 := Ask8.new w3 (.int .i64 n) (.slice B1 (mirJ n js).length d1) (.slice B2 l.length d2) (.slice B3 ed.length d3) (.int .i64 hour) (.int .i64 (-dir)) (.int .i64 topic) (.int .i64 (n - 1 - mm)) 28
    have HB4 := hid ((unhid HBW3).alloc (unhid HBW3).size (.cells #[.int .i64 n, .slice B1 (mirJ n js).length d1, .slice B2 l.length d2, .slice B3 ed.length d3, .int .i64 hour, .int .i64 (-dir), .int .i64 topic, .int .i64 (n - 1 - mm)] 28))
    have HK3 := hid (below_alloc w3 (.cells #[.int .i64 n, .slice B1 (mirJ n js).length d1, .slice B2 l.length d2, .slice B3 ed.length d3, .int .i64 hour, .int .i64 (-dir), .int .i64 topic, .int .i64 (n - 1 - mm)] 28))
    obtain ⟨C, hC⟩ : ∃ C, C = w3.heap.size := ⟨_, rfl⟩
    have hzlen : (l.map (mirS n)).length = l.length := List.length_map _
    have hzlen3 : (ed.map (mirE n)).length = ed.length := List.length_map _
    have hd1 : dirB dir = true := (unhid HOK).dir
    have hd2 : dirB (-dir) = true := by rw [dirB_neg]; exact hd1
    have hdd : dir = 1 ∨ dir = -1 := by simpa [dirB] using hd1
    have KR := hid (fun W h1 h2 => row_calls n B1 (mirJ n js) d1 B2 (l.map (mirS n)) d2 hour (-dir) W h1 h2)
    have KH := hid (fun W h1 h2 => holds_calls n B1 (mirJ n js) d1 B2 (l.map (mirS n)) d2 hour (-dir) topic (n - 1 - mm) W h1 h2 (by constructor <;> omega))
    have KM := hid (fun W h1 h2 => must_calls n B1 (mirJ n js) d1 B3 (ed.map (mirE n)) d3 hour (-dir) topic (n - 1 - mm) W h1 h2 (by constructor <;> omega))
    have KF := hid (fun W h1 h2 => faults_calls n B1 (mirJ n js) d1 B2 (l.map (mirS n)) d2 hour W h1 h2)
    rw [hzlen] at KR KH KF
    rw [hzlen3] at KM
    have ASK1 := hid (askedE_ok (topic := 1) (unhid HOK).line (unhid HOK).signs (unhid HOK).hour hd1 (Or.inl rfl))
    have ASK2 := hid (askedE_ok (topic := 1) (lineB_mir (unhid HOK).line) (sgsB_mir (unhid HOK).signs) (unhid HOK).hour hd2 (Or.inl rfl))
    have HO1 := hid (holdsE_ok (topic := topic) (m := mm) (unhid HOK).line (unhid HOK).signs (unhid HOK).hour hd1 (unhid HOK).topic (by omega))
    have HO2 := hid (holdsE_ok (topic := topic) (m := n - 1 - mm) (lineB_mir (unhid HOK).line) (sgsB_mir (unhid HOK).signs) (unhid HOK).hour hd2 (unhid HOK).topic (by omega))
    have MU1 := hid (mustE_ok (topic := topic) (m := mm) (unhid HOK).line (unhid HOK).eds (unhid HOK).hour hd1 (unhid HOK).topic (by omega))
    have MU2 := hid (mustE_ok (topic := topic) (m := n - 1 - mm) (lineB_mir (unhid HOK).line) (edsB_mir (unhid HOK).eds) (unhid HOK).hour hd2 (unhid HOK).topic (by omega))
    have AL1 := hid (allE_okF (unhid HOK).line (unhid HOK).signs (unhid HOK).hour)
    have AL2 := hid (allE_okF (lineB_mir (unhid HOK).line) (sgsB_mir (unhid HOK).signs) (unhid HOK).hour)
    have HND := hid (sgsB_nodup (unhid HOK).signs)
    have HDD := hid hdd
    clear hzlen hzlen3 hd1 hd2 hdd
    go_wp2_with fail
    generalize hw4 : w3.alloc _ = w4 at HA4 HC4 HB4 HK3 ⊢
    rw [← hC] at HC4 hne1 hne2 ⊢
    have HL' := hid ((unhid HL').below (unhid HK3))
    have HS' := hid ((unhid HS').below (unhid HK3))
    have HE' := hid ((unhid HE').below (unhid HK3))
    clear hw4 HK3 hC hlt3 hne1 hne2 e0 e1 e2 e3 e4 e5 e6 e7 HA3
    obtain ⟨e0, e1, e2, e3, e4, e5, e6, e7⟩ := HA4.cells
    obtain ⟨g0, g1, g2, g3, g4, g5, g6, g7⟩ := HC4.cells
    refine (row_calls n A js c A2 l c2 hour dir _ ((unhid HL).below (unhid HB4)) ((unhid HS).below (unhid HB4))).mono ?_
    rintro e w5 ⟨P1, p1, ns1, rfl, hz1, -, hr1, hn1, hb5⟩
    rw [unhid ASK1]
    obtain ⟨R, hR, hns1⟩ := hz1 (unhid ASK1)
    have HR := hid hR
    have HN1 := hid hns1
    have HRD1 := hid hr1
    have HL' := hid ((unhid HL').below hb5)
    have HS' := hid ((unhid HS').below hb5)
    have HE' := hid ((unhid HE').below hb5)
    clear hz1 hR hns1 hr1
    have HB5 := hid ((unhid HB4).trans (hb5.mono (unhid HB4).size))
    have HA5 := HA4.below hb5
    have HC5 := HC4.below hb5
    clear hb5 e0 e1 e2 e3 e4 e5 e6 e7 g0 g1 g2 g3 g4 g5 g6 g7 HA4 HC4
    obtain ⟨e0, e1, e2, e3, e4, e5, e6, e7⟩ := HA5.cells
    obtain ⟨g0, g1, g2, g3, g4, g5, g6, g7⟩ := HC5.cells
    go_wp2_with fail
    refine ((unhid KR) _ (unhid HL') (unhid HS')).mono ?_
    rintro e w6 ⟨P2, p2, ns2, rfl, hz2, -, hr2, hn2, hb6⟩
    rw [unhid ASK2]
    obtain ⟨R2, hR2, hns2⟩ := hz2 (unhid ASK2)
    have hRR := nums_mir (unhid HDD) (unhid HR) hR2 (unhid HND)
    have hnn : ns2 = ns1 := by
      rw [hns2, unhid HN1, hRR, List.map_map]; rfl
    subst hnn
    have HRD1 := hid ((unhid HRD1).below hb6)
    have HRD2 := hid hr2
    have HL' := hid ((unhid HL').below hb6)
    have HS' := hid ((unhid HS').below hb6)
    have HE' := hid ((unhid HE').below hb6)
    clear hz2 hR2 hns2 hr2 hRR
    have HB6 := hid ((unhid HB5).trans (hb6.mono (unhid HB5).size))
    have HA6 := HA5.below hb6
    have HC6 := HC5.below hb6
    clear hb6 e0 e1 e2 e3 e4 e5 e6 e7 g0 g1 g2 g3 g4 g5 g6 g7 HA5 HC5
    obtain ⟨e0, e1, e2, e3, e4, e5, e6, e7⟩ := HA6.cells
    obtain ⟨g0, g1, g2, g3, g4, g5, g6, g7⟩ := HC6.cells
    go_wp2_with fail
    refine (sameInts_calls P1 ns2 p1 P2 ns2 p2 _ (unhid HRD1) (unhid HRD2) hn1 hn1).mono ?_
    rintro e w7 ⟨rfl, hb7⟩
    rw [decide_eq_true rfl]
    have HL' := hid ((unhid HL').below hb7)
    have HS' := hid ((unhid HS').below hb7)
    have HE' := hid ((unhid HE').below hb7)
    have HB7 := hid ((unhid HB6).trans (hb7.mono (unhid HB6).size))
    have HA7 := HA6.below hb7
    have HC7 := HC6.below hb7
    clear hb7 e0 e1 e2 e3 e4 e5 e6 e7 g0 g1 g2 g3 g4 g5 g6 g7 HA6 HC6
    obtain ⟨e0, e1, e2, e3, e4, e5, e6, e7⟩ := HA7.cells
    obtain ⟨g0, g1, g2, g3, g4, g5, g6, g7⟩ := HC7.cells
    go_wp2_with fail
    refine (holds_calls n A js c A2 l c2 hour dir topic mm _ ((unhid HL).below (unhid HB7)) ((unhid HS).below (unhid HB7)) (by constructor <;> omega)).mono ?_
    rintro e w8 ⟨v1, rfl, hz1, -, hb8⟩
    rw [unhid HO1]
    obtain ⟨R3, hR3, hv1⟩ := hz1 (unhid HO1)
    have HV1 := hid hv1
    have HR3 := hid hR3
    have HL' := hid ((unhid HL').below hb8)
    have HS' := hid ((unhid HS').below hb8)
    have HE' := hid ((unhid HE').below hb8)
    clear hz1 hv1 hR3
    have HB8 := hid ((unhid HB7).trans (hb8.mono (unhid HB7).size))
    have HA8 := HA7.below hb8
    have HC8 := HC7.below hb8
    clear hb8 e0 e1 e2 e3 e4 e5 e6 e7 g0 g1 g2 g3 g4 g5 g6 g7 HA7 HC7
    obtain ⟨e0, e1, e2, e3, e4, e5, e6, e7⟩ := HA8.cells
    obtain ⟨g0, g1, g2, g3, g4, g5, g6, g7⟩ := HC8.cells
    go_wp2_with fail
    refine ((unhid KH) _ (unhid HL') (unhid HS')).mono ?_
    rintro e w9 ⟨v2, rfl, hz2, -, hb9⟩
    rw [unhid HO2]
    obtain ⟨R4, hR4, hv2⟩ := hz2 (unhid HO2)
    have hvv : v2 = v1 := by
      rw [hv2, unhid HV1, nums_mir (unhid HDD) (unhid HR3) hR4 (unhid HND), metre_mir (unhid HDD)]
      exact hold_mir js R3 (unhid HDD)
    subst hvv
    have HL' := hid ((unhid HL').below hb9)
    have HS' := hid ((unhid HS').below hb9)
    have HE' := hid ((unhid HE').below hb9)
    clear hz2 hv2 hR4
    have HB9 := hid ((unhid HB8).trans (hb9.mono (unhid HB8).size))
    have HA9 := HA8.below hb9
    have HC9 := HC8.below hb9
    clear hb9 e0 e1 e2 e3 e4 e5 e6 e7 g0 g1 g2 g3 g4 g5 g6 g7 HA8 HC8
    obtain ⟨e0, e1, e2, e3, e4, e5, e6, e7⟩ := HA9.cells
    obtain ⟨g0, g1, g2, g3, g4, g5, g6, g7⟩ := HC9.cells
    go_wp2_with fail
    refine (must_calls n A js c A3 ed c3 hour dir topic mm _ ((unhid HL).below (unhid HB9)) ((unhid HE).below (unhid HB9)) (by constructor <;> omega)).mono ?_
    rintro e w10 ⟨x1, rfl, hz1, -, hb10⟩
    rw [unhid MU1]
    have HX1 := hid (hz1 (unhid MU1))
    have HL' := hid ((unhid HL').below hb10)
    have HS' := hid ((unhid HS').below hb10)
    have HE' := hid ((unhid HE').below hb10)
    clear hz1
    have HB10 := hid ((unhid HB9).trans (hb10.mono (unhid HB9).size))
    have HA10 := HA9.below hb10
    have HC10 := HC9.below hb10
    clear hb10 e0 e1 e2 e3 e4 e5 e6 e7 g0 g1 g2 g3 g4 g5 g6 g7 HA9 HC9
    obtain ⟨e0, e1, e2, e3, e4, e5, e6, e7⟩ := HA10.cells
    obtain ⟨g0, g1, g2, g3, g4, g5, g6, g7⟩ := HC10.cells
    go_wp2_with fail
    refine ((unhid KM) _ (unhid HL') (unhid HE')).mono ?_
    rintro e w11 ⟨x2, rfl, hz2, -, hb11⟩
    rw [unhid MU2]
    have hxx : x2 = x1 := by
      rw [hz2 (unhid MU2), unhid HX1]; exact must_mir ed
    subst hxx
    have HL' := hid ((unhid HL').below hb11)
    have HS' := hid ((unhid HS').below hb11)
    clear hz2
    have HB11 := hid ((unhid HB10).trans (hb11.mono (unhid HB10).size))
    have HA11 := HA10.below hb11
    have HC11 := HC10.below hb11
    clear hb11 e0 e1 e2 e3 e4 e5 e6 e7 g0 g1 g2 g3 g4 g5 g6 g7 HA10 HC10
    obtain ⟨e0, e1, e2, e3, e4, e5, e6, e7⟩ := HA11.cells
    obtain ⟨g0, g1, g2, g3, g4, g5, g6, g7⟩ := HC11.cells
    have hxe : (x2 != x2) = false := by simp
    have hve : (v2 != v2) = false := by simp
    go_wp2_with fail
    refine (faults_calls n A js c A2 l c2 hour _ ((unhid HL).below (unhid HB11)) ((unhid HS).below (unhid HB11))).mono ?_
    rintro e w12 ⟨Q1, q1, F1, rfl, hz1, -, hr1, hf1, hb12⟩
    rw [unhid AL1]
    have HF1 := hid (hz1 (unhid AL1))
    have HRD1 := hid hr1
    have HL' := hid ((unhid HL').below hb12)
    have HS' := hid ((unhid HS').below hb12)
    clear hz1 hr1
    have HB12 := hid ((unhid HB11).trans (hb12.mono (unhid HB11).size))
    have HA12 := HA11.below hb12
    have HC12 := HC11.below hb12
    clear hb12 e0 e1 e2 e3 e4 e5 e6 e7 g0 g1 g2 g3 g4 g5 g6 g7 HA11 HC11
    obtain ⟨e0, e1, e2, e3, e4, e5, e6, e7⟩ := HA12.cells
    obtain ⟨g0, g1, g2, g3, g4, g5, g6, g7⟩ := HC12.cells
    go_wp2_with fail
    refine ((unhid KF) _ (unhid HL') (unhid HS')).mono ?_
    rintro e w13 ⟨Q2, q2, F2, rfl, hz2, -, hr2, hf2, hb13⟩
    rw [unhid AL2]
    have h1 := unhid HF1
    have h2 := hz2 (unhid AL2)
    rw [show ((n : Int)).toNat = n from rfl] at h1 h2
    have hff : F1 = F2 := flt_unique h1.1 h1.2.1 (h2.1.trans (fltAll_mir h1.2.2.1 h1.2.2.2 (unhid HND))) h2.2.1 (flt_nodup h1.2.2.1 h1.2.2.2 (unhid HND))
    subst hff
    have HRD1 := hid ((unhid HRD1).below hb13)
    have HRD2 := hid hr2
    clear hz2 hr2 h1 h2
    have HB13 := hid ((unhid HB12).trans (hb13.mono (unhid HB12).size))
    have HA13 := HA12.below hb13
    have HC13 := HC12.below hb13
    clear hb13 e0 e1 e2 e3 e4 e5 e6 e7 g0 g1 g2 g3 g4 g5 g6 g7 HA12 HC12
    obtain ⟨e0, e1, e2, e3, e4, e5, e6, e7⟩ := HA13.cells
    obtain ⟨g0, g1, g2, g3, g4, g5, g6, g7⟩ := HC13.cells
    go_wp2_with fail
    refine (sameFaults_calls Q1 F1 q1 Q2 q2 _ (unhid HRD1) (unhid HRD2) (by omega)).mono ?_
    rintro e w14 ⟨rfl, hb14⟩
    have HB14 := hid ((unhid HB13).trans (hb14.mono (unhid HB13).size))
    have HA14 := HA13.below hb14
    have HC14 := HC13.below hb14
    clear hb14 e0 e1 e2 e3 e4 e5 e6 e7 g0 g1 g2 g3 g4 g5 g6 g7 HA13 HC13
    obtain ⟨e0, e1, e2, e3, e4, e5, e6, e7⟩ := HA14.cells
    obtain ⟨g0, g1, g2, g3, g4, g5, g6, g7⟩ := HC14.cells
    go_wp2_with fail
    refine (first_calls _).mono ?_
    rintro e w15 ⟨rfl, hb15⟩
    go_wp2_with fail
    go_ret
    exact ⟨rfl, (unhid HB14).trans (hb15.mono (unhid HB14).size)⟩
  · rw [Bool.not_eq_true] at hrt
    rw [hrt]
    go_wp2_with fail
    refine (first_calls _).mono ?_
    rintro e w2 ⟨rfl, hb2⟩
    go_wp2_with fail
    go_ret
    exact ⟨rfl, (unhid HBW).trans (hb2.mono (unhid HBW).size)⟩
end

end Go.Proofs.YtmpngoejnmlmbaaGreat
