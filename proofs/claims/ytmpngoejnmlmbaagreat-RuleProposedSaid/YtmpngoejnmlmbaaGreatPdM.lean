/-
  The proposed signs: they are valid, what they say is what must hold, and none of them has a fault. Plain: no walk. The reference's junction. The reference's Propose. The law RuleProposed.
-/
import Derived.Test.YtmpngoejnmlmbaaGreatFaultM
import Derived.Test.YtmpngoejnmlmbaaGreatPropG
import Derived.Test.YtmpngoejnmlmbaaGreatAhead
import Derived.Deep.RegionHeld3
import Derived.Test.YtmpngoejnmlmbaaGreatHolds2
import Derived.Test.YtmpngoejnmlmbaaGreatRefKit
import Derived.Test.YtmpngoejnmlmbaaGreatCmpK
import Derived.Deep.AppendLies
import Derived.Deep.DeepCutAuto
import Derived.Test.YtmpngoejnmlmbaaGreatWalkG
import Derived.Test.YtmpngoejnmlmbaaGreatAskG
set_option linter.unusedSimpArgs false
set_option linter.unusedVariables false
namespace Go.Proofs.YtmpngoejnmlmbaaGreat
open Go.RowKit

section
theorem dist_inv2 (n dir k : Int) : distI n dir (distI n dir k) = k := by unfold distI; split <;> omega
theorem junMin_le2 {n dir f k : Int} : ∀ (js : List Int) (e : Int), junMin n dir f js e ≤ k ↔ e ≤ k ∨ ∃ j ∈ js, f < distI n dir j ∧ distI n dir j ≤ k := by
  intro js
  induction js with
  | nil => intro e; simp [junMin]
  | cons j js ih =>
    intro e
    have h : junMin n dir f (j :: js) e = junMin n dir f js (if f < distI n dir j then min e (distI n dir j) else e) := rfl
    rw [h, ih]
    by_cases hj : f < distI n dir j
    · rw [if_pos hj]
      constructor
      · rintro (h1 | ⟨x, hx, h1⟩)
        · rcases (show e ≤ k ∨ distI n dir j ≤ k by omega) with h2 | h2
          · exact .inl h2
          · exact .inr ⟨j, by simp, hj, h2⟩
        · exact .inr ⟨x, by simp [hx], h1⟩
      · rintro (h1 | ⟨x, hx, h1⟩)
        · exact .inl (by omega)
        · rcases List.mem_cons.1 hx with rfl | hx
          · exact .inl (by omega)
          · exact .inr ⟨x, hx, h1⟩
    · rw [if_neg hj]
      constructor
      · rintro (h1 | ⟨x, hx, h1⟩)
        · exact .inl h1
        · exact .inr ⟨x, by simp [hx], h1⟩
      · rintro (h1 | ⟨x, hx, h1⟩)
        · exact .inl h1
        · rcases List.mem_cons.1 hx with rfl | hx
          · exact absurd h1.1 hj
          · exact .inr ⟨x, hx, h1⟩

/-- What must hold at a distance. -/
def wantP (n : Int) (must : List Int) (dir : Int) (q : Nat) : Int := must.getD (metreI n dir q).toNat 0
theorem ppStep_eq (n : Int) (js must : List Int) (topic dir hour : Int) (st : List Sg × Int) (k : Nat) : ppStep n js must topic dir hour st k = if wantP n must dir k = nowP n js dir st.2 k then (st.1, nowP n js dir st.2 k) else (st.1 ++ [postS (st.1.length + 1) topic (wantP n must dir k) (distI n dir k) dir hour], wantP n must dir k) := rfl
def mtD (n dir : Int) (s : Sg) : Mt := ⟨s, distI n dir s.chain⟩
theorem says_post {num topic w c dir hour : Int} (ht : topic = 1 ∨ topic = 2) (hw : topic = 2 → w = 0 ∨ w = 1) : saysP (postS num topic w c dir hour) topic = some w := by
  rcases ht with rfl | rfl
  · by_cases h : w = 0
    · subst h; simp [saysP, postS]
    · simp [saysP, postS, h]
  · rcases hw rfl with rfl | rfl <;> simp [saysP, postS]
theorem pp_now (n : Int) (js must : List Int) (topic dir hour : Int) (out : List Sg) (k : Nat) : (ppRun n js must topic dir hour out (k + 1)).2 = wantP n must dir k := by
  rw [ppRun_succ]
  unfold ppStep
  split
  · rename_i h; exact h.symm
  · rfl
/-- What the part of a topic and a direction is, behind k distances. -/
structure PpI (n : Int) (js must : List Int) (topic dir hour : Int) (out : List Sg) (k : Nat) (B : List Sg) : Prop where
  eq : (ppRun n js must topic dir hour out k).1 = out ++ B
  mem : ∀ s ∈ B, ∃ (q : Nat) (num : Int), q < k ∧ s = postS num topic (wantP n must dir q) (distI n dir q) dir hour ∧ (wantP n must dir q = 0 → 0 < q ∧ wantP n must dir (q - 1) ≠ 0)
  asc : B.Pairwise fun a b => distI n dir a.chain < distI n dir b.chain
  num : B.map Sg.num = (List.range B.length).map fun i => ((out.length + i : Nat) : Int) + 1
  val : ∀ j : Nat, (j : Int) < n → k ≤ j + 1 → (B.map (mtD n dir)).foldl (npStep n js dir topic j) 0 = (open Classical in if ∃ q : Nat, k ≤ q ∧ q ≤ j ∧ distI n dir q ∈ js then 0 else (ppRun n js must topic dir hour out k).2)
  old : ∀ j : Nat, (j : Int) < n → j + 1 ≤ k → (B.map (mtD n dir)).foldl (npStep n js dir topic j) 0 = wantP n must dir j
theorem ppI {n : Int} {js must : List Int} {topic dir hour : Int} {out : List Sg} (ht : topic = 1 ∨ topic = 2) (hw : topic = 2 → ∀ q, wantP n must dir q = 0 ∨ wantP n must dir q = 1) (k : Nat) : ∃ B, PpI n js must topic dir hour out k B := by
  classical
  induction k with
  | zero => exact ⟨[], by simp [ppRun], by simp, List.Pairwise.nil, rfl, fun j _ _ => by simp [ppRun], fun j _ h => absurd h (by omega)⟩
  | succ k ih =>
    obtain ⟨B, heq, hmem, hasc, hnum, hval, hold⟩ := ih
    have hnx := pp_now n js must topic dir hour out k
    have hrun := ppRun_succ n js must topic dir hour out k
    -- the earlier now
    have hprev : (ppRun n js must topic dir hour out k).2 ≠ 0 → 0 < k ∧ wantP n must dir (k - 1) ≠ 0 := fun h => by
      cases k with
      | zero => simp [ppRun] at h
      | succ k => rw [pp_now] at h; exact ⟨by omega, h⟩
    by_cases hs : wantP n must dir k = nowP n js dir (ppRun n js must topic dir hour out k).2 k
    · have h1 : (ppRun n js must topic dir hour out (k + 1)).1 = (ppRun n js must topic dir hour out k).1 := by rw [hrun, ppStep_eq, if_pos hs]
      have hgo : ∀ j : Nat, (j : Int) < n → k + 1 ≤ j + 1 → (B.map (mtD n dir)).foldl (npStep n js dir topic j) 0 = if ∃ q : Nat, k + 1 ≤ q ∧ q ≤ j ∧ distI n dir q ∈ js then 0 else (ppRun n js must topic dir hour out (k + 1)).2 := fun j hj hkj => by
        rw [hval j hj (by omega), hnx, hs]
        unfold nowP
        by_cases hd : distI n dir k ∈ js
        · rw [if_pos hd, if_pos ⟨k, Nat.le_refl _, by omega, hd⟩]; split <;> rfl
        · rw [if_neg hd]
          have hiff : (∃ q : Nat, k ≤ q ∧ q ≤ j ∧ distI n dir q ∈ js) ↔ ∃ q : Nat, k + 1 ≤ q ∧ q ≤ j ∧ distI n dir q ∈ js := by
            constructor
            · rintro ⟨q, a, b, c⟩
              refine ⟨q, ?_, b, c⟩
              rcases Nat.lt_or_ge k q with e | e
              · exact e
              · obtain rfl : q = k := by omega
                exact absurd c hd
            · rintro ⟨q, a, b, c⟩; exact ⟨q, by omega, b, c⟩
          by_cases hx : ∃ q : Nat, k ≤ q ∧ q ≤ j ∧ distI n dir q ∈ js
          · rw [if_pos hx, if_pos (hiff.1 hx)]
          · rw [if_neg hx, if_neg (fun h => hx (hiff.2 h))]
      refine ⟨B, by rw [h1, heq], fun s hsB => ?_, hasc, hnum, hgo, fun j hj hjk => ?_⟩
      · obtain ⟨q, num, a, b, c⟩ := hmem s hsB; exact ⟨q, num, by omega, b, c⟩
      · rcases Nat.lt_or_ge (j + 1) (k + 1) with e | e
        · exact hold j hj (by omega)
        · obtain rfl : j = k := by omega
          rw [hgo j hj (by omega), if_neg (by rintro ⟨q, a, b, -⟩; omega), hnx]
    · have hne0 : ∀ x, x = postS ((out ++ B).length + 1) topic (wantP n must dir k) (distI n dir k) dir hour → x.chain = distI n dir k := fun x e => by rw [e]; rfl
      obtain ⟨x, hx⟩ : ∃ x, x = postS ((out ++ B).length + 1) topic (wantP n must dir k) (distI n dir k) dir hour := ⟨_, rfl⟩
      have h1 : (ppRun n js must topic dir hour out (k + 1)).1 = out ++ (B ++ [x]) := by
        rw [hrun, ppStep_eq, if_neg hs, ← List.append_assoc, hx]
        dsimp only
        rw [heq]
      have hxc : x.chain = distI n dir k := hne0 x hx
      have hxf : (mtD n dir x).far = k := by show distI n dir x.chain = k; rw [hxc, dist_inv2]
      have hxs : saysP x topic = some (wantP n must dir k) := by rw [hx]; exact says_post ht (fun h => hw h k)
      have hstep : ∀ (j : Nat) (v : Int), npStep n js dir topic j v (mtD n dir x) = if k ≤ j then (if wantP n must dir k ≠ 0 ∧ junMin n dir k js n ≤ j then 0 else wantP n must dir k) else v := fun j v => by
        unfold npStep
        rw [show (mtD n dir x).s = x from rfl, hxs, hxf]
        dsimp only
        by_cases hkj : k ≤ j
        · rw [if_pos (by omega), if_pos hkj]
        · rw [if_neg (by omega), if_neg hkj]
      have hgo : ∀ j : Nat, (j : Int) < n → k + 1 ≤ j + 1 → ((B ++ [x]).map (mtD n dir)).foldl (npStep n js dir topic j) 0 = if ∃ q : Nat, k + 1 ≤ q ∧ q ≤ j ∧ distI n dir q ∈ js then 0 else (ppRun n js must topic dir hour out (k + 1)).2 := fun j hj hkj => by
        rw [List.map_append, List.foldl_append]
        show npStep n js dir topic j _ (mtD n dir x) = _
        rw [hstep, if_pos (by omega), hnx]
        have hiff : junMin n dir k js n ≤ j ↔ ∃ q : Nat, k + 1 ≤ q ∧ q ≤ j ∧ distI n dir q ∈ js := by
          rw [junMin_le2]
          constructor
          · rintro (h | ⟨y, hy, a, b⟩)
            · omega
            · refine ⟨(distI n dir y).toNat, by omega, by omega, ?_⟩
              rw [show (((distI n dir y).toNat : Nat) : Int) = distI n dir y by omega, dist_inv2]; exact hy
          · rintro ⟨q, a, b, c⟩
            exact .inr ⟨_, c, by rw [dist_inv2]; omega, by rw [dist_inv2]; omega⟩
        by_cases hxj : junMin n dir k js n ≤ j
        · rw [if_pos (hiff.1 hxj)]
          by_cases h0 : wantP n must dir k = 0
          · rw [if_neg (fun h => h.1 h0)]; exact h0
          · rw [if_pos ⟨h0, hxj⟩]
        · rw [if_neg (fun h => hxj h.2), if_neg (fun h => hxj (hiff.2 h))]
      refine ⟨B ++ [x], h1, fun s hsB => ?_, ?_, ?_, hgo, fun j hj hjk => ?_⟩
      · rcases List.mem_append.1 hsB with h | h
        · obtain ⟨q, num, a, b, c⟩ := hmem s h; exact ⟨q, num, by omega, b, c⟩
        · have e : s = x := by simpa using h
          refine ⟨k, (out ++ B).length + 1, by omega, by rw [e]; exact hx, fun h0 => ?_⟩
          rw [h0] at hs
          unfold nowP at hs
          by_cases hd : distI n dir k ∈ js
          · rw [if_pos hd] at hs; exact absurd rfl hs
          · rw [if_neg hd] at hs; exact hprev (fun e => hs e.symm)
      · rw [List.pairwise_append]
        refine ⟨hasc, by simp, fun a ha b hb => ?_⟩
        obtain rfl : b = x := by simpa using hb
        obtain ⟨q, num, hq, e, -⟩ := hmem a ha
        rw [hxc, dist_inv2, e, show (postS num topic (wantP n must dir q) (distI n dir q) dir hour).chain = distI n dir q from rfl, dist_inv2]
        omega
      · rw [List.map_append, List.length_append, List.length_singleton, List.range_succ, List.map_append, hnum]
        have e : x.num = ((out.length + B.length : Nat) : Int) + 1 := by rw [hx]; simp [postS]
        simp [e]
      · rcases Nat.lt_or_ge (j + 1) (k + 1) with e | e
        · rw [List.map_append, List.foldl_append, hold j hj (by omega)]
          show npStep n js dir topic j _ (mtD n dir x) = _
          rw [hstep, if_neg (by omega)]
        · obtain rfl : j = k := by omega
          rw [hgo j hj (by omega), if_neg (by rintro ⟨q, a, b, -⟩; omega), hnx]

theorem mustP_val {ed : List Ed} {hour dir topic m : Int} : mustP ed hour dir topic m = 0 ∨ ∃ e ∈ ed, e.topic = topic ∧ mustP ed hour dir topic m = e.val := by
  rcases (must_max (hour := hour) (dir := dir) (topic := topic) (m := m) (L := ed) (0, 0)).2.2 with h | ⟨e, he, hh, h⟩
  · exact .inl (by unfold mustP mustRun; rw [h])
  · refine .inr ⟨e, he, ?_, by unfold mustP mustRun; rw [h]⟩
    simp only [edHit, Bool.and_eq_true, decide_eq_true_eq] at hh
    exact hh.1.1.1.1.1
theorem mustM_val {n : Nat} {js : List Int} {ed : List Ed} {hour topic dir : Int} (he : edsB n js ed = true) (q : Nat) :
    wantP n (mustM n ed hour topic dir) dir q = 0 ∨ (topic = 1 ∧ 10 ≤ wantP n (mustM n ed hour topic dir) dir q ∧ wantP n (mustM n ed hour topic dir) dir q ≤ 200) ∨ (topic = 2 ∧ wantP n (mustM n ed hour topic dir) dir q = 1) := by
  unfold wantP mustM mustS
  rw [List.getD_eq_getElem?_getD, List.getElem?_map]
  by_cases h : (metreI n dir q).toNat < n
  · rw [List.getElem?_range h]
    simp only [Option.map_some, Option.getD_some]
    rcases mustP_val (ed := ed) (hour := hour) (dir := dir) (topic := topic) (m := (((metreI n dir q).toNat : Nat) : Int)) with h1 | ⟨e, hm, h1, h2⟩
    · exact .inl h1
    · have h3 : edOk n e = true := by
        simp only [edsB, Bool.and_eq_true, List.all_eq_true] at he
        exact he.1.2 e hm
      obtain ⟨-, -, -, -, -, -, h4⟩ := edOk_iff.1 h3
      rw [h2]
      omega
  · rw [List.getElem?_eq_none (by simpa using h)]
    exact .inl rfl
theorem topI_or (i : Nat) : topI i = 1 ∨ topI i = 2 := by
  unfold topI; split <;> simp
theorem dirI_or (i : Nat) : dirI i = 1 ∨ dirI i = -1 := by
  unfold dirI; split <;> simp

/-- The part of a topic and a direction. -/
def PpB (n : Nat) (js : List Int) (ed : List Ed) (hour : Int) (i : Nat) (B : List Sg) : Prop := PpI n js (mustM n ed hour (topI i) (dirI i)) (topI i) (dirI i) hour (ppAll n js ed hour i) n B
theorem ppB {n : Nat} {js : List Int} {ed : List Ed} {hour : Int} (he : edsB n js ed = true) (i : Nat) : ∃ B, PpB n js ed hour i B ∧ ppAll n js ed hour (i + 1) = ppAll n js ed hour i ++ B := by
  obtain ⟨B, hB⟩ := ppI (n := n) (js := js) (must := mustM n ed hour (topI i) (dirI i)) (hour := hour) (out := ppAll n js ed hour i) (topI_or i) (dir := dirI i) (fun h q => by
    rcases mustM_val (hour := hour) (topic := topI i) (dir := dirI i) he q with h1 | h1 | h1
    · exact .inl h1
    · omega
    · exact .inr h1.2) n
  exact ⟨B, hB, hB.eq⟩
/-- All that a proposed sign is. -/
def PpS (n : Nat) (ed : List Ed) (hour : Int) (i : Nat) (s : Sg) : Prop := ∃ (q : Nat) (num : Int), q < n ∧ s = postS num (topI i) (wantP n (mustM n ed hour (topI i) (dirI i)) (dirI i) q) (distI n (dirI i) q) (dirI i) hour ∧
  (wantP n (mustM n ed hour (topI i) (dirI i)) (dirI i) q = 0 → 0 < q ∧ wantP n (mustM n ed hour (topI i) (dirI i)) (dirI i) (q - 1) ≠ 0)
theorem pp_mem {n : Nat} {js : List Int} {ed : List Ed} {hour : Int} (he : edsB n js ed = true) (i : Nat) : ∀ s ∈ ppAll n js ed hour i, ∃ j < i, PpS n ed hour j s := by
  induction i with
  | zero => intro s h; cases h
  | succ i ih =>
    obtain ⟨B, hB, e⟩ := ppB (hour := hour) he i
    intro s hs
    rw [e] at hs
    rcases List.mem_append.1 hs with h | h
    · obtain ⟨j, hj, hp⟩ := ih s h; exact ⟨j, by omega, hp⟩
    · exact ⟨i, by omega, hB.mem s h⟩
theorem pp_num {n : Nat} {js : List Int} {ed : List Ed} {hour : Int} (he : edsB n js ed = true) (i : Nat) : (ppAll n js ed hour i).map Sg.num = (List.range (ppAll n js ed hour i).length).map fun (j : Nat) => (j : Int) + 1 := by
  induction i with
  | zero => rfl
  | succ i ih =>
    obtain ⟨B, hB, e⟩ := ppB (hour := hour) he i
    rw [e, List.map_append, ih, hB.num, List.length_append, List.range_add, List.map_append, List.map_map]
    rfl
theorem pp_nodup {n : Nat} {js : List Int} {ed : List Ed} {hour : Int} (he : edsB n js ed = true) (i : Nat) : ((ppAll n js ed hour i).map Sg.num).Nodup := by
  rw [pp_num he]
  rw [List.Nodup, List.pairwise_map]
  exact (List.nodup_range (n := _)).imp (fun h e => h (by omega))
theorem postS_ok {n num topic w c dir hour : Int} (h1 : 1 ≤ num ∧ num ≤ 100) (ht : topic = 1 ∨ topic = 2) (hw : w = 0 ∨ (topic = 1 ∧ 10 ≤ w ∧ w ≤ 200) ∨ (topic = 2 ∧ w = 1)) (hc : 0 ≤ c ∧ c ≤ n) (hd : dir = 1 ∨ dir = -1) (hh : 0 ≤ hour ∧ hour ≤ 10000000) :
    signOk n (postS num topic w c dir hour) = true := by
  rw [signOk_iff]
  have hk : 1 ≤ (postS num topic w c dir hour).kind ∧ (postS num topic w c dir hour).kind ≤ 8 := by
    unfold postS; dsimp only; split <;> (try split) <;> (try split) <;> omega
  have hv : valuedB (postS num topic w c dir hour).kind (postS num topic w c dir hour).val = true := by
    rcases ht with rfl | rfl
    · by_cases h0 : w = 0
      · subst h0; simp [postS, valuedB]
      · simp [postS, valuedB, h0]; omega
    · by_cases h0 : w = 0
      · subst h0; simp [postS, valuedB]
      · simp [postS, valuedB, h0]
  have hrv : rvaluedB (postS num topic w c dir hour).kind (postS num topic w c dir hour).val = true := by
    unfold rvaluedB; rw [hv, decide_eq_true hk]; rfl
  refine ⟨by show 1 ≤ num ∧ num ≤ 1000000000; omega, hrv, hc, ?_, ?_, ?_, by simp [postS], by intro c hc; cases hc⟩
  · show dirB dir = true
    simp [dirB, hd]
  · show 1 ≤ topic ∧ topic ≤ 9
    omega
  · show hoursB hour (hour + 1) = true
    simp only [hoursB, decide_eq_true_eq]; omega
theorem pp_valid {n : Nat} {js : List Int} {ed : List Ed} {hour : Int} (hl : lineB n js = true) (he : edsB n js ed = true) (hh : 0 ≤ hour ∧ hour ≤ 10000000) (h100 : (ppAll n js ed hour 4).length ≤ 100) : sgsB n js (ppAll n js ed hour 4) = true := by
  simp only [sgsB, Bool.and_eq_true, decide_eq_true_eq, List.all_eq_true]
  refine ⟨⟨⟨hl, h100⟩, fun s hs => ?_⟩, pp_nodup he 4⟩
  obtain ⟨i, hi, q, num, hq, rfl, -⟩ := pp_mem he 4 s hs
  refine postS_ok ?_ (topI_or i) (mustM_val he q) ?_ (dirI_or i) hh
  · have h1 : num ∈ (ppAll n js ed hour 4).map Sg.num := List.mem_map.2 ⟨_, hs, rfl⟩
    rw [pp_num he] at h1
    obtain ⟨j, hj, e⟩ := List.mem_map.1 h1
    rw [List.mem_range] at hj
    omega
  · unfold distI; split <;> omega

theorem PpS.says {n : Nat} {ed : List Ed} {hour : Int} {i : Nat} {s : Sg} (h : PpS n ed hour i s) (topic : Int) (ht : topic = 1 ∨ topic = 2) : (saysP s topic).isSome = decide (topI i = topic) := by
  obtain ⟨q, num, hq, rfl, -⟩ := h
  generalize wantP n (mustM n ed hour (topI i) (dirI i)) (dirI i) q = w
  rcases topI_or i with h1 | h1 <;> rw [h1] <;> rcases ht with rfl | rfl <;> by_cases h0 : w = 0 <;> simp [saysP, postS, h0]
theorem PpS.dir {n : Nat} {ed : List Ed} {hour : Int} {i : Nat} {s : Sg} (h : PpS n ed hour i s) : s.dir = dirI i := by
  obtain ⟨q, num, hq, rfl, -⟩ := h; rfl
theorem PpS.spk {n : Nat} {ed : List Ed} {hour : Int} {i : Nat} {s : Sg} (h : PpS n ed hour i s) : spkB s hour = true := by
  obtain ⟨q, num, hq, rfl, -⟩ := h
  simp [spkB, postS]; omega
theorem PpS.kind {n : Nat} {ed : List Ed} {hour : Int} {i : Nat} {s : Sg} (h : PpS n ed hour i s) : s.kind = 1 ∨ s.kind = 2 ∨ s.kind = 3 ∨ s.kind = 4 := by
  obtain ⟨q, num, hq, rfl, -⟩ := h
  unfold postS; dsimp only; split <;> (try split) <;> (try split) <;> simp
theorem partI (i : Nat) (hi : i < 4) (j : Nat) (hj : j < 4) (h1 : topI j = topI i) (h2 : dirI j = dirI i) : j = i := by
  rcases (show i = 0 ∨ i = 1 ∨ i = 2 ∨ i = 3 by omega) with rfl | rfl | rfl | rfl <;> rcases (show j = 0 ∨ j = 1 ∨ j = 2 ∨ j = 3 by omega) with rfl | rfl | rfl | rfl <;> first | rfl | (simp [topI, dirI] at h1 h2)
/-- The signs of one part among all. -/
theorem pp_part {n : Nat} {js : List Int} {ed : List Ed} {hour : Int} (he : edsB n js ed = true) {i : Nat} (hi : i < 4) {B : List Sg} (hB : PpB n js ed hour i B) : ∀ k, k ≤ 4 →
    (ppAll n js ed hour k).filter (fun s => (decide (s.dir = dirI i) && spkB s hour) && (saysP s (topI i)).isSome) = if i < k then B else [] := by
  intro k
  induction k with
  | zero => intro _; rfl
  | succ k ih =>
    intro hk
    obtain ⟨B2, hB2, e⟩ := ppB (hour := hour) he k
    rw [e, List.filter_append, ih (by omega)]
    by_cases hik : i = k
    · subst hik
      have e2 : B2 = B := by
        have h1 := hB.eq; have h2 := hB2.eq
        exact List.append_cancel_left (h2.symm.trans h1)
      rw [if_neg (by omega), if_pos (by omega), e2, List.nil_append, List.filter_eq_self]
      intro s hs
      have hp : PpS n ed hour i s := hB.mem s hs
      rw [hp.dir, hp.spk, hp.says _ (topI_or i)]; simp
    · have hz : B2.filter (fun s => (decide (s.dir = dirI i) && spkB s hour) && (saysP s (topI i)).isSome) = [] := by
        rw [List.filter_eq_nil_iff]
        intro s hs hc
        have hp : PpS n ed hour k s := hB2.mem s hs
        rw [hp.dir, hp.spk, hp.says _ (topI_or i)] at hc
        simp at hc
        exact hik (partI i hi k (by omega) hc.2 hc.1).symm
      rw [hz, List.append_nil]
      by_cases h5 : i < k
      · rw [if_pos h5, if_pos (by omega)]
      · rw [if_neg h5, if_neg (by omega)]
theorem pp_holdP {n : Nat} {js : List Int} {ed : List Ed} {hour : Int} (he : edsB n js ed = true) {i : Nat} (hi : i < 4) {R : List Mt} (hR : IsRow n hour (dirI i) (ppAll n js ed hour 4) R) (k : Nat) (hk : k < n) :
    holdP n js R (dirI i) (topI i) k = wantP n (mustM n ed hour (topI i) (dirI i)) (dirI i) k := by
  obtain ⟨B, hB, -⟩ := ppB (hour := hour) he i
  have hmR : ∀ m ∈ R, ∃ j < 4, PpS n ed hour j m.s := fun m hm => by
    have h1 := hR.perm.subset hm
    simp only [selP, List.mem_map, List.mem_filter] at h1
    obtain ⟨s, ⟨hs, -⟩, rfl⟩ := h1
    exact pp_mem he 4 s hs
  rw [hold_np (fun m hm => by obtain ⟨j, -, hp⟩ := hmR m hm; have := hp.kind; omega)]
  rw [← foldl_filter_none (p := fun m => (saysP m.s (topI i)).isSome) (fun m hm => by simpa using hm)]
  have hsel : (selP n hour (dirI i) (ppAll n js ed hour 4)).filter (fun m => (saysP m.s (topI i)).isSome) = B.map (mtD n (dirI i)) := by
    have h := pp_part he hi hB 4 (Nat.le_refl _)
    rw [if_pos hi] at h
    rw [← h]
    unfold selP
    rw [List.filter_map, List.filter_filter]
    congr 1
    refine List.filter_congr fun s _ => ?_
    simp only [Function.comp_apply]
    cases (saysP s (topI i)).isSome <;> simp
  have hperm : (R.filter (fun m => (saysP m.s (topI i)).isSome)).Perm (B.map (mtD n (dirI i))) := by
    rw [← hsel]; exact hR.perm.filter _
  have hBs : (B.map (mtD n (dirI i))).Pairwise (fun a b => ¬ mtLt b a) := by
    rw [List.pairwise_map]
    refine hB.asc.imp fun {a b} h => ?_
    unfold mtLt mtD; dsimp only; omega
  have hnd : ((B.map (mtD n (dirI i))).map (fun m => m.s.num)).Nodup := by
    rw [List.map_map, show ((fun m => m.s.num) ∘ mtD n (dirI i)) = Sg.num from rfl, hB.num]
    rw [List.Nodup, List.pairwise_map]
    exact (List.nodup_range (n := _)).imp (fun h e => h (by omega))
  have heq : R.filter (fun m => (saysP m.s (topI i)).isSome) = B.map (mtD n (dirI i)) := by
    refine List.Perm.eq_of_pairwise (le := fun a b => ¬ mtLt b a) (fun a b ha hb h3 h4 => ?_) (hR.sorted.filter _) hBs hperm
    refine map_inj_of hnd (hperm.subset ha) hb ?_
    unfold mtLt at h3 h4; omega
  rw [heq]
  exact hB.old k (by omega) (by omega)
/-- With the proposed signs the same holds as must hold. -/
theorem pp_hold {n : Nat} {js : List Int} {ed : List Ed} {hour : Int} (he : edsB n js ed = true) {i : Nat} (hi : i < 4) (hR : IsRow n hour (dirI i) (ppAll n js ed hour 4) (rowM n hour (dirI i) (ppAll n js ed hour 4))) :
    holdM n js (ppAll n js ed hour 4) hour (topI i) (dirI i) = mustM n ed hour (topI i) (dirI i) := by
  apply List.ext_getElem (by simp [holdM, mustM, mustS])
  intro m h1 h2
  have hm : m < n := by simpa [holdM] using h1
  have hmm := metreI_lt (len := n) (dir := dirI i) (k := m) (by omega) (by omega)
  have hk := pp_holdP he hi hR (metreI n (dirI i) m).toNat (by omega)
  rw [show (((metreI n (dirI i) m).toNat : Nat) : Int) = metreI n (dirI i) m by omega] at hk
  have e1 : (holdM n js (ppAll n js ed hour 4) hour (topI i) (dirI i))[m] = holdP n js (rowM n hour (dirI i) (ppAll n js ed hour 4)) (dirI i) (topI i) (metreI n (dirI i) m) := by
    simp [holdM, holdS]
  rw [e1, hk]
  unfold wantP
  rw [show (((metreI n (dirI i) m).toNat : Nat) : Int) = metreI n (dirI i) m by omega, metreI_inv]
  simp [List.getD_eq_getElem?_getD, List.getElem?_eq_getElem h2]
theorem gpRun_same {topic dir : Int} {first : Nat} {H : List Int} (k : Nat) : gpRun topic dir first H H [] k = [] := by
  induction k with
  | zero => rfl
  | succ k ih =>
    have e : gpRun topic dir first H H [] (k + 1) = gpStep topic dir first (gpRun topic dir first H H [] k) k (H.getD k 0) (H.getD k 0) := by simp [gpRun, List.range_succ]
    rw [e, ih, gpStep, if_pos rfl]
theorem pp_gaps {n : Nat} {js : List Int} {ed : List Ed} {hour : Int} (he : edsB n js ed = true) (h1 : IsRow n hour 1 (ppAll n js ed hour 4) (rowM n hour 1 (ppAll n js ed hour 4))) (h2 : IsRow n hour (-1) (ppAll n js ed hour 4) (rowM n hour (-1) (ppAll n js ed hour 4))) (i : Nat) (hi : i ≤ 4) : gapsP n js (ppAll n js ed hour 4) ed hour i = [] := by
  induction i with
  | zero => rfl
  | succ i ih =>
    rw [gapsP_succ, ih (by omega), pp_hold he (by omega) (by rcases dirI_or i with h | h <;> rw [h] <;> assumption)]
    exact gpRun_same _
theorem pp_code {n : Nat} {js : List Int} {ed : List Ed} {hour : Int} (he : edsB n js ed = true) {dir : Int} {R : List Mt} (hR : IsRow n hour dir (ppAll n js ed hour 4) R) (i : Nat) : codeH n js R dir i = [] := by
  cases hm : R[i]? with
  | none => unfold codeH; rw [hm]
  | some m =>
    have h1 := hR.perm.subset (List.mem_of_getElem? hm)
    simp only [selP, List.mem_map, List.mem_filter] at h1
    obtain ⟨s, ⟨hs, hd⟩, rfl⟩ := h1
    simp only [Bool.and_eq_true, decide_eq_true_eq] at hd
    obtain ⟨j, hj, hp⟩ := pp_mem he 4 s hs
    have hpd := hp.dir
    rw [hd.1] at hpd
    subst hpd
    have hHP := fun k hk => pp_holdP he hj hR k hk
    obtain ⟨q, num, hq, hse, h0⟩ := hp
    have hfar : distI n (dirI j) s.chain = q := by rw [hse, show (postS num (topI j) (wantP n (mustM n ed hour (topI j) (dirI j)) (dirI j) q) (distI n (dirI j) q) (dirI j) hour).chain = distI n (dirI j) q from rfl, dist_inv2]
    rw [codeH_at hm]
    dsimp only
    rw [hfar]
    by_cases hw : wantP n (mustM n ed hour (topI j) (dirI j)) (dirI j) q = 0
    · obtain ⟨hq0, hqn⟩ := h0 hw
      have hk : s.kind = (if topI j = 2 then 4 else 2) := by
        rw [hse, hw]; simp [postS]
      have hpr : holdP n js R s.dir (topI j) ((q : Int) - 1) ≠ 0 := by
        rw [hd.1, show ((q : Int) - 1) = ((q - 1 : Nat) : Int) by omega, hHP (q - 1) (by omega)]; exact hqn
      have hen : endsB n js R s q (topI j) = true := by
        unfold endsB endB
        rcases topI_or j with ht | ht <;> rw [ht] at hk hpr ⊢ <;> simp [hk, hpr]
      have hri : ridleB n js R s q = false := by
        unfold ridleB
        rw [decide_eq_false (by omega)]
        rcases topI_or j with ht | ht <;> rw [ht] at hen <;> rw [hen] <;> simp
      rcases topI_or j with ht | ht
      · have hk2 : s.kind = 2 := by rw [hk, ht]; rfl
        rw [if_neg (by omega), if_neg (by omega), if_pos (by omega), hri]; rfl
      · have hk4 : s.kind = 4 := by rw [hk, ht]; rfl
        rw [if_neg (by omega), if_neg (by omega), if_pos (by omega), hri]; rfl
    · have hk : s.kind = 1 ∨ s.kind = 3 := by
        rw [hse]
        generalize wantP n (mustM n ed hour (topI j) (dirI j)) (dirI j) q = w at hw
        rcases topI_or j with ht | ht <;> rw [ht] <;> simp [postS, hw]
      rw [if_neg (by omega), if_neg (by omega), if_neg (by omega), if_pos hk, decide_eq_false (by omega)]; rfl
theorem pp_faults {n : Nat} {js : List Int} {ed : List Ed} {hour : Int} (he : edsB n js ed = true) (h1 : IsRow n hour 1 (ppAll n js ed hour 4) (rowM n hour 1 (ppAll n js ed hour 4))) (h2 : IsRow n hour (-1) (ppAll n js ed hour 4) (rowM n hour (-1) (ppAll n js ed hour 4))) : fltAll n js (ppAll n js ed hour 4) hour = [] := by
  have key : ∀ {dir : Int} {R : List Mt}, IsRow n hour dir (ppAll n js ed hour 4) R → ∀ k, fltRow n js R dir k = [] := fun {dir R} h k => by
    unfold fltRow
    rw [List.flatMap_eq_nil_iff]
    intro i _
    rw [pp_code he h i]; rfl
  unfold fltAll
  rw [key h1, key h2]; rfl
/-- Without edicts none are needed. -/
theorem pp_none (n : Nat) (js : List Int) (hour : Int) (i : Nat) : ppAll n js [] hour i = [] := by
  induction i with
  | zero => rfl
  | succ i ih =>
    rw [ppAll, ih]
    have hz : ∀ q : Nat, (mustM n [] hour (topI i) (dirI i)).getD q 0 = 0 := fun q => by
      unfold mustM mustS
      rw [List.getD_eq_getElem?_getD, List.getElem?_map]
      by_cases h : q < n
      · rw [List.getElem?_range h]; rfl
      · rw [List.getElem?_eq_none (by simpa using h)]; rfl
    have key : ∀ k, ppRun n js (mustM n [] hour (topI i) (dirI i)) (topI i) (dirI i) hour [] k = ([], 0) := fun k => by
      induction k with
      | zero => rfl
      | succ k ihk =>
        rw [ppRun_succ, ihk]
        have hn : nowP n js (dirI i) 0 k = 0 := by unfold nowP; split <;> rfl
        unfold ppStep
        rw [hz, hn, if_pos rfl]
    rw [key]
end

section
theorem dist_inv {n dir j k : Int} : distI n dir j = k ↔ j = distI n dir k := by
  unfold distI
  by_cases h : dir = 1
  · simp [h]
  · simp [h]; omega

open Classical in
set_option maxHeartbeats 2000000 in
set_option maxRecDepth 100000 in
theorem rjunction_calls (len : Int) (A : Option Addr) (js : List Int) (c : Nat) (dir k : Int) (w : World) (hr : Rd w A (ints js)) (hj : ∀ j ∈ js, 0 ≤ j ∧ j ≤ len) (hlen : len ≤ 100000) (hn : js.length ≤ 1000) :
    Calls Tryz.prog 64 #[.agg #[.int .i64 len, .slice A js.length c], .int .i64 dir, .int .i64 k] w fun e w' => e = .returned (.bool (decide (distI len dir k ∈ js))) ∧ Below w.heap.size w w' := by
  have HR := hid hr
  have HJ := hid hj
  clear hr hj
  go_enter Tryz.func64, Tryz.ntmps64
  go_wp2_with fail
  generalize hW : w.alloc _ = w1
  have hB1 : w.heap.size < w1.heap.size := by rw [← hW]; simp
  have d0 : w1.cell? ⟨w.heap.size, 0, none⟩ = some (.int .i64 len) := by rw [← hW]; simp [go_sem]
  have d1 : w1.cell? ⟨w.heap.size, 1, none⟩ = some (.slice A js.length c) := by rw [← hW]; simp [go_sem]
  have hbw1 : Below w.heap.size w w1 := by rw [← hW]; exact below_alloc _ _
  clear hW
  go_loopw [7] (fun i wr => ∃ q : Nat, q ≤ js.length ∧ i = .int .i64 q ∧ (∀ x ∈ js.take q, ¬ distI len dir x = k) ∧ Below w1.heap.size w1 wr) (fun i _ => js.length - (intOf i).toNat)
  case atStart => exact ⟨0, Nat.zero_le _, rfl, by simp, Below.refl _ _⟩
  case round =>
    obtain ⟨q, hq, rfl, hne, hbel⟩ := hrel
    have HN := hid hne
    clear hne
    have f0 := (hbel.cell (p := ⟨w.heap.size, 0, none⟩) hB1).trans d0
    have f1 := (hbel.cell (p := ⟨w.heap.size, 1, none⟩) hB1).trans d1
    have hBr := Nat.lt_of_lt_of_le hB1 hbel.size
    by_cases hlt : q < js.length
    · obtain ⟨b, off, rfl, hb, hc⟩ := (((unhid HR).below hbw1).below hbel) (ints_ne hlt)
      have c0 := hc q _ (ints_at js q hlt)
      clear hc
      have HM := hid (show js[q] ∈ js from List.getElem_mem _)
      have hjb := unhid HJ _ (unhid HM)
      have HT := hid (show js.take (q + 1) = js.take q ++ [js[q]] from List.take_succ_eq_append_getElem hlt)
      generalize js[q] = x at *
      have KD := hid (fun (W : World) => rdistance_calls len (some ⟨b, off, none⟩) js.length c dir x W hjb.1 hjb.2 hlen)
      generalize hdx : distI len dir x = dx at *
      have HDX := hid hdx
      clear hdx
      by_cases hx : dx = k
      · have hx' : (dx == k) = true := by simpa using hx
        have HX := hid hx
        clear hx
        go_wp2_with fail
        go_region_held3 (fun w' => w'.cell? ⟨w.heap.size, 0, none⟩ = some (.int .i64 len) ∧ w'.cell? ⟨w.heap.size, 1, none⟩ = some (.slice (some ⟨b, off, none⟩) js.length c) ∧ w'.cell? ⟨b, off + q, none⟩ = some (.int .i64 x)) (first | (refine ⟨?_, ?_, ?_⟩ <;> assumption) | go_keep)
          (first
            | (go_at_call 67; refine ((unhid KD) _).mono ?_; rintro e w5 ⟨rfl, rfl⟩))
        go_wp2_with fail
        go_ret
        refine ⟨?_, hbw1.trans (((below_alloc' (Below.drew (Below.refl wr.heap.size wr)) _).mono hbel.size |> hbel.trans).mono hbw1.size)⟩
        exact retb (by simp; rw [← dist_inv.1 ((unhid HDX).trans (unhid HX))]; exact unhid HM)
      · have hx' : (dx == k) = false := by simpa using hx
        have HX := hid hx
        clear hx
        go_wp2_with fail
        go_region_held3 (fun w' => w'.cell? ⟨w.heap.size, 0, none⟩ = some (.int .i64 len) ∧ w'.cell? ⟨w.heap.size, 1, none⟩ = some (.slice (some ⟨b, off, none⟩) js.length c) ∧ w'.cell? ⟨b, off + q, none⟩ = some (.int .i64 x)) (first | (refine ⟨?_, ?_, ?_⟩ <;> assumption) | go_keep)
          (first
            | (go_at_call 67; refine ((unhid KD) _).mono ?_; rintro e w5 ⟨rfl, rfl⟩))
        go_wp2_with fail
        go_roundw
        case rel => exact ⟨q + 1, by omega, by go_num, fun y hy => by
          rw [unhid HT] at hy
          rcases List.mem_append.1 hy with h | h
          · exact unhid HN y h
          · simp at h; subst h; rw [unhid HDX]; exact unhid HX, (below_alloc' (Below.drew (Below.refl wr.heap.size wr)) _).mono hbel.size |> hbel.trans⟩
        case measure => simp [intOf]; omega
    · have hall : ∀ x ∈ js, ¬ distI len dir x = k := fun x hx => unhid HN x (by rw [List.take_of_length_le (by omega)]; exact hx)
      have HNO := hid (show ¬ distI len dir k ∈ js from fun h => hall _ h (dist_inv.2 rfl))
      clear hall
      go_wp2_with fail
      go_ret
      exact ⟨retb (by simp; exact unhid HNO), hbw1.trans (hbel.mono hbw1.size)⟩
end

section
theorem info_sign3 : (Tryz.prog.info? 80).map (fun i => (i.zero, i.size, i.bytes)) = some (some (.agg #[.int .i64 0, .int .i64 0, .int .i64 0, .int .i64 0, .int .i64 0, .int .i64 0, .int .i64 0, .int .i64 0, .slice none 0 0]), 9, 88) := by kernel_rfl
theorem topI_at' {k j : Nat} (hk : k < 2) (hj : j < 2) : topI (2 * k + j) = ((k + 1 : Nat) : Int) := by
  rcases (show k = 0 ∨ k = 1 by omega) with rfl | rfl <;> rcases (show j = 0 ∨ j = 1 by omega) with rfl | rfl <;> rfl
theorem dirI_at' {k j : Nat} (hk : k < 2) (hj : j < 2) : dirI (2 * k + j) = 1 - 2 * (j : Int) := by
  rcases (show k = 0 ∨ k = 1 by omega) with rfl | rfl <;> rcases (show j = 0 ∨ j = 1 by omega) with rfl | rfl <;> rfl
theorem own_setB {w : World} {base e size n : Nat} {v : Value} {xs : List Value} (h : w.ownsRow base e size v n xs) {g : Nat} (hg : v.ownBlock ≠ some g) (i : Nat) (u : Value) : (w.setCell ⟨g, i, none⟩ u).ownsRow base e size v n xs :=
  h.kept (row := some g) ⟨rfl, rfl, rfl, by simp, fun b hb hne => block_set_other _ _ (fun e => hne (by rw [e]))⟩ (.inr hg)
theorem box3w (w : World) (c1 c2 c3 : Array Value) (t1 t2 t3 : TypeId) :
    (((w.alloc (.cells c1 t1)).alloc (.cells c2 t2)).alloc (.cells c3 t3)).heap[w.heap.size]? = some (.cells c1 t1 (0, 0)) ∧
    (((w.alloc (.cells c1 t1)).alloc (.cells c2 t2)).alloc (.cells c3 t3)).heap[w.heap.size + 1]? = some (.cells c2 t2 (0, 0)) ∧
    (((w.alloc (.cells c1 t1)).alloc (.cells c2 t2)).alloc (.cells c3 t3)).heap[w.heap.size + 2]? = some (.cells c3 t3 (0, 0)) ∧
    Below w.heap.size w (((w.alloc (.cells c1 t1)).alloc (.cells c2 t2)).alloc (.cells c3 t3)) ∧
    (((w.alloc (.cells c1 t1)).alloc (.cells c2 t2)).alloc (.cells c3 t3)).heap.size = w.heap.size + 3 := by
  have s1 : (w.alloc (.cells c1 t1)).heap.size = w.heap.size + 1 := by simp
  have s2 : ((w.alloc (.cells c1 t1)).alloc (.cells c2 t2)).heap.size = w.heap.size + 2 := by simp
  refine ⟨?_, ?_, ?_, below_alloc' (below_alloc' (below_alloc w _) _) _, by simp⟩
  · rw [Below.heap_alloc _ _ _ (by omega), Below.heap_alloc _ _ _ (by omega)]; exact heap_alloc_new w _
  · rw [Below.heap_alloc _ _ _ (by omega), ← s1]; exact heap_alloc_new _ _
  · rw [← s2]; exact heap_alloc_new _ _
theorem alloc2_new (w : World) (c1 c2 : Array Value) (t1 t2 : TypeId) : ((w.alloc (.cells c1 t1)).alloc (.cells c2 t2)).drew.heap[w.heap.size + 1]? = some (.cells c2 t2 (0, 0)) := by
  have h := heap_alloc_new (w.alloc (.cells c1 t1)) (.cells c2 t2)
  rwa [show (w.alloc (.cells c1 t1)).heap.size = w.heap.size + 1 from by simp] at h
theorem alloc2_old (w : World) (c1 c2 : Array Value) (t1 t2 : TypeId) : ((w.alloc (.cells c1 t1)).alloc (.cells c2 t2)).drew.heap[w.heap.size]? = some (.cells c1 t1 (0, 0)) := by
  show ((w.alloc (.cells c1 t1)).alloc (.cells c2 t2)).heap[w.heap.size]? = _
  rw [Below.heap_alloc _ _ _ (by simp)]
  exact heap_alloc_new w (.cells c1 t1)
theorem heap_alloc_at {w : World} {B : Nat} {cs : Array Value} {t : TypeId} (h : w.heap.size = B) : (w.alloc (.cells cs t)).heap[B]? = some (.cells cs t (0, 0)) := h ▸ heap_alloc_new w (.cells cs t)
theorem ppS_same {n : Int} {js must : List Int} {topic dir hour : Int} {st : List Sg × Int} {k : Nat} {nw x : Int} (h1 : nowP n js dir st.2 k = nw) (h2 : must.getD (metreI n dir k).toNat 0 = x) (h3 : x = nw) : ppStep n js must topic dir hour st k = (st.1, nw) := by
  unfold ppStep; rw [h1, h2, if_pos h3]
theorem ppS_push {n : Int} {js must : List Int} {topic dir hour : Int} {st : List Sg × Int} {k : Nat} {nw x : Int} (h1 : nowP n js dir st.2 k = nw) (h2 : must.getD (metreI n dir k).toNat 0 = x) (h3 : ¬ x = nw) : ppStep n js must topic dir hour st k = (st.1 ++ [postS (st.1.length + 1) topic x (distI n dir k) dir hour], x) := by
  unfold ppStep; rw [h1, h2, if_neg h3]

set_option maxHeartbeats 8000000 in
set_option maxRecDepth 100000 in
theorem rpropose_calls (n : Nat) (A : Option Addr) (js : List Int) (c : Nat) (A3 : Option Addr) (ed : List Ed) (c3 : Nat) (hour : Int) (w : World)
    (hl : LnOk w A js) (he : Rd w A3 (edicts ed)) (hv : lineB n js = true) (hl50 : ed.length ≤ 100000000) (hh : 0 ≤ hour ∧ hour ≤ 10000000) :
    Calls Tryz.prog 29 #[.agg #[.int .i64 n, .slice A js.length c], .slice A3 ed.length c3, .int .i64 hour] w fun e w' =>
      ∃ (A' : Option Addr) (c' : Nat), e = .returned (.tuple #[.slice A' (ppAll n js ed hour 4).length c', .bool (decide ((ppAll n js ed hour 4).length ≤ 100))]) ∧ Rd w' A' (signs (ppAll n js ed hour 4)) ∧ Below w.heap.size w w' := by
  have HL := hid hl.rd
  have HE := hid he
  have HJ := hid (lineB_mem hv)
  have hn := (lineB_len hv).2
  have hj50 : js.length ≤ 50 := by have := hv; simp [lineB, lineP] at this; omega
  clear hl he hv
  obtain ⟨i0, hi, hz0, hz1, hz2⟩ := info_parts info_sign3
  go_enter Tryz.func29, Tryz.ntmps29
  go_wp2_with fail
  have HBX := hid (box3w w #[.int .i64 n, .slice A js.length c] #[.int .i64 0, .int .i64 1, .int .i64 3] #[.int .i64 0, .int .i64 2, .int .i64 4] 24 3 3)
  generalize hW : ((w.alloc (.cells #[.int .i64 n, .slice A js.length c] 24)).alloc (.cells #[.int .i64 0, .int .i64 1, .int .i64 3] 3)).alloc (.cells #[.int .i64 0, .int .i64 2, .int .i64 4] 3) = w1 at *
  obtain ⟨g0, g1, g2, hbw1, hsz⟩ := unhid HBX
  have d0 := cell_of_row _ w.heap.size 0 _ _ _ g0
  have d1 := cell_of_row _ w.heap.size 1 _ _ _ g0
  have s1 := cell_of_row _ (w.heap.size + 1) 1 _ _ _ g1
  have s2 := cell_of_row _ (w.heap.size + 1) 2 _ _ _ g1
  have e1 := cell_of_row _ (w.heap.size + 2) 1 _ _ _ g2
  have e2 := cell_of_row _ (w.heap.size + 2) 2 _ _ _ g2
  simp at d0 d1 s1 s2 e1 e2
  have SC := hid (fun (wr : World) (hb : Below w1.heap.size w1 wr) => (show (∀ tn : Nat, 1 ≤ tn → tn ≤ 2 → wr.cell? ⟨w.heap.size + 1, tn, none⟩ = some (.int .i64 (2 * (tn : Int) - 1)) ∧ wr.cell? ⟨w.heap.size + 2, tn, none⟩ = some (.int .i64 (2 * (tn : Int)))) ∧ wr.cell? ⟨w.heap.size, 0, none⟩ = some (.int .i64 n) ∧ wr.cell? ⟨w.heap.size, 1, none⟩ = some (.slice A js.length c) from by
    refine ⟨fun tn h1 h2 => ?_, (hb.cell (p := ⟨w.heap.size, 0, none⟩) (by dsimp only; omega)).trans d0, (hb.cell (p := ⟨w.heap.size, 1, none⟩) (by dsimp only; omega)).trans d1⟩
    rcases (show tn = 1 ∨ tn = 2 by omega) with rfl | rfl
    · exact ⟨(hb.cell (p := ⟨w.heap.size + 1, 1, none⟩) (by dsimp only; omega)).trans s1, (hb.cell (p := ⟨w.heap.size + 2, 1, none⟩) (by dsimp only; omega)).trans e1⟩
    · exact ⟨(hb.cell (p := ⟨w.heap.size + 1, 2, none⟩) (by dsimp only; omega)).trans s2, (hb.cell (p := ⟨w.heap.size + 2, 2, none⟩) (by dsimp only; omega)).trans e2⟩))
  have hB1 : w.heap.size + 3 ≤ w1.heap.size := by omega
  clear hsz
  clear hW HBX g0 g1 g2 d0 d1 s1 s2 e1 e2
  obtain ⟨-, d0, d1⟩ := (unhid SC) w1 (Below.refl _ _)
  go_loopw [8, 11] (fun v t wr => ∃ (k : Nat) (A6 : Option Addr) (c6 : Nat), k ≤ 2 ∧ t = .int .i64 ((k + 1 : Nat) : Int) ∧ v = .slice A6 (ppAll n js ed hour (2 * k)).length c6 ∧ wr.ownsRow w1.heap.size 80 9 (.slice A6 (ppAll n js ed hour (2 * k)).length c6) (ppAll n js ed hour (2 * k)).length (signs (ppAll n js ed hour (2 * k))) ∧ Below w1.heap.size w1 wr) (fun _ t _ => 3 - (intOf t).toNat)
  case atStart => exact ⟨0, none, 0, by omega, rfl, rfl, World.ownsRow_nil _ _ _ _, Below.refl _ _⟩
  case round =>
    obtain ⟨k, A6, c6, hk, rfl, rfl, hown, hbel⟩ := hrel
    have HO := hid hown
    clear hown
    obtain ⟨tn, htn⟩ : ∃ tn : Nat, tn = k + 1 := ⟨_, rfl⟩
    rw [← htn]
    have HTN := hid htn
    have htn1 : 1 ≤ tn := by omega
    by_cases hlt : k < 2
    · have htn2 : tn ≤ 2 := by omega
      have htn3 : (tn : Int) ≤ 2 := by omega
      have htn4 : (0 : Int) ≤ (tn : Int) := by omega
      have htn5 : (tn : Int) < 3 := by omega
      clear htn
      go_wp2_with fail
      go_loopw [8, 12] (fun v d wr => ∃ (j : Nat) (A6 : Option Addr) (c6 : Nat), j ≤ 2 ∧ d = .int .i64 (1 - 2 * (j : Int)) ∧ v = .slice A6 (ppAll n js ed hour (2 * k + j)).length c6 ∧ wr.ownsRow w1.heap.size 80 9 (.slice A6 (ppAll n js ed hour (2 * k + j)).length c6) (ppAll n js ed hour (2 * k + j)).length (signs (ppAll n js ed hour (2 * k + j))) ∧ Below w1.heap.size w1 wr) (fun _ d _ => (intOf d + 3).toNat)
      case atStart => exact ⟨0, A6, c6, by omega, rfl, rfl, unhid HO, hbel⟩
      case round =>
        clear HO hbel
        obtain ⟨j, A6, c6, hj, rfl, rfl, hown, hbel⟩ := hrel
        have HO := hid hown
        clear hown
        by_cases hjt : j < 2
        · have hT := topI_at' hlt hjt
          have hD := dirI_at' hlt hjt
          have hlen0 := ppAll_len n js ed hour (2 * k + j)
          have hlen2 : (2 * k + j) * n ≤ 4 * 100000 := Nat.mul_le_mul (by omega) (by omega)
          have HSU := hid (show ppAll n js ed hour (2 * k + j + 1) = (ppRun n js (mustM n ed hour (topI (2 * k + j)) (dirI (2 * k + j))) (topI (2 * k + j)) (dirI (2 * k + j)) hour (ppAll n js ed hour (2 * k + j)) n).1 from rfl)
          rw [hT, hD, ← unhid HTN] at HSU
          generalize ho0 : ppAll n js ed hour (2 * k + j) = out0 at *
          have HO0 := hid ho0
          clear ho0
          obtain ⟨dir, hdir⟩ : ∃ t : Int, t = 1 - 2 * (j : Int) := ⟨_, rfl⟩
          rw [← hdir] at HSU
          rw [← hdir]
          have hda : (-1 : Int) ≤ dir := by omega
          have hdb : dir ≤ 1 := by omega
          have HDI := hid hdir
          have HH5 := hid (show (mustM n ed hour tn dir).length = n from mustS_len _ _ _ _ _)
          have HMP := hid (fun q (hq : q < n) => (show (mustM n ed hour tn dir)[q]? = some (mustP ed hour dir tn (q : Nat)) from by simp [mustM, mustS, hq]))
          clear hT hD hdir
          generalize mustM n ed hour tn dir = MS at *
          go_wp2_with fail
          go_loopw [8, 13, 14] (fun v nw i wr => ∃ (m : Nat) (o : List Sg) (A6 : Option Addr) (c6 : Nat), m ≤ n ∧ i = .int .i64 m ∧ v = .slice A6 o.length c6 ∧ nw = .int .i64 (ppRun n js MS tn dir hour out0 m).2 ∧ o = (ppRun n js MS tn dir hour out0 m).1 ∧ wr.ownsRow w1.heap.size 80 9 (.slice A6 o.length c6) o.length (signs o) ∧ Below w1.heap.size w1 wr) (fun _ _ i _ => n - (intOf i).toNat)
          case atStart => exact ⟨0, out0, A6, c6, Nat.zero_le _, rfl, rfl, rfl, rfl, unhid HO, hbel⟩
          case round =>
            clear hbel HO
            obtain ⟨m, o, A6, c6, hm, rfl, rfl, rfl, ho, hown, hbel⟩ := hrel
            have holen := ppRun_len n js MS tn dir hour out0 m
            rw [← ho] at holen
            have HOE := hid ho
            have HO := hid hown
            have HSC := hid (ppRun_succ n js MS tn dir hour out0 m)
            clear hown
            obtain ⟨hst, f0, f1⟩ := (unhid SC) wr hbel
            by_cases hmt : m < n
            · clear ho
              generalize hst0 : ppRun n js MS tn dir hour out0 m = st at *
              obtain ⟨o2, nw0⟩ := st
              obtain rfl : o = o2 := unhid HOE
              dsimp only
              have hmi := metreI_lt (len := n) (dir := dir) (k := m) (by omega) (by omega)
              obtain ⟨q, hq⟩ := Int.eq_ofNat_of_zero_le hmi.1
              have hqn : q < n := by omega
              have hgd : MS.getD (metreI n dir m).toNat 0 = mustP ed hour dir tn (q : Nat) := by rw [hq]; simp [List.getD_eq_getElem?_getD, unhid HMP q hqn]
              have KM := hid (fun (W : World) (hb : Below wr.heap.size wr W) => (rmust_calls A3 ed c3 hour dir tn (metreI n dir m) W (((unhid HE).below (hbw1.trans (hbel.mono hbw1.size))).below hb) hl50).mono fun _ _ h => (⟨h.1.trans (by rw [hq]), hb.trans (h.2.mono hb.size)⟩ : _ ∧ Below wr.heap.size wr _))
              have KB := hid (fun (W : World) => beginning_calls n A js.length c dir m W (by omega) (by omega) hn)
              have KJ := hid (fun (W : World) (hb : Below wr.heap.size wr W) => (rjunction_calls n A js c dir m W (((unhid HL).below (hbw1.trans (hbel.mono hbw1.size))).below hb) (unhid HJ) hn (by omega)).mono fun _ _ h => (⟨h.1, hb.trans (h.2.mono hb.size)⟩ : _ ∧ Below wr.heap.size wr _))
              have KD := hid (fun (W : World) => rdistance_calls n A js.length c dir m W (by omega) (by omega) hn)
              generalize hxx : mustP ed hour dir tn (q : Nat) = x at *
              have HGD := hid hgd
              clear hxx hgd hq hmi hst0
              obtain ⟨nw, hnw⟩ : ∃ nw, nw = nowP n js dir nw0 m := ⟨_, rfl⟩
              have hnw2 : nw = if distI n dir m ∈ js then 0 else nw0 := hnw
              have HNW := hid hnw
              clear hnw
              generalize hch : distI n dir m = ch at *
              generalize hmm : metreI n dir m = mm at *
              have HCH := hid hch
              have HMM := hid hmm
              clear hch hmm
              have hst2 := hst tn htn1 htn2
              obtain ⟨t1, t2⟩ := hst2
              clear hst
              go_wp2_with fail
              refine ((unhid KJ) wr (Below.refl _ _)).mono ?_
              rintro e w2 ⟨rfl, hb2⟩
              have hbel2 : Below w1.heap.size w1 w2 := hbel.trans (hb2.mono hbel.size)
              clear t1 t2 f0 f1
              obtain ⟨hst, f0, f1⟩ := (unhid SC) w2 hbel2
              have HSC2 := hid hst
              clear hst
              have HO2 := hid (own_below (unhid HO) hb2)
              by_cases hjc : ch ∈ js
              · rw [if_pos hjc] at hnw2
                have hdj := decide_eq_true hjc
                have HJC := hid hjc
                clear hjc
                rw [hdj]
                go_wp2_with fail
                refine ((unhid KB) _).mono ?_
                rintro e w3 ⟨rfl, hw3⟩
                have hb3 : Below wr.heap.size wr w3 := by rw [hw3]; exact below_alloc' hb2 _
                clear hw3 f0 f1
                go_wp2_with fail
                refine ((unhid KM) _ hb3).mono ?_
                rintro e w4 ⟨rfl, hb4⟩
                have hbel4 : Below w1.heap.size w1 w4 := hbel.trans (hb4.mono hbel.size)
                obtain ⟨hst, f0, f1⟩ := (unhid SC) w4 hbel4
                obtain ⟨t1, t2⟩ := hst tn htn1 htn2
                clear hst hb3 hbel2 HO2 HSC2
                have HO4 := hid (own_below (unhid HO) hb4)
                have hlt4 := hb4.size
                by_cases hx : x = nw
                · have hx' : (x == nw) = true := by simpa using hx
                  have HNX := hid ((unhid HSC).trans (ppS_same (st := (o, nw0)) (unhid HNW).symm (by rw [unhid HMM]; exact unhid HGD) hx))
                  subst hnw2
                  have HX := hid hx
                  clear hx
                  go_wp2_with fail
                  go_roundw
                  case rel => exact ⟨m + 1, o, A6, c6, by omega, by go_num, rfl, by rw [unhid HNX], by rw [unhid HNX], unhid HO4, hbel4⟩
                  case measure => simp [intOf]; omega
                · have hx' : (x == nw) = false := by simpa using hx
                  have HNX := hid ((unhid HSC).trans (ppS_push (st := (o, nw0)) (unhid HNW).symm (by rw [unhid HMM]; exact unhid HGD) hx))
                  subst hnw2
                  have HX := hid hx
                  clear hx
                  have hk1 : IntKind.i64.wrap ((o.length : Int) + 1) = (o.length : Int) + 1 := IntWalk.i64_in _ (by omega)
                  have hk2 : IntKind.i64.wrap (hour + 1) = hour + 1 := IntWalk.i64_in _ (by omega)
                  dsimp only at HNX
                  rw [unhid HCH] at HNX
                  go_wp2_with fail
                  have HBX := hid hbel4
                  have ow4 := own_lt' (unhid HO4) (g := 0)
                  clear ow4
                  go_cut [16] (fun s16 wz => ∃ B2 : Nat, s16 = .pointer (some ⟨B2, 0, none⟩) ∧ w4.heap.size ≤ B2 ∧ Below w4.heap.size w4 wz ∧ wz.heap[B2]? = some (.cells #[.int .i64 (o.length + 1), .int .i64 (2 * (tn : Int)), .int .i64 0, .int .i64 ch, .int .i64 dir, .int .i64 tn, .int .i64 hour, .int .i64 (hour + 1), .slice none 0 0] 80 (0, 0)))
                  case first =>
                    have hw3a : w.heap.size < w4.heap.size := by have := hbel4.size; omega
                    go_region_held3 (fun w' => w'.cell? ⟨w.heap.size, 0, none⟩ = some (.int .i64 n) ∧ w'.cell? ⟨w.heap.size, 1, none⟩ = some (.slice A js.length c) ∧ w'.cell? ⟨w.heap.size + 2, tn, none⟩ = some (.int .i64 (2 * (tn : Int)))) (first | (refine ⟨?_, ?_, ?_⟩ <;> assumption) | go_keep)
                      (first
                        | (go_at_call 67; refine ((unhid KD) _).mono ?_; rintro e w5 ⟨rfl, rfl⟩))
                    all_goals
                      go_wp2_with fail
                      go_meet
                      case rel => exact ⟨_, rfl, by omega, Below.drew (below_alloc' (below_alloc w4 _) _), by first | exact alloc2_new _ _ _ _ _ | exact alloc2_old _ _ _ _ _⟩
                  case rest =>
                    obtain ⟨B2, rfl, hB2, hb5, hblk⟩ := hcut
                    have hbel5 : Below w1.heap.size w1 wc := (unhid HBX).trans (hb5.mono (unhid HBX).size)
                    have HO5 := hid (own_below (unhid HO4) hb5)
                    have hneB : (Value.slice A6 o.length c6).ownBlock ≠ some B2 := fun e => by have := (own_lt' (unhid HO4) e).2; omega
                    have HNE := hid hneB
                    clear t1 t2 f0 f1 HBX hneB
                    obtain ⟨hst, f0, f1⟩ := (unhid SC) wc hbel5
                    obtain ⟨t1, t2⟩ := hst tn htn1 htn2
                    have y0 := cell_of_row _ B2 0 _ _ _ hblk
                    have y1 := cell_of_row _ B2 1 _ _ _ hblk
                    have y2 := cell_of_row _ B2 2 _ _ _ hblk
                    have y3 := cell_of_row _ B2 3 _ _ _ hblk
                    have y4 := cell_of_row _ B2 4 _ _ _ hblk
                    have y5 := cell_of_row _ B2 5 _ _ _ hblk
                    have y6 := cell_of_row _ B2 6 _ _ _ hblk
                    have y7 := cell_of_row _ B2 7 _ _ _ hblk
                    have y8 := cell_of_row _ B2 8 _ _ _ hblk
                    simp at y0 y1 y2 y3 y4 y5 y6 y7 y8
                    have z1 := frozen_of_row _ B2 1 _ _ hblk
                    have z2 := frozen_of_row _ B2 2 _ _ hblk
                    have hBc : B2 < wc.heap.size := (Array.getElem?_eq_some_iff.1 hblk).1
                    have hB1c := hb5.size
                    have hw1c := hbel5.size
                    have hw1B : w1.heap.size ≤ B2 := by have := hbel4.size; omega
                    have HB5 := hid hbel5
                    clear hst hblk hb5 hbel5
                    rcases (show (x = 0) ∨ (¬ x = 0 ∧ tn = 1) ∨ (¬ x = 0 ∧ tn = 2) by omega) with hx0 | ⟨hx0, ht⟩ | ⟨hx0, ht⟩
                    · subst hx0
                      have HSG := hid (show sgC (postS (o.length + 1) tn 0 ch dir hour) = [.int .i64 (o.length + 1), .int .i64 (2 * (tn : Int)), .int .i64 0, .int .i64 ch, .int .i64 dir, .int .i64 tn, .int .i64 hour, .int .i64 (hour + 1), .slice none 0 0] from by rcases (show tn = 1 ∨ tn = 2 by omega) with rfl | rfl <;> simp [postS, sgC])
                      go_wp2_with (at_builtin; refine wpList_append_lies _ rfl _ _ 25 rfl w1.heap.size 80 i0 (.agg #[.int .i64 0, .int .i64 0, .int .i64 0, .int .i64 0, .int .i64 0, .int .i64 0, .int .i64 0, .int .i64 0, .slice none 0 0]) 9 88 Tryz.underlying25 hi hz0 hz1 hz2 rfl (by decide) _ _ _ rfl ((unhid HO5).alloc _) _ 1 1 [.int .i64 (o.length + 1), .int .i64 (2 * (tn : Int)), .int .i64 0, .int .i64 ch, .int .i64 dir, .int .i64 tn, .int .i64 hour, .int .i64 (hour + 1), .slice none 0 0] rfl rfl ?_ ?_ (by decide) ?_ ?_ ?_ (wc.heap.size + 1) (by simp) ?_)
                      all_goals try (first | exact World.news_of_block (heap_alloc_new _ _) | exact World.news_of_block (heap_alloc_at (by simp)) | (unfold maxLen; omega) | omega | exact ⟨rfl, rfl, rfl, rfl, rfl, rfl, rfl, rfl, rfl⟩ | (simp; omega) | (intro u hu; simp at hu; rcases hu with rfl | rfl | rfl | rfl | rfl | rfl | rfl | rfl | rfl <;> rfl))
                      intro g8 c8 w6 hown6 hg6 hat6 hlt6
                      have hb6 : Below w1.heap.size w1 w6 := by
                        refine Below.grown ((unhid HB5).alloc (by first | omega | (simp; omega)) _) hg6 (by first | omega | (simp; omega)) (fun i hi => ?_)
                        rcases Nat.lt_or_ge i w1.heap.size with h | h
                        · exact absurd hi (own_ne (unhid HO5) (Or.inl h))
                        · exact h
                      have HO6 := hid hown6
                      clear hown6 hg6 hat6 hlt6 y0 y1 y2 y3 y4 y5 y6 y7 y8 z1 z2
                      go_wp2_with fail
                      go_roundw
                      case rel =>
                        refine ⟨m + 1, o ++ [postS (o.length + 1) tn 0 ch dir hour], some ⟨g8, 0, none⟩, c8, by omega, by go_num, by simp, by rw [unhid HNX], by rw [unhid HNX], ?_, hb6⟩
                        rw [show (o ++ [postS (o.length + 1) tn 0 ch dir hour]).length = o.length + 1 by simp, show signs (o ++ [postS (o.length + 1) tn 0 ch dir hour]) = signs o ++ sgC (postS (o.length + 1) tn 0 ch dir hour) from by simp [signs], unhid HSG]
                        exact unhid HO6
                      case measure => simp [intOf]; omega
                    · have HX0 := hid hx0
                      have b1 : (x != 0) = true := by simpa using hx0
                      have b2 : ((tn : Int) == 1) = true := by simp [ht]
                      have HT := hid ht
                      clear hx0 ht
                      have HSG := hid (show sgC (postS (o.length + 1) tn x ch dir hour) = [.int .i64 (o.length + 1), .int .i64 (2 * (tn : Int) - 1), .int .i64 x, .int .i64 ch, .int .i64 dir, .int .i64 tn, .int .i64 hour, .int .i64 (hour + 1), .slice none 0 0] from by rw [unhid HT]; simp [postS, sgC, unhid HX0])
                      go_wp2_with (at_builtin; refine wpList_append_lies _ rfl _ _ 25 rfl w1.heap.size 80 i0 (.agg #[.int .i64 0, .int .i64 0, .int .i64 0, .int .i64 0, .int .i64 0, .int .i64 0, .int .i64 0, .int .i64 0, .slice none 0 0]) 9 88 Tryz.underlying25 hi hz0 hz1 hz2 rfl (by decide) _ _ _ rfl ((own_setB (own_setB (unhid HO5) (unhid HNE) 1 (.int .i64 (2 * (tn : Int) - 1))) (unhid HNE) 2 (.int .i64 x)).alloc _) _ 1 1 [.int .i64 (o.length + 1), .int .i64 (2 * (tn : Int) - 1), .int .i64 x, .int .i64 ch, .int .i64 dir, .int .i64 tn, .int .i64 hour, .int .i64 (hour + 1), .slice none 0 0] rfl rfl ?_ ?_ (by decide) ?_ ?_ ?_ (wc.heap.size + 1) (by simp) ?_)
                      all_goals try (first | exact World.news_of_block (heap_alloc_new _ _) | exact World.news_of_block (heap_alloc_at (by simp)) | (unfold maxLen; omega) | omega | exact ⟨rfl, rfl, rfl, rfl, rfl, rfl, rfl, rfl, rfl⟩ | (simp; omega) | (intro u hu; simp at hu; rcases hu with rfl | rfl | rfl | rfl | rfl | rfl | rfl | rfl | rfl <;> rfl))
                      intro g8 c8 w6 hown6 hg6 hat6 hlt6
                      have hb6 : Below w1.heap.size w1 w6 := by
                        refine Below.grown ((Below.setCell (Below.setCell (unhid HB5) hw1B _) hw1B _).alloc (by first | omega | (simp; omega)) _) hg6 (by first | omega | (simp; omega)) (fun i hi => ?_)
                        rcases Nat.lt_or_ge i w1.heap.size with h | h
                        · exact absurd hi (own_ne (unhid HO5) (Or.inl h))
                        · exact h
                      have HO6 := hid hown6
                      clear hown6 hg6 hat6 hlt6 y0 y1 y2 y3 y4 y5 y6 y7 y8 z1 z2
                      go_wp2_with fail
                      go_roundw
                      case rel =>
                        refine ⟨m + 1, o ++ [postS (o.length + 1) tn x ch dir hour], some ⟨g8, 0, none⟩, c8, by omega, by go_num, by simp, by rw [unhid HNX], by rw [unhid HNX], ?_, hb6⟩
                        rw [show (o ++ [postS (o.length + 1) tn x ch dir hour]).length = o.length + 1 by simp, show signs (o ++ [postS (o.length + 1) tn x ch dir hour]) = signs o ++ sgC (postS (o.length + 1) tn x ch dir hour) from by simp [signs], unhid HSG]
                        exact unhid HO6
                      case measure => simp [intOf]; omega
                    · have HX0 := hid hx0
                      have b1 : (x != 0) = true := by simpa using hx0
                      have b2 : ((tn : Int) == 1) = false := by simp [ht]
                      have HT := hid ht
                      clear hx0 ht
                      have HSG := hid (show sgC (postS (o.length + 1) tn x ch dir hour) = [.int .i64 (o.length + 1), .int .i64 (2 * (tn : Int) - 1), .int .i64 0, .int .i64 ch, .int .i64 dir, .int .i64 tn, .int .i64 hour, .int .i64 (hour + 1), .slice none 0 0] from by rw [unhid HT]; simp [postS, sgC, unhid HX0])
                      go_wp2_with (at_builtin; refine wpList_append_lies _ rfl _ _ 25 rfl w1.heap.size 80 i0 (.agg #[.int .i64 0, .int .i64 0, .int .i64 0, .int .i64 0, .int .i64 0, .int .i64 0, .int .i64 0, .int .i64 0, .slice none 0 0]) 9 88 Tryz.underlying25 hi hz0 hz1 hz2 rfl (by decide) _ _ _ rfl ((own_setB (unhid HO5) (unhid HNE) 1 (.int .i64 (2 * (tn : Int) - 1))).alloc _) _ 1 1 [.int .i64 (o.length + 1), .int .i64 (2 * (tn : Int) - 1), .int .i64 0, .int .i64 ch, .int .i64 dir, .int .i64 tn, .int .i64 hour, .int .i64 (hour + 1), .slice none 0 0] rfl rfl ?_ ?_ (by decide) ?_ ?_ ?_ (wc.heap.size + 1) (by simp) ?_)
                      all_goals try (first | exact World.news_of_block (heap_alloc_new _ _) | exact World.news_of_block (heap_alloc_at (by simp)) | (unfold maxLen; omega) | omega | exact ⟨rfl, rfl, rfl, rfl, rfl, rfl, rfl, rfl, rfl⟩ | (simp; omega) | (intro u hu; simp at hu; rcases hu with rfl | rfl | rfl | rfl | rfl | rfl | rfl | rfl | rfl <;> rfl))
                      intro g8 c8 w6 hown6 hg6 hat6 hlt6
                      have hb6 : Below w1.heap.size w1 w6 := by
                        refine Below.grown ((Below.setCell (unhid HB5) hw1B _).alloc (by first | omega | (simp; omega)) _) hg6 (by first | omega | (simp; omega)) (fun i hi => ?_)
                        rcases Nat.lt_or_ge i w1.heap.size with h | h
                        · exact absurd hi (own_ne (unhid HO5) (Or.inl h))
                        · exact h
                      have HO6 := hid hown6
                      clear hown6 hg6 hat6 hlt6 y0 y1 y2 y3 y4 y5 y6 y7 y8 z1 z2
                      go_wp2_with fail
                      go_roundw
                      case rel =>
                        refine ⟨m + 1, o ++ [postS (o.length + 1) tn x ch dir hour], some ⟨g8, 0, none⟩, c8, by omega, by go_num, by simp, by rw [unhid HNX], by rw [unhid HNX], ?_, hb6⟩
                        rw [show (o ++ [postS (o.length + 1) tn x ch dir hour]).length = o.length + 1 by simp, show signs (o ++ [postS (o.length + 1) tn x ch dir hour]) = signs o ++ sgC (postS (o.length + 1) tn x ch dir hour) from by simp [signs], unhid HSG]
                        exact unhid HO6
                      case measure => simp [intOf]; omega
              · rw [if_neg hjc] at hnw2
                have hdj := decide_eq_false hjc
                have HJC := hid hjc
                clear hjc
                rw [hdj]
                go_wp2_with fail
                refine ((unhid KB) _).mono ?_
                rintro e w3 ⟨rfl, hw3⟩
                have hb3 : Below wr.heap.size wr w3 := by rw [hw3]; exact below_alloc' hb2 _
                clear hw3 f0 f1
                go_wp2_with fail
                refine ((unhid KM) _ hb3).mono ?_
                rintro e w4 ⟨rfl, hb4⟩
                have hbel4 : Below w1.heap.size w1 w4 := hbel.trans (hb4.mono hbel.size)
                obtain ⟨hst, f0, f1⟩ := (unhid SC) w4 hbel4
                obtain ⟨t1, t2⟩ := hst tn htn1 htn2
                clear hst hb3 hbel2 HO2 HSC2
                have HO4 := hid (own_below (unhid HO) hb4)
                have hlt4 := hb4.size
                by_cases hx : x = nw
                · have hx' : (x == nw) = true := by simpa using hx
                  have HNX := hid ((unhid HSC).trans (ppS_same (st := (o, nw0)) (unhid HNW).symm (by rw [unhid HMM]; exact unhid HGD) hx))
                  subst hnw2
                  have HX := hid hx
                  clear hx
                  go_wp2_with fail
                  go_roundw
                  case rel => exact ⟨m + 1, o, A6, c6, by omega, by go_num, rfl, by rw [unhid HNX], by rw [unhid HNX], unhid HO4, hbel4⟩
                  case measure => simp [intOf]; omega
                · have hx' : (x == nw) = false := by simpa using hx
                  have HNX := hid ((unhid HSC).trans (ppS_push (st := (o, nw0)) (unhid HNW).symm (by rw [unhid HMM]; exact unhid HGD) hx))
                  subst hnw2
                  have HX := hid hx
                  clear hx
                  have hk1 : IntKind.i64.wrap ((o.length : Int) + 1) = (o.length : Int) + 1 := IntWalk.i64_in _ (by omega)
                  have hk2 : IntKind.i64.wrap (hour + 1) = hour + 1 := IntWalk.i64_in _ (by omega)
                  dsimp only at HNX
                  rw [unhid HCH] at HNX
                  go_wp2_with fail
                  have HBX := hid hbel4
                  have ow4 := own_lt' (unhid HO4) (g := 0)
                  clear ow4
                  go_cut [16] (fun s16 wz => ∃ B2 : Nat, s16 = .pointer (some ⟨B2, 0, none⟩) ∧ w4.heap.size ≤ B2 ∧ Below w4.heap.size w4 wz ∧ wz.heap[B2]? = some (.cells #[.int .i64 (o.length + 1), .int .i64 (2 * (tn : Int)), .int .i64 0, .int .i64 ch, .int .i64 dir, .int .i64 tn, .int .i64 hour, .int .i64 (hour + 1), .slice none 0 0] 80 (0, 0)))
                  case first =>
                    have hw3a : w.heap.size < w4.heap.size := by have := hbel4.size; omega
                    go_region_held3 (fun w' => w'.cell? ⟨w.heap.size, 0, none⟩ = some (.int .i64 n) ∧ w'.cell? ⟨w.heap.size, 1, none⟩ = some (.slice A js.length c) ∧ w'.cell? ⟨w.heap.size + 2, tn, none⟩ = some (.int .i64 (2 * (tn : Int)))) (first | (refine ⟨?_, ?_, ?_⟩ <;> assumption) | go_keep)
                      (first
                        | (go_at_call 67; refine ((unhid KD) _).mono ?_; rintro e w5 ⟨rfl, rfl⟩))
                    all_goals
                      go_wp2_with fail
                      go_meet
                      case rel => exact ⟨_, rfl, by omega, Below.drew (below_alloc' (below_alloc w4 _) _), by first | exact alloc2_new _ _ _ _ _ | exact alloc2_old _ _ _ _ _⟩
                  case rest =>
                    obtain ⟨B2, rfl, hB2, hb5, hblk⟩ := hcut
                    have hbel5 : Below w1.heap.size w1 wc := (unhid HBX).trans (hb5.mono (unhid HBX).size)
                    have HO5 := hid (own_below (unhid HO4) hb5)
                    have hneB : (Value.slice A6 o.length c6).ownBlock ≠ some B2 := fun e => by have := (own_lt' (unhid HO4) e).2; omega
                    have HNE := hid hneB
                    clear t1 t2 f0 f1 HBX hneB
                    obtain ⟨hst, f0, f1⟩ := (unhid SC) wc hbel5
                    obtain ⟨t1, t2⟩ := hst tn htn1 htn2
                    have y0 := cell_of_row _ B2 0 _ _ _ hblk
                    have y1 := cell_of_row _ B2 1 _ _ _ hblk
                    have y2 := cell_of_row _ B2 2 _ _ _ hblk
                    have y3 := cell_of_row _ B2 3 _ _ _ hblk
                    have y4 := cell_of_row _ B2 4 _ _ _ hblk
                    have y5 := cell_of_row _ B2 5 _ _ _ hblk
                    have y6 := cell_of_row _ B2 6 _ _ _ hblk
                    have y7 := cell_of_row _ B2 7 _ _ _ hblk
                    have y8 := cell_of_row _ B2 8 _ _ _ hblk
                    simp at y0 y1 y2 y3 y4 y5 y6 y7 y8
                    have z1 := frozen_of_row _ B2 1 _ _ hblk
                    have z2 := frozen_of_row _ B2 2 _ _ hblk
                    have hBc : B2 < wc.heap.size := (Array.getElem?_eq_some_iff.1 hblk).1
                    have hB1c := hb5.size
                    have hw1c := hbel5.size
                    have hw1B : w1.heap.size ≤ B2 := by have := hbel4.size; omega
                    have HB5 := hid hbel5
                    clear hst hblk hb5 hbel5
                    rcases (show (x = 0) ∨ (¬ x = 0 ∧ tn = 1) ∨ (¬ x = 0 ∧ tn = 2) by omega) with hx0 | ⟨hx0, ht⟩ | ⟨hx0, ht⟩
                    · subst hx0
                      have HSG := hid (show sgC (postS (o.length + 1) tn 0 ch dir hour) = [.int .i64 (o.length + 1), .int .i64 (2 * (tn : Int)), .int .i64 0, .int .i64 ch, .int .i64 dir, .int .i64 tn, .int .i64 hour, .int .i64 (hour + 1), .slice none 0 0] from by rcases (show tn = 1 ∨ tn = 2 by omega) with rfl | rfl <;> simp [postS, sgC])
                      go_wp2_with (at_builtin; refine wpList_append_lies _ rfl _ _ 25 rfl w1.heap.size 80 i0 (.agg #[.int .i64 0, .int .i64 0, .int .i64 0, .int .i64 0, .int .i64 0, .int .i64 0, .int .i64 0, .int .i64 0, .slice none 0 0]) 9 88 Tryz.underlying25 hi hz0 hz1 hz2 rfl (by decide) _ _ _ rfl ((unhid HO5).alloc _) _ 1 1 [.int .i64 (o.length + 1), .int .i64 (2 * (tn : Int)), .int .i64 0, .int .i64 ch, .int .i64 dir, .int .i64 tn, .int .i64 hour, .int .i64 (hour + 1), .slice none 0 0] rfl rfl ?_ ?_ (by decide) ?_ ?_ ?_ (wc.heap.size + 1) (by simp) ?_)
                      all_goals try (first | exact World.news_of_block (heap_alloc_new _ _) | exact World.news_of_block (heap_alloc_at (by simp)) | (unfold maxLen; omega) | omega | exact ⟨rfl, rfl, rfl, rfl, rfl, rfl, rfl, rfl, rfl⟩ | (simp; omega) | (intro u hu; simp at hu; rcases hu with rfl | rfl | rfl | rfl | rfl | rfl | rfl | rfl | rfl <;> rfl))
                      intro g8 c8 w6 hown6 hg6 hat6 hlt6
                      have hb6 : Below w1.heap.size w1 w6 := by
                        refine Below.grown ((unhid HB5).alloc (by first | omega | (simp; omega)) _) hg6 (by first | omega | (simp; omega)) (fun i hi => ?_)
                        rcases Nat.lt_or_ge i w1.heap.size with h | h
                        · exact absurd hi (own_ne (unhid HO5) (Or.inl h))
                        · exact h
                      have HO6 := hid hown6
                      clear hown6 hg6 hat6 hlt6 y0 y1 y2 y3 y4 y5 y6 y7 y8 z1 z2
                      go_wp2_with fail
                      go_roundw
                      case rel =>
                        refine ⟨m + 1, o ++ [postS (o.length + 1) tn 0 ch dir hour], some ⟨g8, 0, none⟩, c8, by omega, by go_num, by simp, by rw [unhid HNX], by rw [unhid HNX], ?_, hb6⟩
                        rw [show (o ++ [postS (o.length + 1) tn 0 ch dir hour]).length = o.length + 1 by simp, show signs (o ++ [postS (o.length + 1) tn 0 ch dir hour]) = signs o ++ sgC (postS (o.length + 1) tn 0 ch dir hour) from by simp [signs], unhid HSG]
                        exact unhid HO6
                      case measure => simp [intOf]; omega
                    · have HX0 := hid hx0
                      have b1 : (x != 0) = true := by simpa using hx0
                      have b2 : ((tn : Int) == 1) = true := by simp [ht]
                      have HT := hid ht
                      clear hx0 ht
                      have HSG := hid (show sgC (postS (o.length + 1) tn x ch dir hour) = [.int .i64 (o.length + 1), .int .i64 (2 * (tn : Int) - 1), .int .i64 x, .int .i64 ch, .int .i64 dir, .int .i64 tn, .int .i64 hour, .int .i64 (hour + 1), .slice none 0 0] from by rw [unhid HT]; simp [postS, sgC, unhid HX0])
                      go_wp2_with (at_builtin; refine wpList_append_lies _ rfl _ _ 25 rfl w1.heap.size 80 i0 (.agg #[.int .i64 0, .int .i64 0, .int .i64 0, .int .i64 0, .int .i64 0, .int .i64 0, .int .i64 0, .int .i64 0, .slice none 0 0]) 9 88 Tryz.underlying25 hi hz0 hz1 hz2 rfl (by decide) _ _ _ rfl ((own_setB (own_setB (unhid HO5) (unhid HNE) 1 (.int .i64 (2 * (tn : Int) - 1))) (unhid HNE) 2 (.int .i64 x)).alloc _) _ 1 1 [.int .i64 (o.length + 1), .int .i64 (2 * (tn : Int) - 1), .int .i64 x, .int .i64 ch, .int .i64 dir, .int .i64 tn, .int .i64 hour, .int .i64 (hour + 1), .slice none 0 0] rfl rfl ?_ ?_ (by decide) ?_ ?_ ?_ (wc.heap.size + 1) (by simp) ?_)
                      all_goals try (first | exact World.news_of_block (heap_alloc_new _ _) | exact World.news_of_block (heap_alloc_at (by simp)) | (unfold maxLen; omega) | omega | exact ⟨rfl, rfl, rfl, rfl, rfl, rfl, rfl, rfl, rfl⟩ | (simp; omega) | (intro u hu; simp at hu; rcases hu with rfl | rfl | rfl | rfl | rfl | rfl | rfl | rfl | rfl <;> rfl))
                      intro g8 c8 w6 hown6 hg6 hat6 hlt6
                      have hb6 : Below w1.heap.size w1 w6 := by
                        refine Below.grown ((Below.setCell (Below.setCell (unhid HB5) hw1B _) hw1B _).alloc (by first | omega | (simp; omega)) _) hg6 (by first | omega | (simp; omega)) (fun i hi => ?_)
                        rcases Nat.lt_or_ge i w1.heap.size with h | h
                        · exact absurd hi (own_ne (unhid HO5) (Or.inl h))
                        · exact h
                      have HO6 := hid hown6
                      clear hown6 hg6 hat6 hlt6 y0 y1 y2 y3 y4 y5 y6 y7 y8 z1 z2
                      go_wp2_with fail
                      go_roundw
                      case rel =>
                        refine ⟨m + 1, o ++ [postS (o.length + 1) tn x ch dir hour], some ⟨g8, 0, none⟩, c8, by omega, by go_num, by simp, by rw [unhid HNX], by rw [unhid HNX], ?_, hb6⟩
                        rw [show (o ++ [postS (o.length + 1) tn x ch dir hour]).length = o.length + 1 by simp, show signs (o ++ [postS (o.length + 1) tn x ch dir hour]) = signs o ++ sgC (postS (o.length + 1) tn x ch dir hour) from by simp [signs], unhid HSG]
                        exact unhid HO6
                      case measure => simp [intOf]; omega
                    · have HX0 := hid hx0
                      have b1 : (x != 0) = true := by simpa using hx0
                      have b2 : ((tn : Int) == 1) = false := by simp [ht]
                      have HT := hid ht
                      clear hx0 ht
                      have HSG := hid (show sgC (postS (o.length + 1) tn x ch dir hour) = [.int .i64 (o.length + 1), .int .i64 (2 * (tn : Int) - 1), .int .i64 0, .int .i64 ch, .int .i64 dir, .int .i64 tn, .int .i64 hour, .int .i64 (hour + 1), .slice none 0 0] from by rw [unhid HT]; simp [postS, sgC, unhid HX0])
                      go_wp2_with (at_builtin; refine wpList_append_lies _ rfl _ _ 25 rfl w1.heap.size 80 i0 (.agg #[.int .i64 0, .int .i64 0, .int .i64 0, .int .i64 0, .int .i64 0, .int .i64 0, .int .i64 0, .int .i64 0, .slice none 0 0]) 9 88 Tryz.underlying25 hi hz0 hz1 hz2 rfl (by decide) _ _ _ rfl ((own_setB (unhid HO5) (unhid HNE) 1 (.int .i64 (2 * (tn : Int) - 1))).alloc _) _ 1 1 [.int .i64 (o.length + 1), .int .i64 (2 * (tn : Int) - 1), .int .i64 0, .int .i64 ch, .int .i64 dir, .int .i64 tn, .int .i64 hour, .int .i64 (hour + 1), .slice none 0 0] rfl rfl ?_ ?_ (by decide) ?_ ?_ ?_ (wc.heap.size + 1) (by simp) ?_)
                      all_goals try (first | exact World.news_of_block (heap_alloc_new _ _) | exact World.news_of_block (heap_alloc_at (by simp)) | (unfold maxLen; omega) | omega | exact ⟨rfl, rfl, rfl, rfl, rfl, rfl, rfl, rfl, rfl⟩ | (simp; omega) | (intro u hu; simp at hu; rcases hu with rfl | rfl | rfl | rfl | rfl | rfl | rfl | rfl | rfl <;> rfl))
                      intro g8 c8 w6 hown6 hg6 hat6 hlt6
                      have hb6 : Below w1.heap.size w1 w6 := by
                        refine Below.grown ((Below.setCell (unhid HB5) hw1B _).alloc (by first | omega | (simp; omega)) _) hg6 (by first | omega | (simp; omega)) (fun i hi => ?_)
                        rcases Nat.lt_or_ge i w1.heap.size with h | h
                        · exact absurd hi (own_ne (unhid HO5) (Or.inl h))
                        · exact h
                      have HO6 := hid hown6
                      clear hown6 hg6 hat6 hlt6 y0 y1 y2 y3 y4 y5 y6 y7 y8 z1 z2
                      go_wp2_with fail
                      go_roundw
                      case rel =>
                        refine ⟨m + 1, o ++ [postS (o.length + 1) tn x ch dir hour], some ⟨g8, 0, none⟩, c8, by omega, by go_num, by simp, by rw [unhid HNX], by rw [unhid HNX], ?_, hb6⟩
                        rw [show (o ++ [postS (o.length + 1) tn x ch dir hour]).length = o.length + 1 by simp, show signs (o ++ [postS (o.length + 1) tn x ch dir hour]) = signs o ++ sgC (postS (o.length + 1) tn x ch dir hour) from by simp [signs], unhid HSG]
                        exact unhid HO6
                      case measure => simp [intOf]; omega
            · obtain rfl : n = m := by omega
              have HOF := hid (show o = ppAll n js ed hour (2 * k + (j + 1)) from by rw [show 2 * k + (j + 1) = 2 * k + j + 1 from rfl, unhid HSU]; exact unhid HOE)
              clear ho
              go_wp2_with fail
              go_roundw
              case rel =>
                refine ⟨j + 1, A6, c6, by omega, by rw [unhid HDI]; go_num, by rw [unhid HOF], ?_, hbel⟩
                have := unhid HO
                rw [unhid HOF] at this
                exact this
              case measure => simp [intOf]; omega
        · obtain rfl : j = 2 := by omega
          go_wp2_with fail
          go_roundw
          case rel => exact ⟨k + 1, A6, c6, by omega, by rw [unhid HTN]; go_num, rfl, unhid HO, hbel⟩
          case measure => simp [intOf]; have := unhid HTN; omega
    · obtain rfl : k = 2 := by omega
      obtain rfl : tn = 3 := unhid HTN
      obtain ⟨A7, c7, hvv, hrd, -⟩ := own_slice (unhid HO)
      injection hvv with hv1 hv2 hv3
      subst hv1 hv3
      have HRD := hid hrd
      clear hrd HO
      have HDE := hid (show decide (((ppAll n js ed hour 4).length : Int) ≤ 100) = decide ((ppAll n js ed hour 4).length ≤ 100) from by congr 1; apply propext; omega)
      go_wp2_with fail
      go_ret2
      first
        | exact ⟨A6, c6, by rw [← unhid HDE]; rfl, unhid HRD, hbw1.trans (hbel.mono hbw1.size)⟩
        | exact ⟨A6, ⟨c6, by rw [← unhid HDE]; rfl⟩, unhid HRD, hbw1.trans (hbel.mono hbw1.size)⟩
end

section
theorem allE_okP {len : Int} {js : List Int} {l : List Sg} {ed : List Ed} {hour : Int} (h1 : lineB len js = true) (h2 : sgsB len js l = true) (h4 : edsB len js ed = true) (h3 : 0 ≤ hour ∧ hour ≤ 10000000) : allE len js l ed hour = 0 := by
  unfold allE
  rw [h1, h2, h4, if_pos h3]
  simp
theorem edsB_nilP {len : Int} {js : List Int} (h : lineB len js = true) : edsB len js [] = true := by simp [edsB, h]
theorem sgsB_nilP {len : Int} {js : List Int} (h : lineB len js = true) : sgsB len js [] = true := by simp [sgsB, h]
theorem sgsOk_prop {w : World} {A : Option Addr} {len : Int} {js : List Int} {G : List Sg} (hr : Rd w A (signs G)) (hv : sgsB len js G = true) (hc : ∀ s ∈ G, s.cov = []) (hn : G.length ≤ 100) : SgsOk w A G :=
  ⟨by omega, hr, fun s hs => ⟨by rw [hc s hs]; simp, by rw [hc s hs]; exact Rd.nil _ _, by
    simp [sgsB] at hv
    have h := (signOk_iff.1 (hv.1.2 s hs)).1
    constructor <;> omega⟩⟩

set_option maxHeartbeats 4000000 in
set_option maxRecDepth 100000 in
theorem proposed_calls (len : Int) (A : Option Addr) (js : List Int) (c : Nat) (A2 : Option Addr) (l : List Sg) (c2 : Nat) (A3 : Option Addr) (ed : List Ed) (c3 : Nat) (hour dir topic metre : Int) (w : World) (hl : LnOk w A js) (hs : SgsOk w A2 l) (he : EdsOk w A3 ed) (_ : I64 len) (_ : I64 hour) (_ : I64 dir) (_ : I64 topic) (_ : I64 metre) :
    Calls Tryz.prog 5 #[.agg #[.int .i64 len, .slice A js.length c, .slice A2 l.length c2, .slice A3 ed.length c3, .int .i64 hour, .int .i64 dir, .int .i64 topic, .int .i64 metre]] w fun e w' => e = .returned (.bool true) ∧ Below w.heap.size w w' := by
  have HL := hid hl
  have HS := hid hs
  have HE := hid he
  clear hl hs he
  go_enter Tryz.func5, Tryz.ntmps5
  go_wp2_with fail
  refine (right_calls len A js c A2 l c2 A3 ed c3 hour dir topic metre _ ((unhid HL).below (below_alloc _ _)) ((unhid HS).below (below_alloc _ _)) ((unhid HE).below (below_alloc _ _))).mono ?_
  rintro e w1 ⟨rfl, hb1⟩
  have HA1 := (Ask8.new w (.int .i64 len) (.slice A js.length c) (.slice A2 l.length c2) (.slice A3 ed.length c3) (.int .i64 hour) (.int .i64 dir) (.int .i64 topic) (.int .i64 metre) 28).below hb1
  have HB1 := hid ((below_alloc w _).trans (hb1.mono (by simp)))
  clear hb1
  obtain ⟨B, hBB⟩ : ∃ B, B = w.heap.size := ⟨_, rfl⟩
  rw [← hBB] at HA1 ⊢
  clear hBB
  obtain ⟨e0, e1, e2, e3, e4, e5, e6, e7⟩ := HA1.cells
  by_cases hrt : rightA len js l ed hour dir topic = true
  · have HOK := rightA_ok hrt
    rw [hrt]
    clear hrt
    have hlen1 := (lineB_len HOK.line).1
    have hlen2 := HOK.small
    have he50 := edsB_len HOK.eds
    obtain ⟨n, rfl⟩ := Int.eq_ofNat_of_zero_le (show 0 ≤ len by omega)
    have HOK := hid HOK
    have HP0 := hid (show propE n js [] hour = 0 from by
      unfold propE
      rw [if_neg (by rw [allE_okP (unhid HOK).line (sgsB_nilP (unhid HOK).line) (edsB_nilP (unhid HOK).line) (unhid HOK).hour]; simp), show ((n : Int)).toNat = n from rfl, pp_none]
      rfl)
    go_wp2_with fail
    refine (propose_calls n A js c none [] 0 hour _ ((unhid HL).below (unhid HB1)) (EdsOk.nilF _)).mono ?_
    rintro e w2 ⟨P1, p1, G0, rfl, hz, -, -, -, -, hb2⟩
    have hG0 := hz (unhid HP0)
    rw [show ((n : Int)).toNat = n from rfl, pp_none] at hG0
    subst hG0
    rw [unhid HP0]
    have HB2 := hid ((unhid HB1).trans (hb2.mono (unhid HB1).size))
    have HA2 := HA1.below hb2
    clear hz hb2 e0 e1 e2 e3 e4 e5 e6 e7 HA1
    obtain ⟨e0, e1, e2, e3, e4, e5, e6, e7⟩ := HA2.cells
    go_wp2_with fail
    refine (propose_calls n A js c A3 ed c3 hour _ ((unhid HL).below (unhid HB2)) ((unhid HE).below (unhid HB2))).mono ?_
    rintro e w3 ⟨P2, p2, G, rfl, hz, hnz, hrd, hGl, hcov, hb3⟩
    have HB3 := hid ((unhid HB2).trans (hb3.mono (unhid HB2).size))
    have HA3 := HA2.below hb3
    clear hb3 e0 e1 e2 e3 e4 e5 e6 e7 HA2
    obtain ⟨e0, e1, e2, e3, e4, e5, e6, e7⟩ := HA3.cells
    by_cases h100 : (ppAll n js ed hour 4).length ≤ 100
    · have hpe : propE n js ed hour = 0 := by
        unfold propE
        rw [if_neg (by rw [allE_okP (unhid HOK).line (sgsB_nilP (unhid HOK).line) (unhid HOK).eds (unhid HOK).hour]; simp), show ((n : Int)).toNat = n from rfl, if_neg (by omega)]
      have hG := hz hpe
      rw [show ((n : Int)).toNat = n from rfl] at hG
      have HV := hid (show sgsB n js G = true from by rw [hG]; exact pp_valid (unhid HOK).line (unhid HOK).eds (unhid HOK).hour h100)
      have HG := hid hG
      have HRD := hid hrd
      have HCV := hid hcov
      have HAC := hid (allE_okP (unhid HOK).line (unhid HV) (unhid HOK).eds (unhid HOK).hour)
      have HAF := hid (allE_okP (unhid HOK).line (unhid HV) (edsB_nilP (unhid HOK).line) (unhid HOK).hour)
      rw [hpe]
      clear hz hnz hrd hcov hG hpe h100
      go_wp2_with fail
      refine (rcomp_calls n A js c P2 G p2 A3 ed c3 hour _ ((unhid HL).below (unhid HB3)) (sgsOk_prop (unhid HRD) (unhid HV) (unhid HCV) hGl) ((unhid HE).below (unhid HB3))).mono ?_
      rintro e w4 ⟨Q4, q4, G4, rfl, hz4, -, -, -, hb4⟩
      rw [unhid HAC]
      have HZ4 := hid (hz4 (unhid HAC))
      have HRD := hid ((unhid HRD).below hb4)
      have HB4 := hid ((unhid HB3).trans (hb4.mono (unhid HB3).size))
      have HA4 := HA3.below hb4
      clear hz4 hb4 e0 e1 e2 e3 e4 e5 e6 e7 HA3
      obtain ⟨e0, e1, e2, e3, e4, e5, e6, e7⟩ := HA4.cells
      go_wp2_with fail
      refine (faults_calls n A js c P2 G p2 hour _ ((unhid HL).below (unhid HB4)) (sgsOk_prop (unhid HRD) (unhid HV) (unhid HCV) hGl)).mono ?_
      rintro e w5 ⟨Q5, q5, F5, rfl, hz5, -, -, -, hb5⟩
      rw [unhid HAF]
      have h5 := hz5 (unhid HAF)
      have h4 := unhid HZ4
      rw [show ((n : Int)).toNat = n from rfl] at h5 h4
      have hgz : G4 = [] := by
        rw [h4]
        have a1 := h5.2.2.1
        have a2 := h5.2.2.2
        rw [unhid HG] at a1 a2 ⊢
        exact pp_gaps (unhid HOK).eds a1 a2 4 (Nat.le_refl _)
      have hfz : F5 = [] := by
        have a1 := h5.2.2.1
        have a2 := h5.2.2.2
        have a0 := h5.1
        rw [unhid HG] at a0 a1 a2
        rw [pp_faults (unhid HOK).eds a1 a2] at a0
        exact List.Perm.eq_nil a0
      subst hgz hfz
      have HRD := hid ((unhid HRD).below hb5)
      have HB5 := hid ((unhid HB4).trans (hb5.mono (unhid HB4).size))
      have HA5 := HA4.below hb5
      clear hz5 hb5 h5 h4 HZ4 e0 e1 e2 e3 e4 e5 e6 e7 HA4
      obtain ⟨e0, e1, e2, e3, e4, e5, e6, e7⟩ := HA5.cells
      go_wp2_with fail
      refine (validSigns_calls n A js c P2 G p2 _ ((unhid HL).below (unhid HB5)) (sgsOk_prop (unhid HRD) (unhid HV) (unhid HCV) hGl)).mono ?_
      rintro e w6 ⟨rfl, hb6⟩
      rw [unhid HV]
      have HB6 := hid ((unhid HB5).trans (hb6.mono (unhid HB5).size))
      clear hb6
      go_wp2_with fail
      refine (first_calls _).mono ?_
      rintro e w7 ⟨rfl, hb7⟩
      go_wp2_with fail
      go_ret
      exact ⟨rfl, (unhid HB6).trans (hb7.mono (unhid HB6).size)⟩
    · have hpe : propE n js ed hour = 2 := by
        unfold propE
        rw [if_neg (by rw [allE_okP (unhid HOK).line (sgsB_nilP (unhid HOK).line) (unhid HOK).eds (unhid HOK).hour]; simp), show ((n : Int)).toNat = n from rfl, if_pos (by omega)]
      rw [hpe]
      have hG := hnz (by rw [hpe]; simp)
      subst hG
      have HDF := hid (decide_eq_false h100)
      clear hz hnz hrd hcov hpe h100
      go_wp2_with fail
      refine (rpropose_calls n A js c A3 ed c3 hour _ ((unhid HL).below (unhid HB3)) ((unhid HE).below (unhid HB3)).rd (unhid HOK).line (by omega) (unhid HOK).hour).mono ?_
      rintro e w4 ⟨Q4, q4, rfl, -, hb4⟩
      rw [unhid HDF]
      have HB4 := hid ((unhid HB3).trans (hb4.mono (unhid HB3).size))
      clear hb4
      go_wp2_with fail
      refine (first_calls _).mono ?_
      rintro e w7 ⟨rfl, hb7⟩
      go_wp2_with fail
      go_ret
      exact ⟨rfl, (unhid HB4).trans (hb7.mono (unhid HB4).size)⟩
  · rw [Bool.not_eq_true] at hrt
    rw [hrt]
    go_wp2_with fail
    refine (first_calls _).mono ?_
    rintro e w2 ⟨rfl, hb2⟩
    go_wp2_with fail
    go_ret
    exact ⟨rfl, (unhid HB1).trans (hb2.mono (unhid HB1).size)⟩
end

end Go.Proofs.YtmpngoejnmlmbaaGreat
