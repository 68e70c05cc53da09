/-
  What stretches, gaps and histories say of each metre and hour. Plain: no walk. What gaps and histories say of each metre and hour. Plain: no walk. What the law RuleWays needs of gaps and of a history. Plain: no walk.
-/
import Derived.Test.YtmpngoejnmlmbaaGreatRowG
import Derived.Test.YtmpngoejnmlmbaaGreatMomM
set_option linter.unusedSimpArgs false
set_option linter.unusedVariables false
namespace Go.Proofs.YtmpngoejnmlmbaaGreat
open Go.RowKit

section
/-! stretches -/
structure HdI (s : List Int) (k : Nat) (out : List Hd) : Prop where
  each : ∀ x ∈ out, 0 ≤ x.fr ∧ x.fr < x.to ∧ x.to ≤ k ∧ x.val ≠ 0 ∧ ∀ m : Nat, x.fr ≤ (m : Int) → (m : Int) < x.to → s[m]? = some x.val
  next : ∀ i x y, out[i]? = some x → out[i + 1]? = some y → x.to ≤ y.fr ∧ ¬ (y.fr = x.to ∧ y.val = x.val)
  all : ∀ m : Nat, m < k → s[m]? ≠ some 0 → ∃ x ∈ out, x.fr ≤ (m : Int) ∧ (m : Int) < x.to
theorem hdI (s : List Int) (k : Nat) (hk : k ≤ s.length) : HdI s k (hdRun s k) := by
  induction k with
  | zero => exact ⟨by simp [hdRun], by simp [hdRun], fun m h => absurd h (by omega)⟩
  | succ k ih =>
    obtain ⟨h1, h2, h3⟩ := ih (by omega)
    have hsk : s[k]? = some s[k] := List.getElem?_eq_getElem hk
    rw [hdRun_succ s k hk]
    generalize hdRun s k = out at *
    generalize s[k] = v at *
    have push : (∀ x, out.getLast? = some x → ¬ (x.to = k ∧ x.val = v)) → v ≠ 0 → HdI s (k + 1) (out ++ [⟨k, k + 1, v⟩]) := fun hl hv => by
      refine ⟨fun x hx => ?_, fun i x y hx hy => ?_, fun m hm hz => ?_⟩
      · rcases List.mem_append.1 hx with h | h
        · obtain ⟨a, b, c, d, e⟩ := h1 x h
          exact ⟨a, b, by omega, d, e⟩
        · obtain rfl : x = ⟨k, k + 1, v⟩ := by simpa using h
          refine ⟨by show (0 : Int) ≤ k; omega, by show (k : Int) < k + 1; omega, by show (k : Int) + 1 ≤ ((k + 1 : Nat) : Int); omega, hv, fun m a b => ?_⟩
          have a' : (k : Int) ≤ m := a
          have b' : (m : Int) < k + 1 := b
          obtain rfl : m = k := by omega
          exact hsk
      · rcases Nat.lt_or_ge (i + 1) out.length with h | h
        · rw [List.getElem?_append_left (by omega)] at hx hy
          exact h2 i x y hx hy
        · rw [List.getElem?_append_right h] at hy
          have hi : i + 1 = out.length := by
            rcases Nat.eq_zero_or_pos (i + 1 - out.length) with e | e
            · omega
            · rw [List.getElem?_eq_none (by simp; omega)] at hy; cases hy
          rw [hi, Nat.sub_self] at hy
          injection hy with hy
          subst hy
          rw [List.getElem?_append_left (by omega)] at hx
          have hgl : out.getLast? = some x := by rw [List.getLast?_eq_getElem?, show out.length - 1 = i by omega]; exact hx
          have hb := h1 x (List.mem_of_getElem? hx)
          refine ⟨hb.2.2.1, fun h => hl x hgl ⟨h.1.symm, h.2.symm⟩⟩
      · rcases Nat.lt_or_ge m k with h | h
        · obtain ⟨x, hx, h5⟩ := h3 m h hz
          exact ⟨x, List.mem_append.2 (Or.inl hx), h5⟩
        · obtain rfl : m = k := by omega
          exact ⟨⟨m, m + 1, v⟩, by simp, by show (m : Int) ≤ m; omega, by show (m : Int) < m + 1; omega⟩
    have stay : v = 0 → HdI s (k + 1) out := fun hv => by
      refine ⟨fun x hx => ?_, h2, fun m hm hz => ?_⟩
      · obtain ⟨a, b, c, d, e⟩ := h1 x hx
        exact ⟨a, b, by omega, d, e⟩
      · rcases Nat.lt_or_ge m k with h | h
        · exact h3 m h hz
        · obtain rfl : m = k := by omega
          rw [hsk, hv] at hz
          exact absurd rfl hz
    unfold hdStep
    cases hg : out.getLast? with
    | none =>
      dsimp only
      by_cases hv : v = 0
      · rw [if_pos hv]; exact stay hv
      · rw [if_neg hv]; exact push (fun x hx => by rw [hg] at hx; cases hx) hv
    | some y =>
      dsimp only
      by_cases hc : y.to = k ∧ y.val = v
      · rw [if_pos hc]
        have hne : out ≠ [] := by rintro rfl; cases hg
        have hlen : 0 < out.length := List.length_pos_iff.2 hne
        have hyi : out[out.length - 1]? = some y := by rw [← List.getLast?_eq_getElem?]; exact hg
        have hym := h1 y (List.mem_of_getElem? hyi)
        refine ⟨fun x hx => ?_, fun i x z hx hz => ?_, fun m hm hz => ?_⟩
        · rcases List.mem_or_eq_of_mem_set hx with h | h
          · obtain ⟨a, b, c, d, e⟩ := h1 x h
            exact ⟨a, b, by omega, d, e⟩
          · subst h
            refine ⟨hym.1, by show y.fr < y.to + 1; omega, by show y.to + 1 ≤ ((k + 1 : Nat) : Int); omega, hym.2.2.2.1, fun m a b => ?_⟩
            have a' : y.fr ≤ m := a
            have b' : (m : Int) < y.to + 1 := b
            rcases (show (m : Int) < y.to ∨ m = k by omega) with h | h
            · exact hym.2.2.2.2 m a' h
            · subst h; rw [hsk, hc.2]
        · rw [List.getElem?_set] at hx hz
          by_cases e1 : out.length - 1 = i
          · rw [if_neg (by omega), List.getElem?_eq_none (by omega)] at hz; cases hz
          · rw [if_neg e1] at hx
            by_cases e2 : out.length - 1 = i + 1
            · rw [if_pos e2, if_pos (by omega)] at hz
              injection hz with hz
              subst hz
              exact h2 i x y hx (by rw [← e2]; exact hyi)
            · rw [if_neg e2] at hz
              exact h2 i x z hx hz
        · have hset : (⟨y.fr, y.to + 1, y.val⟩ : Hd) ∈ out.set (out.length - 1) ⟨y.fr, y.to + 1, y.val⟩ := List.mem_set (by omega) _
          rcases Nat.lt_or_ge m k with h | h
          · obtain ⟨x, hx, h5⟩ := h3 m h hz
            obtain ⟨j, hj, rfl⟩ := List.mem_iff_getElem.1 hx
            by_cases ej : j = out.length - 1
            · have hyj : out[j] = y := by
                rw [← ej, List.getElem?_eq_getElem hj] at hyi; injection hyi
              rw [hyj] at h5
              exact ⟨_, hset, h5.1, by show (m : Int) < y.to + 1; omega⟩
            · refine ⟨out[j], ?_, h5⟩
              refine List.mem_iff_getElem.2 ⟨j, by simpa using hj, ?_⟩
              rw [List.getElem_set_ne (by omega)]
          · obtain rfl : m = k := by omega
            exact ⟨_, hset, by show y.fr ≤ (m : Int); omega, by show (m : Int) < y.to + 1; omega⟩
      · rw [if_neg hc]
        by_cases hv : v = 0
        · rw [if_pos hv]; exact stay hv
        · rw [if_neg hv]; exact push (fun x hx => by rw [hg] at hx; injection hx with hx; subst hx; exact hc) hv
theorem heldP_I (s : List Int) : HdI s s.length (heldP s) := hdI s s.length (Nat.le_refl _)
/-- What spread has written behind i stretches. -/
def sprW (l : List Hd) (i : Nat) (m : Nat) : Int := (l.take i).foldl (fun (v : Int) (x : Hd) => if x.fr ≤ (m : Int) ∧ (m : Int) < x.to then x.val else v) 0
theorem sprW_succ (l : List Hd) {i : Nat} (hi : i < l.length) (m : Nat) : sprW l (i + 1) m = if l[i].fr ≤ (m : Int) ∧ (m : Int) < l[i].to then l[i].val else sprW l i m := by
  unfold sprW
  rw [List.take_succ_eq_append_getElem hi, List.foldl_append]
  rfl
theorem spr_all {s : List Int} {l : List Hd} (h : HdI s s.length l) {m : Nat} (hm : m < s.length) : sprW l l.length m = s[m] := by
  have hs : s[m]? = some s[m] := List.getElem?_eq_getElem hm
  have key : ∀ i, i ≤ l.length → (sprW l i m = s[m] ∨ (sprW l i m = 0 ∧ ∀ x ∈ l.take i, ¬ (x.fr ≤ (m : Int) ∧ (m : Int) < x.to))) := by
    intro i
    induction i with
    | zero => intro _; exact .inr ⟨rfl, by simp⟩
    | succ i ih =>
      intro hi
      rw [sprW_succ l (by omega)]
      by_cases hc : l[i].fr ≤ (m : Int) ∧ (m : Int) < l[i].to
      · rw [if_pos hc]
        have := (h.each l[i] (List.getElem_mem _)).2.2.2.2 m hc.1 hc.2
        rw [hs] at this
        injection this with this
        exact .inl this.symm
      · rw [if_neg hc]
        rcases ih (by omega) with h1 | ⟨h1, h2⟩
        · exact .inl h1
        · refine .inr ⟨h1, fun x hx => ?_⟩
          rw [List.take_succ_eq_append_getElem (by omega)] at hx
          rcases List.mem_append.1 hx with h5 | h5
          · exact h2 x h5
          · obtain rfl : x = l[i] := by simpa using h5
            exact hc
  rcases key l.length (Nat.le_refl _) with h1 | ⟨h1, h2⟩
  · exact h1
  · rw [List.take_length] at h2
    by_cases hz : s[m] = 0
    · rw [h1, hz]
    · obtain ⟨x, hx, h5⟩ := h.all m hm (by rw [hs]; simpa using hz)
      exact absurd h5 (h2 x hx)
end

section
/-! gaps -/
structure GpI (topic dir : Int) (H S : List Int) (k : Nat) (G : List Gp) : Prop where
  each : ∀ g ∈ G, g.topic = topic ∧ g.dir = dir ∧ 0 ≤ g.fr ∧ g.fr < g.to ∧ g.to ≤ k ∧ g.has ≠ g.should ∧ ∀ m : Nat, g.fr ≤ (m : Int) → (m : Int) < g.to → H[m]? = some g.has ∧ S[m]? = some g.should
  ord : G.Pairwise fun a b => a.to ≤ b.fr
  all : ∀ m : Nat, m < k → H[m]? ≠ S[m]? → ∃ g ∈ G, g.fr ≤ (m : Int) ∧ (m : Int) < g.to
theorem gpI {topic dir : Int} {H S : List Int} (base : List Gp) (hl : H.length = S.length) (k : Nat) (hk : k ≤ H.length) : ∃ G, gpRun topic dir base.length H S base k = base ++ G ∧ GpI topic dir H S k G := by
  induction k with
  | zero => exact ⟨[], by simp [gpRun], by simp, List.Pairwise.nil, fun m h => absurd h (by omega)⟩
  | succ k ih =>
    obtain ⟨G, hG, h1, h2, h3⟩ := ih (by omega)
    have hHk : H[k]? = some H[k] := List.getElem?_eq_getElem hk
    have hSk : S[k]? = some (S[k]'(by omega)) := List.getElem?_eq_getElem (by omega)
    rw [gpRun_succ topic dir base.length H S base k hk (by omega), hG]
    generalize H[k] = h at *
    generalize S[k]'(by omega) = s at *
    by_cases hs : h = s
    · refine ⟨G, by rw [gpStep, if_pos hs], fun g hg => ?_, h2, fun m hm hne => ?_⟩
      · obtain ⟨a, b, c, d, e, f⟩ := h1 g hg
        exact ⟨a, b, c, d, by omega, f⟩
      · rcases Nat.lt_or_ge m k with h5 | h5
        · exact h3 m h5 hne
        · obtain rfl : m = k := by omega
          rw [hHk, hSk, hs] at hne
          exact absurd rfl hne
    · have push : GpI topic dir H S (k + 1) (G ++ [⟨topic, dir, k, k + 1, h, s⟩]) := by
        refine ⟨fun g hg => ?_, ?_, fun m hm hne => ?_⟩
        · rcases List.mem_append.1 hg with h5 | h5
          · obtain ⟨a, b, c, d, e, f⟩ := h1 g h5
            exact ⟨a, b, c, d, by omega, f⟩
          · obtain rfl : g = ⟨topic, dir, k, k + 1, h, s⟩ := by simpa using h5
            refine ⟨rfl, rfl, by show (0 : Int) ≤ k; omega, by show (k : Int) < k + 1; omega, by show (k : Int) + 1 ≤ ((k + 1 : Nat) : Int); omega, hs, fun m a b => ?_⟩
            have a' : (k : Int) ≤ m := a
            have b' : (m : Int) < k + 1 := b
            obtain rfl : m = k := by omega
            exact ⟨hHk, hSk⟩
        · rw [List.pairwise_append]
          refine ⟨h2, by simp, fun a ha b hb => ?_⟩
          obtain rfl : b = ⟨topic, dir, k, k + 1, h, s⟩ := by simpa using hb
          exact (h1 a ha).2.2.2.2.1
        · rcases Nat.lt_or_ge m k with h5 | h5
          · obtain ⟨g, hg, h6⟩ := h3 m h5 hne
            exact ⟨g, List.mem_append.2 (Or.inl hg), h6⟩
          · obtain rfl : m = k := by omega
            exact ⟨⟨topic, dir, m, m + 1, h, s⟩, by simp, by show (m : Int) ≤ m; omega, by show (m : Int) < m + 1; omega⟩
      rcases List.eq_nil_or_concat G with rfl | ⟨I, g, rfl⟩
      · refine ⟨[] ++ [⟨topic, dir, k, k + 1, h, s⟩], ?_, push⟩
        rw [List.append_nil, List.nil_append]
        exact gpStep_push hs fun g hg hc => by omega
      · rw [List.concat_eq_append] at *
        by_cases hc : g.to = (k : Int) ∧ g.has = h ∧ g.should = s
        · have hgm := h1 g (by simp)
          refine ⟨I ++ [g.up], ?_, fun x hx => ?_, ?_, fun m hm hne => ?_⟩
          · unfold gpStep
            rw [if_neg hs, show (base ++ (I ++ [g])).getLast? = some g from by simp]
            dsimp only
            rw [if_pos ⟨by simp, hc.1, hc.2.1, hc.2.2⟩]
            rw [← List.append_assoc, set_last, List.append_assoc]
          · rcases List.mem_append.1 hx with h5 | h5
            · obtain ⟨a, b, c, d, e, f⟩ := h1 x (List.mem_append.2 (Or.inl h5))
              exact ⟨a, b, c, d, by omega, f⟩
            · obtain rfl : x = g.up := by simpa using h5
              refine ⟨hgm.1, hgm.2.1, hgm.2.2.1, by show g.fr < g.to + 1; omega, by show g.to + 1 ≤ ((k + 1 : Nat) : Int); omega, hgm.2.2.2.2.2.1, fun m a b => ?_⟩
              have a' : g.fr ≤ (m : Int) := a
              have b' : (m : Int) < g.to + 1 := b
              rcases (show (m : Int) < g.to ∨ m = k by omega) with h6 | h6
              · exact hgm.2.2.2.2.2.2 m a' h6
              · subst h6
                exact ⟨by rw [hHk]; exact congrArg some hc.2.1.symm, by rw [hSk]; exact congrArg some hc.2.2.symm⟩
          · rw [List.pairwise_append] at h2 ⊢
            exact ⟨h2.1, by simp, fun a ha b hb => by
              obtain rfl : b = g.up := by simpa using hb
              exact h2.2.2 a ha g (by simp)⟩
          · rcases Nat.lt_or_ge m k with h5 | h5
            · obtain ⟨x, hx, h6⟩ := h3 m h5 hne
              rcases List.mem_append.1 hx with h7 | h7
              · exact ⟨x, List.mem_append.2 (Or.inl h7), h6⟩
              · obtain rfl : x = g := by simpa using h7
                exact ⟨x.up, by simp, h6.1, by show (m : Int) < x.to + 1; omega⟩
            · obtain rfl : m = k := by omega
              exact ⟨g.up, by simp, by show g.fr ≤ (m : Int); omega, by show (m : Int) < g.to + 1; omega⟩
        · refine ⟨I ++ [g] ++ [⟨topic, dir, k, k + 1, h, s⟩], ?_, push⟩
          rw [gpStep_push hs (fun x hx hcc => by
            rw [show (base ++ (I ++ [g])).getLast? = some g from by simp] at hx
            injection hx with hx
            subst hx
            exact hc hcc.2)]
          simp
/-- What the gaps of a line say. -/
structure WaysG (n : Nat) (hold must : Int → Int → List Int) (p : Nat) (L : List Gp) : Prop where
  each : ∀ g ∈ L, (∃ i < p, g.topic = topI i ∧ g.dir = dirI i) ∧ 0 ≤ g.fr ∧ g.fr < g.to ∧ g.to ≤ n ∧ g.has ≠ g.should ∧ ∀ m : Nat, g.fr ≤ (m : Int) → (m : Int) < g.to → (hold g.topic g.dir)[m]? = some g.has ∧ (must g.topic g.dir)[m]? = some g.should
  ord : L.Pairwise fun a b => a.topic = b.topic → a.dir = b.dir → a.to ≤ b.fr
  all : ∀ i < p, ∀ m : Nat, m < n → (hold (topI i) (dirI i))[m]? ≠ (must (topI i) (dirI i))[m]? → ∃ g ∈ L, g.topic = topI i ∧ g.dir = dirI i ∧ g.fr ≤ (m : Int) ∧ (m : Int) < g.to
theorem part_ne {i j : Nat} (hi : i < 4) (hj : j < i) : ¬ (topI j = topI i ∧ dirI j = dirI i) := by
  rcases (show i = 0 ∨ i = 1 ∨ i = 2 ∨ i = 3 by omega) with rfl | rfl | rfl | rfl <;> rcases (show j = 0 ∨ j = 1 ∨ j = 2 ∨ j = 3 by omega) with rfl | rfl | rfl | rfl <;> first | omega | simp [topI, dirI]
theorem waysG {n : Nat} {hold must : Int → Int → List Int} (hh : ∀ t d, (hold t d).length = n) (hm : ∀ t d, (must t d).length = n) (p : Nat) (hp : p ≤ 4) : WaysG n hold must p (gpAll n hold must p) := by
  induction p with
  | zero => exact ⟨by simp [gpAll], List.Pairwise.nil, fun i h => absurd h (by omega)⟩
  | succ p ih =>
    obtain ⟨h1, h2, h3⟩ := ih (by omega)
    obtain ⟨G, hG, g1, g2, g3⟩ := gpI (topic := topI p) (dir := dirI p) (H := hold (topI p) (dirI p)) (S := must (topI p) (dirI p)) (gpAll n hold must p) (by rw [hh, hm]) n (by rw [hh]; exact Nat.le_refl _)
    rw [gpAll, hG]
    refine ⟨fun g hg => ?_, ?_, fun i hi m hmn hne => ?_⟩
    · rcases List.mem_append.1 hg with h | h
      · obtain ⟨⟨i, hi, a⟩, b⟩ := h1 g h
        exact ⟨⟨i, by omega, a⟩, b⟩
      · obtain ⟨a, b, c, d, e, f, f2⟩ := g1 g h
        refine ⟨⟨p, by omega, a, b⟩, c, d, e, f, fun m h5 h6 => ?_⟩
        rw [a, b]
        exact f2 m h5 h6
    · rw [List.pairwise_append]
      refine ⟨h2, g2.imp fun {a b} h _ _ => h, fun a ha b hb e1 e2 => ?_⟩
      obtain ⟨⟨i, hi, a1, a2⟩, -⟩ := h1 a ha
      obtain ⟨b1, b2, -⟩ := g1 b hb
      exact absurd ⟨a1.symm.trans (e1.trans b1), a2.symm.trans (e2.trans b2)⟩ (part_ne (by omega) hi)
    · rcases Nat.lt_or_ge i p with h | h
      · obtain ⟨g, hg, h5⟩ := h3 i h m hmn hne
        exact ⟨g, List.mem_append.2 (Or.inl hg), h5⟩
      · obtain rfl : i = p := by omega
        obtain ⟨g, hg, h5⟩ := g3 m hmn hne
        exact ⟨g, List.mem_append.2 (Or.inr hg), (g1 g hg).1, (g1 g hg).2.1, h5⟩

/-! told -/
structure TdI (hl : List Int) (V : Int → Int) (k : Nat) (TT : List Td) : Prop where
  head : ∀ x, TT[0]? = some x → x.fr = hl.getD 0 0
  next : ∀ i x y, TT[i]? = some x → TT[i + 1]? = some y → y.fr = x.til
  last : ∀ x, TT.getLast? = some x → x.til = hl.getD k 10000001
  each : ∀ x ∈ TT, x.fr < x.til
  val : ∀ x ∈ TT, ∀ h, x.fr ≤ h → h < x.til → x.val = V h
  some : 0 < k → TT ≠ []
theorem tdI {hl : List Int} {V : Int → Int} (ha : hl.Pairwise (· < ·)) (hb : ∀ x ∈ hl, x ≤ 10000000) (hv : ∀ k (hk : k < hl.length), ∀ h, hl[k] ≤ h → h < hl.getD (k + 1) 10000001 → V h = V hl[k]) (k : Nat) (hk : k ≤ hl.length) : TdI hl V k (tdRun hl V k) := by
  induction k with
  | zero => exact ⟨by simp [tdRun], by simp [tdRun], by simp [tdRun], by simp [tdRun], by simp [tdRun], fun h => absurd h (by omega)⟩
  | succ k ih =>
    obtain ⟨h1, h2, h3, h4, h5, h6⟩ := ih (by omega)
    have hgk : hl.getD k 0 = hl[k] := by rw [List.getD_eq_getElem?_getD, List.getElem?_eq_getElem hk]; rfl
    have hgk2 : hl.getD k 10000001 = hl[k] := by rw [List.getD_eq_getElem?_getD, List.getElem?_eq_getElem hk]; rfl
    have hnx : hl[k] < hl.getD (k + 1) 10000001 := by
      rcases Nat.lt_or_ge (k + 1) hl.length with h | h
      · rw [List.getD_eq_getElem?_getD, List.getElem?_eq_getElem h]
        exact List.pairwise_iff_getElem.1 ha k (k + 1) _ _ (by omega)
      · rw [List.getD_eq_getElem?_getD, List.getElem?_eq_none h]
        have := hb _ (List.getElem_mem hk)
        show hl[k] < 10000001
        omega
    have hvk := hv k hk
    rw [tdRun_succ, hgk]
    rw [hgk2] at h3
    generalize tdRun hl V k = TT at *
    generalize hnxe : hl.getD (k + 1) 10000001 = nx at *
    unfold tdStep
    cases hg : TT.getLast? with
    | none =>
      have hT : TT = [] := List.getLast?_eq_none_iff.1 hg
      subst hT
      have hk0 : k = 0 := by
        rcases Nat.eq_zero_or_pos k with h | h
        · exact h
        · exact absurd rfl (h6 h)
      subst hk0
      refine ⟨fun x hx => ?_, fun i x y hx hy => ?_, fun x hx => ?_, fun x hx => ?_, fun x hx h a b => ?_, fun _ => by simp⟩
      · simp at hx; subst hx; exact hgk.symm
      · simp at hy
      · simp at hx; subst hx; exact hnxe.symm
      · simp at hx; subst hx; exact hnx
      · simp at hx; subst hx; exact (hvk h a b).symm
    | some y =>
      dsimp only
      have hne : TT ≠ [] := by rintro rfl; cases hg
      have hlen : 0 < TT.length := List.length_pos_iff.2 hne
      have hyi : TT[TT.length - 1]? = some y := by rw [← List.getLast?_eq_getElem?]; exact hg
      have hym := List.mem_of_getElem? hyi
      have hyt := h3 y hg
      have hy4 := h4 y hym
      by_cases hv2 : y.val = V hl[k]
      · rw [if_pos hv2]
        refine ⟨fun x hx => ?_, fun i x z hx hz => ?_, fun x hx => ?_, fun x hx => ?_, fun x hx h a b => ?_, fun _ => by simpa using hne⟩
        · rw [List.getElem?_set] at hx
          by_cases e : TT.length - 1 = 0
          · rw [if_pos e, if_pos (by omega)] at hx
            injection hx with hx
            subst hx
            exact h1 y (by rw [← e]; exact hyi)
          · rw [if_neg e] at hx; exact h1 x hx
        · rw [List.getElem?_set] at hx hz
          by_cases e1 : TT.length - 1 = i
          · rw [if_neg (by omega), List.getElem?_eq_none (by omega)] at hz; cases hz
          · rw [if_neg e1] at hx
            by_cases e2 : TT.length - 1 = i + 1
            · rw [if_pos e2, if_pos (by omega)] at hz
              injection hz with hz
              subst hz
              exact h2 i x y hx (by rw [← e2]; exact hyi)
            · rw [if_neg e2] at hz
              exact h2 i x z hx hz
        · rw [List.getLast?_eq_getElem?, List.length_set, List.getElem?_set_self (by omega)] at hx
          injection hx with hx
          subst hx
          exact hnxe.symm
        · rcases List.mem_or_eq_of_mem_set hx with h | h
          · exact h4 x h
          · subst h; show y.fr < nx; omega
        · rcases List.mem_or_eq_of_mem_set hx with h7 | h7
          · exact h5 x h7 h a b
          · subst h7
            have a' : y.fr ≤ h := a
            have b' : h < nx := b
            show y.val = V h
            rcases (show h < y.til ∨ hl[k] ≤ h by omega) with h8 | h8
            · exact h5 y hym h a' h8
            · rw [hv2]; exact (hvk h h8 b').symm
      · rw [if_neg hv2]
        refine ⟨fun x hx => ?_, fun i x z hx hz => ?_, fun x hx => ?_, fun x hx => ?_, fun x hx h a b => ?_, fun _ => by simp⟩
        · rw [List.getElem?_append_left hlen] at hx; exact h1 x hx
        · rcases Nat.lt_or_ge (i + 1) TT.length with h | h
          · rw [List.getElem?_append_left (by omega)] at hx hz
            exact h2 i x z hx hz
          · rw [List.getElem?_append_right h] at hz
            have hi : i + 1 = TT.length := by
              rcases Nat.eq_zero_or_pos (i + 1 - TT.length) with e | e
              · omega
              · rw [List.getElem?_eq_none (by simp; omega)] at hz; cases hz
            rw [hi, Nat.sub_self] at hz
            injection hz with hz
            subst hz
            rw [List.getElem?_append_left (by omega)] at hx
            have hgl : TT.getLast? = some x := by rw [List.getLast?_eq_getElem?, show TT.length - 1 = i by omega]; exact hx
            exact (h3 x hgl).symm
        · rw [List.getLast?_concat] at hx
          injection hx with hx
          subst hx
          exact hnxe.symm
        · rcases List.mem_append.1 hx with h | h
          · exact h4 x h
          · simp at h; subst h; exact hnx
        · rcases List.mem_append.1 hx with h7 | h7
          · exact h5 x h7 h a b
          · simp at h7; subst h7; exact (hvk h a b).symm
end

section
theorem rowM_sel {n h h2 dir : Int} {l : List Sg} (e : selP n h dir l = selP n h2 dir l) : rowM n h dir l = rowM n h2 dir l := by
  have k : IsRow n h dir l = IsRow n h2 dir l := funext fun R => propext ⟨fun a => ⟨by rw [← e]; exact a.perm, a.sorted⟩, fun a => ⟨by rw [e]; exact a.perm, a.sorted⟩⟩
  unfold rowM
  rw [k]

/-! gaps of one direction and one topic -/
def gpIn (topic dir : Int) (m : Nat) (g : Gp) : Bool := decide (g.topic = topic ∧ g.dir = dir ∧ g.fr ≤ (m : Int) ∧ (m : Int) < g.to)
def inB (topic dir : Int) (G : List Gp) (k : Nat) (m : Nat) : Bool := (G.take k).any (gpIn topic dir m)
theorem inB_zero (topic dir : Int) (G : List Gp) (m : Nat) : inB topic dir G 0 m = false := by simp [inB]
theorem inB_succ (topic dir : Int) (G : List Gp) {k : Nat} (hk : k < G.length) (m : Nat) : inB topic dir G (k + 1) m = (inB topic dir G k m || gpIn topic dir m G[k]) := by
  unfold inB
  rw [List.take_succ_eq_append_getElem hk, List.any_append]
  simp
theorem topDir {topic dir : Int} (h1 : topic = 1 ∨ topic = 2) (h2 : dirB dir = true) : ∃ i < 4, topI i = topic ∧ dirI i = dir := by
  have h3 : dir = 1 ∨ dir = -1 := by simpa [dirB] using h2
  rcases h1 with rfl | rfl <;> rcases h3 with rfl | rfl
  · exact ⟨0, by omega, rfl, rfl⟩
  · exact ⟨1, by omega, rfl, rfl⟩
  · exact ⟨2, by omega, rfl, rfl⟩
  · exact ⟨3, by omega, rfl, rfl⟩
structure WaysOk (n : Nat) (H S : List Int) (topic dir : Int) (G : List Gp) : Prop where
  bounds : ∀ g ∈ G, 0 ≤ g.fr ∧ g.fr < g.to ∧ g.to ≤ n
  fresh : ∀ k (hk : k < G.length) (m : Nat), gpIn topic dir m G[k] = true → inB topic dir G k m = false ∧ H[m]? = some G[k].has ∧ S[m]? = some G[k].should
  all : ∀ m, m < n → inB topic dir G G.length m = !decide (H[m]? = S[m]?)
theorem waysOk {n : Nat} {js : List Int} {l : List Sg} {ed : List Ed} {hour topic dir : Int} (h1 : topic = 1 ∨ topic = 2) (h2 : dirB dir = true) :
    WaysOk n (holdM n js l hour topic dir) (mustM n ed hour topic dir) topic dir (gapsP n js l ed hour 4) := by
  have hw : WaysG n (holdM n js l hour) (mustM n ed hour) 4 (gapsP n js l ed hour 4) := waysG (fun t d => by simp [holdM]) (fun t d => by simp [mustM]) 4 (Nat.le_refl _)
  generalize gapsP n js l ed hour 4 = G at *
  obtain ⟨i, hi, e1, e2⟩ := topDir h1 h2
  refine ⟨fun g hg => ?_, fun k hk m hm => ?_, fun m hm => ?_⟩
  · obtain ⟨-, a, b, c, -⟩ := hw.each g hg
    exact ⟨a, b, c⟩
  · simp only [gpIn, decide_eq_true_eq] at hm
    obtain ⟨-, -, -, -, -, f⟩ := hw.each G[k] (List.getElem_mem hk)
    refine ⟨?_, by rw [← hm.1, ← hm.2.1]; exact f m hm.2.2.1 hm.2.2.2⟩
    rw [Bool.eq_false_iff]
    intro ha
    obtain ⟨g, hg, hg2⟩ := List.any_eq_true.1 ha
    obtain ⟨j, hj, rfl⟩ := List.mem_iff_getElem.1 hg
    have hjk : j < k := by simp at hj; omega
    rw [List.getElem_take] at hg2
    simp only [gpIn, decide_eq_true_eq] at hg2
    have := List.pairwise_iff_getElem.1 hw.ord j k (by omega) hk hjk (hg2.1.trans hm.1.symm) (hg2.2.1.trans hm.2.1.symm)
    omega
  · unfold inB
    rw [List.take_length]
    by_cases he : (holdM n js l hour topic dir)[m]? = (mustM n ed hour topic dir)[m]?
    · rw [he]
      simp only [decide_true, Bool.not_true]
      rw [Bool.eq_false_iff]
      intro ha
      obtain ⟨g, hg, hg2⟩ := List.any_eq_true.1 ha
      simp only [gpIn, decide_eq_true_eq] at hg2
      obtain ⟨-, -, -, -, hne, f⟩ := hw.each g hg
      obtain ⟨f1, f2⟩ := f m hg2.2.2.1 hg2.2.2.2
      rw [hg2.1, hg2.2.1] at f1 f2
      rw [f1, f2] at he
      exact hne (by injection he)
    · rw [decide_eq_false he]
      obtain ⟨g, hg, a, b, c, d⟩ := hw.all i hi m hm (by rw [e1, e2]; exact he)
      refine List.any_eq_true.2 ⟨g, hg, ?_⟩
      simp only [gpIn, decide_eq_true_eq]
      exact ⟨a.trans e1, b.trans e2, c, d⟩

/-! the history of one metre, and an hour -/
structure ToldOk (TT : List Td) (hour v : Int) : Prop where
  head : ∀ x, TT[0]? = some x → x.fr = 0
  next : ∀ i x y, TT[i]? = some x → TT[i + 1]? = some y → y.fr = x.til
  last : ∀ x, TT.getLast? = some x → x.til = 10000001
  each : ∀ x ∈ TT, x.fr < x.til
  val : ∀ x ∈ TT, x.fr ≤ hour → hour < x.til → x.val = v
  some : TT ≠ []
theorem toldOk {n : Int} {js : List Int} {l : List Sg} {dir topic m hour : Int} {hs : List Int} (h1 : lineB n js = true) (h2 : sgsB n js l = true) (hh : hour ≤ 10000000) (hM : Mom (momH l [] ++ [0]) hs) :
    ToldOk (tdRun hs (tdV n js l dir topic m) hs.length) hour (tdV n js l dir topic m hour) := by
  have hb : ∀ x ∈ hs, x ≤ 10000000 := fun x hx => ((hM.2 x).1 hx).2
  have h0 : (0 : Int) ∈ hs := (hM.2 0).2 ⟨by simp, by omega⟩
  have hpos : ∀ x ∈ hs, 0 ≤ x := fun x hx => by
    rcases List.mem_append.1 ((hM.2 x).1 hx).1 with h | h
    · exact (mom_bounds h2 (show edsB n js [] = true by simp [edsB, h1]) x h).1
    · simp at h; omega
  have hv : ∀ k (hk : k < hs.length), ∀ h, hs[k] ≤ h → h < hs.getD (k + 1) 10000001 → tdV n js l dir topic m h = tdV n js l dir topic m hs[k] := fun k hk h a b => by
    have hk1 := hb _ (List.getElem_mem hk)
    have hle : h ≤ 10000000 := by
      rcases Nat.lt_or_ge (k + 1) hs.length with h5 | h5
      · rw [List.getD_eq_getElem?_getD, List.getElem?_eq_getElem h5] at b
        have := hb _ (List.getElem_mem h5)
        have b' : h < hs[k + 1] := b
        omega
      · rw [List.getD_eq_getElem?_getD, List.getElem?_eq_none h5] at b
        have b' : h < 10000001 := b
        omega
    unfold tdV
    rw [rowM_sel (selP_same hle hk1 fun x hx hx2 => ?_)]
    have hxs : x ∈ hs := (hM.2 x).2 ⟨List.mem_append.2 (Or.inl (by simp [momH]; exact List.mem_flatMap.1 hx)), hx2⟩
    obtain ⟨j, hj, rfl⟩ := List.mem_iff_getElem.1 hxs
    have hp := List.pairwise_iff_getElem.1 hM.1
    rcases Nat.lt_or_ge k j with h5 | h5
    · have e1 : hs[k] < hs[j] := hp k j hk hj h5
      have e2 : h < hs[j] := by
        have h6 : k + 1 < hs.length := by omega
        rw [List.getD_eq_getElem?_getD, List.getElem?_eq_getElem h6] at b
        have b' : h < hs[k + 1] := b
        rcases Nat.lt_or_ge (k + 1) j with h7 | h7
        · have := hp (k + 1) j h6 hj h7; omega
        · obtain rfl : j = k + 1 := by omega
          exact b'
      omega
    · have e1 : hs[j] ≤ hs[k] := by
        rcases Nat.lt_or_ge j k with h7 | h7
        · have := hp j k hj hk h7; omega
        · obtain rfl : j = k := by omega
          exact Int.le_refl _
      omega
  have hne : 0 < hs.length := List.length_pos_iff.2 (List.ne_nil_of_mem h0)
  obtain ⟨t1, t2, t3, t4, t5, t6⟩ := tdI hM.1 hb hv hs.length (Nat.le_refl _)
  refine ⟨fun x hx => ?_, t2, fun x hx => ?_, t4, fun x hx a b => t5 x hx hour a b, t6 hne⟩
  · rw [t1 x hx, List.getD_eq_getElem?_getD, List.getElem?_eq_getElem hne]
    show hs[0] = 0
    have e0 := hpos _ (List.getElem_mem hne)
    obtain ⟨j, hj, e⟩ := List.mem_iff_getElem.1 h0
    rcases Nat.eq_zero_or_pos j with h5 | h5
    · subst h5; exact e
    · have := List.pairwise_iff_getElem.1 hM.1 0 j hne hj h5
      omega
  · rw [t3 x hx, List.getD_eq_getElem?_getD, List.getElem?_eq_none (Nat.le_refl _)]
    rfl
end

end Go.Proofs.YtmpngoejnmlmbaaGreat
