/-
  Records as values and as keys of a map; what a map of records is.
-/
import Derived.Test.YtegghimjmbgghaaGreatKit
import Derived.Test.YtegghimjmbgghaaGreatBkM
import Derived.Test.YtegghimjmbgghaaGreatBkS
import Derived.Test.YtegghimjmbgghaaGreatProg
import Derived.Maps.OwnSet
import Derived.Maps.RangeWalk
import Derived.Maps.Ext
import Derived.DeepKeys4
set_option linter.unusedSimpArgs false
set_option linter.unusedVariables false
namespace Go.Proofs.YtegghimjmbgghaaGreat
open Go.RowKit

/-- A record as it lies in memory, and as a value. -/
def rcC (r : Rc) : List Value := [.int .i64 r.tab, .int .i64 r.num, .int .i64 r.hour, .int .i64 r.sign, .int .i64 r.fld, .int .i64 r.val, .int .i64 r.s0, .int .i64 r.s1, .int .i64 r.s2, .int .i64 r.s3, .int .i64 r.s4, .int .i64 r.s5, .int .i64 r.s6, .int .i64 r.s7]
def rcA (r : Rc) : Array Value := #[.int .i64 r.tab, .int .i64 r.num, .int .i64 r.hour, .int .i64 r.sign, .int .i64 r.fld, .int .i64 r.val, .int .i64 r.s0, .int .i64 r.s1, .int .i64 r.s2, .int .i64 r.s3, .int .i64 r.s4, .int .i64 r.s5, .int .i64 r.s6, .int .i64 r.s7]
def rcV (r : Rc) : Value := .agg (rcA r)
/-- Its numbers fit into 64 bits. -/
def RcW (r : Rc) : Prop := ∀ n ∈ r.flds, I64 n
theorem i64_of {n : Int} (h : -9223372036854775808 ≤ n ∧ n ≤ 9223372036854775807) : (Lit.int .i64 n).wf = true := WalkArith.wf_i64 (by omega)
theorem sn_cases (r : Rc) (P : Int → Prop) (h : ∀ t, t < 8 → P (r.sn t)) : P r.s0 ∧ P r.s1 ∧ P r.s2 ∧ P r.s3 ∧ P r.s4 ∧ P r.s5 ∧ P r.s6 ∧ P r.s7 :=
  ⟨h 0 (by omega), h 1 (by omega), h 2 (by omega), h 3 (by omega), h 4 (by omega), h 5 (by omega), h 6 (by omega), h 7 (by omega)⟩
theorem rcW_of {r : Rc} (h : rcB r = true) : RcW r := by
  have o := rc_ok h
  obtain ⟨a0, a1, a2, a3, a4, a5, a6, a7⟩ := sn_cases r (fun n => 0 ≤ n ∧ n ≤ 1000000) o.seen
  have := o.tab; have := o.num; have := o.hour; have := o.sign; have := o.fld; have := o.val
  intro n hn
  simp only [Rc.flds, List.mem_cons, List.not_mem_nil, or_false] at hn
  unfold I64
  rcases hn with rfl | rfl | rfl | rfl | rfl | rfl | rfl | rfl | rfl | rfl | rfl | rfl | rfl | rfl <;> omega

/-- What it reads as, as a key. -/
def rcL (r : Rc) : Lit := .string (keyBytes (r.flds.map (Lit.int .i64)))
theorem rc_deep : Tryz.prog.keyTypeAt 4 82 = true := by kernel_rfl
theorem rc_tiled : Tryz.prog.tiled 4 82 = true := by kernel_rfl
theorem rc_wide : (match Tryz.prog.underlying 82 with | some (.array _ _) | some (.struct _) => true | _ => false) = true := by kernel_rfl
set_option maxRecDepth 100000 in
theorem rc_law : Maps.Keyed Tryz.prog 82 := .of_law (deep_law (m := 4) (show (4 : Nat) + 1 ≤ 10000 by omega) rc_deep rc_tiled rc_wide)
theorem rc_keyType : Tryz.prog.keyType 82 = true := by kernel_rfl
theorem rc_cells : Tryz.prog.cellsOf 82 = 14 := by kernel_rfl
theorem int_cells : Tryz.prog.cellsOf 3 = 1 := by kernel_rfl
theorem arr_cells : Tryz.prog.cellsOf 80 = 8 := by kernel_rfl
theorem types_many : Nat.ble 4 Tryz.prog.types.size = true := by kernel_rfl
theorem types_size : ∃ n, Tryz.prog.types.size = n + 4 := by
  have h := Nat.le_of_ble_eq_true types_many
  generalize Tryz.prog.types.size = s at h ⊢
  exact ⟨s - 4, by omega⟩
theorem i64_inv {n : Int} (h : (Lit.int .i64 n).wf = true) : I64 n := by
  have h1 : IntKind.i64.min = -9223372036854775808 := rfl
  have h2 : IntKind.i64.max = 9223372036854775807 := rfl
  simp only [Lit.wf, Bool.and_eq_true, decide_eq_true_eq, h1, h2] at h
  exact h
theorem keyLits_int {n : Int} {d : Nat} (h : I64 n) : Tryz.prog.keyLits (d + 1) 3 [.int .i64 n] = some [.int .i64 n] := by
  simp [Program.keyLits, Tryz.underlying3, i64_of h]
theorem keyLits_int_inv {d : Nat} {cs : List Value} {l : List Lit} (h : Tryz.prog.keyLits (d + 1) 3 cs = some l) : ∃ n, cs = [.int .i64 n] ∧ l = [.int .i64 n] ∧ I64 n := by
  unfold Program.keyLits at h
  simp only [Tryz.underlying3] at h
  split at h
  case h_2 =>
    rename_i q n h2
    cases h2
    split at h
    · rename_i h3
      obtain ⟨rfl, hw⟩ := h3
      cases h
      exact ⟨_, rfl, rfl, i64_inv hw⟩
    · cases h
  all_goals simp_all
theorem rc_lits {r : Rc} (h : RcW r) {d : Nat} : Tryz.prog.keyLits (d + 3) 82 (rcC r) = some (r.flds.map (Lit.int .i64)) := by
  have e : ∀ n ∈ r.flds, ∀ d, Tryz.prog.keyLits (d + 1) 3 [.int .i64 n] = some [.int .i64 n] := fun n hn d => keyLits_int (h n hn)
  simp only [Rc.flds, List.mem_cons, List.not_mem_nil, or_false, forall_eq_or_imp, forall_eq] at e
  obtain ⟨e1, e2, e3, e4, e5, e6, e7, e8, e9, e10, e11, e12, e13, e14⟩ := e
  have arr : Tryz.prog.keyLits (d + 2) 80 [.int .i64 r.s0, .int .i64 r.s1, .int .i64 r.s2, .int .i64 r.s3, .int .i64 r.s4, .int .i64 r.s5, .int .i64 r.s6, .int .i64 r.s7] = some [.int .i64 r.s0, .int .i64 r.s1, .int .i64 r.s2, .int .i64 r.s3, .int .i64 r.s4, .int .i64 r.s5, .int .i64 r.s6, .int .i64 r.s7] := by
    unfold Program.keyLits
    simp only [Tryz.underlying80]
    simp [arr_cells, int_cells, List.range, List.range.loop, e7, e8, e9, e10, e11, e12, e13, e14]
  unfold Program.keyLits
  simp only [Tryz.underlying82]
  simp [rc_cells, int_cells, arr_cells, rcC, Rc.flds, e1, e2, e3, e4, e5, e6, arr]
theorem one_of_len {α : Type} {l : List α} (h : l.length = 1) : ∃ a, l = [a] := by
  cases l with
  | nil => cases h
  | cons a l => cases l with
    | nil => exact ⟨a, rfl⟩
    | cons b l => simp at h
theorem list14 {α : Type} {l : List α} (h : l.length = 14) : ∃ a b c d e f g0 g1 g2 g3 g4 g5 g6 g7, l = [a, b, c, d, e, f, g0, g1, g2, g3, g4, g5, g6, g7] := by
  match l, h with
  | [a, b, c, d, e, f, g0, g1, g2, g3, g4, g5, g6, g7], _ => exact ⟨_, _, _, _, _, _, _, _, _, _, _, _, _, _, rfl⟩
theorem rc_lits_inv {cs : List Value} {l : List Lit} {d : Nat} (h : Tryz.prog.keyLits (d + 3) 82 cs = some l) : ∃ r, RcW r ∧ cs = rcC r := by
  unfold Program.keyLits at h
  simp only [Tryz.underlying82] at h
  split at h
  · rename_i h14
    rw [rc_cells] at h14
    obtain ⟨a, b, c, dd, e, f, g0, g1, g2, g3, g4, g5, g6, g7, rfl⟩ := list14 h14.1
    simp only [List.mapM_cons, List.mapM_nil, int_cells, arr_cells, List.drop_zero, List.drop_succ_cons, List.take_succ_cons, List.take_zero, Option.map_eq_some_iff, Option.bind_eq_bind, Option.bind_eq_some_iff, Option.pure_def, Option.some.injEq] at h
    obtain ⟨_, ⟨l1, k1, _, ⟨l2, k2, _, ⟨l3, k3, _, ⟨l4, k4, _, ⟨l5, k5, _, ⟨l6, k6, _, ⟨l7, k7, _, -, -⟩, -⟩, -⟩, -⟩, -⟩, -⟩, -⟩, -⟩ := h
    obtain ⟨n1, e1, -, w1⟩ := keyLits_int_inv k1
    obtain ⟨n2, e2, -, w2⟩ := keyLits_int_inv k2
    obtain ⟨n3, e3, -, w3⟩ := keyLits_int_inv k3
    obtain ⟨n4, e4, -, w4⟩ := keyLits_int_inv k4
    obtain ⟨n5, e5, -, w5⟩ := keyLits_int_inv k5
    obtain ⟨n6, e6, -, w6⟩ := keyLits_int_inv k6
    unfold Program.keyLits at k7
    simp only [Tryz.underlying80] at k7
    split at k7
    · simp only [List.range, List.range.loop, List.mapM_cons, List.mapM_nil, int_cells, List.drop_zero, List.drop_succ_cons, List.take_succ_cons, List.take_zero, Option.map_eq_some_iff, Option.bind_eq_bind, Option.bind_eq_some_iff, Option.pure_def, Option.some.injEq, Nat.zero_mul, Nat.one_mul, Nat.mul_one] at k7
      obtain ⟨_, ⟨m1, q1, _, ⟨m2, q2, _, ⟨m3, q3, _, ⟨m4, q4, _, ⟨m5, q5, _, ⟨m6, q6, _, ⟨m7, q7, _, ⟨m8, q8, _, -, -⟩, -⟩, -⟩, -⟩, -⟩, -⟩, -⟩, -⟩, -⟩ := k7
      obtain ⟨n7, e7, -, w7⟩ := keyLits_int_inv q1
      obtain ⟨n8, e8, -, w8⟩ := keyLits_int_inv q2
      obtain ⟨n9, e9, -, w9⟩ := keyLits_int_inv q3
      obtain ⟨n10, e10, -, w10⟩ := keyLits_int_inv q4
      obtain ⟨n11, e11, -, w11⟩ := keyLits_int_inv q5
      obtain ⟨n12, e12, -, w12⟩ := keyLits_int_inv q6
      obtain ⟨n13, e13, -, w13⟩ := keyLits_int_inv q7
      obtain ⟨n14, e14, -, w14⟩ := keyLits_int_inv q8
      simp only [List.cons.injEq, and_true] at e1 e2 e3 e4 e5 e6 e7 e8 e9 e10 e11 e12 e13 e14
      subst e1 e2 e3 e4 e5 e6 e7 e8 e9 e10 e11 e12 e13 e14
      refine ⟨⟨n1, n2, n3, n4, n5, n6, n7, n8, n9, n10, n11, n12, n13, n14⟩, ?_, rfl⟩
      intro n hn
      simp only [Rc.flds, List.mem_cons, List.not_mem_nil, or_false] at hn
      rcases hn with rfl | rfl | rfl | rfl | rfl | rfl | rfl | rfl | rfl | rfl | rfl | rfl | rfl | rfl <;> assumption
    · cases k7
  · cases h

theorem rc_formed (r : Rc) : (rcV r).formed Tryz.prog 82 = true := by
  unfold rcV Value.formed
  simp only [Tryz.underlying82, rc_cells]
  rfl
theorem keyOf_rc (r : Rc) (h : RcW r) : keyOf Tryz.prog 82 (rcV r) = some (rcL r) := by
  obtain ⟨n, hn⟩ := types_size
  have hl := rc_lits h (d := n + 2)
  unfold keyOf
  simp only [Tryz.underlying82, rc_keyType, rc_formed, Bool.and_self, if_true, hn]
  show (Tryz.prog.keyLits (n + 4 + 1) 82 (rcC r)).map _ = _
  rw [show n + 4 + 1 = n + 2 + 3 by omega, hl]
  rfl
theorem formed_agg {P : Program} {t : TypeId} {v : Value} (h : v.formed P t = true) {fs : Array Field} (hs : P.underlying t = some (.struct fs)) : ∃ cs, v = .agg cs := by
  cases v
  case agg cs => exact ⟨cs, rfl⟩
  all_goals (exfalso; unfold Value.formed at h; first | (simp only [hs] at h; cases h) | cases h)
theorem keyOf_rc_inv (v : Value) (l : Lit) (h : keyOf Tryz.prog 82 v = some l) : ∃ r, RcW r ∧ v = rcV r := by
  obtain ⟨n, hn⟩ := types_size
  unfold keyOf at h
  simp only [Tryz.underlying82, rc_keyType, Bool.true_and, hn] at h
  split at h
  · rename_i hf
    obtain ⟨cs, rfl⟩ := formed_agg hf Tryz.underlying82
    obtain ⟨ls, hl, -⟩ := Option.map_eq_some_iff.1 h
    rw [show n + 4 + 1 = n + 2 + 3 by omega] at hl
    obtain ⟨r, hr, e⟩ := rc_lits_inv hl
    refine ⟨r, hr, ?_⟩
    change cs.toList = rcC r at e
    exact congrArg Value.agg (Array.toList_inj.1 (show cs.toList = (rcA r).toList from e))
  · cases h
theorem rcV_inj (a b : Rc) (h : rcV a = rcV b) : a = b := by
  unfold rcV rcA at h
  cases a; cases b
  simp only [Value.agg.injEq, Array.mk.injEq, List.cons.injEq, Value.int.injEq, true_and, and_true] at h
  simp only [Rc.mk.injEq]
  exact h
/-- Records as keys. -/
def recK : KeyEnc Tryz.prog 82 Rc := ⟨RcW, rcV, rcL, rc_law, keyOf_rc, keyOf_rc_inv, rcV_inj⟩
/-- Numbers as keys. -/
def intK : KeyEnc Tryz.prog 3 Int := ⟨I64, .int .i64, .int .i64, Maps.int_keyed Tryz.underlying3, fun a h => Maps.keyOf_int_mk (q := .i64) Tryz.underlying3 (i64_of h), fun v l h => by
  obtain ⟨x, h1, -, h3⟩ := Maps.keyOf_int_inv Tryz.underlying3 h
  exact ⟨x, i64_inv h3, h1⟩, fun a b h => by cases h; rfl⟩

/-! ### A sign and a field as a key -/
def csV (c : Int × Int) : Value := .agg #[.int .i64 c.1, .int .i64 c.2]
def CsW (c : Int × Int) : Prop := I64 c.1 ∧ I64 c.2
def csL (c : Int × Int) : Lit := .string (keyBytes [.int .i64 c.1, .int .i64 c.2])
theorem cs_deep : Tryz.prog.keyTypeAt 4 116 = true := by kernel_rfl
theorem cs_tiled : Tryz.prog.tiled 4 116 = true := by kernel_rfl
theorem cs_wide : (match Tryz.prog.underlying 116 with | some (.array _ _) | some (.struct _) => true | _ => false) = true := by kernel_rfl
set_option maxRecDepth 100000 in
theorem cs_law : Maps.Keyed Tryz.prog 116 := .of_law (deep_law (m := 4) (show (4 : Nat) + 1 ≤ 10000 by omega) cs_deep cs_tiled cs_wide)
theorem cs_keyType : Tryz.prog.keyType 116 = true := by kernel_rfl
theorem cs_cells : Tryz.prog.cellsOf 116 = 2 := by kernel_rfl
theorem cs_lits {c : Int × Int} (h : CsW c) {d : Nat} : Tryz.prog.keyLits (d + 2) 116 [.int .i64 c.1, .int .i64 c.2] = some [.int .i64 c.1, .int .i64 c.2] := by
  have e1 : ∀ d, Tryz.prog.keyLits (d + 1) 3 [.int .i64 c.1] = some [.int .i64 c.1] := fun d => keyLits_int h.1
  have e2 : ∀ d, Tryz.prog.keyLits (d + 1) 3 [.int .i64 c.2] = some [.int .i64 c.2] := fun d => keyLits_int h.2
  unfold Program.keyLits
  simp only [Tryz.underlying116]
  simp [cs_cells, int_cells, e1, e2]
theorem list2 {α : Type} {l : List α} (h : l.length = 2) : ∃ a b, l = [a, b] := by
  match l, h with
  | [a, b], _ => exact ⟨_, _, rfl⟩
theorem cs_lits_inv {cs : List Value} {l : List Lit} {d : Nat} (h : Tryz.prog.keyLits (d + 2) 116 cs = some l) : ∃ c, CsW c ∧ cs = [.int .i64 c.1, .int .i64 c.2] := by
  unfold Program.keyLits at h
  simp only [Tryz.underlying116] at h
  split at h
  · rename_i h2
    rw [cs_cells] at h2
    obtain ⟨a, b, rfl⟩ := list2 h2.1
    simp only [List.mapM_cons, List.mapM_nil, int_cells, List.drop_zero, List.drop_succ_cons, List.take_succ_cons, List.take_zero, Option.map_eq_some_iff, Option.bind_eq_bind, Option.bind_eq_some_iff, Option.pure_def, Option.some.injEq] at h
    obtain ⟨_, ⟨l1, k1, _, ⟨l2, k2, _, -, -⟩, -⟩, -⟩ := h
    obtain ⟨n1, e1, -, w1⟩ := keyLits_int_inv k1
    obtain ⟨n2, e2, -, w2⟩ := keyLits_int_inv k2
    simp only [List.cons.injEq, and_true] at e1 e2
    subst e1 e2
    exact ⟨(n1, n2), ⟨w1, w2⟩, rfl⟩
  · cases h
theorem cs_formed (c : Int × Int) : (csV c).formed Tryz.prog 116 = true := by
  unfold csV Value.formed
  simp only [Tryz.underlying116, cs_cells]
  rfl
theorem keyOf_cs (c : Int × Int) (h : CsW c) : keyOf Tryz.prog 116 (csV c) = some (csL c) := by
  obtain ⟨n, hn⟩ := types_size
  have hl := cs_lits h (d := n + 3)
  unfold keyOf
  simp only [Tryz.underlying116, cs_keyType, cs_formed, Bool.and_self, if_true, hn]
  show (Tryz.prog.keyLits (n + 4 + 1) 116 [.int .i64 c.1, .int .i64 c.2]).map _ = _
  rw [show n + 4 + 1 = n + 3 + 2 by omega, hl]
  rfl
theorem keyOf_cs_inv (v : Value) (l : Lit) (h : keyOf Tryz.prog 116 v = some l) : ∃ c, CsW c ∧ v = csV c := by
  obtain ⟨n, hn⟩ := types_size
  unfold keyOf at h
  simp only [Tryz.underlying116, cs_keyType, Bool.true_and, hn] at h
  split at h
  · rename_i hf
    obtain ⟨cs, rfl⟩ := formed_agg hf Tryz.underlying116
    obtain ⟨ls, hl, -⟩ := Option.map_eq_some_iff.1 h
    rw [show n + 4 + 1 = n + 3 + 2 by omega] at hl
    obtain ⟨c, hc, e⟩ := cs_lits_inv hl
    refine ⟨c, hc, ?_⟩
    change cs.toList = _ at e
    exact congrArg Value.agg (Array.toList_inj.1 (show cs.toList = (#[.int .i64 c.1, .int .i64 c.2] : Array Value).toList from e))
  · cases h
theorem csV_inj (a b : Int × Int) (h : csV a = csV b) : a = b := by
  unfold csV at h
  simp only [Value.agg.injEq, Array.mk.injEq, List.cons.injEq, Value.int.injEq, true_and, and_true] at h
  exact Prod.ext h.1 h.2
def caseK : KeyEnc Tryz.prog 116 (Int × Int) := ⟨CsW, csV, csL, cs_law, keyOf_cs, keyOf_cs_inv, csV_inj⟩

/-! ### Sets of records -/
def setE (S : List Rc) : List (Rc × Value) := S.map fun r => (r, .bool true)
theorem keysE_setE (S : List Rc) : keysE (setE S) = S := by
  unfold keysE setE
  rw [List.map_map]
  exact List.map_id _
/-- Block m is a set of records. -/
def RSet (w : World) (m : Nat) (S : List Rc) : Prop := GMap recK w m (setE S)
theorem RSet.nodup {w : World} {m : Nat} {S : List Rc} (h : RSet w m S) : S.Nodup := by have := GMap.nodup h; rwa [keysE_setE] at this
theorem RSet.perm {w : World} {m : Nat} {S T : List Rc} (h : RSet w m S) (hp : S.Perm T) : RSet w m T := GMap.perm h (hp.map _)
theorem get_setE (S : List Rc) (r : Rc) : getE (setE S) r = if r ∈ S then some (.bool true) else none := by
  cases hg : getE (setE S) r with
  | none =>
    have := getE_none.1 hg
    rw [keysE_setE] at this
    rw [if_neg this]
  | some v =>
    have := getE_some hg
    unfold setE at this
    obtain ⟨q, hq, e⟩ := List.mem_map.1 this
    cases e
    rw [if_pos hq]
theorem put_setE (S : List Rc) (r : Rc) : putE (setE S) r (.bool true) = setE (S.filter (fun q => !decide (q = r)) ++ [r]) := by
  simp [putE, setE, List.filter_map, Function.comp_def]
theorem del_setE (S : List Rc) (r : Rc) : delE (setE S) r = setE (S.filter (fun q => !decide (q = r))) := by
  simp [delE, setE, List.filter_map, Function.comp_def]

end Go.Proofs.YtegghimjmbgghaaGreat
