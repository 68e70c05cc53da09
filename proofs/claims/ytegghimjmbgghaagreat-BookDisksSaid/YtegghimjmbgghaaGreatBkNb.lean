/-
  Bytes out of numbers: number, of both packages.
-/
import Derived.Test.YtegghimjmbgghaaGreatBkV
set_option linter.unusedSimpArgs false
set_option linter.unusedVariables false
namespace Go.Proofs.YtegghimjmbgghaaGreat
open Go.RowKit Go.Shelf

/-! ### Plain -/
def byt (v k : Nat) : UInt8 := UInt8.ofNat (v / 2 ^ (8 * k))
theorem byt_nat (v k : Nat) : (byt v k).toNat = v / 2 ^ (8 * k) % 256 := by simp [byt]
/-- The bytes n - 1 down to k of a number. -/
def numT (n v k : Nat) : List UInt8 := (List.range (n - k)).map fun j => byt v (n - 1 - j)
def numBs (n v : Nat) : List UInt8 := numT n v 0
theorem numT_none (n v : Nat) : numT n v n = [] := by simp [numT]
theorem numT_step {n v k : Nat} (h : k < n) : numT n v k = numT n v (k + 1) ++ [byt v k] := by
  unfold numT
  rw [show n - k = (n - (k + 1)) + 1 by omega, List.range_succ, List.map_append]
  simp only [List.map_cons, List.map_nil]
  rw [show n - 1 - (n - (k + 1)) = k by omega]
theorem numT_len (n v k : Nat) : (numT n v k).length = n - k := by simp [numT]
theorem numBs_len (n v : Nat) : (numBs n v).length = n := by simp [numBs, numT_len]
theorem numV_numT {n v : Nat} : ∀ k, k ≤ n → v < 256 ^ n → numV (numT n v (n - k)) = v / 2 ^ (8 * (n - k)) := by
  intro k
  induction k with
  | zero =>
    intro _ hv
    rw [Nat.sub_zero, numT_none]
    rw [show (256 : Nat) = 2 ^ 8 from rfl, ← Nat.pow_mul] at hv
    rw [Nat.div_eq_of_lt hv]
    rfl
  | succ k ih =>
    intro hk hv
    have h1 : n - (k + 1) < n := by omega
    rw [numT_step h1, show n - (k + 1) + 1 = n - k by omega, numV_snoc, ih (by omega) hv, byt_nat]
    rw [show 8 * (n - k) = 8 * (n - (k + 1)) + 8 by omega, Nat.pow_add, ← Nat.div_div_eq_div_mul]
    omega
theorem numV_numBs {n v : Nat} (hv : v < 256 ^ n) : numV (numBs n v) = v := by
  have := numV_numT (n := n) (v := v) n (Nat.le_refl _) hv
  rw [Nat.sub_self, Nat.mul_zero, Nat.pow_zero, Nat.div_one] at this
  exact this
theorem bys_append (l m : List UInt8) : bys (l ++ m) = bys l ++ bys m := by simp [bys]
theorem info_u8 : (Tryz.prog.info? 5).map (fun i => (i.zero, i.size, i.bytes)) = some (some (.int .u8 0), 1, 1) := by kernel_rfl
theorem byt_news (W : World) (x : Int) : ∀ j u, ([Value.int .u8 x])[j]? = some u → (W.alloc (.cells #[.int .u8 x] 5)).cell? ((⟨W.heap.size, 0, none⟩ : Addr).add j) = some u := by
  intro j u hu
  rw [add_at, Nat.zero_add, cell_of_row _ _ j _ _ _ (heap_alloc_new W (.cells #[.int .u8 x] 5)), ← hu, ← Array.getElem?_toList]
theorem byt_wrap (v k : Nat) : IntKind.u8.wrap ((v : Int) / 2 ^ (8 * k)) = ((byt v k).toNat : Int) := by
  rw [byt_nat]
  have e : ((v : Int) / 2 ^ (8 * k)) = ((v / 2 ^ (8 * k) : Nat) : Int) := by
    rw [Int.natCast_ediv]
    congr 1
  rw [e]
  simp [IntKind.wrap, IntKind.signed, IntKind.bits]

/-- A row of bytes that grows. -/
structure NumI (wS : World) (base : Nat) (l : List UInt8) (v : Value) (w : World) : Prop where
  own : w.ownsRow base 5 1 v l.length (bys l)
  b : Below base wS w
theorem NumI.push {wS w w' : World} {base : Nat} {l : List UInt8} {x : UInt8} {v v' : Value} {tmp : Obj} (h : NumI wS base l v w) (hbs : base ≤ wS.heap.size) (hown : w'.ownsRow base 5 1 v' (l.length + 1) (bys l ++ [.int .u8 (x.toNat : Int)])) (hg : (w.alloc tmp).grownBy w' v.ownBlock) : NumI wS base (l ++ [x]) v' w' := by
  refine ⟨?_, ?_⟩
  · rw [List.length_append, bys_append]; exact hown
  · have b1 := h.b.alloc (Nat.le_trans hbs h.b.size) tmp
    exact b1.grown hg (Nat.le_trans hbs b1.size) (fun j hj => (own_block_lt h.own hj).1)

set_option maxHeartbeats 4000000 in
set_option maxRecDepth 100000 in
theorem number_calls (n v : Nat) (hn : n ≤ 8) (hv : v < 2 ^ 64) {base : Nat} {l : List UInt8} {u : Value} (w : World) (h : w.ownsRow base 5 1 u l.length (bys l)) (hl : l.length ≤ 1000000) (hbs : base ≤ w.heap.size) :
    Calls Tryz.prog 107 #[u, .int .i64 n, .int .u64 v] w fun e w' => ∃ u', e = .returned u' ∧ NumI w base (l ++ numBs n v) u' w' := by
  obtain ⟨i0, hi, hz0, hz1, hz2⟩ := info_parts info_u8
  have HI := hid (⟨by rw [numT_none, List.append_nil]; exact h, Below.refl _ _⟩ : NumI w base (l ++ numT n v n) u w)
  clear h
  go_enter Tryz.func107, Tryz.ntmps107
  go_upto_region 1 with (fail)
  go_loopw [1, 0] (fun kv uv wr => ∃ k : Nat, k ≤ n ∧ kv = .int .i64 k ∧ NumI w base (l ++ numT n v k) uv wr) (fun kv _ _ => (intOf kv).toNat)
  case atStart => exact ⟨n, Nat.le_refl _, rfl, unhid HI⟩
  case round =>
    obtain ⟨k, hk, rfl, hI⟩ := hrel
    have HI := hid hI
    clear hI
    cases k with
    | zero =>
      go_wp2_with fail
      go_ret
      exact ⟨_, rfl, unhid HI⟩
    | succ m =>
      have hmi : (0 : Int) < (m : Int) + 1 := by omega
      have h8 : IntKind.u64.wrap (8 * (m : Int)) = 8 * (m : Int) := wrap_u64 (by omega) (by omega)
      have hsh : (8 * (m : Int)).toNat = 8 * m := by omega
      have hbw := byt_wrap v m
      have hy := (unhid HI).own
      have hlc : (l ++ numT n v (m + 1)).length ≤ 1000010 := by rw [List.length_append, numT_len]; omega
      have hsz := (unhid HI).b.size
      go_wp2_with (at_builtin; refine wpList_append_own _ rfl _ _ 52 rfl base 5 i0 (.int .u8 0) 1 1 Tryz.underlying52 hi hz0 hz1 hz2 rfl (by decide) _ _ _ rfl (hy.alloc _) ⟨wr.heap.size, 0, none⟩ 1 1 [.int .u8 ((byt v m).toNat : Int)] rfl rfl (byt_news wr _) (by simp [Value.oneCell']) (by unfold maxLen; omega) (by omega) (by simp; omega) ?_; intro v' w6 hown' hgrow hnil)
      have HN := hid (show NumI w base (l ++ numT n v m) v' w6 from by
        have h := (unhid HI).push hbs (x := byt v m) hown' hgrow
        rwa [List.append_assoc, ← numT_step (by omega)] at h)
      clear hy hlc hsz hown' hgrow hnil
      go_wp2_with fail
      go_roundw
      case rel => exact ⟨m, by omega, rfl, unhid HN⟩
      case measure => simp [intOf]

set_option maxHeartbeats 4000000 in
set_option maxRecDepth 100000 in
theorem rnumber_calls (n v : Nat) (hn : n ≤ 8) (hv : v < 2 ^ 63) {base : Nat} {l : List UInt8} {u : Value} (w : World) (h : w.ownsRow base 5 1 u l.length (bys l)) (hl : l.length ≤ 1000000) (hbs : base ≤ w.heap.size) :
    Calls Tryz.prog 108 #[u, .int .i64 v, .int .i64 n] w fun e w' => ∃ u', e = .returned u' ∧ NumI w base (l ++ numBs n v) u' w' := by
  obtain ⟨i0, hi, hz0, hz1, hz2⟩ := info_parts info_u8
  have HI := hid (⟨by rw [numT_none, List.append_nil]; exact h, Below.refl _ _⟩ : NumI w base (l ++ numT n v n) u w)
  clear h
  go_enter Tryz.func108, Tryz.ntmps108
  go_upto_region 2 with (fail)
  go_loopw [7, 0] (fun kv uv wr => ∃ k : Nat, k ≤ n ∧ kv = .int .i64 ((k : Int) - 1) ∧ NumI w base (l ++ numT n v k) uv wr) (fun kv _ _ => (intOf kv + 1).toNat)
  case atStart => exact ⟨n, Nat.le_refl _, rfl, unhid HI⟩
  case round =>
    obtain ⟨k, hk, rfl, hI⟩ := hrel
    have HI := hid hI
    clear hI
    cases k with
    | zero =>
      rw [show ((0 : Nat) : Int) - 1 = -1 from rfl]
      go_wp2_with fail
      go_ret
      exact ⟨_, rfl, unhid HI⟩
    | succ m =>
      rw [show ((m + 1 : Nat) : Int) - 1 = (m : Int) by omega]
      have hm0 : (0 : Int) ≤ (m : Int) := by omega
      have h80 : (0 : Int) ≤ 8 * (m : Int) := by omega
      have hsh : (8 * (m : Int)).toNat = 8 * m := by omega
      have hbw := byt_wrap v m
      have hy := (unhid HI).own
      have hlc : (l ++ numT n v (m + 1)).length ≤ 1000010 := by rw [List.length_append, numT_len]; omega
      have hsz := (unhid HI).b.size
      go_wp2_with (at_builtin; refine wpList_append_own _ rfl _ _ 52 rfl base 5 i0 (.int .u8 0) 1 1 Tryz.underlying52 hi hz0 hz1 hz2 rfl (by decide) _ _ _ rfl (hy.alloc _) ⟨wr.heap.size, 0, none⟩ 1 1 [.int .u8 ((byt v m).toNat : Int)] rfl rfl (byt_news wr _) (by simp [Value.oneCell']) (by unfold maxLen; omega) (by omega) (by simp; omega) ?_; intro v' w6 hown' hgrow hnil)
      have HN := hid (show NumI w base (l ++ numT n v m) v' w6 from by
        have h := (unhid HI).push hbs (x := byt v m) hown' hgrow
        rwa [List.append_assoc, ← numT_step (by omega)] at h)
      clear hy hlc hsz hown' hgrow hnil
      go_wp2_with fail
      go_roundw
      case rel => exact ⟨m, by omega, rfl, unhid HN⟩
      case measure => simp [intOf]

end Go.Proofs.YtegghimjmbgghaaGreat
