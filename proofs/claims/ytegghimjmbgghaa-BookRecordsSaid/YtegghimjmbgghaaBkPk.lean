/-
  Pack, of the reference.
-/
import Derived.Test.YtegghimjmbgghaaBkNb
set_option linter.unusedSimpArgs false
set_option linter.unusedVariables false
namespace Go.Proofs.Ytegghimjmbgghaa
open Go.RowKit Go.Shelf

/-! ### Plain -/
def packH (r : Rc) : List UInt8 := [UInt8.ofNat r.tab.toNat] ++ numBs 4 r.num.toNat ++ numBs 4 r.hour.toNat ++ numBs 4 r.sign.toNat ++ [UInt8.ofNat r.fld.toNat] ++ numBs 8 (r.val + 1099511627776).toNat
def packS (r : Rc) : Nat → List UInt8
  | 0 => packH r
  | k + 1 => packS r k ++ numBs 4 (r.sn k).toNat
theorem packS_len (r : Rc) : ∀ k, (packS r k).length = 22 + 4 * k
  | 0 => by simp [packS, packH, numBs_len]
  | k + 1 => by rw [packS, List.length_append, packS_len r k, numBs_len]; omega
def packL (r : Rc) : List UInt8 := if rcB r = true then packS r 8 else []
def packE (r : Rc) : Int := if rcB r = true then 0 else 90
theorem u8_of {x : Int} (h : 0 ≤ x) : IntKind.u8.wrap x = ((UInt8.ofNat x.toNat).toNat : Int) := by
  have e : ((UInt8.ofNat x.toNat).toNat : Int) = x % 256 := by
    simp
    omega
  rw [e]
  simp [IntKind.wrap, IntKind.signed, IntKind.bits]
theorem own_one (w : World) (v : Value) (t : TypeId) : (w.alloc (.cells #[v] t)).ownsRow w.heap.size t 1 (.slice (some ⟨w.heap.size, 0, none⟩) 1 1) 1 [v] :=
  ⟨rfl, Or.inr ⟨w.heap.size, 1, #[v], rfl, Nat.le_refl _, heap_alloc_new _ _, Nat.le_refl _, by unfold maxLen; omega, rfl, rfl⟩⟩
theorem NumI.trans {wS w w' : World} {base : Nat} {l l' : List UInt8} {v v' : Value} (h : NumI wS base l v w) (h' : NumI w base l' v' w') : NumI wS base l' v' w' := ⟨h'.own, h.b.trans h'.b⟩
theorem rnumber_at (n : Nat) (ni : Int) (hni : ni = (n : Int)) (x : Int) (hx : 0 ≤ x ∧ x < 9223372036854775808) (hn : n ≤ 8) {wS : World} {base : Nat} {l : List UInt8} {u : Value} (w : World) (h : NumI wS base l u w) (hl : l.length ≤ 1000000) (hbs : base ≤ wS.heap.size) :
    Calls Try.prog 79 #[u, .int .i64 x, .int .i64 ni] w fun e w' => ∃ u', e = .returned u' ∧ NumI wS base (l ++ numBs n x.toNat) u' w' := by
  subst hni
  have := rnumber_calls n x.toNat hn (by omega) w h.own hl (Nat.le_trans hbs h.b.size)
  rw [Int.toNat_of_nonneg hx.1] at this
  exact this.mono fun e w' ⟨u', h1, h2⟩ => ⟨u', h1, h.trans h2⟩
theorem number_at (n : Nat) (ni : Int) (hni : ni = (n : Int)) (x : Int) (hx : 0 ≤ x ∧ x < 9223372036854775808) (hn : n ≤ 8) {wS : World} {base : Nat} {l : List UInt8} {u : Value} (w : World) (h : NumI wS base l u w) (hl : l.length ≤ 1000000) (hbs : base ≤ wS.heap.size) :
    Calls Try.prog 78 #[u, .int .i64 ni, .int .u64 x] w fun e w' => ∃ u', e = .returned u' ∧ NumI wS base (l ++ numBs n x.toNat) u' w' := by
  subst hni
  have := number_calls n x.toNat hn (by omega) w h.own hl (Nat.le_trans hbs h.b.size)
  rw [Int.toNat_of_nonneg hx.1] at this
  exact this.mono fun e w' ⟨u', h1, h2⟩ => ⟨u', h1, h.trans h2⟩

def PackPost (w : World) (r : Rc) (e : Ending) (w' : World) : Prop :=
  ∃ v, e = .returned (.tuple #[v, .int .i64 (packE r)]) ∧ w'.ownsRow w.heap.size 5 1 v (packL r).length (bys (packL r)) ∧ Below w.heap.size w w'

set_option maxHeartbeats 4000000 in
set_option maxRecDepth 100000 in
theorem rpack_calls (r : Rc) (w : World) : Calls Try.prog 41 #[rcV r] w fun e w' => PackPost w r e w' := by
  obtain ⟨i0, hi, hz0, hz1, hz2⟩ := info_parts info_u8
  have HB := hid (below_alloc w (.cells (rcA r) 33))
  have HX := hid (RcAt.new w r)
  show Calls Try.prog 41 #[.agg #[.int .i64 r.tab, .int .i64 r.num, .int .i64 r.hour, .int .i64 r.sign, .int .i64 r.fld, .int .i64 r.val, .int .i64 r.s0, .int .i64 r.s1, .int .i64 r.s2, .int .i64 r.s3, .int .i64 r.s4, .int .i64 r.s5, .int .i64 r.s6, .int .i64 r.s7]] w _
  go_enter Try.func41, Try.ntmps41
  go_upto_region 1 with (fail)
  change Code.wp _ _ _ _ (w.alloc (.cells (rcA r) 33))
  obtain ⟨X, hX⟩ : ∃ X, X = w.heap.size := ⟨_, rfl⟩
  rw [← hX] at HX ⊢
  have HXE := hid hX
  clear hX
  generalize w.alloc (.cells (rcA r) 33) = W at *
  obtain ⟨c0, c1, c2, c3, c4, c5⟩ := (unhid HX).cells
  obtain ⟨e0, e1, e2, e3, e4, e5, e6, e7⟩ := (unhid HX).seen8
  go_wp2_with fail
  refine (rvalid_calls r W).mono ?_
  rintro e W2 ⟨rfl, hb2⟩
  have HB := hid ((unhid HB).trans (hb2.mono (unhid HB).size))
  have HX := hid ((unhid HX).below hb2 (unhid HX).lt)
  clear c0 c1 c2 c3 c4 c5 e0 e1 e2 e3 e4 e5 e6 e7 hb2
  cases hv : rcB r with
  | false =>
    have HP := hid (show PackPost w r (.returned (.tuple #[.slice none 0 0, .int .i64 90])) W2 from ⟨.slice none 0 0, by simp [packE, hv], by simp only [packL, hv, Bool.false_eq_true, if_false]; exact World.ownsRow_nil _ _ _ _, unhid HB⟩)
    clear hv
    go_wp2_with fail
    go_ret2
    exact unhid HP
  | true =>
    have HOK := hid (rc_ok hv)
    have HPE := hid (⟨by simp [packE, hv], by simp [packL, hv]⟩ : packE r = 0 ∧ packL r = packS r 8)
    clear hv
    obtain ⟨tb, htb⟩ : ∃ tb, tb = UInt8.ofNat r.tab.toNat := ⟨_, rfl⟩
    obtain ⟨fb, hfb⟩ : ∃ fb, fb = UInt8.ofNat r.fld.toNat := ⟨_, rfl⟩
    have htab : IntKind.u8.wrap r.tab = (tb.toNat : Int) := by rw [htb]; exact u8_of (by have := (unhid HOK).tab; omega)
    have hfld : IntKind.u8.wrap r.fld = (fb.toNat : Int) := by rw [hfb]; exact u8_of (by have := (unhid HOK).fld; omega)
    have HTB := hid (⟨htb, hfb⟩ : tb = UInt8.ofNat r.tab.toNat ∧ fb = UInt8.ofNat r.fld.toNat)
    clear htb hfb
    have hval : IntKind.i64.wrap (r.val + 1099511627776) = r.val + 1099511627776 := wrap_s64 (by have := (unhid HOK).val; omega) (by have := (unhid HOK).val; omega)
    have hval' : wrap64 (r.val + 1099511627776) = r.val + 1099511627776 := by have := (unhid HOK).val; unfold wrap64; omega
    obtain ⟨c0, c1, c2, c3, c4, c5⟩ := (unhid HX).cells
    go_upto_region 4 with (fail)
    have HN := hid (show NumI W2 W2.heap.size [tb] (.slice (some ⟨W2.heap.size, 0, none⟩) 1 1) (W2.alloc (.cells #[.int .u8 (tb.toNat : Int)] 5)) from ⟨own_one W2 _ 5, below_alloc W2 _⟩)
    obtain ⟨l0, hl0⟩ : ∃ l0, l0 = [tb] := ⟨_, rfl⟩
    obtain ⟨u0, hu0⟩ : ∃ u0, u0 = Value.slice (some ⟨W2.heap.size, 0, none⟩) 1 1 := ⟨_, rfl⟩
    rw [← hl0, ← hu0] at HN
    rw [← hu0]
    have HL0 := hid (⟨hl0, by rw [hl0]; rfl⟩ : l0 = [tb] ∧ l0.length = 1)
    clear hl0 hu0 c0 c1 c2 c3 c4 c5 htab
    generalize W2.alloc (.cells #[.int .u8 (tb.toNat : Int)] 5) = V0 at *
    have c1 := ((unhid HX).below (unhid HN).b (unhid HX).lt).cells.2.1
    go_wp2_with fail
    refine (rnumber_at 4 4 rfl r.num (by have := (unhid HOK).num; omega) (by omega) V0 (unhid HN) (by have := (unhid HL0).2; omega) (Nat.le_refl _)).mono ?_
    rintro e V1 ⟨u1, rfl, hN⟩
    clear c1 HN
    obtain ⟨l1, hl1⟩ : ∃ l1, l1 = l0 ++ numBs 4 (r.num).toNat := ⟨_, rfl⟩
    have HL1 := hid (⟨hl1, by rw [hl1, List.length_append, numBs_len, (unhid HL0).2]⟩ : l1 = l0 ++ numBs 4 (r.num).toNat ∧ l1.length = _)
    rw [← hl1] at hN
    have HN := hid hN
    clear hN hl1
    have c2 := ((unhid HX).below (unhid HN).b (unhid HX).lt).cells.2.2.1
    go_wp2_with fail
    refine (rnumber_at 4 4 rfl r.hour (by have := (unhid HOK).hour; omega) (by omega) V1 (unhid HN) (by have := (unhid HL1).2; omega) (Nat.le_refl _)).mono ?_
    rintro e V2 ⟨u2, rfl, hN⟩
    clear c2 HN
    obtain ⟨l2, hl2⟩ : ∃ l2, l2 = l1 ++ numBs 4 (r.hour).toNat := ⟨_, rfl⟩
    have HL2 := hid (⟨hl2, by rw [hl2, List.length_append, numBs_len, (unhid HL1).2]⟩ : l2 = l1 ++ numBs 4 (r.hour).toNat ∧ l2.length = _)
    rw [← hl2] at hN
    have HN := hid hN
    clear hN hl2
    have c3 := ((unhid HX).below (unhid HN).b (unhid HX).lt).cells.2.2.2.1
    go_wp2_with fail
    refine (rnumber_at 4 4 rfl r.sign (by have := (unhid HOK).sign; omega) (by omega) V2 (unhid HN) (by have := (unhid HL2).2; omega) (Nat.le_refl _)).mono ?_
    rintro e V3 ⟨u3, rfl, hN⟩
    clear c3 HN
    obtain ⟨l3, hl3⟩ : ∃ l3, l3 = l2 ++ numBs 4 (r.sign).toNat := ⟨_, rfl⟩
    have HL3 := hid (⟨hl3, by rw [hl3, List.length_append, numBs_len, (unhid HL2).2]⟩ : l3 = l2 ++ numBs 4 (r.sign).toNat ∧ l3.length = _)
    rw [← hl3] at hN
    have HN := hid hN
    clear hN hl3
    have c4 := ((unhid HX).below (unhid HN).b (unhid HX).lt).cells.2.2.2.2.1
    have hy := (unhid HN).own
    have hlc := (unhid HL3).2
    have hsz := (unhid HN).b.size
    go_upto_region 8 with (at_builtin; refine wpList_append_own _ rfl _ _ 43 rfl W2.heap.size 5 i0 (.int .u8 0) 1 1 Try.underlying43 hi hz0 hz1 hz2 rfl (by decide) _ _ _ rfl (hy.alloc _) ⟨V3.heap.size, 0, none⟩ 1 1 [.int .u8 (fb.toNat : Int)] rfl rfl (byt_news V3 _) (by simp [Value.oneCell']) (by unfold maxLen; omega) (by omega) (by simp; omega) ?_; intro u4 V4 hown' hgrow hnil)
    have HN2 := hid ((unhid HN).push (Nat.le_refl _) (x := fb) hown' hgrow)
    clear hy hlc hsz hown' hgrow hnil c4 HN hfld
    obtain ⟨l4, hl4⟩ : ∃ l4, l4 = l3 ++ [fb] := ⟨_, rfl⟩
    have HL4 := hid (⟨hl4, by rw [hl4, List.length_append, (unhid HL3).2]; rfl⟩ : l4 = l3 ++ [fb] ∧ l4.length = 1 + 4 + 4 + 4 + 1)
    rw [← hl4] at HN2
    have HN := HN2
    clear hl4 HN2
    have c5 := ((unhid HX).below (unhid HN).b (unhid HX).lt).cells.2.2.2.2.2
    go_wp2_with fail
    refine (rnumber_at 8 8 rfl (r.val + 1099511627776) (by have := (unhid HOK).val; omega) (by omega) V4 (unhid HN) (by have := (unhid HL4).2; omega) (Nat.le_refl _)).mono ?_
    rintro e V5 ⟨u5, rfl, hN⟩
    clear c5 HN
    obtain ⟨l5, hl5⟩ : ∃ l5, l5 = l4 ++ numBs 8 ((r.val + 1099511627776)).toNat := ⟨_, rfl⟩
    have HL5 := hid (⟨hl5, by rw [hl5, List.length_append, numBs_len, (unhid HL4).2]⟩ : l5 = l4 ++ numBs 8 ((r.val + 1099511627776)).toNat ∧ l5.length = _)
    rw [← hl5] at hN
    have HN := hid hN
    clear hN hl5
    have HLP := hid (show l5 = packS r 0 from by rw [(unhid HL5).1, (unhid HL4).1, (unhid HL3).1, (unhid HL2).1, (unhid HL1).1, (unhid HL0).1, (unhid HTB).1, (unhid HTB).2]; rfl)
    clear HL0 HL1 HL2 HL3 HL4 HL5 hval hval'
    have HN2 := hid (show NumI W2 W2.heap.size (packS r 0) u5 V5 from by rw [← unhid HLP]; exact unhid HN)
    clear HN HLP
    go_upto_region 10 with (fail)
    go_loopw [5, 4] (fun kv uv wr => ∃ k : Nat, k ≤ 8 ∧ kv = .int .i64 k ∧ NumI W2 W2.heap.size (packS r k) uv wr) (fun kv _ _ => 8 - (intOf kv).toNat)
    case atStart => exact ⟨0, by omega, rfl, unhid HN2⟩
    case round =>
      obtain ⟨k, hk, rfl, hI⟩ := hrel
      have HI := hid hI
      clear hI
      by_cases hlt : k < 8
      · have hki : (k : Int) < 8 := by omega
        have hse := ((unhid HX).below (unhid HI).b (unhid HX).lt).seen hlt
        have HSB := hid (show 0 ≤ r.sn k ∧ r.sn k < 9223372036854775808 from by have := (unhid HOK).seen k hlt; omega)
        go_wp2_with (go_at_call 79; refine (rnumber_at 4 4 rfl (r.sn k) (unhid HSB) (by omega) _ (unhid HI) (by rw [packS_len]; omega) (Nat.le_refl _)).mono ?_; rintro e V6 ⟨u6, rfl, hN⟩; have HN3 := hid hN; clear hN)
        go_roundw
        case rel => exact ⟨k + 1, by omega, by go_num, unhid HN3⟩
        case measure => simp [intOf]; omega
      · obtain rfl : k = 8 := by omega
        have HP := hid (fun uv (h : NumI W2 W2.heap.size (packS r 8) uv wr) => (show PackPost w r (.returned (.tuple #[uv, .int .i64 0])) wr from ⟨uv, by rw [(unhid HPE).1], by rw [(unhid HPE).2]; exact own_base h.own (unhid HB).size, (unhid HB).trans (h.b.mono (unhid HB).size)⟩))
        go_wp2_with fail
        go_ret2
        exact unhid HP _ (unhid HI)

end Go.Proofs.Ytegghimjmbgghaa
