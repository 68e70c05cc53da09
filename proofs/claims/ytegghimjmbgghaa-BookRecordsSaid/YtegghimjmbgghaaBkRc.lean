/-
  What Unpack reads of what Pack wrote.
-/
import Derived.Test.YtegghimjmbgghaaBkPp
import Derived.Test.YtegghimjmbgghaaBkEq
import Derived.Test.YtegghimjmbgghaaBkO
set_option linter.unusedSimpArgs false
set_option linter.unusedVariables false
namespace Go.Proofs.Ytegghimjmbgghaa
open Go.RowKit Go.Shelf

/-! ### Plain -/
theorem nv_at {l A B C : List UInt8} (e : l = A ++ (B ++ C)) {a n : Nat} (ha : A.length = a) (hn : B.length = n) : nv l a n = numV B := by
  subst e ha hn
  simp [nv]
theorem b0_at {l A C : List UInt8} {x : UInt8} (e : l = A ++ (x :: C)) {a : Nat} (ha : A.length = a) : b0 l a = (x.toNat : Int) := by
  subst e ha
  simp [b0, List.getD]
theorem packS_all (r : Rc) : packS r 8 = [UInt8.ofNat r.tab.toNat] ++ (numBs 4 r.num.toNat ++ (numBs 4 r.hour.toNat ++ (numBs 4 r.sign.toNat ++ ([UInt8.ofNat r.fld.toNat] ++ (numBs 8 (r.val + 1099511627776).toNat ++ (numBs 4 (r.sn 0).toNat ++ (numBs 4 (r.sn 1).toNat ++ (numBs 4 (r.sn 2).toNat ++ (numBs 4 (r.sn 3).toNat ++ (numBs 4 (r.sn 4).toNat ++ (numBs 4 (r.sn 5).toNat ++ (numBs 4 (r.sn 6).toNat ++ (numBs 4 (r.sn 7).toNat))))))))))))) := by
  simp [packS, packH, List.append_assoc]
theorem num4_back {x : Int} (h : 0 ≤ x ∧ x < 4294967296) : ((numV (numBs 4 x.toNat) : Nat) : Int) = x := by
  rw [numV_numBs (by omega)]; omega
theorem byt_back {x : Int} (h : 0 ≤ x ∧ x < 256) : ((UInt8.ofNat x.toNat).toNat : Int) = x := by
  simp; omega
theorem recOf_pack {r : Rc} (h : RcOk r) : recOf (packS r 8) = r := by
  have hl := packS_all r
  have hs := h.seen
  have f0 : b0 (packS r 8) 0 = r.tab := by
    rw [b0_at (A := []) (x := UInt8.ofNat r.tab.toNat) (C := numBs 4 r.num.toNat ++ (numBs 4 r.hour.toNat ++ (numBs 4 r.sign.toNat ++ ([UInt8.ofNat r.fld.toNat] ++ (numBs 8 (r.val + 1099511627776).toNat ++ (numBs 4 (r.sn 0).toNat ++ (numBs 4 (r.sn 1).toNat ++ (numBs 4 (r.sn 2).toNat ++ (numBs 4 (r.sn 3).toNat ++ (numBs 4 (r.sn 4).toNat ++ (numBs 4 (r.sn 5).toNat ++ (numBs 4 (r.sn 6).toNat ++ (numBs 4 (r.sn 7).toNat))))))))))))) (by rw [hl] <;> simp [List.append_assoc]) (by simp [numBs_len])]
    exact byt_back (by have := h.tab; omega)
  have f1 : (nv (packS r 8) 1 4 : Int) = r.num := by
    rw [nv_at (A := [UInt8.ofNat r.tab.toNat]) (B := numBs 4 r.num.toNat) (C := numBs 4 r.hour.toNat ++ (numBs 4 r.sign.toNat ++ ([UInt8.ofNat r.fld.toNat] ++ (numBs 8 (r.val + 1099511627776).toNat ++ (numBs 4 (r.sn 0).toNat ++ (numBs 4 (r.sn 1).toNat ++ (numBs 4 (r.sn 2).toNat ++ (numBs 4 (r.sn 3).toNat ++ (numBs 4 (r.sn 4).toNat ++ (numBs 4 (r.sn 5).toNat ++ (numBs 4 (r.sn 6).toNat ++ (numBs 4 (r.sn 7).toNat)))))))))))) (by rw [hl] <;> simp [List.append_assoc]) (by simp [numBs_len]) (numBs_len _ _)]
    exact num4_back (by have := h.num; omega)
  have f2 : (nv (packS r 8) 5 4 : Int) = r.hour := by
    rw [nv_at (A := [UInt8.ofNat r.tab.toNat] ++ (numBs 4 r.num.toNat)) (B := numBs 4 r.hour.toNat) (C := numBs 4 r.sign.toNat ++ ([UInt8.ofNat r.fld.toNat] ++ (numBs 8 (r.val + 1099511627776).toNat ++ (numBs 4 (r.sn 0).toNat ++ (numBs 4 (r.sn 1).toNat ++ (numBs 4 (r.sn 2).toNat ++ (numBs 4 (r.sn 3).toNat ++ (numBs 4 (r.sn 4).toNat ++ (numBs 4 (r.sn 5).toNat ++ (numBs 4 (r.sn 6).toNat ++ (numBs 4 (r.sn 7).toNat))))))))))) (by rw [hl] <;> simp [List.append_assoc]) (by simp [numBs_len]) (numBs_len _ _)]
    exact num4_back (by have := h.hour; omega)
  have f3 : (nv (packS r 8) 9 4 : Int) = r.sign := by
    rw [nv_at (A := [UInt8.ofNat r.tab.toNat] ++ (numBs 4 r.num.toNat ++ (numBs 4 r.hour.toNat))) (B := numBs 4 r.sign.toNat) (C := [UInt8.ofNat r.fld.toNat] ++ (numBs 8 (r.val + 1099511627776).toNat ++ (numBs 4 (r.sn 0).toNat ++ (numBs 4 (r.sn 1).toNat ++ (numBs 4 (r.sn 2).toNat ++ (numBs 4 (r.sn 3).toNat ++ (numBs 4 (r.sn 4).toNat ++ (numBs 4 (r.sn 5).toNat ++ (numBs 4 (r.sn 6).toNat ++ (numBs 4 (r.sn 7).toNat)))))))))) (by rw [hl] <;> simp [List.append_assoc]) (by simp [numBs_len]) (numBs_len _ _)]
    exact num4_back (by have := h.sign; omega)
  have f4 : b0 (packS r 8) 13 = r.fld := by
    rw [b0_at (A := [UInt8.ofNat r.tab.toNat] ++ (numBs 4 r.num.toNat ++ (numBs 4 r.hour.toNat ++ (numBs 4 r.sign.toNat)))) (x := UInt8.ofNat r.fld.toNat) (C := numBs 8 (r.val + 1099511627776).toNat ++ (numBs 4 (r.sn 0).toNat ++ (numBs 4 (r.sn 1).toNat ++ (numBs 4 (r.sn 2).toNat ++ (numBs 4 (r.sn 3).toNat ++ (numBs 4 (r.sn 4).toNat ++ (numBs 4 (r.sn 5).toNat ++ (numBs 4 (r.sn 6).toNat ++ (numBs 4 (r.sn 7).toNat))))))))) (by rw [hl] <;> simp [List.append_assoc]) (by simp [numBs_len])]
    exact byt_back (by have := h.fld; omega)
  have f5 : (nv (packS r 8) 14 8 : Int) - 1099511627776 = r.val := by
    rw [nv_at (A := [UInt8.ofNat r.tab.toNat] ++ (numBs 4 r.num.toNat ++ (numBs 4 r.hour.toNat ++ (numBs 4 r.sign.toNat ++ ([UInt8.ofNat r.fld.toNat]))))) (B := numBs 8 (r.val + 1099511627776).toNat) (C := numBs 4 (r.sn 0).toNat ++ (numBs 4 (r.sn 1).toNat ++ (numBs 4 (r.sn 2).toNat ++ (numBs 4 (r.sn 3).toNat ++ (numBs 4 (r.sn 4).toNat ++ (numBs 4 (r.sn 5).toNat ++ (numBs 4 (r.sn 6).toNat ++ (numBs 4 (r.sn 7).toNat)))))))) (by rw [hl] <;> simp [List.append_assoc]) (by simp [numBs_len]) (numBs_len _ _), numV_numBs (by have := h.val; omega)]
    have := h.val
    omega
  have f6 : (nv (packS r 8) 22 4 : Int) = r.s0 := by
    rw [nv_at (A := [UInt8.ofNat r.tab.toNat] ++ (numBs 4 r.num.toNat ++ (numBs 4 r.hour.toNat ++ (numBs 4 r.sign.toNat ++ ([UInt8.ofNat r.fld.toNat] ++ (numBs 8 (r.val + 1099511627776).toNat)))))) (B := numBs 4 (r.sn 0).toNat) (C := numBs 4 (r.sn 1).toNat ++ (numBs 4 (r.sn 2).toNat ++ (numBs 4 (r.sn 3).toNat ++ (numBs 4 (r.sn 4).toNat ++ (numBs 4 (r.sn 5).toNat ++ (numBs 4 (r.sn 6).toNat ++ (numBs 4 (r.sn 7).toNat))))))) (by rw [hl] <;> simp [List.append_assoc]) (by simp [numBs_len]) (numBs_len _ _)]
    exact num4_back (by have := hs 0 (by omega); omega)
  have f7 : (nv (packS r 8) 26 4 : Int) = r.s1 := by
    rw [nv_at (A := [UInt8.ofNat r.tab.toNat] ++ (numBs 4 r.num.toNat ++ (numBs 4 r.hour.toNat ++ (numBs 4 r.sign.toNat ++ ([UInt8.ofNat r.fld.toNat] ++ (numBs 8 (r.val + 1099511627776).toNat ++ (numBs 4 (r.sn 0).toNat))))))) (B := numBs 4 (r.sn 1).toNat) (C := numBs 4 (r.sn 2).toNat ++ (numBs 4 (r.sn 3).toNat ++ (numBs 4 (r.sn 4).toNat ++ (numBs 4 (r.sn 5).toNat ++ (numBs 4 (r.sn 6).toNat ++ (numBs 4 (r.sn 7).toNat)))))) (by rw [hl] <;> simp [List.append_assoc]) (by simp [numBs_len]) (numBs_len _ _)]
    exact num4_back (by have := hs 1 (by omega); omega)
  have f8 : (nv (packS r 8) 30 4 : Int) = r.s2 := by
    rw [nv_at (A := [UInt8.ofNat r.tab.toNat] ++ (numBs 4 r.num.toNat ++ (numBs 4 r.hour.toNat ++ (numBs 4 r.sign.toNat ++ ([UInt8.ofNat r.fld.toNat] ++ (numBs 8 (r.val + 1099511627776).toNat ++ (numBs 4 (r.sn 0).toNat ++ (numBs 4 (r.sn 1).toNat)))))))) (B := numBs 4 (r.sn 2).toNat) (C := numBs 4 (r.sn 3).toNat ++ (numBs 4 (r.sn 4).toNat ++ (numBs 4 (r.sn 5).toNat ++ (numBs 4 (r.sn 6).toNat ++ (numBs 4 (r.sn 7).toNat))))) (by rw [hl] <;> simp [List.append_assoc]) (by simp [numBs_len]) (numBs_len _ _)]
    exact num4_back (by have := hs 2 (by omega); omega)
  have f9 : (nv (packS r 8) 34 4 : Int) = r.s3 := by
    rw [nv_at (A := [UInt8.ofNat r.tab.toNat] ++ (numBs 4 r.num.toNat ++ (numBs 4 r.hour.toNat ++ (numBs 4 r.sign.toNat ++ ([UInt8.ofNat r.fld.toNat] ++ (numBs 8 (r.val + 1099511627776).toNat ++ (numBs 4 (r.sn 0).toNat ++ (numBs 4 (r.sn 1).toNat ++ (numBs 4 (r.sn 2).toNat))))))))) (B := numBs 4 (r.sn 3).toNat) (C := numBs 4 (r.sn 4).toNat ++ (numBs 4 (r.sn 5).toNat ++ (numBs 4 (r.sn 6).toNat ++ (numBs 4 (r.sn 7).toNat)))) (by rw [hl] <;> simp [List.append_assoc]) (by simp [numBs_len]) (numBs_len _ _)]
    exact num4_back (by have := hs 3 (by omega); omega)
  have f10 : (nv (packS r 8) 38 4 : Int) = r.s4 := by
    rw [nv_at (A := [UInt8.ofNat r.tab.toNat] ++ (numBs 4 r.num.toNat ++ (numBs 4 r.hour.toNat ++ (numBs 4 r.sign.toNat ++ ([UInt8.ofNat r.fld.toNat] ++ (numBs 8 (r.val + 1099511627776).toNat ++ (numBs 4 (r.sn 0).toNat ++ (numBs 4 (r.sn 1).toNat ++ (numBs 4 (r.sn 2).toNat ++ (numBs 4 (r.sn 3).toNat)))))))))) (B := numBs 4 (r.sn 4).toNat) (C := numBs 4 (r.sn 5).toNat ++ (numBs 4 (r.sn 6).toNat ++ (numBs 4 (r.sn 7).toNat))) (by rw [hl] <;> simp [List.append_assoc]) (by simp [numBs_len]) (numBs_len _ _)]
    exact num4_back (by have := hs 4 (by omega); omega)
  have f11 : (nv (packS r 8) 42 4 : Int) = r.s5 := by
    rw [nv_at (A := [UInt8.ofNat r.tab.toNat] ++ (numBs 4 r.num.toNat ++ (numBs 4 r.hour.toNat ++ (numBs 4 r.sign.toNat ++ ([UInt8.ofNat r.fld.toNat] ++ (numBs 8 (r.val + 1099511627776).toNat ++ (numBs 4 (r.sn 0).toNat ++ (numBs 4 (r.sn 1).toNat ++ (numBs 4 (r.sn 2).toNat ++ (numBs 4 (r.sn 3).toNat ++ (numBs 4 (r.sn 4).toNat))))))))))) (B := numBs 4 (r.sn 5).toNat) (C := numBs 4 (r.sn 6).toNat ++ (numBs 4 (r.sn 7).toNat)) (by rw [hl] <;> simp [List.append_assoc]) (by simp [numBs_len]) (numBs_len _ _)]
    exact num4_back (by have := hs 5 (by omega); omega)
  have f12 : (nv (packS r 8) 46 4 : Int) = r.s6 := by
    rw [nv_at (A := [UInt8.ofNat r.tab.toNat] ++ (numBs 4 r.num.toNat ++ (numBs 4 r.hour.toNat ++ (numBs 4 r.sign.toNat ++ ([UInt8.ofNat r.fld.toNat] ++ (numBs 8 (r.val + 1099511627776).toNat ++ (numBs 4 (r.sn 0).toNat ++ (numBs 4 (r.sn 1).toNat ++ (numBs 4 (r.sn 2).toNat ++ (numBs 4 (r.sn 3).toNat ++ (numBs 4 (r.sn 4).toNat ++ (numBs 4 (r.sn 5).toNat)))))))))))) (B := numBs 4 (r.sn 6).toNat) (C := numBs 4 (r.sn 7).toNat) (by rw [hl] <;> simp [List.append_assoc]) (by simp [numBs_len]) (numBs_len _ _)]
    exact num4_back (by have := hs 6 (by omega); omega)
  have f13 : (nv (packS r 8) 50 4 : Int) = r.s7 := by
    rw [nv_at (A := [UInt8.ofNat r.tab.toNat] ++ (numBs 4 r.num.toNat ++ (numBs 4 r.hour.toNat ++ (numBs 4 r.sign.toNat ++ ([UInt8.ofNat r.fld.toNat] ++ (numBs 8 (r.val + 1099511627776).toNat ++ (numBs 4 (r.sn 0).toNat ++ (numBs 4 (r.sn 1).toNat ++ (numBs 4 (r.sn 2).toNat ++ (numBs 4 (r.sn 3).toNat ++ (numBs 4 (r.sn 4).toNat ++ (numBs 4 (r.sn 5).toNat ++ (numBs 4 (r.sn 6).toNat))))))))))))) (B := numBs 4 (r.sn 7).toNat) (C := []) (by rw [hl] <;> simp [List.append_assoc]) (by simp [numBs_len]) (numBs_len _ _)]
    exact num4_back (by have := hs 7 (by omega); omega)
  unfold recOf
  rw [f0, f1, f2, f3, f4, f5, f6, f7, f8, f9, f10, f11, f12, f13]
theorem unp_pack {r : Rc} (h : rcB r = true) : unpR (packS r 8) = r ∧ unpE (packS r 8) = 0 := by
  have e := recOf_pack (rc_ok h)
  have hl : (packS r 8).length = 54 := packS_len r 8
  simp [unpR, unpE, e, h, hl]
theorem unp_long (r : Rc) (x : UInt8) : unpR (packS r 8 ++ [x]) = rc0 ∧ unpE (packS r 8 ++ [x]) = 4 := by
  have hl : (packS r 8 ++ [x]).length = 55 := by rw [List.length_append, packS_len]; rfl
  simp [unpR, unpE, hl]

theorem conv_bytes {w : World} {A : Option Addr} {l : List UInt8} (h : Rd w A (bys l)) (c : Nat) : (convert 43 9 (.slice A l.length c)).run Try.prog w = .ok (.string ⟨l.toArray⟩) w := by
  cases l with
  | nil => 
    have := run_convert_bytes_string (P := Try.prog) w 43 9 5 A 0 c (by kernel_rfl) (by kernel_rfl) (by kernel_rfl)
    show (convert 43 9 (.slice A 0 c)).run Try.prog w = _
    rw [this]
    cases A <;> simp [Conv.bytesToString, loadCells] <;> rfl
  | cons x t =>
    obtain ⟨b, off, rfl, hb, hc⟩ := h (by simp [bys])
    exact run_convert_bytes_back w 43 9 5 ⟨b, off, none⟩ c (x :: t) (by kernel_rfl) (by kernel_rfl) (by kernel_rfl) (fun j hj => by
      rw [add_at]
      exact hc j _ (bys_at hj))

end Go.Proofs.Ytegghimjmbgghaa
