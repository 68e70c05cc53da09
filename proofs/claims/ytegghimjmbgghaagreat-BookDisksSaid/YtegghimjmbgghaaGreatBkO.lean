/-
  The arguments opened: bytes, records.
-/
import Derived.Test.YtegghimjmbgghaaGreatOpenK
import Derived.Test.YtegghimjmbgghaaGreatBkZ
set_option linter.unusedSimpArgs false
set_option linter.unusedVariables false
namespace Go.Proofs.YtegghimjmbgghaaGreat
open Go.RowKit Go.ChangeShapes Go.WideShapes Go.Deep

section
variable {H : Type} {enc : TypeId × Value → H} {w : World} {base : Nat} {spare : Nat → Bool} {held : Bool}

/-- What came in of one slice. -/
structure InOk (w : World) (A : Option Addr) (n c : Nat) (cs : List Value) (m : Nat) : Prop where
  rd : Rd w A cs
  cap : n ≤ c
  len : n ≤ m

theorem wf_in {m : Int} (h : (Lit.int .i64 m).wf = true) : I64 m := by
  simp [Lit.wf, IntKind.min, IntKind.max, IntKind.signed, IntKind.bits] at h
  exact ⟨by omega, by omega⟩
theorem wf_u8 {m : Int} (h : (Lit.int .u8 m).wf = true) : 0 ≤ m ∧ m ≤ 255 := by
  simp [Lit.wf, IntKind.min, IntKind.max, IntKind.signed, IntKind.bits] at h
  omega
theorem cells_int' : Tryz.prog.cellsOf 3 = 1 := by kernel_rfl
theorem one_int' {n : Nat} {cs : List Value} {y : DataW H × List MemPlace} (h : DataW.trod enc Tryz.prog w base spare held n 3 cs = some y) : ∃ m, cs = [.int .i64 m] ∧ I64 m := by
  obtain ⟨m, rfl, -, hw⟩ := DataW.trod_int Tryz.underlying3 h
  exact ⟨m, rfl, wf_in hw⟩
theorem one_u8 {n : Nat} {cs : List Value} {y : DataW H × List MemPlace} (h : DataW.trod enc Tryz.prog w base spare held n 5 cs = some y) : ∃ b : UInt8, cs = [.int .u8 (b.toNat : Int)] := by
  obtain ⟨m, rfl, -, hw⟩ := DataW.trod_int Tryz.underlying5 h
  have := wf_u8 hw
  refine ⟨UInt8.ofNat m.toNat, ?_⟩
  have e : (UInt8.ofNat m.toNat).toNat = m.toNat := by
    rw [UInt8.toNat_ofNat']
    omega
  rw [e]
  simp
  omega
theorem cap_le {t e : TypeId} {P : Program} {fuel : Nat} {A : Option Addr} {n c : Nat} {x : DataW H × List MemPlace} (ht : P.underlying t = some (.slice e)) (h : DataW.trod enc P w base spare held fuel t [.slice A n c] = some x) : n ≤ c := by
  rcases open_slice ht h with ⟨h0, -⟩ | ⟨a, len, cap, m, n', D, Pl, h0, -, hl, -⟩
  · simp only [List.cons.injEq, Value.slice.injEq, and_true] at h0
    omega
  · simp only [List.cons.injEq, Value.slice.injEq, and_true] at h0
    omega

theorem open_bytes {fuel : Nat} {cs : List Value} {x : DataW H × List MemPlace} (h : DataW.trod enc Tryz.prog w base spare held fuel 52 cs = some x) (hw : Fit Tryz.prog 52 x.1) :
    ∃ (A : Option Addr) (l : List UInt8) (c : Nat), cs = [.slice A l.length c] ∧ InOk w A l.length c (bys l) reachBytes := by
  obtain ⟨A, l, c, rfl, hr, -, hb⟩ := open_rows (fun b : UInt8 => [Value.int .u8 (b.toNat : Int)]) 1 1 (fun _ => True) Tryz.underlying52 (by kernel_rfl) (by omega) (fun _ => rfl) (by kernel_rfl)
    (fun n cs x h _ => (one_u8 h).imp fun b hb => ⟨hb, trivial⟩) h hw
  have e : l.flatMap (fun b : UInt8 => [Value.int .u8 (b.toNat : Int)]) = bys l := by simp [bys, List.map_eq_flatMap]
  exact ⟨A, l, c, rfl, by rw [← e]; exact hr, cap_le Tryz.underlying52 h, by omega⟩
end

end Go.Proofs.YtegghimjmbgghaaGreat
