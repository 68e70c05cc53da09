/-
  Lists of entries: slices of bytes in a row.
-/
import Derived.Test.YtegghimjmbgghaaGreatBkDo
set_option linter.unusedSimpArgs false
set_option linter.unusedVariables false
namespace Go.Proofs.YtegghimjmbgghaaGreat
open Go.RowKit Go.Shelf

theorem conv_bytes {w : World} {A : Option Addr} {l : List UInt8} (h : Rd w A (bys l)) (c : Nat) : (convert 52 9 (.slice A l.length c)).run Tryz.prog w = .ok (.string ⟨l.toArray⟩) w := by
  cases l with
  | nil => 
    have := run_convert_bytes_string (P := Tryz.prog) w 52 9 5 A 0 c (by kernel_rfl) (by kernel_rfl) (by kernel_rfl)
    show (convert 52 9 (.slice A 0 c)).run Tryz.prog w = _
    rw [this]
    cases A <;> simp [Conv.bytesToString, loadCells] <;> rfl
  | cons x t =>
    obtain ⟨b, off, rfl, hb, hc⟩ := h (by simp [bys])
    exact run_convert_bytes_back w 52 9 5 ⟨b, off, none⟩ c (x :: t) (by kernel_rfl) (by kernel_rfl) (by kernel_rfl) (fun j hj => by
      rw [add_at]
      exact hc j _ (bys_at hj))

/-- An entry: its slice, its bytes. -/
structure Ent where
  A : Option Addr
  c : Nat
  l : List UInt8
def enV (e : Ent) : Value := .slice e.A e.l.length e.c
def ens (L : List Ent) : List Value := L.map enV
def ents (L : List Ent) : List (List UInt8) := L.map Ent.l
@[simp] theorem ens_len (L : List Ent) : (ens L).length = L.length := by simp [ens]
theorem ents_len (L : List Ent) : (ents L).length = L.length := by simp [ents]
theorem ens_at {L : List Ent} {k : Nat} (h : k < L.length) : (ens L)[k]? = some (enV L[k]) := by simp [ens, h]
theorem ens_ne {L : List Ent} {k : Nat} (h : k < L.length) : ens L ≠ [] := fun e => by
  have := ens_len L
  rw [e] at this
  simp at this
  omega
theorem ens_append (L M : List Ent) : ens (L ++ M) = ens L ++ ens M := by simp [ens]
/-- Two rows of different elements lie apart. -/
theorem own_apart {w : World} {b1 b2 n1 n2 k1 k2 : Nat} {t1 t2 : TypeId} {v u : Value} {xs ys : List Value} (hv : w.ownsRow b1 t1 k1 v n1 xs) (hu : w.ownsRow b2 t2 k2 u n2 ys) (hne : t1 ≠ t2) : u.ownBlock = none ∨ u.ownBlock ≠ v.ownBlock := by
  rcases hu.2 with ⟨rfl, _⟩ | ⟨g, cap, cur, rfl, hb, hh, _⟩
  · exact .inl rfl
  · refine .inr fun e => ?_
    rcases hv.2 with ⟨rfl, _⟩ | ⟨g', cap', cur', rfl, hb', hh', _⟩
    · simp [Value.ownBlock] at e
    · have : g = g' := by simpa [Value.ownBlock] using e
      subst this
      rw [hh] at hh'
      injection hh' with hh'
      injection hh' with _ hh' _
      exact hne hh'.symm
/-- A list of entries, each in a row of its own, from block lo on. -/
structure EnsAt (w : World) (base lo : Nat) (v : Value) (L : List Ent) : Prop where
  own : w.ownsRow base 52 1 v L.length (ens L)
  ok : ∀ e ∈ L, w.ownsRow lo 5 1 (enV e) e.l.length (bys e.l)
section
variable {w w' : World} {base lo : Nat} {v : Value} {L : List Ent}
theorem EnsAt.below (h : EnsAt w base lo v L) (hb : Below w.heap.size w w') : EnsAt w' base lo v L := ⟨own_below h.own hb, fun e he => own_below (h.ok e he) hb⟩
theorem EnsAt.nil (w : World) (base lo : Nat) : EnsAt w base lo (.slice none 0 0) [] := ⟨World.ownsRow_nil _ _ _ _, fun e he => by simp at he⟩
/-- A block of another kind turns. -/
theorem EnsAt.other (h : EnsAt w base lo v L) {B : Nat} {cs : Array Value} {ty : TypeId} (hB : w.heap[B]? = some (.cells cs ty (0, 0))) (h1 : 52 ≠ ty) (h2 : 5 ≠ ty) (hg : w.grownBy w' (some B)) : EnsAt w' base lo v L :=
  ⟨own_kept h.own hg (own_ne_blk h.own hB h1), fun e he => own_kept (h.ok e he) hg (own_ne_blk (h.ok e he) hB h2)⟩
/-- One more. -/
theorem EnsAt.push {v' : Value} {e : Ent} {tmp : Obj} (h : EnsAt w base lo v L) (he : w.ownsRow lo 5 1 (enV e) e.l.length (bys e.l)) (hown : w'.ownsRow base 52 1 v' (L.length + 1) (ens L ++ [enV e])) (hg : (w.alloc tmp).grownBy w' v.ownBlock) : EnsAt w' base lo v' (L ++ [e]) := by
  have hb := below_alloc w tmp
  have h2 := h.below hb
  have he2 := own_below he hb
  refine ⟨by rw [List.length_append, List.length_singleton, ens_append]; exact hown, fun x hx => ?_⟩
  rcases List.mem_append.1 hx with hx | hx
  · exact (h2.ok x hx).kept hg (own_apart h2.own (h2.ok x hx) (by decide))
  · rw [List.mem_singleton] at hx
    subst hx
    exact he2.kept hg (own_apart h2.own he2 (by decide))
end
/-- A list of entries that reads. -/
structure EnsRd (w : World) (A : Option Addr) (L : List Ent) : Prop where
  rd : Rd w A (ens L)
  ok : ∀ e ∈ L, Rd w e.A (bys e.l)
theorem EnsRd.below {w w' : World} {A : Option Addr} {L : List Ent} (h : EnsRd w A L) (hb : Below w.heap.size w w') : EnsRd w' A L := ⟨h.rd.below hb, fun e he => (h.ok e he).below hb⟩
theorem EnsAt.rd {w : World} {base lo : Nat} {v : Value} {L : List Ent} (h : EnsAt w base lo v L) : ∃ A c, v = .slice A L.length c ∧ EnsRd w A L := by
  obtain ⟨A, c, hv, hr, -⟩ := own_slice h.own
  refine ⟨A, c, hv, hr, fun e he => ?_⟩
  obtain ⟨A', c', hv', hr', -⟩ := own_slice (h.ok e he)
  unfold enV at hv'
  injection hv' with e1 e2 e3
  rw [e1]
  exact hr'

end Go.Proofs.YtegghimjmbgghaaGreat
