/- Chapter 15: Minus, Both, Within, Meets, Total. -/
import Derived.Test.YtpahfobijmmmmaaBdSpnI
import Derived.Test.YtpahfobijmmmmaaSpnB
namespace Go.Proofs.Ytpahfobijmmmmaa
open Go.RowKit

/-- what Minus and Both leave -/
def KeptIs (a b : List Sp) (which : Bool) (m : List Sp) : Prop := NormalS m ∧ (∀ e x, hasL m e x = (hasL a e x && (hasL b e x == which)))
/-- spans that a function is handed: they read, and are not too many -/
structure SpAt (w : World) (B : Nat) (A : Option Addr) (n c : Nat) (l : List Sp) : Prop where
  rd : Rd w B 3 A n (spCells l)
  nil : A = none → c = 0
  cap : n ≤ c
theorem SpAt.keep {w w' : World} {B n c : Nat} {A : Option Addr} {l : List Sp} (h : SpAt w B A n c l) (hk : Keep Never w w') : SpAt w' B A n c l := ⟨h.rd.keep hk (fun _ h => h.elim), h.nil, h.cap⟩
theorem SpAt.of_own {w : World} {base n c : Nat} {A : Option Addr} {l : List Sp} (h : Own w base 56 3 A n c (spCells l)) : SpAt w w.heap.size A n c l :=
  ⟨h.rd, (fun e => by
    rcases h.form with ⟨_, _, h2, _⟩ | ⟨_, _, h2, _⟩
    · exact h2
    · rw [e] at h2; cases h2), h.cap_le⟩
theorem SpAt.more {w : World} {B B' n c : Nat} {A : Option Addr} {l : List Sp} (h : SpAt w B A n c l) (hB : B ≤ B') : SpAt w B' A n c l := ⟨h.rd.more hB, h.nil, h.cap⟩
theorem SpAt.len {w : World} {B n c : Nat} {A : Option Addr} {l : List Sp} (h : SpAt w B A n c l) : l.length = n := h.rd.sp_len

/-- has one list all that the other has? -/
def withinB (a b : List Sp) (r : Bool) : Prop := r = true ↔ ∀ e x, hasL a e x = true → hasL b e x = true
def meetsB (a b : List Sp) (r : Bool) : Prop := r = true ↔ ∃ e x, hasL a e x = true ∧ hasL b e x = true
theorem kept_nil {a b m : List Sp} {which : Bool} (h : KeptIs a b which m) : m = [] ↔ ∀ e x, ¬ (hasL a e x = true ∧ hasL b e x = which) := by
  constructor
  · rintro rfl e x ⟨h1, h2⟩
    have := h.2 e x
    rw [h1, h2, hasL_nil] at this
    simp at this
  · intro hx
    cases m with
    | nil => rfl
    | cons s m =>
      have h1 := h.1.head
      rw [h.2, Bool.and_eq_true, beq_iff_eq] at h1
      exact absurd h1 (hx _ _)
theorem cntL_take {l : List Sp} {k : Nat} {s : Sp} (h : l[k]? = some s) : cntL (l.take (k + 1)) = cntL (l.take k) + (s.2.2 - s.2.1) := by
  unfold cntL
  rw [List.take_add_one, h]
  simp
theorem NormalS.take {l : List Sp} (h : NormalS l) (k : Nat) : NormalS (l.take k) := ⟨fun s hs => h.1 s (List.mem_of_mem_take hs), h.2.sublist (List.take_sublist _ _)⟩
end Go.Proofs.Ytpahfobijmmmmaa
