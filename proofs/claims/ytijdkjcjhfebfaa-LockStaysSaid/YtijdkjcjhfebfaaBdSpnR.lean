/- Chapter 15: the document's Has, with, wanted. -/
import Derived.Test.YtijdkjcjhfebfaaBdSpnM
import Derived.IntWalk
namespace Go.Proofs.Ytijdkjcjhfebfaa
open Go.RowKit

set_option maxRecDepth 100000 in
theorem elemInt : Elem Try.prog 22 3 1 8 := ⟨Try.underlying22, _, _, rfl, rfl, rfl, rfl, rfl, by omega⟩
def iv (x : Int) : Value := .int .i64 x

theorem has_six2 (s : Sp) (e a : Int) : (someS s && hasS s e a) = (decide (s.1 ≥ 0) && decide (s.2.1 ≥ 0) && decide (s.2.2 ≤ 1000000) && (s.1 == e) && decide (s.2.1 ≤ a) && decide (a < s.2.2)) := by
  apply bool_ext
  simp only [Bool.and_eq_true, someS_iff, hasS_iff, beq_iff_eq, decide_eq_true_eq]
  omega

theorem six (p1 p2 p3 p4 p5 p6 : Bool) : p1 = false ∨ (p1 = true ∧ p2 = false) ∨ (p1 = true ∧ p2 = true ∧ p3 = false) ∨ (p1 = true ∧ p2 = true ∧ p3 = true ∧ p4 = false) ∨ (p1 = true ∧ p2 = true ∧ p3 = true ∧ p4 = true ∧ p5 = false) ∨
    (p1 = true ∧ p2 = true ∧ p3 = true ∧ p4 = true ∧ p5 = true ∧ p6 = false) ∨ (p1 = true ∧ p2 = true ∧ p3 = true ∧ p4 = true ∧ p5 = true ∧ p6 = true) := by
  cases p1 <;> cases p2 <;> cases p3 <;> cases p4 <;> cases p5 <;> cases p6 <;> simp
theorem hasL_take {l : List Sp} {k : Nat} {s : Sp} (h : l[k]? = some s) (e a : Int) : hasL (l.take (k + 1)) e a = (hasL (l.take k) e a || (someS s && hasS s e a)) := by
  rw [List.take_add_one, h]
  simp [hasL]
theorem hasL_take_le {l : List Sp} {k : Nat} {e a : Int} (h : hasL (l.take k) e a = true) : hasL l e a = true := by
  rw [hasL_iff] at h ⊢
  obtain ⟨s, hs, h2⟩ := h
  exact ⟨s, List.mem_of_mem_take hs, h2⟩

def rise (E : List Int) : Prop := E.Pairwise (· < ·)
end Go.Proofs.Ytijdkjcjhfebfaa

namespace Go.Proofs.Ytijdkjcjhfebfaa
open Go.RowKit

def keepV (k : Bool × Bool × Bool) : Value := .agg #[.bool k.1, .bool k.2.1, .bool k.2.2]
def gF (a b : List Sp) (k : Bool × Bool × Bool) : Int → Int → Bool := fun e p => wantB k (hasL a e p) (hasL b e p)
theorem edges_take {all : List Sp} {k : Nat} {s : Sp} (h : all[k]? = some s) : edgesM (all.take (k + 1)) = withM (edgesM (all.take k)) s.1 := by
  unfold edgesM
  rw [List.take_add_one, h]
  simp
theorem ends_take {all : List Sp} {k : Nat} {s : Sp} (h : all[k]? = some s) : endsM (all.take (k + 1)) = withM (withM (endsM (all.take k)) s.2.1) s.2.2 := by
  unfold endsM
  rw [List.take_add_one, h]
  simp

end Go.Proofs.Ytijdkjcjhfebfaa

namespace Go.Proofs.Ytijdkjcjhfebfaa
open Go.RowKit

theorem nilAt (w : World) : SpAt w w.heap.size none 0 0 [] := ⟨Rd.nil _ _ _ _, fun _ => rfl, Nat.le_refl _⟩
theorem form_norm (a : List Sp) : NormOf a (FormM a [] (true, false, false)) := ⟨(FormM_ok a [] _).1, fun e x => by rw [(FormM_ok a [] _).2.1, hasL_nil]; cases hasL a e x <;> rfl⟩
theorem form_union (a b : List Sp) : NormOf (a ++ b) (FormM a b (true, true, true)) := ⟨(FormM_ok a b _).1, fun e x => by rw [(FormM_ok a b _).2.1, hasL_app]; cases hasL a e x <;> cases hasL b e x <;> rfl⟩
theorem form_minus (a b : List Sp) : KeptIs a b false (FormM a b (true, false, false)) := ⟨(FormM_ok a b _).1, fun e x => by rw [(FormM_ok a b _).2.1]; cases hasL a e x <;> cases hasL b e x <;> rfl⟩
theorem form_both (a b : List Sp) : KeptIs a b true (FormM a b (false, false, true)) := ⟨(FormM_ok a b _).1, fun e x => by rw [(FormM_ok a b _).2.1]; cases hasL a e x <;> cases hasL b e x <;> rfl⟩

theorem within_one {a b : List Sp} {r s : Bool} (h : withinB a b r) (h' : withinB a b s) : r = s := bool_ext (h.trans h'.symm)
theorem meets_one {a b : List Sp} {r s : Bool} (h : meetsB a b r) (h' : meetsB a b s) : r = s := bool_ext (h.trans h'.symm)
theorem KeptIs.one' {a b m n : List Sp} {which : Bool} (h : KeptIs a b which m) (h' : KeptIs a b which n) : m = n := h.one h'

end Go.Proofs.Ytijdkjcjhfebfaa
