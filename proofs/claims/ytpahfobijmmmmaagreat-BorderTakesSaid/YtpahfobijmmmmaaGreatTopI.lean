/- Chapter 15: span.Over. -/
import Derived.Test.YtpahfobijmmmmaaGreatBdTopF
namespace Go.Proofs.YtpahfobijmmmmaaGreat
open Go.RowKit

def overK (es : List Int) (lo hi : Int) (p : List Stp) : Nat → List Sp
  | 0 => []
  | k + 1 => overK es lo hi p k ++ (match p[k]? with | some s => [cutS es lo hi (sumM es (p.take k)) s] | none => [])
theorem overK_len (es : List Int) (lo hi : Int) (p : List Stp) : ∀ k, (overK es lo hi p k).length ≤ k
  | 0 => Nat.le_refl _
  | k + 1 => by
    have := overK_len es lo hi p k
    unfold overK
    rw [List.length_append]
    cases p[k]? <;> simp <;> omega
theorem overK_at {es : List Int} {lo hi : Int} {p : List Stp} {k : Nat} {s : Stp} (h : p[k]? = some s) : overK es lo hi p (k + 1) = overK es lo hi p k ++ [cutS es lo hi (sumM es (p.take k)) s] := by
  conv => lhs; unfold overK
  rw [h]
/-- lengths that are right, steps that are there -/
def goodM (es : List Int) (p : List Stp) : Prop := (∀ v ∈ es, 1 ≤ v ∧ v ≤ 1000000) ∧ (∀ s ∈ p, thereB es.length s.1 = true) ∧ p.length ≤ 40
theorem good_at {es : List Int} {p : List Stp} (h : goodM es p) {k : Nat} {s : Stp} (hs : p[k]? = some s) : ∃ j : Nat, s.1 = (j : Int) ∧ j < es.length ∧ ∃ v, es[j]? = some v ∧ 1 ≤ v ∧ v ≤ 1000000 ∧ es.getD s.1.toNat 0 = v := by
  have h1 := h.2.1 s (List.mem_of_getElem? hs)
  unfold thereB at h1
  rw [Bool.and_eq_true, decide_eq_true_eq, decide_eq_true_eq] at h1
  obtain ⟨j, hj⟩ : ∃ j : Nat, s.1 = (j : Int) := ⟨s.1.toNat, by omega⟩
  have hl : j < es.length := by omega
  have hv : es[j]? = some es[j] := List.getElem?_eq_getElem hl
  have h2 := h.1 _ (List.getElem_mem hl)
  exact ⟨j, hj, hl, _, hv, h2.1, h2.2, by rw [hj, List.getD_eq_getElem?_getD, Int.toNat_natCast, hv]; rfl⟩
theorem sum_good {es : List Int} {p : List Stp} (h : goodM es p) : ∀ k, k ≤ p.length → 0 ≤ sumM es (p.take k) ∧ sumM es (p.take k) ≤ 1000000 * k
  | 0, _ => by simp [sumM]
  | k + 1, hk => by
    obtain ⟨i1, i2⟩ := sum_good h k (by omega)
    have hs : p[k]? = some p[k] := List.getElem?_eq_getElem (by omega)
    obtain ⟨j, _, _, v, _, h1, h2, h3⟩ := good_at h hs
    rw [sumM_take hs, h3, IntWalk.i64_in _ (by have := h.2.2; omega)]
    omega
theorem sum_step {es : List Int} {p : List Stp} (h : goodM es p) {k : Nat} {s : Stp} (hs : p[k]? = some s) : sumM es (p.take (k + 1)) = sumM es (p.take k) + es.getD s.1.toNat 0 := by
  have hk : k < p.length := (List.getElem?_eq_some_iff.1 hs).1
  obtain ⟨i1, i2⟩ := sum_good h k (by omega)
  obtain ⟨j, _, _, v, _, h1, h2, h3⟩ := good_at h hs
  rw [sumM_take hs, h3, IntWalk.i64_in _ (by have := h.2.2; omega)]
/-- what Over answers -/
def OverRet (t : Tp) (p : List Stp) (lo hi : Int) (w : World) (e : Ending) (w' : World) : Prop :=
  ∃ m A n c, e = .returned (.tuple #[.slice A n c, .int .i64 (overE t p lo hi)]) ∧ Hid (n = m.length) ∧ Hid (n ≤ 100000000) ∧ SpAt w' w'.heap.size A n c m ∧ Keep Never w w' ∧ Hid (if overE t p lo hi = 0 then NormOf (overK t.1 lo hi p p.length) m else m = [])
theorem over_err {t : Tp} {p : List Stp} {lo hi : Int} {w w' : World} {e : Int} (h : overE t p lo hi = e) (he : e ≠ 0) (hk : Keep Never w w') : OverRet t p lo hi w (.returned (.tuple #[.slice none 0 0, .int .i64 e])) w' :=
  ⟨[], none, 0, 0, by rw [h], Lib.hid rfl, Lib.hid (by omega), nilAt w', hk, Lib.hid (by rw [if_neg (by rw [h]; exact he)])⟩
theorem len_good {t : Tp} {p : List Stp} (h : (lenM t p).2 = 0) (hw : t.1.any wrongB = false) : goodM t.1 p ∧ (lenM t p).1 = sumM t.1 p := by
  unfold lenM at h ⊢
  split at h
  · simp at h
  · rename_i h0
    rw [if_neg h0]
    split at h
    · rename_i h1
      rw [if_pos h1]
      split at h
      · rename_i h2
        rw [if_pos h2]
        refine ⟨⟨fun v hv => ?_, fun s hs => ?_, by omega⟩, rfl⟩
        · have := (List.any_eq_false.1 hw) v hv
          unfold wrongB at this
          simp only [Bool.or_eq_true, decide_eq_true_eq, not_or] at this
          omega
        · exact List.all_eq_true.1 h1 s hs
      · simp at h
    · simp at h

end Go.Proofs.YtpahfobijmmmmaaGreat
