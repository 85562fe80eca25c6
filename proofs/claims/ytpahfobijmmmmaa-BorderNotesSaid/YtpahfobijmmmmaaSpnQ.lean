/- Chapter 15: SpanParts. -/
import Derived.Test.YtpahfobijmmmmaaSpnO
namespace Go.Proofs.Ytpahfobijmmmmaa
open Go.RowKit

theorem parts_all {a b c m u n : List Sp} (hc : KeptIs a b true c) (hm : KeptIs a b false m) (hu : NormOf (c ++ m) u) (hn : NormOf a n) : u = n :=
  normal_one hu.1 hn.1 fun e x => by
    rw [hu.2, hn.2, hasL_app, hc.2, hm.2]
    cases hasL a e x <;> cases hasL b e x <;> rfl
theorem parts_swap {a b c d : List Sp} (hc : KeptIs a b true c) (hd : KeptIs b a true d) : d = c :=
  normal_one hd.1 hc.1 fun e x => by
    rw [hd.2, hc.2]
    cases hasL a e x <;> cases hasL b e x <;> rfl
theorem parts_union {a b c d : List Sp} (hc : NormOf (a ++ b) c) (hd : NormOf (b ++ a) d) : c = d :=
  normal_one hc.1 hd.1 fun e x => by
    rw [hc.2, hd.2, hasL_app, hasL_app, Bool.or_comm]
theorem parts_meet {a b c m : List Sp} {r : Bool} (hc : KeptIs a b true c) (hm : KeptIs a b false m) (h : meetsB c m r) : r = false := by
  cases r with
  | false => rfl
  | true =>
    obtain ⟨e, x, h1, h2⟩ := h.1 rfl
    rw [hc.2] at h1
    rw [hm.2] at h2
    cases ha : hasL a e x <;> cases hb : hasL b e x <;> rw [ha, hb] at h1 h2 <;> first | exact absurd h1 Bool.false_ne_true | exact absurd h2 Bool.false_ne_true
theorem parts_cnt {a b c m n c' m' n' : List Sp} (hc : KeptIs a b true c) (hm : KeptIs a b false m) (hn : NormOf a n) (h1 : NormOf c c') (h2 : NormOf m m') (h3 : NormOf a n') : cntL c' + cntL m' = cntL n' := by
  rw [h1.one (NormOf.self hc.1), h2.one (NormOf.self hm.1), h3.one hn]
  refine cnt_parts hn.1 hc.1 hm.1 (fun e x => ?_) (fun e x h => ?_)
  · rw [hn.2, hc.2, hm.2]
    cases hasL a e x <;> cases hasL b e x <;> rfl
  · rw [hc.2, hm.2] at h
    cases ha : hasL a e x <;> cases hb : hasL b e x <;> rw [ha, hb] at h <;> first | exact absurd h.1 Bool.false_ne_true | exact absurd h.2 Bool.false_ne_true
theorem parts_len {c c' : List Sp} (hc : NormalS c) (h : NormOf c c') {n : Nat} (hn : c.length ≤ n) : 0 ≤ cntL c' ∧ cntL c' ≤ 1000000 * n := by
  rw [h.one (NormOf.self hc)]
  have := cntL_range hc
  omega
theorem parts_in {a b c : List Sp} {r : Bool} (hc : KeptIs a b true c) (h : withinB c b r) : r = true :=
  h.2 fun e x hx => by
    rw [hc.2] at hx
    cases ha : hasL a e x <;> cases hb : hasL b e x <;> rw [ha, hb] at hx <;> first | rfl | exact absurd hx Bool.false_ne_true
theorem parts_in2 {a b c : List Sp} {r : Bool} (hc : NormOf (a ++ b) c) (h : withinB a c r) : r = true :=
  h.2 fun e x hx => by rw [hc.2, hasL_app, hx]; rfl
theorem parts_none {a b m : List Sp} {r : Bool} (hm : KeptIs a b false m) (h : withinB a b r) {n : Nat} (hn : n = m.length) : r = (((n : Int) == 0) : Bool) := by
  apply bool_ext
  rw [show r = true ↔ _ from h, beq_iff_eq, hn]
  have h2 := kept_nil hm
  constructor
  · intro hh
    have : m = [] := h2.2 fun e x hx => by rw [hh e x hx.1] at hx; cases hx.2
    simp [this]
  · intro hh e x hx
    have := h2.1 (List.eq_nil_of_length_eq_zero (by omega)) e x
    cases hb : hasL b e x with
    | true => rfl
    | false => exact absurd ⟨hx, hb⟩ this

end Go.Proofs.Ytpahfobijmmmmaa
