/- Chapter 15: the document's answers; SpanForms. -/
import Derived.Test.YtpahfobijmmmmaaSpnS
namespace Go.Proofs.Ytpahfobijmmmmaa
open Go.RowKit

theorem nilAt (w : World) : SpAt w w.heap.size none 0 0 [] := ⟨Rd.nil _ _ _ _, fun _ => rfl, Nat.le_refl _⟩
theorem form_norm (a : List Sp) : NormOf a (FormM a [] (true, false, false)) := ⟨(FormM_ok a [] _).1, fun e x => by rw [(FormM_ok a [] _).2.1, hasL_nil]; cases hasL a e x <;> rfl⟩
theorem form_union (a b : List Sp) : NormOf (a ++ b) (FormM a b (true, true, true)) := ⟨(FormM_ok a b _).1, fun e x => by rw [(FormM_ok a b _).2.1, hasL_app]; cases hasL a e x <;> cases hasL b e x <;> rfl⟩
theorem form_minus (a b : List Sp) : KeptIs a b false (FormM a b (true, false, false)) := ⟨(FormM_ok a b _).1, fun e x => by rw [(FormM_ok a b _).2.1]; cases hasL a e x <;> cases hasL b e x <;> rfl⟩
theorem form_both (a b : List Sp) : KeptIs a b true (FormM a b (false, false, true)) := ⟨(FormM_ok a b _).1, fun e x => by rw [(FormM_ok a b _).2.1]; cases hasL a e x <;> cases hasL b e x <;> rfl⟩

set_option maxHeartbeats 1000000 in
set_option maxRecDepth 100000 in
theorem rnorm_any (B A1 n1 c1) (a : List Sp) (w : World) (h1 : SpAt w B A1 n1 c1 a) (hn1 : n1 ≤ 1000) (hB : B ≤ w.heap.size) :
    Calls Try.prog 35 #[.slice A1 n1 c1] w (SpAns w fun m => NormOf a m ∧ m.length ≤ 4000000) := by
  have HLn : Hid ((FormM a [] (true, false, false)).length ≤ 4000000) := Lib.hid (by
    have h2 := (FormM_ok a [] (true, false, false)).2.2
    have h3 := h1.len
    simp only [List.length_nil, Nat.add_zero] at h2
    have h4 : a.length * (2 * a.length) ≤ 1000 * 2000 := Nat.mul_le_mul (by omega) (by omega)
    omega)
  have HK := Lib.hid (form_any A1 n1 c1 none 0 0 _ a [] (true, false, false) w (h1.more hB) (nilAt w) hn1 (by omega) (Nat.le_refl _))
  clear h1 hn1 hB
  go_enter Try.func35, Try.ntmps35
  go_wp2_with fail
  refine HK.out.mono ?_
  rintro e w' ⟨m, A, n, c, rfl, hn, hs, hk, rfl⟩
  have H := Lib.hid (And.intro hs hk)
  clear hs hk HK
  go_wp2_with fail
  go_ret
  exact ⟨_, A, n, c, rfl, hn, H.out.1, H.out.2, form_norm a, HLn.out⟩
theorem within_one {a b : List Sp} {r s : Bool} (h : withinB a b r) (h' : withinB a b s) : r = s := bool_ext (h.trans h'.symm)
theorem meets_one {a b : List Sp} {r s : Bool} (h : meetsB a b r) (h' : meetsB a b s) : r = s := bool_ext (h.trans h'.symm)
theorem KeptIs.one' {a b m n : List Sp} {which : Bool} (h : KeptIs a b which m) (h' : KeptIs a b which n) : m = n := h.one h'

end Go.Proofs.Ytpahfobijmmmmaa
