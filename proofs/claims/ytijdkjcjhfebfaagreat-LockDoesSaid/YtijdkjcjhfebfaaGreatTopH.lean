/- Chapter 15: IndexFunc, ContainsFunc at ints; wrong lengths. -/
import Derived.Test.YtijdkjcjhfebfaaGreatTopG
import Derived.Test.YtijdkjcjhfebfaaGreatBdSpnR
namespace Go.Proofs.YtijdkjcjhfebfaaGreat
open Go.RowKit

/-- what is asked of a predicate of ints -/
def PredInt (g : Nat) (lb : Array Value) (p : Int → Bool) (w : World) : Prop :=
  ∀ (W : World) (s : Int), Keep Never w W → Calls Tryz.prog g (#[.int .i64 s] ++ lb) W fun e w' => e = .returned (.bool (p s)) ∧ Keep Never W w'
/-- what IndexFunc leaves -/
def IdxRetI (p : Int → Bool) (l : List Int) (w : World) (e : Ending) (w' : World) : Prop :=
  ((∃ (i : Nat) (s : Int), e = .returned (.int .i64 i) ∧ l[i]? = some s ∧ p s = true ∧ ∀ x ∈ l.take i, p x = false) ∨ (e = .returned (.int .i64 (-1)) ∧ ∀ x ∈ l, p x = false)) ∧ Keep Never w w'
set_option maxHeartbeats 1000000 in
set_option maxRecDepth 100000 in
theorem indexfi_any (g : Nat) (lb : Array Value) (p : Int → Bool) (eg : ∀ args w, (callFunc g args).run Tryz.prog w = .ok (.enter g args) w) (A : Option Addr) (n c B : Nat) (l : List Int) (w : World) (hr : Rd w B 1 A n (l.map (.int .i64))) (hp : PredInt g lb p w) (hn : n ≤ 100000000000) :
    Calls Tryz.prog 80 #[.slice A n c, .func (.func g) #[] lb] w (IdxRetI p l w) := by
  have HL : Hid (l.length = n) := Lib.hid (by have := hr.1; rw [List.length_map] at this; omega)
  have HR := Lib.hid hr
  have HP := Lib.hid hp
  clear hr hp
  go_enter Tryz.func80, Tryz.ntmps80
  go_wp2_with fail
  go_loopw [5, 8] (fun _ s8 wr => ∃ k : Nat, k ≤ n ∧ s8 = .int .i64 k ∧ Hid (Keep Never w wr ∧ ∀ x ∈ l.take k, p x = false)) (fun _ i _ => n - (intOf i).toNat)
  case atStart => exact ⟨0, by omega, rfl, Lib.hid ⟨Keep.refl _ _, by simp⟩⟩
  case round =>
    obtain ⟨k, hk, rfl, HH⟩ := hrel
    by_cases h0 : k < n
    · have hki : (k : Int) < (n : Int) := by omega
      obtain ⟨ad, s, hA, _, hs, c0⟩ := (HR.out.keep HH.out.1 (fun _ h => h.elim)).at1 h0
      subst hA
      have hcall := HP.out wr s HH.out.1
      have Hs := Lib.hid hs
      have htk : Hid (l.take (k + 1) = l.take k ++ [s]) := Lib.hid (by
        obtain ⟨h2, h3⟩ := List.getElem?_eq_some_iff.1 hs
        rw [List.take_succ_eq_append_getElem h2, h3])
      clear hs
      cases hps : p s with
      | true =>
        rw [hps] at hcall
        have Hps := Lib.hid hps
        clear hps
        go_wp2_with (go_at_fn g; refine hcall.mono ?_; rintro e w' ⟨rfl, hk'⟩)
        go_ret
        exact ⟨.inl ⟨k, _, rfl, Hs.out, Hps.out, HH.out.2⟩, HH.out.1.trans hk'⟩
      | false =>
        rw [hps] at hcall
        have Hps := Lib.hid hps
        clear hps
        go_wp2_with (go_at_fn g; refine hcall.mono ?_; rintro e w' ⟨rfl, hk'⟩)
        go_roundw
        case measure => simp [intOf]; try omega
        case rel =>
          refine ⟨k + 1, by omega, by go_num, Lib.hid ⟨HH.out.1.trans hk', fun x hx => ?_⟩⟩
          rw [htk.out] at hx
          rcases List.mem_append.1 hx with hx | hx
          · exact HH.out.2 x hx
          · simp at hx; subst hx; exact Hps.out
    · obtain rfl : k = n := by omega
      have hki : ¬ (k : Int) < (k : Int) := by omega
      have HN : Hid (∀ x ∈ l, p x = false) := Lib.hid (by have := HH.out.2; rwa [List.take_of_length_le (by have := HL.out; omega)] at this)
      go_wp2_with fail
      go_ret
      exact ⟨.inr ⟨rfl, HN.out⟩, HH.out.1⟩
set_option maxHeartbeats 1000000 in
set_option maxRecDepth 100000 in
theorem containsfi_any (g : Nat) (lb : Array Value) (p : Int → Bool) (eg : ∀ args w, (callFunc g args).run Tryz.prog w = .ok (.enter g args) w) (A : Option Addr) (n c B : Nat) (l : List Int) (w : World) (hr : Rd w B 1 A n (l.map (.int .i64))) (hp : PredInt g lb p w) (hn : n ≤ 100000000000) :
    Calls Tryz.prog 54 #[.slice A n c, .func (.func g) #[] lb] w fun e w' => e = .returned (.bool (l.any p)) ∧ Keep Never w w' := by
  have HI := Lib.hid (indexfi_any g lb p eg A n c B l w hr hp hn)
  clear hr hp
  go_enter Tryz.func54, Tryz.ntmps54
  go_wp2_with fail
  refine HI.out.mono ?_
  rintro e w' ⟨⟨i, s, rfl, h1, h2, h3⟩ | ⟨rfl, h1⟩, hk⟩
  · have HA : Hid (l.any p = true) := Lib.hid (List.any_eq_true.2 ⟨s, List.mem_of_getElem? h1, h2⟩)
    have HK := Lib.hid hk
    have hi : decide ((i : Int) ≥ 0) = true := by simp
    clear h1 h2 h3 hk
    go_wp2_with fail
    go_ret
    exact ⟨by rw [HA.out]; rfl, HK.out⟩
  · have HA : Hid (l.any p = false) := Lib.hid (by rw [List.any_eq_false]; intro x hx; rw [h1 x hx]; simp)
    have HK := Lib.hid hk
    clear h1 hk
    go_wp2_with fail
    go_ret
    exact ⟨by rw [HA.out]; rfl, HK.out⟩


def wrongB (n : Int) : Bool := decide (n < 1) || decide (n > 1000000)
set_option maxHeartbeats 1000000 in
set_option maxRecDepth 100000 in
theorem over1_any (n : Int) (w : World) : Calls Tryz.prog 66 #[.int .i64 n] w fun e w' => e = .returned (.bool (wrongB n)) ∧ Keep Never w w' := by
  by_cases h1 : n < 1
  · have t1 : decide (n < 1) = true := by simpa using h1
    have HF : Hid (wrongB n = true) := Lib.hid (by unfold wrongB; rw [t1]; rfl)
    clear h1
    go_enter Tryz.func66, Tryz.ntmps66
    go_wp2_with fail
    go_ret
    exact ⟨by rw [HF.out]; rfl, Keep.refl _ _⟩
  · have t1 : decide (n < 1) = false := by simpa using h1
    by_cases h2 : n > 1000000
    · have t2 : decide (n > 1000000) = true := by simpa using h2
      have HF : Hid (wrongB n = true) := Lib.hid (by unfold wrongB; rw [t1, t2]; rfl)
      clear h1 h2
      go_enter Tryz.func66, Tryz.ntmps66
      go_wp2_with fail
      go_ret
      exact ⟨by rw [HF.out]; rfl, Keep.refl _ _⟩
    · have t2 : decide (n > 1000000) = false := by simpa using h2
      have HF : Hid (wrongB n = false) := Lib.hid (by unfold wrongB; rw [t1, t2]; rfl)
      clear h1 h2
      go_enter Tryz.func66, Tryz.ntmps66
      go_wp2_with fail
      go_ret
      exact ⟨by rw [HF.out]; rfl, Keep.refl _ _⟩
theorem wrong_any (A : Option Addr) (n c B : Nat) (l : List Int) (w : World) (hr : Rd w B 1 A n (l.map (.int .i64))) (hn : n ≤ 100000000000) :
    Calls Tryz.prog 54 #[.slice A n c, .func (.func 66) #[] #[]] w fun e w' => e = .returned (.bool (l.any wrongB)) ∧ Keep Never w w' :=
  containsfi_any _ _ wrongB (enters_of Tryz.func66 (by kernel_rfl) rfl) A n c B l w hr (fun W s _ => over1_any s W) hn

/-- the places along a way: a step's span -/
def cutS (es : List Int) (lo hi : Int) (at_ : Int) (s : Stp) : Sp :=
  if s.2 = true then (s.1, es.getD s.1.toNat 0 - min (hi - at_) (es.getD s.1.toNat 0), es.getD s.1.toNat 0 - max (lo - at_) 0) else (s.1, max (lo - at_) 0, min (hi - at_) (es.getD s.1.toNat 0))
def overL (es : List Int) (lo hi : Int) : Int → List Stp → List Sp
  | _, [] => []
  | a, s :: r => cutS es lo hi a s :: overL es lo hi (a + es.getD s.1.toNat 0) r
/-- the error of Over -/
def overE (t : Tp) (p : List Stp) (lo hi : Int) : Int :=
  if (lenM t p).2 ≠ 0 then (lenM t p).2 else if t.1.any wrongB = true ∨ lo < 0 ∨ lo > hi ∨ hi > (lenM t p).1 then 1 else 0

end Go.Proofs.YtijdkjcjhfebfaaGreat
