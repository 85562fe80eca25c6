/- Chapter 15: some, Has; slices.IndexFunc, ContainsFunc, Clone at spans. -/
import Derived.Test.YtpahfobijmmmmaaGreatBdSpnA
import Derived.Deep.RegionHeld3
import Derived.Shelf.GgClosure.Gives
import Derived.Lib.SliceRun
namespace Go.Proofs.YtpahfobijmmmmaaGreat
open Go.RowKit

theorem some_any (s : Sp) (w : World) : Calls Tryz.prog 72 #[.agg #[.int .i64 s.1, .int .i64 s.2.1, .int .i64 s.2.2]] w fun e w' => e = .returned (.bool (someS s)) ∧ Keep Never w w' := by
  obtain ⟨a, b, c⟩ := s
  simp only
  by_cases h1 : 0 ≤ a
  · by_cases h2 : 0 ≤ b
    · by_cases h3 : b < c
      · by_cases h4 : c ≤ 1000000
        · have hs : Hid (someS (a, b, c) = true) := Lib.hid (someS_iff.2 ⟨h1, h2, h3, h4⟩)
          go_enter Tryz.func72, Tryz.ntmps72
          go_wp2
          go_ret
          exact ⟨by rw [hs.out]; rfl, (Keep.refl Never w).alloc _⟩
        · have hs : Hid (someS (a, b, c) = false) := Lib.hid (by rw [← not_true_iff, someS_iff]; simp only; omega)
          go_enter Tryz.func72, Tryz.ntmps72
          go_wp2
          go_ret
          exact ⟨by rw [hs.out]; rfl, (Keep.refl Never w).alloc _⟩
      · have hs : Hid (someS (a, b, c) = false) := Lib.hid (by rw [← not_true_iff, someS_iff]; simp only; omega)
        go_enter Tryz.func72, Tryz.ntmps72
        go_wp2
        go_ret
        exact ⟨by rw [hs.out]; rfl, (Keep.refl Never w).alloc _⟩
    · have hs : Hid (someS (a, b, c) = false) := Lib.hid (by rw [← not_true_iff, someS_iff]; simp only; omega)
      go_enter Tryz.func72, Tryz.ntmps72
      go_wp2
      go_ret
      exact ⟨by rw [hs.out]; rfl, (Keep.refl Never w).alloc _⟩
  · have hs : Hid (someS (a, b, c) = false) := Lib.hid (by rw [← not_true_iff, someS_iff]; simp only; omega)
    go_enter Tryz.func72, Tryz.ntmps72
    go_wp2
    go_ret
    exact ⟨by rw [hs.out]; rfl, (Keep.refl Never w).alloc _⟩

/-- what is asked of a predicate of spans -/
def PredSp (g : Nat) (lb : Array Value) (p : Sp → Bool) (w : World) : Prop :=
  ∀ (W : World) (s : Sp), Keep Never w W → Calls Tryz.prog g (#[.agg #[.int .i64 s.1, .int .i64 s.2.1, .int .i64 s.2.2]] ++ lb) W fun e w' => e = .returned (.bool (p s)) ∧ Keep Never W w'
/-- what IndexFunc leaves -/
def IdxRet (p : Sp → Bool) (l : List Sp) (w : World) (e : Ending) (w' : World) : Prop :=
  ((∃ (i : Nat) (s : Sp), e = .returned (.int .i64 i) ∧ l[i]? = some s ∧ p s = true ∧ ∀ x ∈ l.take i, p x = false) ∨ (e = .returned (.int .i64 (-1)) ∧ ∀ x ∈ l, p x = false)) ∧ Keep Never w w'
set_option maxHeartbeats 1000000 in
set_option maxRecDepth 100000 in
theorem indexf_any (g : Nat) (lb : Array Value) (p : Sp → Bool) (eg : ∀ args w, (callFunc g args).run Tryz.prog w = .ok (.enter g args) w) (A : Option Addr) (n c B : Nat) (l : List Sp) (w : World) (hr : Rd w B 3 A n (spCells l)) (hp : PredSp g lb p w) (hn : n ≤ 100000000000) :
    Calls Tryz.prog 77 #[.slice A n c, .func (.func g) #[] lb] w (IdxRet p l w) := by
  have HL := Lib.hid hr.sp_len
  have HR := Lib.hid hr
  have HP := Lib.hid hp
  clear hr hp
  go_enter Tryz.func77, Tryz.ntmps77
  go_wp2_with fail
  go_loopw [5, 8] (fun _ s8 wr => ∃ k : Nat, k ≤ n ∧ s8 = .int .i64 k ∧ Hid (Keep Never w wr ∧ ∀ x ∈ l.take k, p x = false)) (fun _ i _ => n - (intOf i).toNat)
  case atStart => exact ⟨0, by omega, rfl, Lib.hid ⟨Keep.refl _ _, by simp⟩⟩
  case round =>
    obtain ⟨k, hk, rfl, HH⟩ := hrel
    by_cases h0 : k < n
    · have hki : (k : Int) < (n : Int) := by omega
      obtain ⟨ad, s, hA, _, hs, c0, c1, c2⟩ := (HR.out.keep HH.out.1 (fun _ h => h.elim)).sp h0
      subst hA
      have hcall := HP.out wr s HH.out.1
      have Hs := Lib.hid hs
      have htk : Hid (l.take (k + 1) = l.take k ++ [s]) := Lib.hid (by
        obtain ⟨h2, h3⟩ := List.getElem?_eq_some_iff.1 hs
        rw [List.take_succ_eq_append_getElem h2, h3])
      clear hs
      obtain ⟨s1, s2, s3⟩ := s
      simp only at c0 c1 c2 hcall
      cases hps : p (s1, s2, s3) with
      | true =>
        rw [hps] at hcall
        have Hps := Lib.hid hps
        clear hps
        go_wp2_with (go_at_fn g; refine hcall.mono ?_; rintro e w' ⟨rfl, hk'⟩)
        go_ret
        exact ⟨.inl ⟨k, _, rfl, Hs.out, Hps.out, HH.out.2⟩, HH.out.1.trans hk'⟩
      | false =>
        rw [hps] at hcall
        have Hps := Lib.hid hps
        clear hps
        go_wp2_with (go_at_fn g; refine hcall.mono ?_; rintro e w' ⟨rfl, hk'⟩)
        go_roundw
        case measure => simp [intOf]; try omega
        case rel =>
          refine ⟨k + 1, by omega, by go_num, Lib.hid ⟨HH.out.1.trans hk', fun x hx => ?_⟩⟩
          rw [htk.out] at hx
          rcases List.mem_append.1 hx with hx | hx
          · exact HH.out.2 x hx
          · simp at hx; subst hx; exact Hps.out
    · obtain rfl : k = n := by omega
      have hki : ¬ (k : Int) < (k : Int) := by omega
      have HN : Hid (∀ x ∈ l, p x = false) := Lib.hid (by have := HH.out.2; rwa [List.take_of_length_le (by have := HL.out; omega)] at this)
      go_wp2_with fail
      go_ret
      exact ⟨.inr ⟨rfl, HN.out⟩, HH.out.1⟩
set_option maxHeartbeats 1000000 in
set_option maxRecDepth 100000 in
theorem containsf_any (g : Nat) (lb : Array Value) (p : Sp → Bool) (eg : ∀ args w, (callFunc g args).run Tryz.prog w = .ok (.enter g args) w) (A : Option Addr) (n c B : Nat) (l : List Sp) (w : World) (hr : Rd w B 3 A n (spCells l)) (hp : PredSp g lb p w) (hn : n ≤ 100000000000) :
    Calls Tryz.prog 47 #[.slice A n c, .func (.func g) #[] lb] w fun e w' => e = .returned (.bool (l.any p)) ∧ Keep Never w w' := by
  have HI := Lib.hid (indexf_any g lb p eg A n c B l w hr hp hn)
  clear hr hp
  go_enter Tryz.func47, Tryz.ntmps47
  go_wp2_with fail
  refine HI.out.mono ?_
  rintro e w' ⟨⟨i, s, rfl, h1, h2, h3⟩ | ⟨rfl, h1⟩, hk⟩
  · have HA : Hid (l.any p = true) := Lib.hid (List.any_eq_true.2 ⟨s, List.mem_of_getElem? h1, h2⟩)
    have HK := Lib.hid hk
    have hi : decide ((i : Int) ≥ 0) = true := by simp
    clear h1 h2 h3 hk
    go_wp2_with fail
    go_ret
    exact ⟨by rw [HA.out]; rfl, HK.out⟩
  · have HA : Hid (l.any p = false) := Lib.hid (by rw [List.any_eq_false]; intro x hx; rw [h1 x hx]; simp)
    have HK := Lib.hid hk
    clear h1 hk
    go_wp2_with fail
    go_ret
    exact ⟨by rw [HA.out]; rfl, HK.out⟩

set_option maxHeartbeats 1000000 in
set_option maxRecDepth 100000 in
theorem clone_any (A : Option Addr) (n c B : Nat) (l : List Sp) (w : World) (hr : Rd w B 3 A n (spCells l)) (hA : A = none → c = 0) (hnc : n ≤ c) (hn : n ≤ 100000000000) (_hB : B ≤ w.heap.size) :
    Calls Tryz.prog 70 #[.slice A n c] w fun e w' => ∃ A' c', e = .returned (.slice A' n c') ∧ Own w' w.heap.size 74 3 A' n c' (spCells l) ∧ Keep Never w w' := by
  have HR := Lib.hid hr
  have HL := Lib.hid hr.sp_len
  clear hr
  have q22 : ∀ (w : World) (a : Option Addr) (n c n' c' : Nat), (binOp .eql 32 (.slice a n c) (.slice none n' c')).run Tryz.prog w = .ok (.bool a.isNone) w := fun w a n c n' c' => Lib.run_eql_slice_nil w _ _ a n c n' c' Tryz.underlying32
  cases A with
  | none =>
    obtain rfl := hA rfl
    obtain rfl : n = 0 := by omega
    have hl : l = [] := List.eq_nil_of_length_eq_zero HL.out
    subst hl
    clear hA
    go_enter Tryz.func70, Tryz.ntmps70
    go_wp2_with fail
    go_ret
    exact ⟨none, 0, rfl, Own.nil _ _ _ _, Keep.refl _ _⟩
  | some ad =>
    clear hA
    have HO : Hid (Own (w.alloc (.cells #[] 74)) w.heap.size 74 3 (some ⟨w.heap.size, 0, none⟩) 0 0 []) := Lib.hid (by
      have h := Own.lit w 74 #[] 0 3 (by unfold maxLen; omega) rfl
      simpa using h)
    have HK : Hid (Keep Never w (w.alloc (.cells #[] 74))) := Lib.hid ((Keep.refl Never w).alloc _)
    have HR1 := Lib.hid (HR.out.keep HK.out (fun _ h => h.elim))
    have hsz : w.heap.size ≤ (w.alloc (.cells #[] 74)).heap.size := by simp
    go_enter Tryz.func70, Tryz.ntmps70
    go_wp2_with (at_builtin; refine wpList_app _ rfl (.tmp 5) (.tmp 6) _ rfl elemSp w.heap.size (n := 0) (c := 0) rfl HO.out B (m := n) rfl HR1.out (spCells_one _) (by omega) (by unfold maxLen; omega) hsz ?_; intro A5 c5 w5 hown hk5 hrow)
    go_ret
    refine ⟨A5, c5, by simp, by simpa using hown, HK.out.then_ hk5 (fun i hi h => ?_)⟩
    have := (HO.out.row h).1
    omega

end Go.Proofs.YtpahfobijmmmmaaGreat
