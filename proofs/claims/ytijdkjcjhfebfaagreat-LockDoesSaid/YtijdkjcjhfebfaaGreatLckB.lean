/- Chapter 16 (lock): how lockings lie in cells; slices.ContainsFunc, Clone at lockings. -/
import Derived.Test.YtijdkjcjhfebfaaGreatLckA
import Derived.Test.YtijdkjcjhfebfaaGreatBdSpnR
import Derived.Test.YtijdkjcjhfebfaaGreatBdTopP
import Derived.Test.YtijdkjcjhfebfaaGreatPlcC
namespace Go.Proofs.YtijdkjcjhfebfaaGreat
open Go.RowKit

def repLk : Rep Lk := Rep.int.pair (Rep.int.pair Rep.int)
theorem opens_lk : Rep.Opens Tryz.prog 63 repLk :=
  Rep.opens_struct Tryz.underlying63 (by kernel_rfl)
    (Rep.fopens_cons rfl (by kernel_rfl) (Rep.opens_int Tryz.underlying3) (Rep.fopens_cons rfl (by kernel_rfl) (Rep.opens_int Tryz.underlying3) (Rep.fopens_last rfl (by kernel_rfl) (Rep.opens_int Tryz.underlying3))))
theorem opens_lks : Rep.Opens Tryz.prog 28 repLk.list := Rep.opens_list Tryz.underlying28 (by kernel_rfl) (by decide) opens_lk
def repItr : Rep Itr := repLk.list.pair Rep.int
theorem opens_itr : Rep.Opens Tryz.prog 30 repItr :=
  Rep.opens_struct Tryz.underlying30 (by kernel_rfl) (Rep.fopens_cons rfl (by kernel_rfl) opens_lks (Rep.fopens_last rfl (by kernel_rfl) (Rep.opens_int Tryz.underlying3)))
/-- a call: Free?, route, train, number -/
abbrev Op16 := Bool × Int × Int × Int
def repO16 : Rep Op16 := Rep.bool.pair (Rep.int.pair (Rep.int.pair Rep.int))
theorem opens_o16 : Rep.Opens Tryz.prog 32 repO16 :=
  Rep.opens_struct Tryz.underlying32 (by kernel_rfl)
    (Rep.fopens_cons rfl (by kernel_rfl) (Rep.opens_bool Tryz.underlying4) (Rep.fopens_cons rfl (by kernel_rfl) (Rep.opens_int Tryz.underlying3) (Rep.fopens_cons rfl (by kernel_rfl) (Rep.opens_int Tryz.underlying3) (Rep.fopens_last rfl (by kernel_rfl) (Rep.opens_int Tryz.underlying3)))))
theorem lks_at {w : World} {B n c : Nat} {A : Option Addr} {l : List Lk} (h : repLk.Sl w B A n c l) : SpAt w B A n c l := by
  obtain ⟨h1, h2, h3, h4, h5, _⟩ := sps_rd (show repSp.Sl w B A n c l from h)
  exact ⟨h1, h5, h3⟩
set_option maxRecDepth 100000 in
theorem elemLk : Elem Tryz.prog 28 63 3 24 := ⟨Tryz.underlying28, _, _, rfl, rfl, rfl, rfl, rfl, by omega⟩
theorem lkAt_own {w : World} {base n c : Nat} {A : Option Addr} {l : List Lk} (h : Own w base 63 3 A n c (spCells l)) : SpAt w w.heap.size A n c l :=
  ⟨h.rd, (fun e => by
    rcases h.form with ⟨_, _, h2, _⟩ | ⟨_, _, h2, _⟩
    · exact h2
    · rw [e] at h2; cases h2), h.cap_le⟩
theorem SpAt.take {w : World} {B n c : Nat} {A : Option Addr} {l : List Sp} (h : SpAt w B A n c l) {i : Nat} (hi : i ≤ n) : SpAt w B A i c (l.take i) := by
  refine ⟨⟨?_, fun h0 => ?_⟩, h.nil, Nat.le_trans hi h.cap⟩
  · rw [← spCells_take, List.length_take, h.rd.1]; omega
  · obtain ⟨ad, e, hb, hc⟩ := h.rd.2 (by omega)
    refine ⟨ad, e, hb, fun j v hj => hc j v ?_⟩
    rw [← spCells_take, List.getElem?_take] at hj
    split at hj
    · exact hj
    · cases hj
/-- an interlocking's cells -/
theorem itr_of {w : World} {B : Nat} {x : Itr} {cs : List Value} (h : repItr.cells w B x cs) : ∃ A n c, cs = [.slice A n c, .int .i64 x.2] ∧ SpAt w B A n c x.1 := by
  obtain ⟨c1, d1, rfl, ⟨A, n, c, rfl, hs⟩, rfl, _⟩ := h
  exact ⟨A, n, c, rfl, lks_at hs⟩
set_option maxHeartbeats 1000000 in
set_option maxRecDepth 100000 in
theorem indexfk_any (g : Nat) (lb : Array Value) (p : Sp → Bool) (eg : ∀ args w, (callFunc g args).run Tryz.prog w = .ok (.enter g args) w) (A : Option Addr) (n c B : Nat) (l : List Sp) (w : World) (hr : Rd w B 3 A n (spCells l)) (hp : PredSp g lb p w) (hn : n ≤ 100000000000) :
    Calls Tryz.prog 77 #[.slice A n c, .func (.func g) #[] lb] w (IdxRet p l w) := by
  have HL := Lib.hid hr.sp_len
  have HR := Lib.hid hr
  have HP := Lib.hid hp
  clear hr hp
  go_enter Tryz.func77, Tryz.ntmps77
  go_wp2_with fail
  go_loopw [5, 8] (fun _ s8 wr => ∃ k : Nat, k ≤ n ∧ s8 = .int .i64 k ∧ Hid (Keep Never w wr ∧ ∀ x ∈ l.take k, p x = false)) (fun _ i _ => n - (intOf i).toNat)
  case atStart => exact ⟨0, by omega, rfl, Lib.hid ⟨Keep.refl _ _, by simp⟩⟩
  case round =>
    obtain ⟨k, hk, rfl, HH⟩ := hrel
    by_cases h0 : k < n
    · have hki : (k : Int) < (n : Int) := by omega
      obtain ⟨ad, s, hA, _, hs, c0, c1, c2⟩ := (HR.out.keep HH.out.1 (fun _ h => h.elim)).sp h0
      subst hA
      have hcall := HP.out wr s HH.out.1
      have Hs := Lib.hid hs
      have htk : Hid (l.take (k + 1) = l.take k ++ [s]) := Lib.hid (by
        obtain ⟨h2, h3⟩ := List.getElem?_eq_some_iff.1 hs
        rw [List.take_succ_eq_append_getElem h2, h3])
      clear hs
      obtain ⟨s1, s2, s3⟩ := s
      simp only at c0 c1 c2 hcall
      cases hps : p (s1, s2, s3) with
      | true =>
        rw [hps] at hcall
        have Hps := Lib.hid hps
        clear hps
        go_wp2_with (go_at_fn g; refine hcall.mono ?_; rintro e w' ⟨rfl, hk'⟩)
        go_ret
        exact ⟨.inl ⟨k, _, rfl, Hs.out, Hps.out, HH.out.2⟩, HH.out.1.trans hk'⟩
      | false =>
        rw [hps] at hcall
        have Hps := Lib.hid hps
        clear hps
        go_wp2_with (go_at_fn g; refine hcall.mono ?_; rintro e w' ⟨rfl, hk'⟩)
        go_roundw
        case measure => simp [intOf]; try omega
        case rel =>
          refine ⟨k + 1, by omega, by go_num, Lib.hid ⟨HH.out.1.trans hk', fun x hx => ?_⟩⟩
          rw [htk.out] at hx
          rcases List.mem_append.1 hx with hx | hx
          · exact HH.out.2 x hx
          · simp at hx; subst hx; exact Hps.out
    · obtain rfl : k = n := by omega
      have hki : ¬ (k : Int) < (k : Int) := by omega
      have HN : Hid (∀ x ∈ l, p x = false) := Lib.hid (by have := HH.out.2; rwa [List.take_of_length_le (by have := HL.out; omega)] at this)
      go_wp2_with fail
      go_ret
      exact ⟨.inr ⟨rfl, HN.out⟩, HH.out.1⟩
set_option maxHeartbeats 1000000 in
set_option maxRecDepth 100000 in
theorem containsfk_any (g : Nat) (lb : Array Value) (p : Sp → Bool) (eg : ∀ args w, (callFunc g args).run Tryz.prog w = .ok (.enter g args) w) (A : Option Addr) (n c B : Nat) (l : List Sp) (w : World) (hr : Rd w B 3 A n (spCells l)) (hp : PredSp g lb p w) (hn : n ≤ 100000000000) :
    Calls Tryz.prog 49 #[.slice A n c, .func (.func g) #[] lb] w fun e w' => e = .returned (.bool (l.any p)) ∧ Keep Never w w' := by
  have HI := Lib.hid (indexfk_any g lb p eg A n c B l w hr hp hn)
  clear hr hp
  go_enter Tryz.func49, Tryz.ntmps49
  go_wp2_with fail
  refine HI.out.mono ?_
  rintro e w' ⟨⟨i, s, rfl, h1, h2, h3⟩ | ⟨rfl, h1⟩, hk⟩
  · have HA : Hid (l.any p = true) := Lib.hid (List.any_eq_true.2 ⟨s, List.mem_of_getElem? h1, h2⟩)
    have HK := Lib.hid hk
    have hi : decide ((i : Int) ≥ 0) = true := by simp
    clear h1 h2 h3 hk
    go_wp2_with fail
    go_ret
    exact ⟨by rw [HA.out]; rfl, HK.out⟩
  · have HA : Hid (l.any p = false) := Lib.hid (by rw [List.any_eq_false]; intro x hx; rw [h1 x hx]; simp)
    have HK := Lib.hid hk
    clear h1 hk
    go_wp2_with fail
    go_ret
    exact ⟨by rw [HA.out]; rfl, HK.out⟩

set_option maxHeartbeats 1000000 in
set_option maxRecDepth 100000 in
theorem cloneK_any (A : Option Addr) (n c B : Nat) (l : List Sp) (w : World) (hr : Rd w B 3 A n (spCells l)) (hA : A = none → c = 0) (hnc : n ≤ c) (hn : n ≤ 100000000000) (hB : B ≤ w.heap.size) :
    Calls Tryz.prog 30 #[.slice A n c] w fun e w' => ∃ A' c', e = .returned (.slice A' n c') ∧ Own w' w.heap.size 63 3 A' n c' (spCells l) ∧ Keep Never w w' := by
  have HR := Lib.hid hr
  have HL := Lib.hid hr.sp_len
  clear hr
  have q22 : ∀ (w : World) (a : Option Addr) (n c n' c' : Nat), (binOp .eql 28 (.slice a n c) (.slice none n' c')).run Tryz.prog w = .ok (.bool a.isNone) w := fun w a n c n' c' => Lib.run_eql_slice_nil w _ _ a n c n' c' Tryz.underlying28
  cases A with
  | none =>
    obtain rfl := hA rfl
    obtain rfl : n = 0 := by omega
    have hl : l = [] := List.eq_nil_of_length_eq_zero HL.out
    subst hl
    clear hA
    go_enter Tryz.func30, Tryz.ntmps30
    go_wp2_with fail
    go_ret
    exact ⟨none, 0, rfl, Own.nil _ _ _ _, Keep.refl _ _⟩
  | some ad =>
    clear hA
    have HO : Hid (Own (w.alloc (.cells #[] 63)) w.heap.size 63 3 (some ⟨w.heap.size, 0, none⟩) 0 0 []) := Lib.hid (by
      have h := Own.lit w 63 #[] 0 3 (by unfold maxLen; omega) rfl
      simpa using h)
    have HK : Hid (Keep Never w (w.alloc (.cells #[] 63))) := Lib.hid ((Keep.refl Never w).alloc _)
    have HR1 := Lib.hid (HR.out.keep HK.out (fun _ h => h.elim))
    have hsz : w.heap.size ≤ (w.alloc (.cells #[] 63)).heap.size := by simp
    go_enter Tryz.func30, Tryz.ntmps30
    go_wp2_with (at_builtin; refine wpList_app _ rfl (.tmp 5) (.tmp 6) _ rfl elemLk w.heap.size (n := 0) (c := 0) rfl HO.out B (m := n) rfl HR1.out (spCells_one _) (by omega) (by unfold maxLen; omega) hsz ?_; intro A5 c5 w5 hown hk5 hrow)
    go_ret
    refine ⟨A5, c5, by simp, by simpa using hown, HK.out.then_ hk5 (fun i hi h => ?_)⟩
    have := (HO.out.row h).1
    omega

end Go.Proofs.YtijdkjcjhfebfaaGreat
