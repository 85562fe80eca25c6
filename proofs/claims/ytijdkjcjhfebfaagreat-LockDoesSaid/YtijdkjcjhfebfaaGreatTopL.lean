/- Chapter 13: slices.IndexFunc, ContainsFunc, Clone at balise groups, steps, routes; topo.Bal, topo.Route. -/
import Derived.Test.YtijdkjcjhfebfaaGreatAftB
import Derived.Test.YtijdkjcjhfebfaaGreatSpnD
namespace Go.Proofs.YtijdkjcjhfebfaaGreat
open Go.RowKit

theorem bl_rd {w : World} {B n c : Nat} {A : Option Addr} {l : List Bl} (h : repBl.Sl w B A n c l) : Rd w B 3 A n (spCells l) := (sps_rd (show repSp.Sl w B A n c l from h)).1
theorem rt_at2 {w : World} {B n c i : Nat} {A : Option Addr} {l : List Rt} (h : repRt.Sl w B A n c l) (hi : i < n) : ∃ ad s A2 n2 c2, A = some ad ∧ ad.block < B ∧ l[i]? = some s ∧ w.cell? (ad.add (i * 4)) = some (.int .i64 s.1) ∧ w.cell? ⟨(ad.add (i * 4)).block, (ad.add (i * 4)).off + 1, none⟩ = some (.slice A2 n2 c2) ∧
    w.cell? ⟨(ad.add (i * 4)).block, (ad.add (i * 4)).off + 2, none⟩ = some (.int .i64 s.2.2.1) ∧ w.cell? ⟨(ad.add (i * 4)).block, (ad.add (i * 4)).off + 3, none⟩ = some (.int .i64 s.2.2.2) ∧ repStp.Sl w B A2 n2 c2 s.2.1 := by
  obtain ⟨ad, s, cs, e, hb, hs, ⟨c1, d1, rfl, ⟨rfl, _⟩, ⟨c2, d2, rfl, ⟨A2, n2, cc, rfl, hsl⟩, ⟨c3, d3, rfl, ⟨rfl, _⟩, ⟨rfl, _⟩⟩⟩⟩, hc⟩ := h.at_ hi
  have e0 := hc 0 (by decide)
  have e1 := hc 1 (by decide)
  have e2 := hc 2 (by decide)
  have e3 := hc 3 (by decide)
  have hsz : repRt.size = 4 := rfl
  rw [hsz] at e0 e1 e2 e3
  rw [fld _ _ (by omega)] at e1 e2 e3
  exact ⟨ad, s, A2, n2, cc, e, hb, hs, e0, e1, e2, e3, hsl⟩
/-- what is asked of a predicate of steps -/
def PredStp (g : Nat) (lb : Array Value) (p : Stp → Bool) (w : World) : Prop :=
  ∀ (W : World) (s : Stp), Keep Never w W → Calls Tryz.prog g (#[.agg #[.int .i64 s.1, .bool s.2]] ++ lb) W fun e w' => e = .returned (.bool (p s)) ∧ Keep Never W w'
def IdxRetS (p : Stp → Bool) (l : List Stp) (w : World) (e : Ending) (w' : World) : Prop :=
  ((∃ (i : Nat) (s : Stp), e = .returned (.int .i64 i) ∧ l[i]? = some s ∧ p s = true ∧ ∀ x ∈ l.take i, p x = false) ∨ (e = .returned (.int .i64 (-1)) ∧ ∀ x ∈ l, p x = false)) ∧ Keep Never w w'
/-- .. of routes, that looks at their numbers alone -/
def PredRt (g : Nat) (lb : Array Value) (p : Int → Bool) (w : World) : Prop :=
  ∀ (W : World) (i x y : Int) (A : Option Addr) (n c : Nat), Keep Never w W → Calls Tryz.prog g (#[.agg #[.int .i64 i, .slice A n c, .int .i64 x, .int .i64 y]] ++ lb) W fun e w' => e = .returned (.bool (p i)) ∧ Keep Never W w'
def IdxRetR (p : Int → Bool) (l : List Rt) (w : World) (e : Ending) (w' : World) : Prop :=
  ((∃ (i : Nat) (s : Rt), e = .returned (.int .i64 i) ∧ l[i]? = some s ∧ p s.1 = true ∧ ∀ x ∈ l.take i, p x.1 = false) ∨ (e = .returned (.int .i64 (-1)) ∧ ∀ x ∈ l, p x.1 = false)) ∧ Keep Never w w'
set_option maxHeartbeats 1000000 in
set_option maxRecDepth 100000 in
theorem indexfb_any (g : Nat) (lb : Array Value) (p : Sp → Bool) (eg : ∀ args w, (callFunc g args).run Tryz.prog w = .ok (.enter g args) w) (A : Option Addr) (n c B : Nat) (l : List Sp) (w : World) (hr : Rd w B 3 A n (spCells l)) (hp : PredSp g lb p w) (hn : n ≤ 100000000000) :
    Calls Tryz.prog 82 #[.slice A n c, .func (.func g) #[] lb] w (IdxRet p l w) := by
  have HL := Lib.hid hr.sp_len
  have HR := Lib.hid hr
  have HP := Lib.hid hp
  clear hr hp
  go_enter Tryz.func82, Tryz.ntmps82
  go_wp2_with fail
  go_loopw [5, 8] (fun _ s8 wr => ∃ k : Nat, k ≤ n ∧ s8 = .int .i64 k ∧ Hid (Keep Never w wr ∧ ∀ x ∈ l.take k, p x = false)) (fun _ i _ => n - (intOf i).toNat)
  case atStart => exact ⟨0, by omega, rfl, Lib.hid ⟨Keep.refl _ _, by simp⟩⟩
  case round =>
    obtain ⟨k, hk, rfl, HH⟩ := hrel
    by_cases h0 : k < n
    · have hki : (k : Int) < (n : Int) := by omega
      obtain ⟨ad, s, hA, _, hs, c0, c1, c2⟩ := (HR.out.keep HH.out.1 (fun _ h => h.elim)).sp h0
      subst hA
      have hcall := HP.out wr s HH.out.1
      have Hs := Lib.hid hs
      have htk : Hid (l.take (k + 1) = l.take k ++ [s]) := Lib.hid (by
        obtain ⟨h2, h3⟩ := List.getElem?_eq_some_iff.1 hs
        rw [List.take_succ_eq_append_getElem h2, h3])
      clear hs
      obtain ⟨s1, s2, s3⟩ := s
      simp only at c0 c1 c2 hcall
      cases hps : p (s1, s2, s3) with
      | true =>
        rw [hps] at hcall
        have Hps := Lib.hid hps
        clear hps
        go_wp2_with (go_at_fn g; refine hcall.mono ?_; rintro e w' ⟨rfl, hk'⟩)
        go_ret
        exact ⟨.inl ⟨k, _, rfl, Hs.out, Hps.out, HH.out.2⟩, HH.out.1.trans hk'⟩
      | false =>
        rw [hps] at hcall
        have Hps := Lib.hid hps
        clear hps
        go_wp2_with (go_at_fn g; refine hcall.mono ?_; rintro e w' ⟨rfl, hk'⟩)
        go_roundw
        case measure => simp [intOf]; try omega
        case rel =>
          refine ⟨k + 1, by omega, by go_num, Lib.hid ⟨HH.out.1.trans hk', fun x hx => ?_⟩⟩
          rw [htk.out] at hx
          rcases List.mem_append.1 hx with hx | hx
          · exact HH.out.2 x hx
          · simp at hx; subst hx; exact Hps.out
    · obtain rfl : k = n := by omega
      have hki : ¬ (k : Int) < (k : Int) := by omega
      have HN : Hid (∀ x ∈ l, p x = false) := Lib.hid (by have := HH.out.2; rwa [List.take_of_length_le (by have := HL.out; omega)] at this)
      go_wp2_with fail
      go_ret
      exact ⟨.inr ⟨rfl, HN.out⟩, HH.out.1⟩
set_option maxHeartbeats 1000000 in
set_option maxRecDepth 100000 in
theorem containsfb_any (g : Nat) (lb : Array Value) (p : Sp → Bool) (eg : ∀ args w, (callFunc g args).run Tryz.prog w = .ok (.enter g args) w) (A : Option Addr) (n c B : Nat) (l : List Sp) (w : World) (hr : Rd w B 3 A n (spCells l)) (hp : PredSp g lb p w) (hn : n ≤ 100000000000) :
    Calls Tryz.prog 86 #[.slice A n c, .func (.func g) #[] lb] w fun e w' => e = .returned (.bool (l.any p)) ∧ Keep Never w w' := by
  have HI := Lib.hid (indexfb_any g lb p eg A n c B l w hr hp hn)
  clear hr hp
  go_enter Tryz.func86, Tryz.ntmps86
  go_wp2_with fail
  refine HI.out.mono ?_
  rintro e w' ⟨⟨i, s, rfl, h1, h2, h3⟩ | ⟨rfl, h1⟩, hk⟩
  · have HA : Hid (l.any p = true) := Lib.hid (List.any_eq_true.2 ⟨s, List.mem_of_getElem? h1, h2⟩)
    have HK := Lib.hid hk
    have hi : decide ((i : Int) ≥ 0) = true := by simp
    clear h1 h2 h3 hk
    go_wp2_with fail
    go_ret
    exact ⟨by rw [HA.out]; rfl, HK.out⟩
  · have HA : Hid (l.any p = false) := Lib.hid (by rw [List.any_eq_false]; intro x hx; rw [h1 x hx]; simp)
    have HK := Lib.hid hk
    clear h1 hk
    go_wp2_with fail
    go_ret
    exact ⟨by rw [HA.out]; rfl, HK.out⟩

set_option maxHeartbeats 1000000 in
set_option maxRecDepth 100000 in
theorem indexfs_any (g : Nat) (lb : Array Value) (p : Stp → Bool) (eg : ∀ args w, (callFunc g args).run Tryz.prog w = .ok (.enter g args) w) (A : Option Addr) (n c B : Nat) (l : List Stp) (w : World) (hr : Rd w B 2 A n (stpCells l)) (hp : PredStp g lb p w) (hn : n ≤ 100000000000) :
    Calls Tryz.prog 100 #[.slice A n c, .func (.func g) #[] lb] w (IdxRetS p l w) := by
  have HL := Lib.hid hr.stp_len
  have HR := Lib.hid hr
  have HP := Lib.hid hp
  clear hr hp
  go_enter Tryz.func100, Tryz.ntmps100
  go_wp2_with fail
  go_loopw [5, 8] (fun _ s8 wr => ∃ k : Nat, k ≤ n ∧ s8 = .int .i64 k ∧ Hid (Keep Never w wr ∧ ∀ x ∈ l.take k, p x = false)) (fun _ i _ => n - (intOf i).toNat)
  case atStart => exact ⟨0, by omega, rfl, Lib.hid ⟨Keep.refl _ _, by simp⟩⟩
  case round =>
    obtain ⟨k, hk, rfl, HH⟩ := hrel
    by_cases h0 : k < n
    · have hki : (k : Int) < (n : Int) := by omega
      obtain ⟨ad, s, hA, _, hs, c0, c1⟩ := (HR.out.keep HH.out.1 (fun _ h => h.elim)).stp h0
      subst hA
      have hcall := HP.out wr s HH.out.1
      have Hs := Lib.hid hs
      have htk : Hid (l.take (k + 1) = l.take k ++ [s]) := Lib.hid (by
        obtain ⟨h2, h3⟩ := List.getElem?_eq_some_iff.1 hs
        rw [List.take_succ_eq_append_getElem h2, h3])
      clear hs
      obtain ⟨s1, s2⟩ := s
      simp only at c0 c1 hcall
      cases hps : p (s1, s2) with
      | true =>
        rw [hps] at hcall
        have Hps := Lib.hid hps
        clear hps
        go_wp2_with (go_at_fn g; refine hcall.mono ?_; rintro e w' ⟨rfl, hk'⟩)
        go_ret
        exact ⟨.inl ⟨k, _, rfl, Hs.out, Hps.out, HH.out.2⟩, HH.out.1.trans hk'⟩
      | false =>
        rw [hps] at hcall
        have Hps := Lib.hid hps
        clear hps
        go_wp2_with (go_at_fn g; refine hcall.mono ?_; rintro e w' ⟨rfl, hk'⟩)
        go_roundw
        case measure => simp [intOf]; try omega
        case rel =>
          refine ⟨k + 1, by omega, by go_num, Lib.hid ⟨HH.out.1.trans hk', fun x hx => ?_⟩⟩
          rw [htk.out] at hx
          rcases List.mem_append.1 hx with hx | hx
          · exact HH.out.2 x hx
          · simp at hx; subst hx; exact Hps.out
    · obtain rfl : k = n := by omega
      have hki : ¬ (k : Int) < (k : Int) := by omega
      have HN : Hid (∀ x ∈ l, p x = false) := Lib.hid (by have := HH.out.2; rwa [List.take_of_length_le (by have := HL.out; omega)] at this)
      go_wp2_with fail
      go_ret
      exact ⟨.inr ⟨rfl, HN.out⟩, HH.out.1⟩
set_option maxHeartbeats 1000000 in
set_option maxRecDepth 100000 in
theorem containsfs_any (g : Nat) (lb : Array Value) (p : Stp → Bool) (eg : ∀ args w, (callFunc g args).run Tryz.prog w = .ok (.enter g args) w) (A : Option Addr) (n c B : Nat) (l : List Stp) (w : World) (hr : Rd w B 2 A n (stpCells l)) (hp : PredStp g lb p w) (hn : n ≤ 100000000000) :
    Calls Tryz.prog 85 #[.slice A n c, .func (.func g) #[] lb] w fun e w' => e = .returned (.bool (l.any p)) ∧ Keep Never w w' := by
  have HI := Lib.hid (indexfs_any g lb p eg A n c B l w hr hp hn)
  clear hr hp
  go_enter Tryz.func85, Tryz.ntmps85
  go_wp2_with fail
  refine HI.out.mono ?_
  rintro e w' ⟨⟨i, s, rfl, h1, h2, h3⟩ | ⟨rfl, h1⟩, hk⟩
  · have HA : Hid (l.any p = true) := Lib.hid (List.any_eq_true.2 ⟨s, List.mem_of_getElem? h1, h2⟩)
    have HK := Lib.hid hk
    have hi : decide ((i : Int) ≥ 0) = true := by simp
    clear h1 h2 h3 hk
    go_wp2_with fail
    go_ret
    exact ⟨by rw [HA.out]; rfl, HK.out⟩
  · have HA : Hid (l.any p = false) := Lib.hid (by rw [List.any_eq_false]; intro x hx; rw [h1 x hx]; simp)
    have HK := Lib.hid hk
    clear h1 hk
    go_wp2_with fail
    go_ret
    exact ⟨by rw [HA.out]; rfl, HK.out⟩

set_option maxHeartbeats 1000000 in
set_option maxRecDepth 100000 in
theorem indexfr_any (g : Nat) (lb : Array Value) (p : Int → Bool) (eg : ∀ args w, (callFunc g args).run Tryz.prog w = .ok (.enter g args) w) (A : Option Addr) (n c B : Nat) (l : List Rt) (w : World) (hr : repRt.Sl w B A n c l) (hp : PredRt g lb p w) (hn : n ≤ 100000000000) :
    Calls Tryz.prog 46 #[.slice A n c, .func (.func g) #[] lb] w (IdxRetR p l w) := by
  have HL := Lib.hid hr.len.symm
  have HR := Lib.hid hr
  have HP := Lib.hid hp
  clear hr hp
  go_enter Tryz.func46, Tryz.ntmps46
  go_wp2_with fail
  go_loopw [5, 8] (fun _ s8 wr => ∃ k : Nat, k ≤ n ∧ s8 = .int .i64 k ∧ Hid (Keep Never w wr ∧ ∀ x ∈ l.take k, p x.1 = false)) (fun _ i _ => n - (intOf i).toNat)
  case atStart => exact ⟨0, by omega, rfl, Lib.hid ⟨Keep.refl _ _, by simp⟩⟩
  case round =>
    obtain ⟨k, hk, rfl, HH⟩ := hrel
    by_cases h0 : k < n
    · have hki : (k : Int) < (n : Int) := by omega
      obtain ⟨ad, s, A2, n2, d2, hA, _, hs, c0, c1, c2, c3, _⟩ := rt_at2 (HR.out.keep HH.out.1 (fun _ h => h.elim)) h0
      subst hA
      have hcall := HP.out wr s.1 s.2.2.1 s.2.2.2 A2 n2 d2 HH.out.1
      have Hs := Lib.hid hs
      have htk : Hid (l.take (k + 1) = l.take k ++ [s]) := Lib.hid (by
        obtain ⟨h2, h3⟩ := List.getElem?_eq_some_iff.1 hs
        rw [List.take_succ_eq_append_getElem h2, h3])
      clear hs
      obtain ⟨s1, s4, s2, s3⟩ := s
      simp only at c0 c1 c2 c3 hcall
      cases hps : p s1 with
      | true =>
        rw [hps] at hcall
        have Hps := Lib.hid hps
        clear hps
        go_wp2_with (go_at_fn g; refine hcall.mono ?_; rintro e w' ⟨rfl, hk'⟩)
        go_ret
        exact ⟨.inl ⟨k, _, rfl, Hs.out, Hps.out, HH.out.2⟩, HH.out.1.trans hk'⟩
      | false =>
        rw [hps] at hcall
        have Hps := Lib.hid hps
        clear hps
        go_wp2_with (go_at_fn g; refine hcall.mono ?_; rintro e w' ⟨rfl, hk'⟩)
        go_roundw
        case measure => simp [intOf]; try omega
        case rel =>
          refine ⟨k + 1, by omega, by go_num, Lib.hid ⟨HH.out.1.trans hk', fun x hx => ?_⟩⟩
          rw [htk.out] at hx
          rcases List.mem_append.1 hx with hx | hx
          · exact HH.out.2 x hx
          · simp at hx; subst hx; exact Hps.out
    · obtain rfl : k = n := by omega
      have hki : ¬ (k : Int) < (k : Int) := by omega
      have HN : Hid (∀ x ∈ l, p x.1 = false) := Lib.hid (by have := HH.out.2; rwa [List.take_of_length_le (by have := HL.out; omega)] at this)
      go_wp2_with fail
      go_ret
      exact ⟨.inr ⟨rfl, HN.out⟩, HH.out.1⟩
set_option maxHeartbeats 1000000 in
set_option maxRecDepth 100000 in
theorem cloneT_any (A : Option Addr) (n c B : Nat) (l : List Stp) (w : World) (hr : Rd w B 2 A n (stpCells l)) (hA : A = none → c = 0) (hnc : n ≤ c) (hn : n ≤ 100000000000) (_hB : B ≤ w.heap.size) :
    Calls Tryz.prog 48 #[.slice A n c] w fun e w' => ∃ A' c', e = .returned (.slice A' n c') ∧ Own w' w.heap.size 81 2 A' n c' (stpCells l) ∧ Keep Never w w' := by
  have HR := Lib.hid hr
  have HL := Lib.hid hr.stp_len
  clear hr
  have q22 : ∀ (w : World) (a : Option Addr) (n c n' c' : Nat), (binOp .eql 55 (.slice a n c) (.slice none n' c')).run Tryz.prog w = .ok (.bool a.isNone) w := fun w a n c n' c' => Lib.run_eql_slice_nil w _ _ a n c n' c' Tryz.underlying55
  cases A with
  | none =>
    obtain rfl := hA rfl
    obtain rfl : n = 0 := by omega
    have hl : l = [] := List.eq_nil_of_length_eq_zero HL.out
    subst hl
    clear hA
    go_enter Tryz.func48, Tryz.ntmps48
    go_wp2_with fail
    go_ret
    exact ⟨none, 0, rfl, Own.nil _ _ _ _, Keep.refl _ _⟩
  | some ad =>
    clear hA
    have HO : Hid (Own (w.alloc (.cells #[] 81)) w.heap.size 81 2 (some ⟨w.heap.size, 0, none⟩) 0 0 []) := Lib.hid (by
      have h := Own.lit w 81 #[] 0 2 (by unfold maxLen; omega) rfl
      simpa using h)
    have HK : Hid (Keep Never w (w.alloc (.cells #[] 81))) := Lib.hid ((Keep.refl Never w).alloc _)
    have HR1 := Lib.hid (HR.out.keep HK.out (fun _ h => h.elim))
    have hsz : w.heap.size ≤ (w.alloc (.cells #[] 81)).heap.size := by simp
    go_enter Tryz.func48, Tryz.ntmps48
    go_wp2_with (at_builtin; refine wpList_app _ rfl (.tmp 5) (.tmp 6) _ rfl elemStp w.heap.size (n := 0) (c := 0) rfl HO.out B (m := n) rfl HR1.out (stpCells_one _) (by omega) (by unfold maxLen; omega) hsz ?_; intro A5 c5 w5 hown hk5 hrow)
    go_ret
    refine ⟨A5, c5, by simp, by simpa using hown, HK.out.then_ hk5 (fun i hi h => ?_)⟩
    have := (HO.out.row h).1
    omega

set_option maxHeartbeats 1000000 in
set_option maxRecDepth 100000 in
theorem balF_any (a b c : Int) (id : Int) (g : Nat) (w : World) (h : w.cell? ⟨g, 0, none⟩ = some (.int .i64 id)) : Calls Tryz.prog 83 #[.agg #[.int .i64 a, .int .i64 b, .int .i64 c], .pointer (some ⟨g, 0, none⟩)] w fun e w' => e = .returned (.bool (a == id)) ∧ Keep Never w w' := by
  obtain ⟨w1, hw1⟩ : ∃ W : World, w.alloc (.cells #[.int .i64 a, .int .i64 b, .int .i64 c] 79) = W := ⟨_, rfl⟩
  have k1 : Keep Never w w1 := by rw [← hw1]; exact (Keep.refl _ _).alloc _
  have b1 := Blk.new w 79 #[.int .i64 a, .int .i64 b, .int .i64 c]
  rw [hw1] at b1
  have c0 := b1.cell 0
  have c1 := b1.cell 1
  have d0 := keepT k1 h
  have HK := Lib.hid k1
  clear k1 b1 h
  by_cases e1 : a = id
  · have t1 : (a == id) = true := by simpa using e1
    have HF := Lib.hid t1
    clear e1
    go_enter Tryz.func83, Tryz.ntmps83
    go_wp2_with fail
    go_ret
    exact ⟨by rw [HF.out]; rfl, HK.out⟩
  · have t1 : (a == id) = false := by simpa using e1
    have HF := Lib.hid t1
    clear e1
    go_enter Tryz.func83, Tryz.ntmps83
    go_wp2_with fail
    go_ret
    exact ⟨by rw [HF.out]; rfl, HK.out⟩

set_option maxHeartbeats 1000000 in
set_option maxRecDepth 100000 in
theorem rtF_any (a : Int) (A : Option Addr) (n m : Nat) (b c : Int) (id : Int) (g : Nat) (w : World) (h : w.cell? ⟨g, 0, none⟩ = some (.int .i64 id)) : Calls Tryz.prog 47 #[.agg #[.int .i64 a, .slice A n m, .int .i64 b, .int .i64 c], .pointer (some ⟨g, 0, none⟩)] w fun e w' => e = .returned (.bool (a == id)) ∧ Keep Never w w' := by
  obtain ⟨w1, hw1⟩ : ∃ W : World, w.alloc (.cells #[.int .i64 a, .slice A n m, .int .i64 b, .int .i64 c] 57) = W := ⟨_, rfl⟩
  have k1 : Keep Never w w1 := by rw [← hw1]; exact (Keep.refl _ _).alloc _
  have b1 := Blk.new w 57 #[.int .i64 a, .slice A n m, .int .i64 b, .int .i64 c]
  rw [hw1] at b1
  have c0 := b1.cell 0
  have c1 := b1.cell 1
  have d0 := keepT k1 h
  have HK := Lib.hid k1
  clear k1 b1 h
  by_cases e1 : a = id
  · have t1 : (a == id) = true := by simpa using e1
    have HF := Lib.hid t1
    clear e1
    go_enter Tryz.func47, Tryz.ntmps47
    go_wp2_with fail
    go_ret
    exact ⟨by rw [HF.out]; rfl, HK.out⟩
  · have t1 : (a == id) = false := by simpa using e1
    have HF := Lib.hid t1
    clear e1
    go_enter Tryz.func47, Tryz.ntmps47
    go_wp2_with fail
    go_ret
    exact ⟨by rw [HF.out]; rfl, HK.out⟩

set_option maxHeartbeats 1000000 in
set_option maxRecDepth 100000 in
theorem rdF1_any (a : Int) (r : Bool) (id : Int) (g : Nat) (w : World) (h : w.cell? ⟨g, 0, none⟩ = some (.int .i64 id)) : Calls Tryz.prog 84 #[.agg #[.int .i64 a, .bool r], .pointer (some ⟨g, 0, none⟩)] w fun e w' => e = .returned (.bool (a == id)) ∧ Keep Never w w' := by
  obtain ⟨w1, hw1⟩ : ∃ W : World, w.alloc (.cells #[.int .i64 a, .bool r] 81) = W := ⟨_, rfl⟩
  have k1 : Keep Never w w1 := by rw [← hw1]; exact (Keep.refl _ _).alloc _
  have b1 := Blk.new w 81 #[.int .i64 a, .bool r]
  rw [hw1] at b1
  have c0 := b1.cell 0
  have c1 := b1.cell 1
  have d0 := keepT k1 h
  have HK := Lib.hid k1
  clear k1 b1 h
  by_cases e1 : a = id
  · have t1 : (a == id) = true := by simpa using e1
    have HF := Lib.hid t1
    clear e1
    go_enter Tryz.func84, Tryz.ntmps84
    go_wp2_with fail
    go_ret
    exact ⟨by rw [HF.out]; rfl, HK.out⟩
  · have t1 : (a == id) = false := by simpa using e1
    have HF := Lib.hid t1
    clear e1
    go_enter Tryz.func84, Tryz.ntmps84
    go_wp2_with fail
    go_ret
    exact ⟨by rw [HF.out]; rfl, HK.out⟩

set_option maxHeartbeats 1000000 in
set_option maxRecDepth 100000 in
theorem rdF2_any (a b c : Int) (id : Int) (g : Nat) (w : World) (h : w.cell? ⟨g, 0, none⟩ = some (.int .i64 id)) : Calls Tryz.prog 87 #[.agg #[.int .i64 a, .int .i64 b, .int .i64 c], .pointer (some ⟨g, 0, none⟩)] w fun e w' => e = .returned (.bool (b == id)) ∧ Keep Never w w' := by
  obtain ⟨w1, hw1⟩ : ∃ W : World, w.alloc (.cells #[.int .i64 a, .int .i64 b, .int .i64 c] 79) = W := ⟨_, rfl⟩
  have k1 : Keep Never w w1 := by rw [← hw1]; exact (Keep.refl _ _).alloc _
  have b1 := Blk.new w 79 #[.int .i64 a, .int .i64 b, .int .i64 c]
  rw [hw1] at b1
  have c0 := b1.cell 0
  have c1 := b1.cell 1
  have d0 := keepT k1 h
  have HK := Lib.hid k1
  clear k1 b1 h
  by_cases e1 : b = id
  · have t1 : (b == id) = true := by simpa using e1
    have HF := Lib.hid t1
    clear e1
    go_enter Tryz.func87, Tryz.ntmps87
    go_wp2_with fail
    go_ret
    exact ⟨by rw [HF.out]; rfl, HK.out⟩
  · have t1 : (b == id) = false := by simpa using e1
    have HF := Lib.hid t1
    clear e1
    go_enter Tryz.func87, Tryz.ntmps87
    go_wp2_with fail
    go_ret
    exact ⟨by rw [HF.out]; rfl, HK.out⟩

end Go.Proofs.YtijdkjcjhfebfaaGreat
