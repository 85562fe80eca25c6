/- Chapter 13: slices.IndexFunc, ContainsFunc, Clone at balise groups, steps, routes; topo.Bal, topo.Route. -/
import Derived.Test.YtpahfobijmmmmaaGreatAftB
import Derived.Test.YtpahfobijmmmmaaGreatSpnD
namespace Go.Proofs.YtpahfobijmmmmaaGreat
open Go.RowKit

theorem bl_rd {w : World} {B n c : Nat} {A : Option Addr} {l : List Bl} (h : repBl.Sl w B A n c l) : Rd w B 3 A n (spCells l) := (sps_rd (show repSp.Sl w B A n c l from h)).1
theorem rt_at2 {w : World} {B n c i : Nat} {A : Option Addr} {l : List Rt} (h : repRt.Sl w B A n c l) (hi : i < n) : ∃ ad s A2 n2 c2, A = some ad ∧ ad.block < B ∧ l[i]? = some s ∧ w.cell? (ad.add (i * 4)) = some (.int .i64 s.1) ∧ w.cell? ⟨(ad.add (i * 4)).block, (ad.add (i * 4)).off + 1, none⟩ = some (.slice A2 n2 c2) ∧
    w.cell? ⟨(ad.add (i * 4)).block, (ad.add (i * 4)).off + 2, none⟩ = some (.int .i64 s.2.2.1) ∧ w.cell? ⟨(ad.add (i * 4)).block, (ad.add (i * 4)).off + 3, none⟩ = some (.int .i64 s.2.2.2) ∧ repStp.Sl w B A2 n2 c2 s.2.1 := by
  obtain ⟨ad, s, cs, e, hb, hs, ⟨c1, d1, rfl, ⟨rfl, _⟩, ⟨c2, d2, rfl, ⟨A2, n2, cc, rfl, hsl⟩, ⟨c3, d3, rfl, ⟨rfl, _⟩, ⟨rfl, _⟩⟩⟩⟩, hc⟩ := h.at_ hi
  have e0 := hc 0 (by decide)
  have e1 := hc 1 (by decide)
  have e2 := hc 2 (by decide)
  have e3 := hc 3 (by decide)
  have hsz : repRt.size = 4 := rfl
  rw [hsz] at e0 e1 e2 e3
  rw [fld _ _ (by omega)] at e1 e2 e3
  exact ⟨ad, s, A2, n2, cc, e, hb, hs, e0, e1, e2, e3, hsl⟩
/-- what is asked of a predicate of steps -/
def PredStp (g : Nat) (lb : Array Value) (p : Stp → Bool) (w : World) : Prop :=
  ∀ (W : World) (s : Stp), Keep Never w W → Calls Tryz.prog g (#[.agg #[.int .i64 s.1, .bool s.2]] ++ lb) W fun e w' => e = .returned (.bool (p s)) ∧ Keep Never W w'
def IdxRetS (p : Stp → Bool) (l : List Stp) (w : World) (e : Ending) (w' : World) : Prop :=
  ((∃ (i : Nat) (s : Stp), e = .returned (.int .i64 i) ∧ l[i]? = some s ∧ p s = true ∧ ∀ x ∈ l.take i, p x = false) ∨ (e = .returned (.int .i64 (-1)) ∧ ∀ x ∈ l, p x = false)) ∧ Keep Never w w'
/-- .. of routes, that looks at their numbers alone -/
def PredRt (g : Nat) (lb : Array Value) (p : Int → Bool) (w : World) : Prop :=
  ∀ (W : World) (i x y : Int) (A : Option Addr) (n c : Nat), Keep Never w W → Calls Tryz.prog g (#[.agg #[.int .i64 i, .slice A n c, .int .i64 x, .int .i64 y]] ++ lb) W fun e w' => e = .returned (.bool (p i)) ∧ Keep Never W w'
def IdxRetR (p : Int → Bool) (l : List Rt) (w : World) (e : Ending) (w' : World) : Prop :=
  ((∃ (i : Nat) (s : Rt), e = .returned (.int .i64 i) ∧ l[i]? = some s ∧ p s.1 = true ∧ ∀ x ∈ l.take i, p x.1 = false) ∨ (e = .returned (.int .i64 (-1)) ∧ ∀ x ∈ l, p x.1 = false)) ∧ Keep Never w w'
set_option maxHeartbeats 1000000 in
set_option maxRecDepth 100000 in
theorem indexfb_any (g : Nat) (lb : Array Value) (p : Sp → Bool) (eg : ∀ args w, (callFunc g args).run Tryz.prog w = .ok (.enter g args) w) (A : Option Addr) (n c B : Nat) (l : List Sp) (w : World) (hr : Rd w B 3 A n (spCells l)) (hp : PredSp g lb p w) (hn : n ≤ 100000000000) :
    Calls Tryz.prog 81 #[.slice A n c, .func (.func g) #[] lb] w (IdxRet p l w) := by
  have HL := Lib.hid hr.sp_len
  have HR := Lib.hid hr
  have HP := Lib.hid hp
  clear hr hp
  go_enter Tryz.func81, Tryz.ntmps81
  go_wp2_with fail
  go_loopw [5, 8] (fun _ s8 wr => ∃ k : Nat, k ≤ n ∧ s8 = .int .i64 k ∧ Hid (Keep Never w wr ∧ ∀ x ∈ l.take k, p x = false)) (fun _ i _ => n - (intOf i).toNat)
  case atStart => exact ⟨0, by omega, rfl, Lib.hid ⟨Keep.refl _ _, by simp⟩⟩
  case round =>
    obtain ⟨k, hk, rfl, HH⟩ := hrel
    by_cases h0 : k < n
    · have hki : (k : Int) < (n : Int) := by omega
      obtain ⟨ad, s, hA, _, hs, c0, c1, c2⟩ := (HR.out.keep HH.out.1 (fun _ h => h.elim)).sp h0
      subst hA
      have hcall := HP.out wr s HH.out.1
      have Hs := Lib.hid hs
      have htk : Hid (l.take (k + 1) = l.take k ++ [s]) := Lib.hid (by
        obtain ⟨h2, h3⟩ := List.getElem?_eq_some_iff.1 hs
        rw [List.take_succ_eq_append_getElem h2, h3])
      clear hs
      obtain ⟨s1, s2, s3⟩ := s
      simp only at c0 c1 c2 hcall
      cases hps : p (s1, s2, s3) with
      | true =>
        rw [hps] at hcall
        have Hps := Lib.hid hps
        clear hps
        go_wp2_with (go_at_fn g; refine hcall.mono ?_; rintro e w' ⟨rfl, hk'⟩)
        go_ret
        exact ⟨.inl ⟨k, _, rfl, Hs.out, Hps.out, HH.out.2⟩, HH.out.1.trans hk'⟩
      | false =>
        rw [hps] at hcall
        have Hps := Lib.hid hps
        clear hps
        go_wp2_with (go_at_fn g; refine hcall.mono ?_; rintro e w' ⟨rfl, hk'⟩)
        go_roundw
        case measure => simp [intOf]; try omega
        case rel =>
          refine ⟨k + 1, by omega, by go_num, Lib.hid ⟨HH.out.1.trans hk', fun x hx => ?_⟩⟩
          rw [htk.out] at hx
          rcases List.mem_append.1 hx with hx | hx
          · exact HH.out.2 x hx
          · simp at hx; subst hx; exact Hps.out
    · obtain rfl : k = n := by omega
      have hki : ¬ (k : Int) < (k : Int) := by omega
      have HN : Hid (∀ x ∈ l, p x = false) := Lib.hid (by have := HH.out.2; rwa [List.take_of_length_le (by have := HL.out; omega)] at this)
      go_wp2_with fail
      go_ret
      exact ⟨.inr ⟨rfl, HN.out⟩, HH.out.1⟩
set_option maxHeartbeats 1000000 in
set_option maxRecDepth 100000 in
theorem containsfb_any (g : Nat) (lb : Array Value) (p : Sp → Bool) (eg : ∀ args w, (callFunc g args).run Tryz.prog w = .ok (.enter g args) w) (A : Option Addr) (n c B : Nat) (l : List Sp) (w : World) (hr : Rd w B 3 A n (spCells l)) (hp : PredSp g lb p w) (hn : n ≤ 100000000000) :
    Calls Tryz.prog 86 #[.slice A n c, .func (.func g) #[] lb] w fun e w' => e = .returned (.bool (l.any p)) ∧ Keep Never w w' := by
  have HI := Lib.hid (indexfb_any g lb p eg A n c B l w hr hp hn)
  clear hr hp
  go_enter Tryz.func86, Tryz.ntmps86
  go_wp2_with fail
  refine HI.out.mono ?_
  rintro e w' ⟨⟨i, s, rfl, h1, h2, h3⟩ | ⟨rfl, h1⟩, hk⟩
  · have HA : Hid (l.any p = true) := Lib.hid (List.any_eq_true.2 ⟨s, List.mem_of_getElem? h1, h2⟩)
    have HK := Lib.hid hk
    have hi : decide ((i : Int) ≥ 0) = true := by simp
    clear h1 h2 h3 hk
    go_wp2_with fail
    go_ret
    exact ⟨by rw [HA.out]; rfl, HK.out⟩
  · have HA : Hid (l.any p = false) := Lib.hid (by rw [List.any_eq_false]; intro x hx; rw [h1 x hx]; simp)
    have HK := Lib.hid hk
    clear h1 hk
    go_wp2_with fail
    go_ret
    exact ⟨by rw [HA.out]; rfl, HK.out⟩

set_option maxHeartbeats 1000000 in
set_option maxRecDepth 100000 in
theorem indexfs_any (g : Nat) (lb : Array Value) (p : Stp → Bool) (eg : ∀ args w, (callFunc g args).run Tryz.prog w = .ok (.enter g args) w) (A : Option Addr) (n c B : Nat) (l : List Stp) (w : World) (hr : Rd w B 2 A n (stpCells l)) (hp : PredStp g lb p w) (hn : n ≤ 100000000000) :
    Calls Tryz.prog 97 #[.slice A n c, .func (.func g) #[] lb] w (IdxRetS p l w) := by
  have HL := Lib.hid hr.stp_len
  have HR := Lib.hid hr
  have HP := Lib.hid hp
  clear hr hp
  go_enter Tryz.func97, Tryz.ntmps97
  go_wp2_with fail
  go_loopw [5, 8] (fun _ s8 wr => ∃ k : Nat, k ≤ n ∧ s8 = .int .i64 k ∧ Hid (Keep Never w wr ∧ ∀ x ∈ l.take k, p x = false)) (fun _ i _ => n - (intOf i).toNat)
  case atStart => exact ⟨0, by omega, rfl, Lib.hid ⟨Keep.refl _ _, by simp⟩⟩
  case round =>
    obtain ⟨k, hk, rfl, HH⟩ := hrel
    by_cases h0 : k < n
    · have hki : (k : Int) < (n : Int) := by omega
      obtain ⟨ad, s, hA, _, hs, c0, c1⟩ := (HR.out.keep HH.out.1 (fun _ h => h.elim)).stp h0
      subst hA
      have hcall := HP.out wr s HH.out.1
      have Hs := Lib.hid hs
      have htk : Hid (l.take (k + 1) = l.take k ++ [s]) := Lib.hid (by
        obtain ⟨h2, h3⟩ := List.getElem?_eq_some_iff.1 hs
        rw [List.take_succ_eq_append_getElem h2, h3])
      clear hs
      obtain ⟨s1, s2⟩ := s
      simp only at c0 c1 hcall
      cases hps : p (s1, s2) with
      | true =>
        rw [hps] at hcall
        have Hps := Lib.hid hps
        clear hps
        go_wp2_with (go_at_fn g; refine hcall.mono ?_; rintro e w' ⟨rfl, hk'⟩)
        go_ret
        exact ⟨.inl ⟨k, _, rfl, Hs.out, Hps.out, HH.out.2⟩, HH.out.1.trans hk'⟩
      | false =>
        rw [hps] at hcall
        have Hps := Lib.hid hps
        clear hps
        go_wp2_with (go_at_fn g; refine hcall.mono ?_; rintro e w' ⟨rfl, hk'⟩)
        go_roundw
        case measure => simp [intOf]; try omega
        case rel =>
          refine ⟨k + 1, by omega, by go_num, Lib.hid ⟨HH.out.1.trans hk', fun x hx => ?_⟩⟩
          rw [htk.out] at hx
          rcases List.mem_append.1 hx with hx | hx
          · exact HH.out.2 x hx
          · simp at hx; subst hx; exact Hps.out
    · obtain rfl : k = n := by omega
      have hki : ¬ (k : Int) < (k : Int) := by omega
      have HN : Hid (∀ x ∈ l, p x = false) := Lib.hid (by have := HH.out.2; rwa [List.take_of_length_le (by have := HL.out; omega)] at this)
      go_wp2_with fail
      go_ret
      exact ⟨.inr ⟨rfl, HN.out⟩, HH.out.1⟩
set_option maxHeartbeats 1000000 in
set_option maxRecDepth 100000 in
theorem containsfs_any (g : Nat) (lb : Array Value) (p : Stp → Bool) (eg : ∀ args w, (callFunc g args).run Tryz.prog w = .ok (.enter g args) w) (A : Option Addr) (n c B : Nat) (l : List Stp) (w : World) (hr : Rd w B 2 A n (stpCells l)) (hp : PredStp g lb p w) (hn : n ≤ 100000000000) :
    Calls Tryz.prog 84 #[.slice A n c, .func (.func g) #[] lb] w fun e w' => e = .returned (.bool (l.any p)) ∧ Keep Never w w' := by
  have HI := Lib.hid (indexfs_any g lb p eg A n c B l w hr hp hn)
  clear hr hp
  go_enter Tryz.func84, Tryz.ntmps84
  go_wp2_with fail
  refine HI.out.mono ?_
  rintro e w' ⟨⟨i, s, rfl, h1, h2, h3⟩ | ⟨rfl, h1⟩, hk⟩
  · have HA : Hid (l.any p = true) := Lib.hid (List.any_eq_true.2 ⟨s, List.mem_of_getElem? h1, h2⟩)
    have HK := Lib.hid hk
    have hi : decide ((i : Int) ≥ 0) = true := by simp
    clear h1 h2 h3 hk
    go_wp2_with fail
    go_ret
    exact ⟨by rw [HA.out]; rfl, HK.out⟩
  · have HA : Hid (l.any p = false) := Lib.hid (by rw [List.any_eq_false]; intro x hx; rw [h1 x hx]; simp)
    have HK := Lib.hid hk
    clear h1 hk
    go_wp2_with fail
    go_ret
    exact ⟨by rw [HA.out]; rfl, HK.out⟩

set_option maxHeartbeats 1000000 in
set_option maxRecDepth 100000 in
theorem indexfr_any (g : Nat) (lb : Array Value) (p : Int → Bool) (eg : ∀ args w, (callFunc g args).run Tryz.prog w = .ok (.enter g args) w) (A : Option Addr) (n c B : Nat) (l : List Rt) (w : World) (hr : repRt.Sl w B A n c l) (hp : PredRt g lb p w) (hn : n ≤ 100000000000) :
    Calls Tryz.prog 58 #[.slice A n c, .func (.func g) #[] lb] w (IdxRetR p l w) := by
  have HL := Lib.hid hr.len.symm
  have HR := Lib.hid hr
  have HP := Lib.hid hp
  clear hr hp
  go_enter Tryz.func58, Tryz.ntmps58
  go_wp2_with fail
  go_loopw [5, 8] (fun _ s8 wr => ∃ k : Nat, k ≤ n ∧ s8 = .int .i64 k ∧ Hid (Keep Never w wr ∧ ∀ x ∈ l.take k, p x.1 = false)) (fun _ i _ => n - (intOf i).toNat)
  case atStart => exact ⟨0, by omega, rfl, Lib.hid ⟨Keep.refl _ _, by simp⟩⟩
  case round =>
    obtain ⟨k, hk, rfl, HH⟩ := hrel
    by_cases h0 : k < n
    · have hki : (k : Int) < (n : Int) := by omega
      obtain ⟨ad, s, A2, n2, d2, hA, _, hs, c0, c1, c2, c3, _⟩ := rt_at2 (HR.out.keep HH.out.1 (fun _ h => h.elim)) h0
      subst hA
      have hcall := HP.out wr s.1 s.2.2.1 s.2.2.2 A2 n2 d2 HH.out.1
      have Hs := Lib.hid hs
      have htk : Hid (l.take (k + 1) = l.take k ++ [s]) := Lib.hid (by
        obtain ⟨h2, h3⟩ := List.getElem?_eq_some_iff.1 hs
        rw [List.take_succ_eq_append_getElem h2, h3])
      clear hs
      obtain ⟨s1, s4, s2, s3⟩ := s
      simp only at c0 c1 c2 c3 hcall
      cases hps : p s1 with
      | true =>
        rw [hps] at hcall
        have Hps := Lib.hid hps
        clear hps
        go_wp2_with (go_at_fn g; refine hcall.mono ?_; rintro e w' ⟨rfl, hk'⟩)
        go_ret
        exact ⟨.inl ⟨k, _, rfl, Hs.out, Hps.out, HH.out.2⟩, HH.out.1.trans hk'⟩
      | false =>
        rw [hps] at hcall
        have Hps := Lib.hid hps
        clear hps
        go_wp2_with (go_at_fn g; refine hcall.mono ?_; rintro e w' ⟨rfl, hk'⟩)
        go_roundw
        case measure => simp [intOf]; try omega
        case rel =>
          refine ⟨k + 1, by omega, by go_num, Lib.hid ⟨HH.out.1.trans hk', fun x hx => ?_⟩⟩
          rw [htk.out] at hx
          rcases List.mem_append.1 hx with hx | hx
          · exact HH.out.2 x hx
          · simp at hx; subst hx; exact Hps.out
    · obtain rfl : k = n := by omega
      have hki : ¬ (k : Int) < (k : Int) := by omega
      have HN : Hid (∀ x ∈ l, p x.1 = false) := Lib.hid (by have := HH.out.2; rwa [List.take_of_length_le (by have := HL.out; omega)] at this)
      go_wp2_with fail
      go_ret
      exact ⟨.inr ⟨rfl, HN.out⟩, HH.out.1⟩
set_option maxHeartbeats 1000000 in
set_option maxRecDepth 100000 in
theorem cloneT_any (A : Option Addr) (n c B : Nat) (l : List Stp) (w : World) (hr : Rd w B 2 A n (stpCells l)) (hA : A = none → c = 0) (hnc : n ≤ c) (hn : n ≤ 100000000000) (_hB : B ≤ w.heap.size) :
    Calls Tryz.prog 60 #[.slice A n c] w fun e w' => ∃ A' c', e = .returned (.slice A' n c') ∧ Own w' w.heap.size 106 2 A' n c' (stpCells l) ∧ Keep Never w w' := by
  have HR := Lib.hid hr
  have HL := Lib.hid hr.stp_len
  clear hr
  have q22 : ∀ (w : World) (a : Option Addr) (n c n' c' : Nat), (binOp .eql 51 (.slice a n c) (.slice none n' c')).run Tryz.prog w = .ok (.bool a.isNone) w := fun w a n c n' c' => Lib.run_eql_slice_nil w _ _ a n c n' c' Tryz.underlying51
  cases A with
  | none =>
    obtain rfl := hA rfl
    obtain rfl : n = 0 := by omega
    have hl : l = [] := List.eq_nil_of_length_eq_zero HL.out
    subst hl
    clear hA
    go_enter Tryz.func60, Tryz.ntmps60
    go_wp2_with fail
    go_ret
    exact ⟨none, 0, rfl, Own.nil _ _ _ _, Keep.refl _ _⟩
  | some ad =>
    clear hA
    have HO : Hid (Own (w.alloc (.cells #[] 106)) w.heap.size 106 2 (some ⟨w.heap.size, 0, none⟩) 0 0 []) := Lib.hid (by
      have h := Own.lit w 106 #[] 0 2 (by unfold maxLen; omega) rfl
      simpa using h)
    have HK : Hid (Keep Never w (w.alloc (.cells #[] 106))) := Lib.hid ((Keep.refl Never w).alloc _)
    have HR1 := Lib.hid (HR.out.keep HK.out (fun _ h => h.elim))
    have hsz : w.heap.size ≤ (w.alloc (.cells #[] 106)).heap.size := by simp
    go_enter Tryz.func60, Tryz.ntmps60
    go_wp2_with (at_builtin; refine wpList_app _ rfl (.tmp 5) (.tmp 6) _ rfl elemStp w.heap.size (n := 0) (c := 0) rfl HO.out B (m := n) rfl HR1.out (stpCells_one _) (by omega) (by unfold maxLen; omega) hsz ?_; intro A5 c5 w5 hown hk5 hrow)
    go_ret
    refine ⟨A5, c5, by simp, by simpa using hown, HK.out.then_ hk5 (fun i hi h => ?_)⟩
    have := (HO.out.row h).1
    omega

set_option maxHeartbeats 1000000 in
set_option maxRecDepth 100000 in
theorem balF_any (a b c : Int) (id : Int) (g : Nat) (w : World) (h : w.cell? ⟨g, 0, none⟩ = some (.int .i64 id)) : Calls Tryz.prog 82 #[.agg #[.int .i64 a, .int .i64 b, .int .i64 c], .pointer (some ⟨g, 0, none⟩)] w fun e w' => e = .returned (.bool (a == id)) ∧ Keep Never w w' := by
  obtain ⟨w1, hw1⟩ : ∃ W : World, w.alloc (.cells #[.int .i64 a, .int .i64 b, .int .i64 c] 97) = W := ⟨_, rfl⟩
  have k1 : Keep Never w w1 := by rw [← hw1]; exact (Keep.refl _ _).alloc _
  have b1 := Blk.new w 97 #[.int .i64 a, .int .i64 b, .int .i64 c]
  rw [hw1] at b1
  have c0 := b1.cell 0
  have c1 := b1.cell 1
  have d0 := keepT k1 h
  have HK := Lib.hid k1
  clear k1 b1 h
  by_cases e1 : a = id
  · have t1 : (a == id) = true := by simpa using e1
    have HF := Lib.hid t1
    clear e1
    go_enter Tryz.func82, Tryz.ntmps82
    go_wp2_with fail
    go_ret
    exact ⟨by rw [HF.out]; rfl, HK.out⟩
  · have t1 : (a == id) = false := by simpa using e1
    have HF := Lib.hid t1
    clear e1
    go_enter Tryz.func82, Tryz.ntmps82
    go_wp2_with fail
    go_ret
    exact ⟨by rw [HF.out]; rfl, HK.out⟩

set_option maxHeartbeats 1000000 in
set_option maxRecDepth 100000 in
theorem rtF_any (a : Int) (A : Option Addr) (n m : Nat) (b c : Int) (id : Int) (g : Nat) (w : World) (h : w.cell? ⟨g, 0, none⟩ = some (.int .i64 id)) : Calls Tryz.prog 59 #[.agg #[.int .i64 a, .slice A n m, .int .i64 b, .int .i64 c], .pointer (some ⟨g, 0, none⟩)] w fun e w' => e = .returned (.bool (a == id)) ∧ Keep Never w w' := by
  obtain ⟨w1, hw1⟩ : ∃ W : World, w.alloc (.cells #[.int .i64 a, .slice A n m, .int .i64 b, .int .i64 c] 53) = W := ⟨_, rfl⟩
  have k1 : Keep Never w w1 := by rw [← hw1]; exact (Keep.refl _ _).alloc _
  have b1 := Blk.new w 53 #[.int .i64 a, .slice A n m, .int .i64 b, .int .i64 c]
  rw [hw1] at b1
  have c0 := b1.cell 0
  have c1 := b1.cell 1
  have d0 := keepT k1 h
  have HK := Lib.hid k1
  clear k1 b1 h
  by_cases e1 : a = id
  · have t1 : (a == id) = true := by simpa using e1
    have HF := Lib.hid t1
    clear e1
    go_enter Tryz.func59, Tryz.ntmps59
    go_wp2_with fail
    go_ret
    exact ⟨by rw [HF.out]; rfl, HK.out⟩
  · have t1 : (a == id) = false := by simpa using e1
    have HF := Lib.hid t1
    clear e1
    go_enter Tryz.func59, Tryz.ntmps59
    go_wp2_with fail
    go_ret
    exact ⟨by rw [HF.out]; rfl, HK.out⟩

set_option maxHeartbeats 1000000 in
set_option maxRecDepth 100000 in
theorem rdF1_any (a : Int) (r : Bool) (id : Int) (g : Nat) (w : World) (h : w.cell? ⟨g, 0, none⟩ = some (.int .i64 id)) : Calls Tryz.prog 83 #[.agg #[.int .i64 a, .bool r], .pointer (some ⟨g, 0, none⟩)] w fun e w' => e = .returned (.bool (a == id)) ∧ Keep Never w w' := by
  obtain ⟨w1, hw1⟩ : ∃ W : World, w.alloc (.cells #[.int .i64 a, .bool r] 106) = W := ⟨_, rfl⟩
  have k1 : Keep Never w w1 := by rw [← hw1]; exact (Keep.refl _ _).alloc _
  have b1 := Blk.new w 106 #[.int .i64 a, .bool r]
  rw [hw1] at b1
  have c0 := b1.cell 0
  have c1 := b1.cell 1
  have d0 := keepT k1 h
  have HK := Lib.hid k1
  clear k1 b1 h
  by_cases e1 : a = id
  · have t1 : (a == id) = true := by simpa using e1
    have HF := Lib.hid t1
    clear e1
    go_enter Tryz.func83, Tryz.ntmps83
    go_wp2_with fail
    go_ret
    exact ⟨by rw [HF.out]; rfl, HK.out⟩
  · have t1 : (a == id) = false := by simpa using e1
    have HF := Lib.hid t1
    clear e1
    go_enter Tryz.func83, Tryz.ntmps83
    go_wp2_with fail
    go_ret
    exact ⟨by rw [HF.out]; rfl, HK.out⟩

set_option maxHeartbeats 1000000 in
set_option maxRecDepth 100000 in
theorem rdF2_any (a b c : Int) (id : Int) (g : Nat) (w : World) (h : w.cell? ⟨g, 0, none⟩ = some (.int .i64 id)) : Calls Tryz.prog 87 #[.agg #[.int .i64 a, .int .i64 b, .int .i64 c], .pointer (some ⟨g, 0, none⟩)] w fun e w' => e = .returned (.bool (b == id)) ∧ Keep Never w w' := by
  obtain ⟨w1, hw1⟩ : ∃ W : World, w.alloc (.cells #[.int .i64 a, .int .i64 b, .int .i64 c] 97) = W := ⟨_, rfl⟩
  have k1 : Keep Never w w1 := by rw [← hw1]; exact (Keep.refl _ _).alloc _
  have b1 := Blk.new w 97 #[.int .i64 a, .int .i64 b, .int .i64 c]
  rw [hw1] at b1
  have c0 := b1.cell 0
  have c1 := b1.cell 1
  have d0 := keepT k1 h
  have HK := Lib.hid k1
  clear k1 b1 h
  by_cases e1 : b = id
  · have t1 : (b == id) = true := by simpa using e1
    have HF := Lib.hid t1
    clear e1
    go_enter Tryz.func87, Tryz.ntmps87
    go_wp2_with fail
    go_ret
    exact ⟨by rw [HF.out]; rfl, HK.out⟩
  · have t1 : (b == id) = false := by simpa using e1
    have HF := Lib.hid t1
    clear e1
    go_enter Tryz.func87, Tryz.ntmps87
    go_wp2_with fail
    go_ret
    exact ⟨by rw [HF.out]; rfl, HK.out⟩

end Go.Proofs.YtpahfobijmmmmaaGreat

namespace Go.Proofs.YtpahfobijmmmmaaGreat
open Go.RowKit

def balM (l : List Bl) (id : Int) : Option Bl := l.find? fun b => b.1 == id
def rtM (l : List Rt) (id : Int) : Option Rt := l.find? fun r => r.1 == id
theorem find_idx {α : Type} {p : α → Bool} : ∀ {l : List α} {i : Nat} {s : α}, l[i]? = some s → p s = true → (∀ x ∈ l.take i, p x = false) → l.find? p = some s
  | [], i, s, h, _, _ => by simp at h
  | y :: l, 0, s, h, hp, _ => by simp at h; subst h; simp [hp]
  | y :: l, i + 1, s, h, hp, ha => by
    have h1 := ha y (by simp)
    rw [List.find?_cons, h1]
    exact find_idx (by simpa using h) hp (fun x hx => ha x (by simp [hx]))
theorem find_no {α : Type} {p : α → Bool} {l : List α} (h : ∀ x ∈ l, p x = false) : l.find? p = none := by
  rw [List.find?_eq_none]; intro x hx; rw [h x hx]; simp
def BalRet (o : Option Bl) (w : World) (e : Ending) (w' : World) : Prop :=
  e = .returned (.tuple #[.agg #[.int .i64 (o.getD (0, 0, 0)).1, .int .i64 (o.getD (0, 0, 0)).2.1, .int .i64 (o.getD (0, 0, 0)).2.2], .bool o.isSome]) ∧ Keep Never w w'
set_option maxRecDepth 100000 in
theorem bal_results {w : World} {b : Nat} {v0 v1 v2 : Value} (hb : Blk w b 97 #[v0, v1, v2]) (tmps : Array Value) (ht : tmps.getD 4 undef = .pointer (some ⟨b, 0, none⟩)) :
    (results Tryz.f56 tmps).run Tryz.prog w = .ok (.tuple #[.agg #[v0, v1, v2], tmps.getD 5 undef]) w := by
  have q0 : w.cell? ⟨b, 0, none⟩ = some v0 := hb.cell 0
  have q1 : w.cell? ⟨b, 1, none⟩ = some v1 := hb.cell 1
  have q2 : w.cell? ⟨b, 2, none⟩ = some v2 := hb.cell 2
  have ht' : tmps[4]?.getD undef = .pointer (some ⟨b, 0, none⟩) := by rw [← Array.getD_eq_getD_getElem?]; exact ht
  simp [results, ht', go_sem, q0, q1, q2]
theorem put3_blk {w : World} {b t : Nat} {u0 u1 u2 : Value} (h : Blk w b t #[u0, u1, u2]) (v0 v1 v2 : Value) : Blk (((w.setCell ⟨b, 0, none⟩ v0).setCell ⟨b, 1, none⟩ v1).setCell ⟨b, 2, none⟩ v2) b t #[v0, v1, v2] := by
  have := ((h.set_ 0 v0).set_ 1 v1).set_ 2 v2
  simpa using this
theorem put3_keep {w0 w : World} {b : Nat} (h : Keep Never w0 w) (hb : w0.heap.size ≤ b) (v0 v1 v2 : Value) : Keep Never w0 (((w.setCell ⟨b, 0, none⟩ v0).setCell ⟨b, 1, none⟩ v1).setCell ⟨b, 2, none⟩ v2) :=
  ((h.set_ (p := ⟨b, 0, none⟩) (.inr hb) v0).set_ (p := ⟨b, 1, none⟩) (.inr hb) v1).set_ (p := ⟨b, 2, none⟩) (.inr hb) v2

set_option maxHeartbeats 4000000 in
set_option maxRecDepth 100000 in
theorem bal_any (x : TA) (t : Tp) (B : Nat) (id : Int) (w : World) (ht : TpAt w B x t) (hn : x.nb ≤ 100000000) :
    Calls Tryz.prog 56 #[.agg x.cs, .int .i64 id] w (BalRet (balM t.2.2.1 id) w) := by
  have HR := Lib.hid (bl_rd ht.b)
  obtain ⟨Ae, ne, ce, Aj, nj, cj, Ab, nb, cb, Ar, nr, cr⟩ := x
  simp only [TA.cs] at HR hn ⊢
  obtain ⟨w1, hw1⟩ : ∃ W : World, w.alloc (.cells #[.slice Ae ne ce, .slice Aj nj cj, .slice Ab nb cb, .slice Ar nr cr] 27) = W := ⟨_, rfl⟩
  obtain ⟨w2, hw2⟩ : ∃ W : World, w1.alloc (.cells #[.int .i64 id] 3) = W := ⟨_, rfl⟩
  obtain ⟨w3, hw3⟩ : ∃ W : World, w2.alloc (.cells #[.int .i64 0, .int .i64 0, .int .i64 0] 97) = W := ⟨_, rfl⟩
  have z1 : w1.heap.size = w.heap.size + 1 := by rw [← hw1]; simp
  have z2 : w2.heap.size = w.heap.size + 1 + 1 := by rw [← hw2, ← z1]; simp
  have k1 : Keep Never w w1 := by rw [← hw1]; exact (Keep.refl _ _).alloc _
  have k2 : Keep Never w1 w2 := by rw [← hw2]; exact (Keep.refl _ _).alloc _
  have k3 : Keep Never w2 w3 := by rw [← hw3]; exact (Keep.refl _ _).alloc _
  have b1 := Blk.new w 27 #[.slice Ae ne ce, .slice Aj nj cj, .slice Ab nb cb, .slice Ar nr cr]
  rw [hw1] at b1
  have b2 := Blk.new w1 3 #[.int .i64 id]
  rw [hw2, z1] at b2
  have b3 := Blk.new w2 97 #[.int .i64 0, .int .i64 0, .int .i64 0]
  rw [hw3, z2] at b3
  have HB1 := Lib.hid ((b1.keep k2 (fun h => h)).keep k3 (fun h => h))
  have HB3 := Lib.hid b3
  have HK := Lib.hid ((k1.trans k2).trans k3)
  have y2 : w3.cell? ⟨w.heap.size, 2, none⟩ = some (.slice Ab nb cb) := HB1.out.cell 2
  have v0 : w3.cell? ⟨w.heap.size + 1, 0, none⟩ = some (.int .i64 id) := (b2.keep k3 (fun h => h)).cell 0
  have HC := Lib.hid (indexfb_any 82 #[.pointer (some ⟨w.heap.size + 1, 0, none⟩)] (fun s => s.1 == id) (enters_of Tryz.func82 (by kernel_rfl) rfl) Ab nb cb B t.2.2.1 w3 (HR.out.keep HK.out (fun _ h => h.elim)) (fun W s hk => balF_any s.1 s.2.1 s.2.2 id _ W (keepT hk v0)) (by omega))
  clear k1 k2 k3 b1 b2 b3 ht v0
  go_enter Tryz.func56, Tryz.ntmps56
  go_wp2_with fail
  refine HC.out.mono ?_
  rintro e w4 ⟨⟨i, s, rfl, h1, h2, h3⟩ | ⟨rfl, h1⟩, hk4⟩
  · have HM : Hid (balM t.2.2.1 id = some s) := Lib.hid (find_idx h1 h2 h3)
    have HK4 := Lib.hid (HK.out.trans hk4)
    have hin : i < nb := by have := HR.out.sp_len; have := (List.getElem?_eq_some_iff.1 h1).1; omega
    have hiz : (i : Int) < (nb : Int) := by omega
    have hi0 : ¬ (i : Int) < 0 := by omega
    obtain ⟨ad, s', hA, _, hs, c0, c1, c2⟩ := (HR.out.keep HK4.out (fun _ h => h.elim)).sp hin
    subst hA
    rw [h1] at hs
    injection hs with hs
    subst hs
    have hb1 := HB1.out.keep hk4 (fun h => h)
    have y2 : w4.cell? ⟨w.heap.size, 2, none⟩ = some (.slice (some ad) nb cb) := hb1.cell 2
    have HB4 := Lib.hid (HB3.out.keep hk4 (fun h => h))
    have f0 := HB4.out.frozen 0
    have f1 := HB4.out.frozen 1
    have f2 := HB4.out.frozen 2
    have g0 : w4.cell? ⟨w.heap.size + 1 + 1, 0, none⟩ = some (.int .i64 0) := HB4.out.cell 0
    have g1 : w4.cell? ⟨w.heap.size + 1 + 1, 1, none⟩ = some (.int .i64 0) := HB4.out.cell 1
    have g2 : w4.cell? ⟨w.heap.size + 1 + 1, 2, none⟩ = some (.int .i64 0) := HB4.out.cell 2
    obtain ⟨s1, s2, s3⟩ := s
    simp only at c0 c1 c2
    have HBz := Lib.hid (put3_blk HB4.out (.int .i64 s1) (.int .i64 s2) (.int .i64 s3))
    have HKz := Lib.hid (put3_keep HK4.out (show w.heap.size ≤ w.heap.size + 1 + 1 by omega) (.int .i64 s1) (.int .i64 s2) (.int .i64 s3))
    clear h1 h2 h3 hk4 hb1 HC
    go_wp2_with fail
    (try simp only [Exit.inBlock, Exit.then])
    refine bodyPost_ret (bal_results HBz.out _ rfl) rfl ⟨by rw [HM.out]; rfl, HKz.out⟩
  · have HM : Hid (balM t.2.2.1 id = none) := Lib.hid (find_no h1)
    have HK4 := Lib.hid (HK.out.trans hk4)
    have HB4 := Lib.hid (HB3.out.keep hk4 (fun h => h))
    have f0 := HB4.out.frozen 0
    have f1 := HB4.out.frozen 1
    have f2 := HB4.out.frozen 2
    have g0 : w4.cell? ⟨w.heap.size + 1 + 1, 0, none⟩ = some (.int .i64 0) := HB4.out.cell 0
    have g1 : w4.cell? ⟨w.heap.size + 1 + 1, 1, none⟩ = some (.int .i64 0) := HB4.out.cell 1
    have g2 : w4.cell? ⟨w.heap.size + 1 + 1, 2, none⟩ = some (.int .i64 0) := HB4.out.cell 2
    have HBz := Lib.hid (put3_blk HB4.out (.int .i64 0) (.int .i64 0) (.int .i64 0))
    have HKz := Lib.hid (put3_keep HK4.out (show w.heap.size ≤ w.heap.size + 1 + 1 by omega) (.int .i64 0) (.int .i64 0) (.int .i64 0))
    clear h1 hk4 HC y2
    go_wp2_with fail
    (try simp only [Exit.inBlock, Exit.then])
    refine bodyPost_ret (bal_results HBz.out _ rfl) rfl ⟨by rw [HM.out]; rfl, HKz.out⟩

def RtRet (o : Option Rt) (w : World) (e : Ending) (w' : World) : Prop :=
  ∃ A n c, e = .returned (.tuple #[.agg #[.int .i64 (o.getD (0, [], 0, 0)).1, .slice A n c, .int .i64 (o.getD (0, [], 0, 0)).2.2.1, .int .i64 (o.getD (0, [], 0, 0)).2.2.2], .bool o.isSome]) ∧ repStp.Sl w' w'.heap.size A n c (o.getD (0, [], 0, 0)).2.1 ∧ Keep Never w w'
set_option maxRecDepth 100000 in
theorem rt_results {w : World} {b : Nat} {v0 v1 v2 v3 : Value} (hb : Blk w b 53 #[v0, v1, v2, v3]) (tmps : Array Value) (ht : tmps.getD 4 undef = .pointer (some ⟨b, 0, none⟩)) :
    (results Tryz.f25 tmps).run Tryz.prog w = .ok (.tuple #[.agg #[v0, v1, v2, v3], tmps.getD 5 undef]) w := by
  have q0 : w.cell? ⟨b, 0, none⟩ = some v0 := hb.cell 0
  have q1 : w.cell? ⟨b, 1, none⟩ = some v1 := hb.cell 1
  have q2 : w.cell? ⟨b, 2, none⟩ = some v2 := hb.cell 2
  have q3 : w.cell? ⟨b, 3, none⟩ = some v3 := hb.cell 3
  have ht' : tmps[4]?.getD undef = .pointer (some ⟨b, 0, none⟩) := by rw [← Array.getD_eq_getD_getElem?]; exact ht
  simp [results, ht', go_sem, q0, q1, q2, q3]
theorem put4_blk {w : World} {b t : Nat} {u0 u1 u2 u3 : Value} (h : Blk w b t #[u0, u1, u2, u3]) (v0 v1 v2 v3 : Value) : Blk ((((w.setCell ⟨b, 0, none⟩ v0).setCell ⟨b, 1, none⟩ v1).setCell ⟨b, 2, none⟩ v2).setCell ⟨b, 3, none⟩ v3) b t #[v0, v1, v2, v3] := by
  have := (((h.set_ 0 v0).set_ 1 v1).set_ 2 v2).set_ 3 v3
  simpa using this
theorem put4_keep {S : Nat → Prop} {w0 w : World} {b : Nat} (h : Keep S w0 w) (hb : S b ∨ w0.heap.size ≤ b) (v0 v1 v2 v3 : Value) : Keep S w0 ((((w.setCell ⟨b, 0, none⟩ v0).setCell ⟨b, 1, none⟩ v1).setCell ⟨b, 2, none⟩ v2).setCell ⟨b, 3, none⟩ v3) :=
  (((h.set_ (p := ⟨b, 0, none⟩) hb v0).set_ (p := ⟨b, 1, none⟩) hb v1).set_ (p := ⟨b, 2, none⟩) hb v2).set_ (p := ⟨b, 3, none⟩) hb v3

set_option maxHeartbeats 4000000 in
set_option maxRecDepth 100000 in
theorem route_any (x : TA) (t : Tp) (B : Nat) (id : Int) (w : World) (ht : TpAt w B x t) (hn : x.nr ≤ 100000000) (hp : ∀ r ∈ t.2.2.2, r.2.1.length ≤ 100000000) (hB : B ≤ w.heap.size) :
    Calls Tryz.prog 25 #[.agg x.cs, .int .i64 id] w (RtRet (rtM t.2.2.2 id) w) := by
  have HR := Lib.hid ht.r
  obtain ⟨Ae, ne, ce, Aj, nj, cj, Ab, nb, cb, Ar, nr, cr⟩ := x
  simp only [TA.cs] at HR hn ⊢
  obtain ⟨w1, hw1⟩ : ∃ W : World, w.alloc (.cells #[.slice Ae ne ce, .slice Aj nj cj, .slice Ab nb cb, .slice Ar nr cr] 27) = W := ⟨_, rfl⟩
  obtain ⟨w2, hw2⟩ : ∃ W : World, w1.alloc (.cells #[.int .i64 id] 3) = W := ⟨_, rfl⟩
  obtain ⟨w3, hw3⟩ : ∃ W : World, w2.alloc (.cells #[.int .i64 0, .slice none 0 0, .int .i64 0, .int .i64 0] 53) = W := ⟨_, rfl⟩
  have z1 : w1.heap.size = w.heap.size + 1 := by rw [← hw1]; simp
  have z2 : w2.heap.size = w.heap.size + 1 + 1 := by rw [← hw2, ← z1]; simp
  have k1 : Keep Never w w1 := by rw [← hw1]; exact (Keep.refl _ _).alloc _
  have k2 : Keep Never w1 w2 := by rw [← hw2]; exact (Keep.refl _ _).alloc _
  have k3 : Keep Never w2 w3 := by rw [← hw3]; exact (Keep.refl _ _).alloc _
  have b1 := Blk.new w 27 #[.slice Ae ne ce, .slice Aj nj cj, .slice Ab nb cb, .slice Ar nr cr]
  rw [hw1] at b1
  have b2 := Blk.new w1 3 #[.int .i64 id]
  rw [hw2, z1] at b2
  have b3 := Blk.new w2 53 #[.int .i64 0, .slice none 0 0, .int .i64 0, .int .i64 0]
  rw [hw3, z2] at b3
  have HB1 := Lib.hid ((b1.keep k2 (fun h => h)).keep k3 (fun h => h))
  have HB3 := Lib.hid b3
  have HK := Lib.hid ((k1.trans k2).trans k3)
  have HZ := Lib.hid b3.lt
  have y2 : w3.cell? ⟨w.heap.size, 3, none⟩ = some (.slice Ar nr cr) := HB1.out.cell 3
  have v0 : w3.cell? ⟨w.heap.size + 1, 0, none⟩ = some (.int .i64 id) := (b2.keep k3 (fun h => h)).cell 0
  have HC := Lib.hid (indexfr_any 59 #[.pointer (some ⟨w.heap.size + 1, 0, none⟩)] (fun i => i == id) (enters_of Tryz.func59 (by kernel_rfl) rfl) Ar nr cr B t.2.2.2 w3 (HR.out.keep HK.out (fun _ h => h.elim)) (fun W i a b A n c hk => rtF_any i A n c a b id _ W (keepT hk v0)) (by omega))
  clear k1 k2 k3 b1 b2 b3 ht v0
  go_enter Tryz.func25, Tryz.ntmps25
  go_wp2_with fail
  refine HC.out.mono ?_
  rintro e w4 ⟨⟨i, s, rfl, h1, h2, h3⟩ | ⟨rfl, h1⟩, hk4⟩
  · have HM : Hid (rtM t.2.2.2 id = some s) := Lib.hid (find_idx h1 h2 h3)
    have HK4 := Lib.hid (HK.out.trans hk4)
    have hin : i < nr := by have := HR.out.len; have := (List.getElem?_eq_some_iff.1 h1).1; omega
    have hiz : (i : Int) < (nr : Int) := by omega
    have hi0 : ¬ (i : Int) < 0 := by omega
    have hps := hp s (List.mem_of_getElem? h1)
    obtain ⟨ad, s', A2, n2, d2, hA, _, hs, c0, c1, c2, c3, hsl⟩ := rt_at2 (HR.out.keep HK4.out (fun _ h => h.elim)) hin
    subst hA
    rw [h1] at hs
    injection hs with hs
    subst hs
    have hb1 := HB1.out.keep hk4 (fun h => h)
    have y2 : w4.cell? ⟨w.heap.size, 3, none⟩ = some (.slice (some ad) nr cr) := hb1.cell 3
    have HB4 := Lib.hid (HB3.out.keep hk4 (fun h => h))
    obtain ⟨s1, p, s2, s3⟩ := s
    simp only at c0 c1 c2 c3 hsl hps
    obtain ⟨W1, hW1⟩ : ∃ W : World, w4.alloc (.cells #[.int .i64 s1, .slice A2 n2 d2, .int .i64 s2, .int .i64 s3] 53) = W := ⟨_, rfl⟩
    have K1 : Keep Never w4 W1 := by rw [← hW1]; exact (Keep.refl _ _).alloc _
    have B1 := Blk.new w4 53 #[.int .i64 s1, .slice A2 n2 d2, .int .i64 s2, .int .i64 s3]
    rw [hW1] at B1
    have HB5 := Lib.hid B1
    have d1 : W1.cell? ⟨w4.heap.size, 1, none⟩ = some (.slice A2 n2 d2) := B1.cell 1
    obtain ⟨r1, r2, r3, r4, r5, r6⟩ := stps_rd (hsl.keep K1 (fun _ h => h.elim))
    have HCl := Lib.hid (cloneT_any A2 n2 d2 B p W1 r1 r5 r3 (by omega) (Nat.le_trans (Nat.le_trans hB HK4.out.size) K1.size))
    have HI6 := Lib.hid r6
    have HKW := Lib.hid (HK4.out.trans K1)
    have HBW := Lib.hid (HB4.out.keep K1 (fun h => h))
    have HZ4 : Hid (w.heap.size + 1 + 1 < w4.heap.size) := Lib.hid (Nat.lt_of_lt_of_le HZ.out hk4.size)
    clear h1 h2 h3 hk4 hb1 HC K1 B1 hsl r1 r2 r3 r4 r5 r6 HB1 HB3
    go_wp2_with fail
    refine HCl.out.mono ?_
    rintro e w5 ⟨A3, d3, rfl, ho5, hk5⟩
    have hb5 := HB5.out.keep hk5 (fun h => h)
    have HBr := Lib.hid (HBW.out.keep hk5 (fun h => h))
    have e0 : w5.cell? ⟨w4.heap.size, 0, none⟩ = some (.int .i64 s1) := hb5.cell 0
    have e1 : w5.cell? ⟨w4.heap.size, 1, none⟩ = some (.slice A2 n2 d2) := hb5.cell 1
    have e2 : w5.cell? ⟨w4.heap.size, 2, none⟩ = some (.int .i64 s2) := hb5.cell 2
    have e3 : w5.cell? ⟨w4.heap.size, 3, none⟩ = some (.int .i64 s3) := hb5.cell 3
    have f0 := hb5.frozen 0
    have f1 := hb5.frozen 1
    have f2 := hb5.frozen 2
    have f3 := hb5.frozen 3
    have g0 : w5.cell? ⟨w.heap.size + 1 + 1, 0, none⟩ = some (.int .i64 0) := HBr.out.cell 0
    have g1 : w5.cell? ⟨w.heap.size + 1 + 1, 1, none⟩ = some (.slice none 0 0) := HBr.out.cell 1
    have g2 : w5.cell? ⟨w.heap.size + 1 + 1, 2, none⟩ = some (.int .i64 0) := HBr.out.cell 2
    have g3 : w5.cell? ⟨w.heap.size + 1 + 1, 3, none⟩ = some (.int .i64 0) := HBr.out.cell 3
    have h0 := HBr.out.frozen 0
    have h1 := HBr.out.frozen 1
    have h2 := HBr.out.frozen 2
    have h3 := HBr.out.frozen 3
    have hne : w.heap.size + 1 + 1 ≠ w4.heap.size := by have := HZ4.out; omega
    have hset : Keep (fun k => k = w4.heap.size) w5 (w5.setCell ⟨w4.heap.size, 1, none⟩ (.slice A3 n2 d3)) := (Keep.refl (fun k => k = w4.heap.size) w5).set_ (p := ⟨w4.heap.size, 1, none⟩) (.inl rfl) _
    have HBs := Lib.hid (HBr.out.keep hset hne)
    have HKs : Hid (Keep Never w (w5.setCell ⟨w4.heap.size, 1, none⟩ (.slice A3 n2 d3))) := Lib.hid ((HKW.out.trans hk5).set_ (p := ⟨w4.heap.size, 1, none⟩) (.inr HK4.out.size) _)
    have hrow : ∀ q, InRow A3 q → W1.heap.size ≤ q := fun q h => (ho5.row h).1
    have HW1 : Hid (w4.heap.size < W1.heap.size) := Lib.hid HB5.out.lt
    have hos := ho5.keep hset (fun q h e => by have := hrow q h; have := HW1.out; omega)
    have hput : Keep (fun k => k = w.heap.size + 1 + 1) (w5.setCell ⟨w4.heap.size, 1, none⟩ (.slice A3 n2 d3)) (((((w5.setCell ⟨w4.heap.size, 1, none⟩ (.slice A3 n2 d3)).setCell ⟨w.heap.size + 1 + 1, 0, none⟩ (.int .i64 s1)).setCell ⟨w.heap.size + 1 + 1, 1, none⟩ (.slice A3 n2 d3)).setCell ⟨w.heap.size + 1 + 1, 2, none⟩ (.int .i64 s2)).setCell ⟨w.heap.size + 1 + 1, 3, none⟩ (.int .i64 s3)) := put4_keep (Keep.refl (fun k => k = w.heap.size + 1 + 1) _) (.inl rfl) _ _ _ _
    have HOz := Lib.hid (stps_own (hos.keep hput (fun q h e => by have := hrow q h; have := HZ4.out; have := HW1.out; omega)) HI6.out)
    have HBz := Lib.hid (put4_blk HBs.out (.int .i64 s1) (.slice A3 n2 d3) (.int .i64 s2) (.int .i64 s3))
    have HKz := Lib.hid (put4_keep HKs.out (.inr (show w.heap.size ≤ w.heap.size + 1 + 1 by omega)) (.int .i64 s1) (.slice A3 n2 d3) (.int .i64 s2) (.int .i64 s3))
    clear hb5 ho5 hk5 HCl hset hrow hos hput
    go_wp2_with fail
    (try simp only [Exit.inBlock, Exit.then])
    refine bodyPost_ret (rt_results HBz.out _ rfl) rfl ⟨A3, n2, d3, by rw [HM.out]; rfl, by rw [HM.out]; exact HOz.out, HKz.out⟩
  · have HM : Hid (rtM t.2.2.2 id = none) := Lib.hid (find_no h1)
    have HK4 := Lib.hid (HK.out.trans hk4)
    have HB4 := Lib.hid (HB3.out.keep hk4 (fun h => h))
    have f0 := HB4.out.frozen 0
    have f1 := HB4.out.frozen 1
    have f2 := HB4.out.frozen 2
    have f3 := HB4.out.frozen 3
    have g0 : w4.cell? ⟨w.heap.size + 1 + 1, 0, none⟩ = some (.int .i64 0) := HB4.out.cell 0
    have g1 : w4.cell? ⟨w.heap.size + 1 + 1, 1, none⟩ = some (.slice none 0 0) := HB4.out.cell 1
    have g2 : w4.cell? ⟨w.heap.size + 1 + 1, 2, none⟩ = some (.int .i64 0) := HB4.out.cell 2
    have g3 : w4.cell? ⟨w.heap.size + 1 + 1, 3, none⟩ = some (.int .i64 0) := HB4.out.cell 3
    have HBz := Lib.hid (put4_blk HB4.out (.int .i64 0) (.slice none 0 0) (.int .i64 0) (.int .i64 0))
    have HKz := Lib.hid (put4_keep HK4.out (.inr (show w.heap.size ≤ w.heap.size + 1 + 1 by omega)) (.int .i64 0) (.slice none 0 0) (.int .i64 0) (.int .i64 0))
    clear h1 hk4 HC y2
    go_wp2_with fail
    (try simp only [Exit.inBlock, Exit.then])
    refine bodyPost_ret (rt_results HBz.out _ rfl) rfl ⟨none, 0, 0, by rw [HM.out]; rfl, by rw [HM.out]; exact Rep.Sl.nil _ _ _, HKz.out⟩

end Go.Proofs.YtpahfobijmmmmaaGreat
