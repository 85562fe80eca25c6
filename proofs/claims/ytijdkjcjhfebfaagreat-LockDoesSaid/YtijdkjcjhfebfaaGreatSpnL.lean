/- Chapter 15: Minus, Both, Within, Meets, Total. -/
import Derived.Test.YtijdkjcjhfebfaaGreatBdSpnI
import Derived.Test.YtijdkjcjhfebfaaGreatSpnB
namespace Go.Proofs.YtijdkjcjhfebfaaGreat
open Go.RowKit

/-- what Minus and Both leave -/
def KeptIs (a b : List Sp) (which : Bool) (m : List Sp) : Prop := NormalS m ∧ (∀ e x, hasL m e x = (hasL a e x && (hasL b e x == which)))
/-- spans that a function is handed: they read, and are not too many -/
structure SpAt (w : World) (B : Nat) (A : Option Addr) (n c : Nat) (l : List Sp) : Prop where
  rd : Rd w B 3 A n (spCells l)
  nil : A = none → c = 0
  cap : n ≤ c
theorem SpAt.keep {w w' : World} {B n c : Nat} {A : Option Addr} {l : List Sp} (h : SpAt w B A n c l) (hk : Keep Never w w') : SpAt w' B A n c l := ⟨h.rd.keep hk (fun _ h => h.elim), h.nil, h.cap⟩
theorem SpAt.of_own {w : World} {base n c : Nat} {A : Option Addr} {l : List Sp} (h : Own w base 68 3 A n c (spCells l)) : SpAt w w.heap.size A n c l :=
  ⟨h.rd, (fun e => by
    rcases h.form with ⟨_, _, h2, _⟩ | ⟨_, _, h2, _⟩
    · exact h2
    · rw [e] at h2; cases h2), h.cap_le⟩
theorem SpAt.more {w : World} {B B' n c : Nat} {A : Option Addr} {l : List Sp} (h : SpAt w B A n c l) (hB : B ≤ B') : SpAt w B' A n c l := ⟨h.rd.more hB, h.nil, h.cap⟩
theorem SpAt.len {w : World} {B n c : Nat} {A : Option Addr} {l : List Sp} (h : SpAt w B A n c l) : l.length = n := h.rd.sp_len

set_option maxHeartbeats 1000000 in
set_option maxRecDepth 100000 in
theorem both_any (B A1 n1 c1 A2 n2 c2) (a b : List Sp) (w : World) (h1 : SpAt w B A1 n1 c1 a) (h2 : SpAt w B A2 n2 c2 b) (hn1 : n1 ≤ 200000) (hn2 : n2 ≤ 200000) (hB : B ≤ w.heap.size) :
    Calls Tryz.prog 78 #[.slice A1 n1 c1, .slice A2 n2 c2] w (SpRet w fun m => KeptIs a b true m ∧ m.length ≤ n1 * (2 * n2 + 1)) := by
  have HK := Lib.hid (kept_any A1 A2 n1 c1 n2 c2 B a b true w h1.rd h1.nil h1.cap h2.rd h2.nil h2.cap hn1 hn2 hB)
  clear h1 h2 hn1 hn2 hB
  go_enter Tryz.func78, Tryz.ntmps78
  go_wp2_with fail
  refine HK.out.mono ?_
  rintro e w' ⟨m, A, n, c, rfl, hn, ho, hk, hp, hq, hl⟩
  have H := Lib.hid (And.intro hn (And.intro ho (And.intro hk (And.intro hp (And.intro hq hl)))))
  clear hn ho hk hp hq hl HK
  go_wp2_with fail
  go_ret
  exact ⟨m, A, n, c, rfl, H.out.1, H.out.2.1, H.out.2.2.1, ⟨H.out.2.2.2.1, H.out.2.2.2.2.1⟩, H.out.2.2.2.2.2⟩
/-- has one list all that the other has? -/
def withinB (a b : List Sp) (r : Bool) : Prop := r = true ↔ ∀ e x, hasL a e x = true → hasL b e x = true
def meetsB (a b : List Sp) (r : Bool) : Prop := r = true ↔ ∃ e x, hasL a e x = true ∧ hasL b e x = true
theorem kept_nil {a b m : List Sp} {which : Bool} (h : KeptIs a b which m) : m = [] ↔ ∀ e x, ¬ (hasL a e x = true ∧ hasL b e x = which) := by
  constructor
  · rintro rfl e x ⟨h1, h2⟩
    have := h.2 e x
    rw [h1, h2, hasL_nil] at this
    simp at this
  · intro hx
    cases m with
    | nil => rfl
    | cons s m =>
      have h1 := h.1.head
      rw [h.2, Bool.and_eq_true, beq_iff_eq] at h1
      exact absurd h1 (hx _ _)
set_option maxHeartbeats 1000000 in
set_option maxRecDepth 100000 in
theorem meets_any (B A1 n1 c1 A2 n2 c2) (a b : List Sp) (w : World) (h1 : SpAt w B A1 n1 c1 a) (h2 : SpAt w B A2 n2 c2 b) (hn1 : n1 ≤ 200000) (hn2 : n2 ≤ 200000) (hB : B ≤ w.heap.size) :
    Calls Tryz.prog 52 #[.slice A1 n1 c1, .slice A2 n2 c2] w fun e w' => ∃ r, e = .returned (.bool r) ∧ meetsB a b r ∧ Keep Never w w' := by
  have HK := Lib.hid (both_any B A1 n1 c1 A2 n2 c2 a b w h1 h2 hn1 hn2 hB)
  clear h1 h2 hn1 hn2 hB
  go_enter Tryz.func52, Tryz.ntmps52
  go_wp2_with fail
  refine HK.out.mono ?_
  rintro e w' ⟨m, A, n, c, rfl, hn, ho, hk, hp, hl⟩
  have hm : meetsB a b (decide (0 < n)) := by
    unfold meetsB
    rw [decide_eq_true_eq, hn, List.length_pos_iff, Ne, kept_nil hp]
    constructor
    · intro h
      exact Classical.byContradiction fun h2 => h (fun e x hx => h2 ⟨e, x, hx⟩)
    · rintro ⟨e, x, hx⟩ h
      exact h e x hx
  have HM := Lib.hid hm
  have Hk := Lib.hid hk
  clear hn ho hk hp hl HK hm
  go_wp2_with fail
  go_ret
  exact ⟨decide (0 < n), by simp, HM.out, Hk.out⟩

theorem cntL_take {l : List Sp} {k : Nat} {s : Sp} (h : l[k]? = some s) : cntL (l.take (k + 1)) = cntL (l.take k) + (s.2.2 - s.2.1) := by
  unfold cntL
  rw [List.take_add_one, h]
  simp
theorem NormalS.take {l : List Sp} (h : NormalS l) (k : Nat) : NormalS (l.take k) := ⟨fun s hs => h.1 s (List.mem_of_mem_take hs), h.2.sublist (List.take_sublist _ _)⟩
set_option maxHeartbeats 1000000 in
set_option maxRecDepth 100000 in
theorem total_sp (B A1 n1 c1) (a : List Sp) (w : World) (h1 : SpAt w B A1 n1 c1 a) (hn1 : n1 ≤ 1000000000) (hB : B ≤ w.heap.size) :
    Calls Tryz.prog 24 #[.slice A1 n1 c1] w fun e w' => ∃ m, e = .returned (.int .i64 (cntL m)) ∧ NormOf a m ∧ Keep Never w w' := by
  have HN := Lib.hid (norm_any A1 n1 c1 B a w h1.rd h1.nil h1.cap (by omega) hB)
  have HL := Lib.hid h1.len
  clear h1 hB
  go_enter Tryz.func24, Tryz.ntmps24
  go_wp2_with fail
  refine HN.out.mono ?_
  rintro e w1 ⟨m, A, n, c, rfl, hn, ho, hk, hp, hl⟩
  have HO := Lib.hid ho
  have HK := Lib.hid hk
  have HP := Lib.hid hp
  have Hn := Lib.hid hn
  have hnn : n ≤ 1000000000 := by have := HL.out; omega
  clear hn ho hk hp hl HN
  go_wp2_with fail
  go_loopw [3, 9] (fun s i wr => ∃ k : Nat, k ≤ n ∧ i = .int .i64 k ∧ s = .int .i64 (cntL (m.take k)) ∧ Hid (Keep Never w1 wr)) (fun _ i _ => n - (intOf i).toNat)
  case atStart => exact ⟨0, by omega, rfl, rfl, Lib.hid (Keep.refl _ _)⟩
  case round =>
    obtain ⟨k, hk, rfl, rfl, HH⟩ := hrel
    have hr := cntL_range (HP.out.1.take k)
    have hlt : (m.take k).length ≤ n := by rw [List.length_take]; have := Hn.out; omega
    by_cases h0 : k < n
    · have hkz : (k : Int) < (n : Int) := by omega
      obtain ⟨ad, s, hA, _, hs, q0, q1, q2⟩ := (HO.out.rd.keep HH.out (fun _ h => h.elim)).sp h0
      subst hA
      have HS : Hid (cntL (m.take (k + 1)) = cntL (m.take k) + (s.2.2 - s.2.1)) := cntL_take hs
      have hsm := someS_iff.1 (HP.out.1.1 s (List.mem_of_getElem? hs))
      obtain ⟨s1, s2, s3⟩ := s
      simp only at q0 q1 q2 HS hsm
      obtain ⟨S, hS⟩ : ∃ S, cntL (m.take k) = S := ⟨_, rfl⟩
      rw [hS] at HS hr ⊢
      have hr1 := hr.1
      have hr2 : S ≤ 1000000 * 1000000000 := by have := hr.2; omega
      obtain ⟨p1, p2, p3, p4⟩ := hsm
      have HK' := Lib.hid (HH.out.alloc (.cells #[.int .i64 s1, .int .i64 s2, .int .i64 s3] 68))
      clear hs hS hr hlt
      go_wp2_with fail
      go_roundw
      case rel => exact ⟨k + 1, by omega, by go_num, by rw [HS.out], HK'⟩
      case measure => simp [intOf]; try omega
    · obtain rfl : k = n := by omega
      have hkz : ¬ (k : Int) < (k : Int) := by omega
      have HT : Hid (m.take k = m) := Lib.hid (List.take_of_length_le (by have := Hn.out; omega))
      rw [HT.out]
      clear hr hlt
      go_wp2_with fail
      go_ret
      exact ⟨m, rfl, HP.out, HK.out.trans HH.out⟩

end Go.Proofs.YtijdkjcjhfebfaaGreat
