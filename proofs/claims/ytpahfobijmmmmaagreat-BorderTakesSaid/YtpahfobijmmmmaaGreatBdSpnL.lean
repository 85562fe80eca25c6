/- Chapter 15: Minus, Both, Within, Meets, Total. -/
import Derived.Test.YtpahfobijmmmmaaGreatBdSpnI
import Derived.Test.YtpahfobijmmmmaaGreatSpnB
namespace Go.Proofs.YtpahfobijmmmmaaGreat
open Go.RowKit

/-- what Minus and Both leave -/
def KeptIs (a b : List Sp) (which : Bool) (m : List Sp) : Prop := NormalS m ∧ (∀ e x, hasL m e x = (hasL a e x && (hasL b e x == which)))
/-- spans that a function is handed: they read, and are not too many -/
structure SpAt (w : World) (B : Nat) (A : Option Addr) (n c : Nat) (l : List Sp) : Prop where
  rd : Rd w B 3 A n (spCells l)
  nil : A = none → c = 0
  cap : n ≤ c
theorem SpAt.keep {w w' : World} {B n c : Nat} {A : Option Addr} {l : List Sp} (h : SpAt w B A n c l) (hk : Keep Never w w') : SpAt w' B A n c l := ⟨h.rd.keep hk (fun _ h => h.elim), h.nil, h.cap⟩
theorem SpAt.of_own {w : World} {base n c : Nat} {A : Option Addr} {l : List Sp} (h : Own w base 74 3 A n c (spCells l)) : SpAt w w.heap.size A n c l :=
  ⟨h.rd, (fun e => by
    rcases h.form with ⟨_, _, h2, _⟩ | ⟨_, _, h2, _⟩
    · exact h2
    · rw [e] at h2; cases h2), h.cap_le⟩
theorem SpAt.more {w : World} {B B' n c : Nat} {A : Option Addr} {l : List Sp} (h : SpAt w B A n c l) (hB : B ≤ B') : SpAt w B' A n c l := ⟨h.rd.more hB, h.nil, h.cap⟩
theorem SpAt.len {w : World} {B n c : Nat} {A : Option Addr} {l : List Sp} (h : SpAt w B A n c l) : l.length = n := h.rd.sp_len

/-- has one list all that the other has? -/
def withinB (a b : List Sp) (r : Bool) : Prop := r = true ↔ ∀ e x, hasL a e x = true → hasL b e x = true
def meetsB (a b : List Sp) (r : Bool) : Prop := r = true ↔ ∃ e x, hasL a e x = true ∧ hasL b e x = true
theorem kept_nil {a b m : List Sp} {which : Bool} (h : KeptIs a b which m) : m = [] ↔ ∀ e x, ¬ (hasL a e x = true ∧ hasL b e x = which) := by
  constructor
  · rintro rfl e x ⟨h1, h2⟩
    have := h.2 e x
    rw [h1, h2, hasL_nil] at this
    simp at this
  · intro hx
    cases m with
    | nil => rfl
    | cons s m =>
      have h1 := h.1.head
      rw [h.2, Bool.and_eq_true, beq_iff_eq] at h1
      exact absurd h1 (hx _ _)
theorem cntL_take {l : List Sp} {k : Nat} {s : Sp} (h : l[k]? = some s) : cntL (l.take (k + 1)) = cntL (l.take k) + (s.2.2 - s.2.1) := by
  unfold cntL
  rw [List.take_add_one, h]
  simp
theorem NormalS.take {l : List Sp} (h : NormalS l) (k : Nat) : NormalS (l.take k) := ⟨fun s hs => h.1 s (List.mem_of_mem_take hs), h.2.sublist (List.take_sublist _ _)⟩
end Go.Proofs.YtpahfobijmmmmaaGreat

namespace Go.Proofs.YtpahfobijmmmmaaGreat
open Go.RowKit

set_option maxHeartbeats 2000000 in
set_option maxRecDepth 100000 in
theorem same15_any (l m : List Sp) (A A' : Option Addr) (n n' c c' B B' : Nat) (w : World) (hr : Rd w B 3 A n (spCells l)) (hr' : Rd w B' 3 A' n' (spCells m)) (hn : n ≤ 100000000000) (hn' : n' ≤ 100000000000) :
    Calls Tryz.prog 49 #[.slice A n c, .slice A' n' c'] w fun e w' => e = .returned (.bool (decide (l = m))) ∧ Keep Never w w' := by
  have Hl := Lib.hid hr.sp_len
  have Hm := Lib.hid hr'.sp_len
  have Hr := Lib.hid hr
  have Hr' := Lib.hid hr'
  clear hr hr'
  by_cases hne : n = n'
  · subst hne
    go_enter Tryz.func49, Tryz.ntmps49
    go_wp2_with fail
    go_loopw [5] (fun i wr => ∃ k : Nat, k ≤ n ∧ i = .int .i64 k ∧ Hid (Keep Never w wr ∧ l.take k = m.take k)) (fun i _ => n - (intOf i).toNat)
    case atStart => exact ⟨0, by omega, rfl, Keep.refl _ _, by simp⟩
    case round =>
      obtain ⟨k, hk, rfl, HH⟩ := hrel
      by_cases h0 : k < n
      · obtain ⟨ad, x, hA, _, hx, c0, c1, c2⟩ := (Hr.out.keep HH.out.1 (fun _ h => h.elim)).sp h0
        obtain ⟨ad', y, hA', _, hy, d0, d1, d2⟩ := (Hr'.out.keep HH.out.1 (fun _ h => h.elim)).sp h0
        subst hA
        subst hA'
        obtain ⟨x1, x2, x3⟩ := x
        obtain ⟨y1, y2, y3⟩ := y
        simp only at c0 c1 c2 d0 d1 d2
        have HX := Lib.hid hx
        have HY := Lib.hid hy
        have hki : (k : Int) < (n : Int) := by omega
        have hk00 : (0 : Int) ≤ (k : Int) := by omega
        clear hx hy
        have htx : Hid (l.take (k + 1) = l.take k ++ [(x1, x2, x3)]) := by
          obtain ⟨h2, h3⟩ := List.getElem?_eq_some_iff.1 HX.out
          show _ = _
          rw [List.take_succ_eq_append_getElem h2, h3]
        have hty : Hid (m.take (k + 1) = m.take k ++ [(y1, y2, y3)]) := by
          obtain ⟨h2, h3⟩ := List.getElem?_eq_some_iff.1 HY.out
          show _ = _
          rw [List.take_succ_eq_append_getElem h2, h3]
        by_cases hxy : x1 = y1 ∧ x2 = y2 ∧ x3 = y3
        · obtain ⟨rfl, rfl, rfl⟩ := hxy
          go_wp2_with fail
          go_quiet (fail)
          go_wp2_with fail
          go_roundw
          case rel => exact ⟨k + 1, by omega, by go_num, HH.out.1.drewN _, by rw [htx.out, hty.out, HH.out.2]⟩
          case measure => simp [intOf]; try omega
        · have hb : (x1 == y1) = false ∨ ((x1 == y1) = true ∧ (x2 == y2) = false) ∨ ((x1 == y1) = true ∧ (x2 == y2) = true ∧ (x3 == y3) = false) := by
            by_cases h : x1 = y1
            · right
              by_cases h2 : x2 = y2
              · right; exact ⟨by simpa using h, by simpa using h2, by simp; exact fun h' => hxy ⟨h, h2, h'⟩⟩
              · left; exact ⟨by simpa using h, by simpa using h2⟩
            · exact .inl (by simpa using h)
          have hne : Hid (decide (l = m) = false) := by
            show _ = _
            rw [decide_eq_false_iff_not]
            intro e
            have h1 := HX.out
            rw [e, HY.out] at h1
            injection h1 with h1
            injection h1 with h1 h2
            injection h2 with h2 h3
            exact hxy ⟨h1.symm, h2.symm, h3.symm⟩
          clear hxy
          rcases hb with hb | ⟨hb, hb2⟩ | ⟨hb, hb2, hb3⟩
          all_goals
            go_wp2_with fail
            go_quiet (fail)
            go_wp2_with fail
            go_ret
            exact ⟨by rw [hne.out]; rfl, HH.out.1.drewN _⟩
      · obtain rfl : k = n := by omega
        have he : Hid (decide (l = m) = true) := by
          show _ = _
          rw [decide_eq_true_iff]
          have := HH.out.2
          rwa [List.take_of_length_le (by rw [Hl.out]; exact Nat.le_refl _), List.take_of_length_le (by rw [Hm.out]; exact Nat.le_refl _)] at this
        go_wp2_with fail
        go_ret
        exact ⟨by rw [he.out]; rfl, HH.out.1⟩
  · have he : Hid (decide (l = m) = false) := by
      show _ = _
      rw [decide_eq_false_iff_not]
      intro e
      have h1 := Hl.out
      rw [e, Hm.out] at h1
      exact hne h1.symm
    have hb : ((n : Int) == (n' : Int)) = false := by simp; omega
    clear hne
    go_enter Tryz.func49, Tryz.ntmps49
    go_wp2_with fail
    go_ret
    exact ⟨by rw [he.out]; rfl, Keep.refl _ _⟩

end Go.Proofs.YtpahfobijmmmmaaGreat
