/- Chapter 6: the reader that takes variables up. -/
import Derived.Test.YtiebjnibmomcjaaDoorBdMsgB
import Derived.Test.YtiebjnibmomcjaaDoorBitsX
import Derived.Test.YtiebjnibmomcjaaDoorBdVarsD
import Derived.Test.YtiebjnibmomcjaaDoorPackE
import Derived.Deep.RegionHeld3
namespace Go.Proofs.YtiebjnibmomcjaaDoor
open Go.RowKit

/-- to take a variable up: its number, the bits that are left, what is wrong -/
def takeB (l : List Bool) (e v : Int) : Int × List Bool × Int := if e ≠ 0 then (0, l, e) else (getN l (vWidth v), getL l (vWidth v), getE l.length (vWidth v))
/-- .. that may be -/
def oneB (l : List Bool) (e v : Int) : Int × List Bool × Int := if (takeB l e v).2.2 = 0 ∧ vMay v (takeB l e v).1 = false then ((takeB l e v).1, (takeB l e v).2.1, 20) else takeB l e v

/-- block pr is a reader over the Reader rp, which has the bits l yet, of b; e: what is wrong -/
def RdrAt (w : World) (pr rp RB RH : Nat) (b : List Nat) (l : List Bool) (e : Int) : Prop :=
  Blk w pr 73 #[.pointer (some ⟨rp, 0, none⟩), .int .i64 e] ∧ (∃ k, RdAt w RB RH rp b k ∧ l = leftB b k) ∧ pr ≠ rp ∧ (pr < RB ∨ RH ≤ pr) ∧ RB ≤ rp ∧ rp < RH ∧ RB ≤ w.heap.size
theorem RdrAt.keep {w w' : World} {pr rp RB RH : Nat} {b : List Nat} {l : List Bool} {e : Int} {S : Nat → Prop} (h : RdrAt w pr rp RB RH b l e) (hk : Keep S w w') (h1 : ¬ S pr) (h2 : ∀ q, S q → q < RB ∨ RH ≤ q) : RdrAt w' pr rp RB RH b l e := by
  obtain ⟨a1, ⟨k, a2, a3⟩, a4, a5, a6, a7, a8⟩ := h
  exact ⟨a1.keep hk h1, ⟨k, a2.keep hk h2, a3⟩, a4, a5, a6, a7, Nat.le_trans a8 hk.size⟩
theorem RdrAt.never {w w' : World} {pr rp RB RH : Nat} {b : List Nat} {l : List Bool} {e : Int} (h : RdrAt w pr rp RB RH b l e) (hk : Keep Never w w') : RdrAt w' pr rp RB RH b l e := h.keep hk (fun h => h) (fun _ h => h.elim)
theorem takeB_range (l : List Bool) (e v : Int) : 0 ≤ (takeB l e v).1 ∧ (takeB l e v).1 ≤ 4294967295 := by
  unfold takeB
  split
  · simp
  · simp only
    unfold getN
    split
    · simp
    · have := numOf_le32 (l.take (vWidth v).toNat) (k := 32) (by omega) (by simp; omega)
      omega
/-- what 'take' leaves -/
def TakeRet (w : World) (pr rp RB RH : Nat) (b : List Nat) (r : Int × List Bool × Int) (e : Ending) (w' : World) : Prop :=
  e = .returned (.int .i64 r.1) ∧ RdrAt w' pr rp RB RH b r.2.1 r.2.2 ∧ Keep (fun q => q = pr ∨ q = rp) w w'

set_option maxHeartbeats 2000000 in
set_option maxRecDepth 100000 in
theorem mtake_any (pr rp RB RH : Nat) (b : List Nat) (l : List Bool) (e v : Int) (w : World) (h : RdrAt w pr rp RB RH b l e) (hW : Widths w) (_hg : 0 ≠ pr ∧ 0 ≠ rp) :
    Calls Tryd.prog 43 #[.pointer (some ⟨pr, 0, none⟩), .int .i64 v] w (TakeRet w pr rp RB RH b (takeB l e v)) := by
  have HR := Lib.hid h
  obtain ⟨a1, ⟨k, a2, a3⟩, a4, a5, a6, a7, a8⟩ := h
  by_cases he : e = 0
  rotate_left
  · have hr : takeB l e v = (0, l, e) := by unfold takeB; rw [if_pos he]
    rw [hr]
    have f1 := a1.cell 1
    have e0 : (e == 0) = false := by simpa using he
    have e1 : (e != 0) = true := by simpa using he
    clear a1 a2 a3 a4 a5 a6 a7 a8 he hr hW _hg
    go_enter Tryd.func43, Tryd.ntmps43
    go_wp2_with fail
    go_ret
    exact ⟨rfl, HR.out, Keep.refl _ _⟩
  · subst he
    have hr : takeB l 0 v = (getN l (vWidth v), getL l (vWidth v), getE l.length (vWidth v)) := by unfold takeB; rw [if_neg (by simp)]
    rw [hr]
    obtain ⟨wd, hwd⟩ : ∃ x, vWidth v = x := ⟨_, rfl⟩
    rw [hwd]
    obtain ⟨er, her⟩ : ∃ x, getE l.length wd = x := ⟨_, rfl⟩
    obtain ⟨n, hn⟩ : ∃ x, getN l wd = x := ⟨_, rfl⟩
    have HWd : Hid (∀ W, Keep Never w W → Calls Tryd.prog 23 #[.int .i64 v] W fun e w' => e = .returned (.int .i64 wd) ∧ W = w') := Lib.hid (fun W hk => by have := vwidth_any v W (hW.keep hk (fun h => h)); rwa [hwd] at this)
    have HG : Hid (∀ W, Keep Never w W → Calls Tryd.prog 68 #[.pointer (some ⟨rp, 0, none⟩), .int .i64 wd] W fun e w' => e = .returned (.tuple #[.int .i64 n, .int .i64 er]) ∧ Keep (fun q => q = rp) W w' ∧ ∃ k', RdAt w' RB RH rp b k' ∧ getL l wd = leftB b k') := by
      refine Lib.hid (fun W hk => (get_any RB RH rp b k wd W (a2.keep hk (fun _ h => h.elim)) (Nat.le_trans a8 hk.size)).mono ?_)
      rintro e' w' ⟨rfl, h1, h2⟩
      rw [← a3, hn, her]
      rw [← a3, her] at h1
      refine ⟨rfl, h2, _, h1, ?_⟩
      by_cases h0 : er = 0
      · rw [if_pos h0, getL_eq (by rw [her]; exact h0), a3, leftB, leftB, List.drop_drop]
      · rw [if_neg h0, Nat.add_zero, ← a3]
        unfold getL
        unfold getE at her
        by_cases hb : wd < 1 ∨ 32 < wd
        · rw [if_pos (by omega)]
        · rw [if_neg hb] at her
          by_cases hb2 : (l.length : Int) < wd
          · rw [if_pos (by omega)]
          · rw [if_neg hb2] at her; exact absurd her.symm h0
    rw [her, hn]
    have HB := Lib.hid a1
    have HF := Lib.hid (And.intro a4 (And.intro a5 (And.intro a6 (And.intro a7 a8))))
    have f0 := a1.cell 0
    have f1 := a1.cell 1
    have hlt := a1.lt
    have Hlt := Lib.hid hlt
    clear a1 a2 a3 a4 a5 a6 a7 a8 hr hwd her hn hW _hg
    go_enter Tryd.func43, Tryd.ntmps43
    go_wp2_with fail
    go_region_held3 (fun w' => w'.cell? ⟨pr, 0, none⟩ = some (.pointer (some ⟨rp, 0, none⟩))) (first | go_keep | (rw [hk5.cell (by simpa using Hlt.out) HF.out.1]; go_keep))
      (first
        | (go_at_call 23; refine (HWd.out _ (Keep.refl Never w).drew).mono ?_; rintro e w' ⟨rfl, rfl⟩)
        | (go_at_call 68; refine (HG.out _ (Keep.refl Never w).drew).mono ?_; rintro e w5 ⟨rfl, hk5, hr5⟩))
    have hb5 := (HB.out.drew).keep hk5 HF.out.1
    have q1 := hb5.cell 1
    have q1f := hb5.frozen 1
    have HB5 := Lib.hid hb5
    have HK5 := Lib.hid hk5
    have HR5 := Lib.hid hr5
    clear hb5 hk5 hr5 f0 f1
    go_wp2_with fail
    go_ret
    have hs := Keep.set_ (Keep.refl (fun q => q = pr) w5) (p := ⟨pr, 1, none⟩) (.inl rfl) (.int .i64 er)
    obtain ⟨k', r1, r2⟩ := HR5.out
    obtain ⟨a4, a5, a6, a7, a8⟩ := HF.out
    refine ⟨rfl, ⟨HB5.out.set_ 1 (.int .i64 er), ⟨k', r1.keep hs (fun q h => by subst h; exact a5), r2⟩, a4, a5, a6, a7, ?_⟩, ?_⟩
    · have := HK5.out.size; have := hs.size; simp at *; omega
    · exact (((Keep.refl Never w).drew.mono (fun _ _ h => h.elim)).trans (HK5.out.mono (fun q _ h => .inr h))).trans (hs.mono (fun q _ h => .inl h))

set_option maxHeartbeats 2000000 in
set_option maxRecDepth 100000 in
theorem mone_any (pr rp RB RH : Nat) (b : List Nat) (l : List Bool) (e v : Int) (w : World) (h : RdrAt w pr rp RB RH b l e) (hW : Widths w) (hg : 0 ≠ pr ∧ 0 ≠ rp) :
    Calls Tryd.prog 44 #[.pointer (some ⟨pr, 0, none⟩), .int .i64 v] w (TakeRet w pr rp RB RH b (oneB l e v)) := by
  have hrg := takeB_range l e v
  have HT := Lib.hid (mtake_any pr rp RB RH b l e v w h hW hg)
  have Hg := Lib.hid hg
  have HW := Lib.hid hW
  have h1c : (takeB l e v).2.2 ≠ 0 → oneB l e v = takeB l e v := fun h => by unfold oneB; rw [if_neg (fun hc => h hc.1)]
  have h2c : (takeB l e v).2.2 = 0 → vMay v (takeB l e v).1 = true → oneB l e v = takeB l e v := fun _ h => by unfold oneB; rw [if_neg (fun hc => by rw [h] at hc; simp at hc)]
  have h3c : (takeB l e v).2.2 = 0 → vMay v (takeB l e v).1 = false → oneB l e v = ((takeB l e v).1, (takeB l e v).2.1, 20) := fun h h' => by unfold oneB; rw [if_pos ⟨h, h'⟩]
  generalize takeB l e v = r at *
  obtain ⟨n, l', e'⟩ := r
  simp only at hrg h1c h2c h3c
  obtain ⟨n1, n2⟩ := hrg
  have HM : Hid (∀ W, Widths W → Calls Tryd.prog 27 #[.int .i64 v, .int .i64 n] W fun e w' => e = .returned (.bool (vMay v n)) ∧ W = w') := Lib.hid (fun W hw => vmay_any v n (by omega) W hw)
  clear h hW hg n1 n2
  by_cases he : e' = 0
  · subst he
    clear h1c
    by_cases hm : vMay v n = true
    · rw [hm] at HM
      rw [h2c rfl hm]
      clear hm h2c h3c
      go_enter Tryd.func44, Tryd.ntmps44
      go_wp2_with fail
      refine HT.out.mono ?_
      rintro e5 w1 ⟨rfl, hr1, hk1⟩
      have HR1 := Lib.hid hr1
      have HK1 := Lib.hid hk1
      have HW1 := Lib.hid (HW.out.keep hk1 (fun h => by rcases h with h | h; exact Hg.out.1 h; exact Hg.out.2 h))
      have f1 : w1.cell? ⟨pr, 1, none⟩ = some (.int .i64 0) := hr1.1.cell 1
      clear hr1 hk1
      go_wp2_with fail
      refine (HM.out _ HW1.out).mono ?_
      rintro e5 w2 ⟨rfl, rfl⟩
      go_wp2_with fail
      go_ret
      exact ⟨rfl, HR1.out, HK1.out⟩
    · have hmf : vMay v n = false := by simpa using hm
      rw [hmf] at HM
      rw [h3c rfl hmf]
      clear hm hmf h2c h3c
      go_enter Tryd.func44, Tryd.ntmps44
      go_wp2_with fail
      refine HT.out.mono ?_
      rintro e5 w1 ⟨rfl, hr1, hk1⟩
      have HR1 := Lib.hid hr1
      have HK1 := Lib.hid hk1
      have HW1 := Lib.hid (HW.out.keep hk1 (fun h => by rcases h with h | h; exact Hg.out.1 h; exact Hg.out.2 h))
      have f1 : w1.cell? ⟨pr, 1, none⟩ = some (.int .i64 0) := hr1.1.cell 1
      have f1f : w1.frozen? ⟨pr, 1, none⟩ = false := hr1.1.frozen 1
      clear hr1 hk1
      go_wp2_with fail
      refine (HM.out _ HW1.out).mono ?_
      rintro e5 w2 ⟨rfl, rfl⟩
      go_wp2_with fail
      go_ret
      have hs := Keep.set_ (Keep.refl (fun q => q = pr) w1) (p := ⟨pr, 1, none⟩) (.inl rfl) (.int .i64 20)
      obtain ⟨a1, ⟨k, a2, a3⟩, a4, a5, a6, a7, a8⟩ := HR1.out
      exact ⟨rfl, ⟨a1.set_ 1 (.int .i64 20), ⟨k, a2.keep hs (fun q h => by subst h; exact a5), a3⟩, a4, a5, a6, a7, Nat.le_trans a8 hs.size⟩, HK1.out.trans (hs.mono (fun q _ h => .inl h))⟩
  · have e0 : (e' == 0) = false := by simpa using he
    have e1 : (e' != 0) = true := by simpa using he
    rw [h1c he]
    clear h1c h2c h3c he
    go_enter Tryd.func44, Tryd.ntmps44
    go_wp2_with fail
    refine HT.out.mono ?_
    rintro e5 w1 ⟨rfl, hr1, hk1⟩
    have HR1 := Lib.hid hr1
    have HK1 := Lib.hid hk1
    have f1 : w1.cell? ⟨pr, 1, none⟩ = some (.int .i64 e') := hr1.1.cell 1
    clear hr1 hk1
    go_wp2_with fail
    go_ret
    exact ⟨rfl, HR1.out, HK1.out⟩

end Go.Proofs.YtiebjnibmomcjaaDoor
