/- Chapter 20 (border): how notes lie in cells; slices.ContainsFunc, Clone at locks. -/
import Derived.Test.YtpahfobijmmmmaaBdBrdA
import Derived.Test.YtpahfobijmmmmaaSpnM
import Derived.Test.YtpahfobijmmmmaaTopC
import Derived.Test.YtpahfobijmmmmaaSpnG
namespace Go.Proofs.Ytpahfobijmmmmaa
open Go.RowKit


def repLo : Rep Lok := Rep.int.pair (Rep.int.pair Rep.int)
theorem opens_lo : Rep.Opens Try.prog 44 repLo :=
  Rep.opens_struct Try.underlying44 (by kernel_rfl)
    (Rep.fopens_cons rfl (by kernel_rfl) (Rep.opens_int Try.underlying3) (Rep.fopens_cons rfl (by kernel_rfl) (Rep.opens_int Try.underlying3) (Rep.fopens_last rfl (by kernel_rfl) (Rep.opens_int Try.underlying3))))
theorem opens_los : Rep.Opens Try.prog 22 repLo.list := Rep.opens_list Try.underlying22 (by kernel_rfl) (by decide) opens_lo
/-- a note: Kind, Train, T, Until, Locks, Here -/
def repNt : Rep Nt := Rep.int.pair (Rep.int.pair (Rep.int.pair (Rep.int.pair (repLo.list.pair repSp.list))))
theorem opens_nt : Rep.Opens Try.prog 25 repNt :=
  Rep.opens_struct Try.underlying25 (by kernel_rfl)
    (Rep.fopens_cons rfl (by kernel_rfl) (Rep.opens_int Try.underlying3) (Rep.fopens_cons rfl (by kernel_rfl) (Rep.opens_int Try.underlying3) (Rep.fopens_cons rfl (by kernel_rfl) (Rep.opens_int Try.underlying3) (Rep.fopens_cons rfl (by kernel_rfl) (Rep.opens_int Try.underlying3) (Rep.fopens_cons rfl (by kernel_rfl) opens_los (Rep.fopens_last rfl (by kernel_rfl) opens_sps))))))
theorem opens_nts : Rep.Opens Try.prog 36 repNt.list := Rep.opens_list Try.underlying36 (by kernel_rfl) (by decide) opens_nt
theorem los_at {w : World} {B n c : Nat} {A : Option Addr} {l : List Lok} (h : repLo.Sl w B A n c l) : SpAt w B A n c l := by
  obtain ⟨h1, h2, h3, h4, h5, _⟩ := sps_rd (show repSp.Sl w B A n c l from h)
  exact ⟨h1, h5, h3⟩
set_option maxRecDepth 100000 in
theorem elemLo : Elem Try.prog 22 44 3 24 := ⟨Try.underlying22, _, _, rfl, rfl, rfl, rfl, rfl, by omega⟩
theorem loAt_own {w : World} {base n c : Nat} {A : Option Addr} {l : List Lok} (h : Own w base 44 3 A n c (spCells l)) : SpAt w w.heap.size A n c l :=
  ⟨h.rd, (fun e => by
    rcases h.form with ⟨_, _, h2, _⟩ | ⟨_, _, h2, _⟩
    · exact h2
    · rw [e] at h2; cases h2), h.cap_le⟩
theorem SpAt.takeL {w : World} {B n c : Nat} {A : Option Addr} {l : List Sp} (h : SpAt w B A n c l) {i : Nat} (hi : i ≤ n) : SpAt w B A i c (l.take i) := by
  refine ⟨⟨?_, fun h0 => ?_⟩, h.nil, Nat.le_trans hi h.cap⟩
  · rw [← spCells_take, List.length_take, h.rd.1]; omega
  · obtain ⟨ad, e, hb, hc⟩ := h.rd.2 (by omega)
    refine ⟨ad, e, hb, fun j v hj => hc j v ?_⟩
    rw [← spCells_take, List.getElem?_take] at hj
    split at hj
    · exact hj
    · cases hj
set_option maxHeartbeats 1000000 in
set_option maxRecDepth 100000 in
theorem indexfL_any (g : Nat) (lb : Array Value) (p : Sp → Bool) (eg : ∀ args w, (callFunc g args).run Try.prog w = .ok (.enter g args) w) (A : Option Addr) (n c B : Nat) (l : List Sp) (w : World) (hr : Rd w B 3 A n (spCells l)) (hp : PredSp g lb p w) (hn : n ≤ 100000000000) :
    Calls Try.prog 50 #[.slice A n c, .func (.func g) #[] lb] w (IdxRet p l w) := by
  have HL := Lib.hid hr.sp_len
  have HR := Lib.hid hr
  have HP := Lib.hid hp
  clear hr hp
  go_enter Try.func50, Try.ntmps50
  go_wp2_with fail
  go_loopw [5, 8] (fun _ s8 wr => ∃ k : Nat, k ≤ n ∧ s8 = .int .i64 k ∧ Hid (Keep Never w wr ∧ ∀ x ∈ l.take k, p x = false)) (fun _ i _ => n - (intOf i).toNat)
  case atStart => exact ⟨0, by omega, rfl, Lib.hid ⟨Keep.refl _ _, by simp⟩⟩
  case round =>
    obtain ⟨k, hk, rfl, HH⟩ := hrel
    by_cases h0 : k < n
    · have hki : (k : Int) < (n : Int) := by omega
      obtain ⟨ad, s, hA, _, hs, c0, c1, c2⟩ := (HR.out.keep HH.out.1 (fun _ h => h.elim)).sp h0
      subst hA
      have hcall := HP.out wr s HH.out.1
      have Hs := Lib.hid hs
      have htk : Hid (l.take (k + 1) = l.take k ++ [s]) := Lib.hid (by
        obtain ⟨h2, h3⟩ := List.getElem?_eq_some_iff.1 hs
        rw [List.take_succ_eq_append_getElem h2, h3])
      clear hs
      obtain ⟨s1, s2, s3⟩ := s
      simp only at c0 c1 c2 hcall
      cases hps : p (s1, s2, s3) with
      | true =>
        rw [hps] at hcall
        have Hps := Lib.hid hps
        clear hps
        go_wp2_with (go_at_fn g; refine hcall.mono ?_; rintro e w' ⟨rfl, hk'⟩)
        go_ret
        exact ⟨.inl ⟨k, _, rfl, Hs.out, Hps.out, HH.out.2⟩, HH.out.1.trans hk'⟩
      | false =>
        rw [hps] at hcall
        have Hps := Lib.hid hps
        clear hps
        go_wp2_with (go_at_fn g; refine hcall.mono ?_; rintro e w' ⟨rfl, hk'⟩)
        go_roundw
        case measure => simp [intOf]; try omega
        case rel =>
          refine ⟨k + 1, by omega, by go_num, Lib.hid ⟨HH.out.1.trans hk', fun x hx => ?_⟩⟩
          rw [htk.out] at hx
          rcases List.mem_append.1 hx with hx | hx
          · exact HH.out.2 x hx
          · simp at hx; subst hx; exact Hps.out
    · obtain rfl : k = n := by omega
      have hki : ¬ (k : Int) < (k : Int) := by omega
      have HN : Hid (∀ x ∈ l, p x = false) := Lib.hid (by have := HH.out.2; rwa [List.take_of_length_le (by have := HL.out; omega)] at this)
      go_wp2_with fail
      go_ret
      exact ⟨.inr ⟨rfl, HN.out⟩, HH.out.1⟩
set_option maxHeartbeats 1000000 in
set_option maxRecDepth 100000 in
theorem containsfL_any (g : Nat) (lb : Array Value) (p : Sp → Bool) (eg : ∀ args w, (callFunc g args).run Try.prog w = .ok (.enter g args) w) (A : Option Addr) (n c B : Nat) (l : List Sp) (w : World) (hr : Rd w B 3 A n (spCells l)) (hp : PredSp g lb p w) (hn : n ≤ 100000000000) :
    Calls Try.prog 28 #[.slice A n c, .func (.func g) #[] lb] w fun e w' => e = .returned (.bool (l.any p)) ∧ Keep Never w w' := by
  have HI := Lib.hid (indexfL_any g lb p eg A n c B l w hr hp hn)
  clear hr hp
  go_enter Try.func28, Try.ntmps28
  go_wp2_with fail
  refine HI.out.mono ?_
  rintro e w' ⟨⟨i, s, rfl, h1, h2, h3⟩ | ⟨rfl, h1⟩, hk⟩
  · have HA : Hid (l.any p = true) := Lib.hid (List.any_eq_true.2 ⟨s, List.mem_of_getElem? h1, h2⟩)
    have HK := Lib.hid hk
    have hi : decide ((i : Int) ≥ 0) = true := by simp
    clear h1 h2 h3 hk
    go_wp2_with fail
    go_ret
    exact ⟨by rw [HA.out]; rfl, HK.out⟩
  · have HA : Hid (l.any p = false) := Lib.hid (by rw [List.any_eq_false]; intro x hx; rw [h1 x hx]; simp)
    have HK := Lib.hid hk
    clear h1 hk
    go_wp2_with fail
    go_ret
    exact ⟨by rw [HA.out]; rfl, HK.out⟩

/-- where a note's two lists lie -/
structure NA where
  A1 : Option Addr
  n1 : Nat
  c1 : Nat
  A2 : Option Addr
  n2 : Nat
  c2 : Nat
/-- a note's cells -/
def NA.cs (x : NA) (n : Nt) : Array Value := #[.int .i64 n.1, .int .i64 n.2.1, .int .i64 n.2.2.1, .int .i64 n.2.2.2.1, .slice x.A1 x.n1 x.c1, .slice x.A2 x.n2 x.c2]
/-- the note n lies at x, below block B -/
structure NtAt (w : World) (B : Nat) (x : NA) (n : Nt) : Prop where
  l : SpAt w B x.A1 x.n1 x.c1 n.2.2.2.2.1
  h : SpAt w B x.A2 x.n2 x.c2 n.2.2.2.2.2
theorem NtAt.keep {w w' : World} {B : Nat} {x : NA} {n : Nt} (h : NtAt w B x n) (hk : Keep Never w w') : NtAt w' B x n := ⟨h.l.keep hk, h.h.keep hk⟩
theorem NtAt.more {w : World} {B B2 : Nat} {x : NA} {n : Nt} (h : NtAt w B x n) (hB : B ≤ B2) : NtAt w B2 x n := ⟨h.l.more hB, h.h.more hB⟩
theorem NtAt.of {w : World} {B : Nat} {n : Nt} {cs : List Value} (h : repNt.cells w B n cs) : ∃ x : NA, cs = (x.cs n).toList ∧ NtAt w B x n := by
  obtain ⟨c1, d1, rfl, ⟨rfl, _⟩, c2, d2, rfl, ⟨rfl, _⟩, c3, d3, rfl, ⟨rfl, _⟩, c4, d4, rfl, ⟨rfl, _⟩, c5, d5, rfl, ⟨A1, n1, c1, rfl, h1⟩, ⟨A2, n2, c2, rfl, h2⟩⟩ := h
  obtain ⟨a1, a2, a3, a4, a5, _⟩ := sps_rd h2
  exact ⟨⟨A1, n1, c1, A2, n2, c2⟩, rfl, los_at h1, ⟨a1, a5, a3⟩⟩

end Go.Proofs.Ytpahfobijmmmmaa

namespace Go.Proofs.Ytpahfobijmmmmaa
open Go.RowKit

theorem mayN_no {n : Nt} (h : MayN n → False) : mayN n = false := by
  rw [← Bool.not_eq_true, mayN_iff]
  exact h
theorem norm_self {l : List Sp} : normM l = l ↔ NormalS l := by
  constructor
  · intro h; rw [← h]; exact (normM_of l).1
  · intro h; exact (normM_eq ⟨h, fun _ _ => rfl⟩).symm

set_option maxHeartbeats 4000000 in
set_option maxRecDepth 100000 in
theorem stime_any (n : Int) (w : World) :
    Calls Try.prog 64 #[.int .i64 n] w fun e w' => e = .returned (.bool (clockB n)) ∧ Keep Never w w' := by
  by_cases g0 : 0 ≤ n
  case neg =>
    have t0 : decide (n ≥ 0) = false := by simpa using g0
    have HF : Hid (clockB n = false) := Lib.hid (by unfold clockB; simp; omega)
    clear g0
    go_enter Try.func64, Try.ntmps64
    go_wp2_with fail
    go_ret
    exact ⟨by rw [HF.out]; rfl, Keep.refl _ _⟩
  have t0 : decide (n ≥ 0) = true := by simpa using g0
  by_cases g1 : n ≤ 4294967294
  case neg =>
    have t1 : decide (n ≤ 4294967294) = false := by simpa using g1
    have HF : Hid (clockB n = false) := Lib.hid (by unfold clockB; simp; omega)
    clear g0 g1
    go_enter Try.func64, Try.ntmps64
    go_wp2_with fail
    go_ret
    exact ⟨by rw [HF.out]; rfl, Keep.refl _ _⟩
  have t1 : decide (n ≤ 4294967294) = true := by simpa using g1
  have HF : Hid (clockB n = true) := Lib.hid (by unfold clockB; simp; omega)
  clear g0 g1
  go_enter Try.func64, Try.ntmps64
  go_wp2_with fail
  go_ret
  exact ⟨by rw [HF.out]; rfl, Keep.refl _ _⟩

set_option maxHeartbeats 4000000 in
set_option maxRecDepth 100000 in
theorem later0_any (n : Int) (w : World) (h1 : -9223372036854775808 ≤ n) (h2 : n ≤ 9223372036854775807) :
    Calls Try.prog 49 #[.int .i64 n, .int .i64 0] w fun e w' => ∃ v, e = .returned (.tuple #[.int .i64 v, .int .i64 (if clockB n = true then 0 else 7)]) ∧ Keep Never w w' := by
  have HT := Lib.hid (fun V => stime_any n V)
  have HT0 : Hid (∀ V, Calls Try.prog 64 #[.int .i64 0] V fun e w' => e = .returned (.bool true) ∧ Keep Never V w') := Lib.hid (fun V => stime_any 0 V)
  have hwn : IntKind.i64.wrap n = n := IntWalk.i64_in _ (by omega)
  have hwn2 : wrap64 n = n := by have := hwn; rwa [IntWalk.i64_left] at this
  obtain ⟨tb, htb⟩ : ∃ z, clockB n = z := ⟨_, rfl⟩
  rw [htb] at HT ⊢
  clear htb
  go_enter Try.func49, Try.ntmps49
  go_wp2_with fail
  refine (HT.out _).mono ?_
  rintro e w1 ⟨rfl, hk1⟩
  cases tb with
  | false =>
    have HK1 := Lib.hid hk1
    clear hk1
    go_wp2_with fail
    go_ret2
    exact ⟨⟨0, rfl⟩, HK1.out⟩
  | true =>
    go_wp2_with fail
    refine (HT0.out _).mono ?_
    rintro e w2 ⟨rfl, hk2⟩
    have HK2 := Lib.hid (hk1.trans hk2)
    clear hk1 hk2
    go_wp2_with fail
    (try rw [hwn2])
    refine (HT.out _).mono ?_
    rintro e w3 ⟨rfl, hk3⟩
    have HK3 := Lib.hid (HK2.out.trans hk3)
    clear hk3
    go_wp2_with fail
    (try rw [hwn2])
    go_ret2
    exact ⟨⟨n, rfl⟩, HK3.out⟩

set_option maxHeartbeats 4000000 in
set_option maxRecDepth 100000 in
theorem btime_any (n : Int) (w : World) (h1 : -9223372036854775808 ≤ n) (h2 : n ≤ 9223372036854775807) :
    Calls Try.prog 24 #[.int .i64 n] w fun e w' => e = .returned (.bool (clockB n)) ∧ Keep Never w w' := by
  have HL := Lib.hid (later0_any n w h1 h2)
  obtain ⟨tb, htb⟩ : ∃ z, clockB n = z := ⟨_, rfl⟩
  rw [htb] at HL ⊢
  clear htb
  go_enter Try.func24, Try.ntmps24
  go_wp2_with fail
  refine HL.out.mono ?_
  rintro e w1 ⟨v, rfl, hk1⟩
  have HK1 := Lib.hid hk1
  clear hk1
  cases tb with
  | false =>
    simp only [Bool.false_eq_true, if_false]
    go_wp2_with fail
    go_ret
    exact ⟨rfl, HK1.out⟩
  | true =>
    simp only [if_true]
    go_wp2_with fail
    go_ret
    exact ⟨rfl, HK1.out⟩

set_option maxHeartbeats 4000000 in
set_option maxRecDepth 100000 in
theorem blocked_any (k0 tr tt un : Int) (A1 A2 : Option Addr) (n1 c1 n2 c2 : Nat) (a b c : Int) (w : World) :
    Calls Try.prog 26 #[.agg #[.int .i64 k0, .int .i64 tr, .int .i64 tt, .int .i64 un, .slice A1 n1 c1, .slice A2 n2 c2], .agg #[.int .i64 a, .int .i64 b, .int .i64 c]] w fun e w' => e = .returned (.bool (lokB tr (a, b, c))) ∧ Keep Never w w' := by
  obtain ⟨w1, hw1⟩ : ∃ V : World, w.alloc (.cells #[.int .i64 k0, .int .i64 tr, .int .i64 tt, .int .i64 un, .slice A1 n1 c1, .slice A2 n2 c2] 25) = V := ⟨_, rfl⟩
  have zw1 : w1.heap.size = w.heap.size + 1 := by rw [← hw1]; simp
  have kw1 : Keep Never w w1 := by rw [← hw1]; exact (Keep.refl _ _).alloc _
  have bw1 := Blk.new w 25 #[.int .i64 k0, .int .i64 tr, .int .i64 tt, .int .i64 un, .slice A1 n1 c1, .slice A2 n2 c2]
  rw [hw1] at bw1
  obtain ⟨w2, hw2⟩ : ∃ V : World, w1.alloc (.cells #[.int .i64 a, .int .i64 b, .int .i64 c] 44) = V := ⟨_, rfl⟩
  have kw2 : Keep Never w1 w2 := by rw [← hw2]; exact (Keep.refl _ _).alloc _
  have bw2 := Blk.new w1 44 #[.int .i64 a, .int .i64 b, .int .i64 c]
  rw [hw2, zw1] at bw2
  have HB1 := Lib.hid (bw1.keep kw2 (fun h => h))
  have HB2 := Lib.hid bw2
  have HK := Lib.hid (kw1.trans kw2)
  clear kw1 kw2 bw1 bw2
  have p1 : w2.cell? ⟨w.heap.size, 1, none⟩ = some (.int .i64 tr) := HB1.out.cell 1
  have q0 : w2.cell? ⟨w.heap.size + 1, 0, none⟩ = some (.int .i64 a) := HB2.out.cell 0
  have q1 : w2.cell? ⟨w.heap.size + 1, 1, none⟩ = some (.int .i64 b) := HB2.out.cell 1
  have q2 : w2.cell? ⟨w.heap.size + 1, 2, none⟩ = some (.int .i64 c) := HB2.out.cell 2
  by_cases g0 : 1 ≤ a
  case neg =>
    have t0 : decide (a ≥ 1) = false := by simpa using g0
    have HF : Hid (lokB tr (a, b, c) = false) := Lib.hid (by unfold lokB; simp; omega)
    clear g0
    go_enter Try.func26, Try.ntmps26
    go_wp2_with fail
    go_ret
    exact ⟨by rw [HF.out]; rfl, HK.out⟩
  have t0 : decide (a ≥ 1) = true := by simpa using g0
  by_cases g1 : a < 65536
  case neg =>
    have t1 : decide (a < 65536) = false := by simpa using g1
    have HF : Hid (lokB tr (a, b, c) = false) := Lib.hid (by unfold lokB; simp; omega)
    clear g0 g1
    go_enter Try.func26, Try.ntmps26
    go_wp2_with fail
    go_ret
    exact ⟨by rw [HF.out]; rfl, HK.out⟩
  have t1 : decide (a < 65536) = true := by simpa using g1
  by_cases g2 : b = tr
  case neg =>
    have t2 : (b == tr) = false := by simpa using g2
    have HF : Hid (lokB tr (a, b, c) = false) := Lib.hid (by unfold lokB; simp; omega)
    clear g0 g1 g2
    go_enter Try.func26, Try.ntmps26
    go_wp2_with fail
    go_ret
    exact ⟨by rw [HF.out]; rfl, HK.out⟩
  have t2 : (b == tr) = true := by simpa using g2
  by_cases g3 : 1 ≤ c
  case neg =>
    have t3 : decide (c ≥ 1) = false := by simpa using g3
    have HF : Hid (lokB tr (a, b, c) = false) := Lib.hid (by unfold lokB; simp; omega)
    clear g0 g1 g2 g3
    go_enter Try.func26, Try.ntmps26
    go_wp2_with fail
    go_ret
    exact ⟨by rw [HF.out]; rfl, HK.out⟩
  have t3 : decide (c ≥ 1) = true := by simpa using g3
  by_cases g4 : c < 1099511627776
  case neg =>
    have t4 : decide (c < 1099511627776) = false := by simpa using g4
    have HF : Hid (lokB tr (a, b, c) = false) := Lib.hid (by unfold lokB; simp; omega)
    clear g0 g1 g2 g3 g4
    go_enter Try.func26, Try.ntmps26
    go_wp2_with fail
    go_ret
    exact ⟨by rw [HF.out]; rfl, HK.out⟩
  have t4 : decide (c < 1099511627776) = true := by simpa using g4
  have HF : Hid (lokB tr (a, b, c) = true) := Lib.hid (by unfold lokB; simp; omega)
  clear g0 g1 g2 g3 g4
  go_enter Try.func26, Try.ntmps26
  go_wp2_with fail
  go_ret
  exact ⟨by rw [HF.out]; rfl, HK.out⟩

set_option maxHeartbeats 4000000 in
set_option maxRecDepth 100000 in
theorem bad20_any (k0 tr tt un : Int) (A1 A2 : Option Addr) (n1 c1 n2 c2 : Nat) (a b c : Int) (g : Nat) (w : World) (h1 : Blk w g 25 #[.int .i64 k0, .int .i64 tr, .int .i64 tt, .int .i64 un, .slice A1 n1 c1, .slice A2 n2 c2]) :
    Calls Try.prog 25 #[.agg #[.int .i64 a, .int .i64 b, .int .i64 c], .pointer (some ⟨g, 0, none⟩)] w fun e w' => e = .returned (.bool (!lokB tr (a, b, c))) ∧ Keep Never w w' := by
  obtain ⟨w1, hw1⟩ : ∃ V : World, w.alloc (.cells #[.int .i64 a, .int .i64 b, .int .i64 c] 44) = V := ⟨_, rfl⟩
  have kw1 : Keep Never w w1 := by rw [← hw1]; exact (Keep.refl _ _).alloc _
  have bw1 := Blk.new w 44 #[.int .i64 a, .int .i64 b, .int .i64 c]
  rw [hw1] at bw1
  have HB1 := Lib.hid bw1
  have HK := Lib.hid kw1
  clear kw1 bw1
  have H1 := Lib.hid (h1.keep HK.out (fun h => h))
  clear h1
  have lk0 : w1.cell? ⟨w.heap.size, 0, none⟩ = some (.int .i64 a) := HB1.out.cell 0
  have lk1 : w1.cell? ⟨w.heap.size, 1, none⟩ = some (.int .i64 b) := HB1.out.cell 1
  have lk2 : w1.cell? ⟨w.heap.size, 2, none⟩ = some (.int .i64 c) := HB1.out.cell 2
  have nt0 : w1.cell? ⟨g, 0, none⟩ = some (.int .i64 k0) := H1.out.cell 0
  have nt1 : w1.cell? ⟨g, 1, none⟩ = some (.int .i64 tr) := H1.out.cell 1
  have nt2 : w1.cell? ⟨g, 2, none⟩ = some (.int .i64 tt) := H1.out.cell 2
  have nt3 : w1.cell? ⟨g, 3, none⟩ = some (.int .i64 un) := H1.out.cell 3
  have nt4 : w1.cell? ⟨g, 4, none⟩ = some (.slice A1 n1 c1) := H1.out.cell 4
  have nt5 : w1.cell? ⟨g, 5, none⟩ = some (.slice A2 n2 c2) := H1.out.cell 5
  have HC := Lib.hid (blocked_any k0 tr tt un A1 A2 n1 c1 n2 c2 a b c w1)
  obtain ⟨z, hz⟩ : ∃ z, lokB tr (a, b, c) = z := ⟨_, rfl⟩
  rw [hz] at HC ⊢
  clear hz
  go_enter Try.func25, Try.ntmps25
  go_wp2_with fail
  refine HC.out.mono ?_
  rintro en w101 ⟨rfl, hk1⟩
  have HK1 := Lib.hid (HK.out.trans hk1)
  have Hlk1 := Lib.hid (HB1.out.keep hk1 (fun h => h))
  have Hnt1 := Lib.hid (H1.out.keep hk1 (fun h => h))
  clear lk0 lk1 lk2 nt0 nt1 nt2 nt3 nt4 nt5 hk1 HC
  go_wp2_with fail
  go_ret
  exact ⟨rfl, HK1.out⟩

set_option maxHeartbeats 4000000 in
set_option maxRecDepth 100000 in
theorem far20_any (a b c : Int) (w : World) :
    Calls Try.prog 27 #[.agg #[.int .i64 a, .int .i64 b, .int .i64 c]] w fun e w' => e = .returned (.bool (decide (a ≥ 40))) ∧ Keep Never w w' := by
  obtain ⟨w1, hw1⟩ : ∃ V : World, w.alloc (.cells #[.int .i64 a, .int .i64 b, .int .i64 c] 56) = V := ⟨_, rfl⟩
  have kw1 : Keep Never w w1 := by rw [← hw1]; exact (Keep.refl _ _).alloc _
  have bw1 := Blk.new w 56 #[.int .i64 a, .int .i64 b, .int .i64 c]
  rw [hw1] at bw1
  have HB1 := Lib.hid bw1
  have HK := Lib.hid kw1
  have v0 : w1.cell? ⟨w.heap.size, 0, none⟩ = some (.int .i64 a) := HB1.out.cell 0
  clear kw1 bw1
  obtain ⟨z, hz⟩ : ∃ z, decide (a ≥ 40) = z := ⟨_, rfl⟩
  have HZ := Lib.hid hz
  go_enter Try.func27, Try.ntmps27
  go_wp2_with fail
  go_ret
  exact ⟨by rw [HZ.out]; rfl, HK.out⟩

set_option maxHeartbeats 2000000 in
set_option maxRecDepth 100000 in
theorem equal20_any (l m : List Sp) (A A' : Option Addr) (n n' c c' B B' : Nat) (w : World) (hr : Rd w B 3 A n (spCells l)) (hr' : Rd w B' 3 A' n' (spCells m)) (hn : n ≤ 100000000000) (hn' : n' ≤ 100000000000) :
    Calls Try.prog 29 #[.slice A n c, .slice A' n' c'] w fun e w' => e = .returned (.bool (decide (l = m))) ∧ Keep Never w w' := by
  have Hl := Lib.hid hr.sp_len
  have Hm := Lib.hid hr'.sp_len
  have Hr := Lib.hid hr
  have Hr' := Lib.hid hr'
  clear hr hr'
  by_cases hne : n = n'
  · subst hne
    go_enter Try.func29, Try.ntmps29
    go_wp2_with fail
    go_loopw [13] (fun i wr => ∃ k : Nat, k ≤ n ∧ i = .int .i64 k ∧ Hid (Keep Never w wr ∧ l.take k = m.take k)) (fun i _ => n - (intOf i).toNat)
    case atStart => exact ⟨0, by omega, rfl, Keep.refl _ _, by simp⟩
    case round =>
      obtain ⟨k, hk, rfl, HH⟩ := hrel
      by_cases h0 : k < n
      · obtain ⟨ad, x, hA, _, hx, c0, c1, c2⟩ := (Hr.out.keep HH.out.1 (fun _ h => h.elim)).sp h0
        obtain ⟨ad', y, hA', _, hy, d0, d1, d2⟩ := (Hr'.out.keep HH.out.1 (fun _ h => h.elim)).sp h0
        subst hA
        subst hA'
        obtain ⟨x1, x2, x3⟩ := x
        obtain ⟨y1, y2, y3⟩ := y
        simp only at c0 c1 c2 d0 d1 d2
        have HX := Lib.hid hx
        have HY := Lib.hid hy
        have hki : (k : Int) < (n : Int) := by omega
        have hk00 : (0 : Int) ≤ (k : Int) := by omega
        clear hx hy
        have htx : Hid (l.take (k + 1) = l.take k ++ [(x1, x2, x3)]) := by
          obtain ⟨h2, h3⟩ := List.getElem?_eq_some_iff.1 HX.out
          show _ = _
          rw [List.take_succ_eq_append_getElem h2, h3]
        have hty : Hid (m.take (k + 1) = m.take k ++ [(y1, y2, y3)]) := by
          obtain ⟨h2, h3⟩ := List.getElem?_eq_some_iff.1 HY.out
          show _ = _
          rw [List.take_succ_eq_append_getElem h2, h3]
        by_cases hxy : x1 = y1 ∧ x2 = y2 ∧ x3 = y3
        · obtain ⟨rfl, rfl, rfl⟩ := hxy
          go_wp2_with fail
          go_quiet (fail)
          go_wp2_with fail
          go_roundw
          case rel => exact ⟨k + 1, by omega, by go_num, HH.out.1.drewN _, by rw [htx.out, hty.out, HH.out.2]⟩
          case measure => simp [intOf]; try omega
        · have hb : (x1 == y1) = false ∨ ((x1 == y1) = true ∧ (x2 == y2) = false) ∨ ((x1 == y1) = true ∧ (x2 == y2) = true ∧ (x3 == y3) = false) := by
            by_cases h : x1 = y1
            · right
              by_cases h2 : x2 = y2
              · right; exact ⟨by simpa using h, by simpa using h2, by simp; exact fun h' => hxy ⟨h, h2, h'⟩⟩
              · left; exact ⟨by simpa using h, by simpa using h2⟩
            · exact .inl (by simpa using h)
          have hne : Hid (decide (l = m) = false) := by
            show _ = _
            rw [decide_eq_false_iff_not]
            intro e
            have h1 := HX.out
            rw [e, HY.out] at h1
            injection h1 with h1
            injection h1 with h1 h2
            injection h2 with h2 h3
            exact hxy ⟨h1.symm, h2.symm, h3.symm⟩
          clear hxy
          rcases hb with hb | ⟨hb, hb2⟩ | ⟨hb, hb2, hb3⟩
          all_goals
            go_wp2_with fail
            go_quiet (fail)
            go_wp2_with fail
            go_ret
            exact ⟨by rw [hne.out]; rfl, HH.out.1.drewN _⟩
      · obtain rfl : k = n := by omega
        have he : Hid (decide (l = m) = true) := by
          show _ = _
          rw [decide_eq_true_iff]
          have := HH.out.2
          rwa [List.take_of_length_le (by rw [Hl.out]; exact Nat.le_refl _), List.take_of_length_le (by rw [Hm.out]; exact Nat.le_refl _)] at this
        go_wp2_with fail
        go_ret
        exact ⟨by rw [he.out]; rfl, HH.out.1⟩
  · have he : Hid (decide (l = m) = false) := by
      show _ = _
      rw [decide_eq_false_iff_not]
      intro e
      have h1 := Hl.out
      rw [e, Hm.out] at h1
      exact hne h1.symm
    have hb : ((n : Int) == (n' : Int)) = false := by simp; omega
    clear hne
    go_enter Try.func29, Try.ntmps29
    go_wp2_with fail
    go_ret
    exact ⟨by rw [he.out]; rfl, Keep.refl _ _⟩


end Go.Proofs.Ytpahfobijmmmmaa
