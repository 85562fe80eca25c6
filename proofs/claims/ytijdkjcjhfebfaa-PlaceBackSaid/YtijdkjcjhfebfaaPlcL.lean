/- Chapter 14: the laws' own functions: small, awake. -/
import Derived.Test.YtijdkjcjhfebfaaPlcG
import Derived.Test.YtijdkjcjhfebfaaPlcE
import Derived.Test.YtijdkjcjhfebfaaBdTopP
namespace Go.Proofs.Ytijdkjcjhfebfaa
open Go.RowKit

def repPs : Rep Ps := Rep.int.pair (Rep.int.pair Rep.bool)
theorem opens_ps : Rep.Opens Try.prog 29 repPs :=
  Rep.opens_struct Try.underlying29 (by kernel_rfl) (Rep.fopens_cons rfl (by kernel_rfl) (Rep.opens_int Try.underlying3) (Rep.fopens_cons rfl (by kernel_rfl) (Rep.opens_int Try.underlying3) (Rep.fopens_last rfl (by kernel_rfl) (Rep.opens_bool Try.underlying4))))
theorem ps_in {W : World} {p : Ps} {cs : Array Value} (h : repPs.cells W W.heap.size p cs.toList) : cs = #[.int .i64 p.1, .int .i64 p.2.1, .bool p.2.2] := by
  obtain ⟨c1, d1, e, ⟨rfl, _⟩, ⟨c2, d2, rfl, ⟨rfl, _⟩, rfl⟩⟩ := h
  apply Array.ext'
  rw [e]; rfl
theorem run_eql_pos (w : World) (a b : Int) (c : Bool) : (binOp .eql 29 (.agg #[.int .i64 a, .int .i64 b, .bool c]) (.agg #[.int .i64 a, .int .i64 b, .bool c])).run Try.prog w = .ok (.bool true) w := by
  have t1 : (a == a) = true := by simp
  have t2 : (b == b) = true := by simp
  have t3 : (c == c) = true := by simp
  go_simp
theorem off_none {t : Tp} {p : List Stp} {n : Int} (h : (offP t p n).2 ≠ 0) : (offP t p n).1 = noP := by
  unfold offP at h ⊢
  split at h
  · split at h
    · split at h
      · exact absurd rfl h
      · rename_i h1 h2 h3; rw [if_pos h1, if_pos h2, if_neg h3]
    · rename_i h1 h2; rw [if_pos h1, if_neg h2]
  · rename_i h1; rw [if_neg h1]
theorem off_ok {t : Tp} {p : List Stp} {n : Int} (h : (offP t p n).2 = 0) : checkM t = 0 ∧ (lenM t p).2 = 0 ∧ 0 ≤ n ∧ n ≤ (lenM t p).1 ∧ offP t p n = (offK t p n, 0) := by
  unfold offP at h ⊢
  split at h
  case isFalse => exact absurd h (by decide)
  rename_i h1
  split at h
  case isFalse => rename_i h2; exact absurd h h2
  rename_i h2
  split at h
  case isFalse => exact absurd h (by decide)
  rename_i h3
  rw [if_pos h1, if_pos h2, if_pos h3]
  exact ⟨h1, h2, h3.1, h3.2, rfl⟩
theorem off_is {t : Tp} {p : List Stp} {n : Int} (hc : checkM t = 0) (hl : (lenM t p).2 = 0) (h0 : 0 ≤ n) (h1 : n ≤ (lenM t p).1) : offP t p n = (offK t p n, 0) := by
  unfold offP; rw [if_pos hc, if_pos hl, if_pos ⟨h0, h1⟩]
theorem TpAt.more {w : World} {B B2 : Nat} {x : TA} {t : Tp} (h : TpAt w B x t) (hB : B ≤ B2) : TpAt w B2 x t := ⟨h.e.more hB, h.j.more hB, h.b.more hB, h.r.more hB⟩
set_option maxRecDepth 100000 in
theorem small14_results {w : World} {b : Nat} {v0 v1 v2 v3 : Value} (hb : Blk w b 27 #[v0, v1, v2, v3]) (tmps : Array Value) (ht : tmps.getD 0 undef = .pointer (some ⟨b, 0, none⟩)) :
    (results Try.f35 tmps).run Try.prog w = .ok (.agg #[v0, v1, v2, v3]) w := by
  have q0 : w.cell? ⟨b, 0, none⟩ = some v0 := hb.cell 0
  have q1 : w.cell? ⟨b, 1, none⟩ = some v1 := hb.cell 1
  have q2 : w.cell? ⟨b, 2, none⟩ = some v2 := hb.cell 2
  have q3 : w.cell? ⟨b, 3, none⟩ = some v3 := hb.cell 3
  have ht' : tmps[0]?.getD undef = .pointer (some ⟨b, 0, none⟩) := by rw [← Array.getD_eq_getD_getElem?]; exact ht
  simp [results, ht', go_sem, q0, q1, q2, q3]
set_option maxHeartbeats 4000000 in
set_option maxRecDepth 100000 in
theorem small14_any (w : World) : Calls Try.prog 35 #[] w fun e w' => ∃ x : TA, e = .returned (.agg x.cs) ∧ TpAt w' w'.heap.size x smallT ∧ Keep Never w w' := by
  obtain ⟨w1, hw1⟩ : ∃ W : World, w.alloc (.cells #[.slice none 0 0, .slice none 0 0, .slice none 0 0, .slice none 0 0] 27) = W := ⟨_, rfl⟩
  obtain ⟨w2, hw2⟩ : ∃ W : World, w1.alloc (.cells #[.int .i64 100, .int .i64 200, .int .i64 300] 3) = W := ⟨_, rfl⟩
  obtain ⟨w3, hw3⟩ : ∃ W : World, w2.alloc (.cells #[.int .i64 0, .int .i64 1, .int .i64 1, .int .i64 0, .int .i64 0, .int .i64 1, .int .i64 2, .int .i64 1] 104) = W := ⟨_, rfl⟩
  have k1 : Keep Never w w1 := by rw [← hw1]; exact (Keep.refl _ _).alloc _
  have k2 : Keep Never w1 w2 := by rw [← hw2]; exact (Keep.refl _ _).alloc _
  have k3 : Keep Never w2 w3 := by rw [← hw3]; exact (Keep.refl _ _).alloc _
  have b1 := Blk.new w 27 #[.slice none 0 0, .slice none 0 0, .slice none 0 0, .slice none 0 0]
  rw [hw1] at b1
  have b2 := Blk.new w1 3 #[.int .i64 100, .int .i64 200, .int .i64 300]
  rw [hw2] at b2
  have b3 := Blk.new w2 104 #[.int .i64 0, .int .i64 1, .int .i64 1, .int .i64 0, .int .i64 0, .int .i64 1, .int .i64 2, .int .i64 1]
  rw [hw3] at b3
  have hb := (b1.keep k2 (fun h => h)).keep k3 (fun h => h)
  have g0 : w3.cell? ⟨w.heap.size, 0, none⟩ = some (.slice none 0 0) := hb.cell 0
  have g1 : w3.cell? ⟨w.heap.size, 1, none⟩ = some (.slice none 0 0) := hb.cell 1
  have g2 : w3.cell? ⟨w.heap.size, 2, none⟩ = some (.slice none 0 0) := hb.cell 2
  have g3 : w3.cell? ⟨w.heap.size, 3, none⟩ = some (.slice none 0 0) := hb.cell 3
  have m0 := hb.frozen 0
  have m1 := hb.frozen 1
  have m2 := hb.frozen 2
  have m3 := hb.frozen 3
  have hlt1 := b1.lt
  have hlt2 := b2.lt
  have HLt : Hid (w.heap.size < w1.heap.size ∧ w1.heap.size < w2.heap.size) := Lib.hid ⟨b1.lt, b2.lt⟩
  have HBz := Lib.hid (put4_blk hb (.slice (some ⟨w1.heap.size, 0, none⟩) 3 3) (.slice (some ⟨w2.heap.size, 0, none⟩) 2 2) (.slice none 0 0) (.slice none 0 0))
  have HKz := Lib.hid (put4_keep ((k1.trans k2).trans k3) (.inr (Nat.le_refl _)) (.slice (some ⟨w1.heap.size, 0, none⟩) 3 3) (.slice (some ⟨w2.heap.size, 0, none⟩) 2 2) (.slice none 0 0) (.slice none 0 0))
  have hput := put4_keep (b := w.heap.size) (Keep.refl (fun k => k = w.heap.size) w3) (.inl rfl) (.slice (some ⟨w1.heap.size, 0, none⟩) 3 3) (.slice (some ⟨w2.heap.size, 0, none⟩) 2 2) (.slice none 0 0) (.slice none 0 0)
  have hE := Rd.of_blk (size := 1) (n := 3) (cs := [.int .i64 100, .int .i64 200, .int .i64 300]) ((b2.keep k3 (fun h => h)).keep hput (by omega)) rfl
  have hJ := Rd.of_blk (size := 4) (n := 2) (cs := [.int .i64 0, .int .i64 1, .int .i64 1, .int .i64 0, .int .i64 0, .int .i64 1, .int .i64 2, .int .i64 1]) (b3.keep hput (by omega)) rfl
  have HE := Lib.hid hE
  have HJ := Lib.hid hJ
  clear k1 k2 k3 b1 b2 b3 hb hput hE hJ hlt1 hlt2
  go_enter Try.func35, Try.ntmps35
  go_wp2_with fail
  (try simp only [Exit.inBlock, Exit.then])
  refine bodyPost_ret (small14_results HBz.out _ rfl) rfl ⟨⟨some ⟨w1.heap.size, 0, none⟩, 3, 3, some ⟨w2.heap.size, 0, none⟩, 2, 2, none, 0, 0, none, 0, 0⟩, rfl, ⟨?_, ?_, Rep.Sl.nil _ _ _, Rep.Sl.nil _ _ _⟩, HKz.out⟩
  · exact ⟨rfl, Nat.le_refl _, by unfold maxLen; simp only; omega, by simp, [[.int .i64 100], [.int .i64 200], [.int .i64 300]], HE.out, ⟨rfl, by decide⟩, ⟨rfl, by decide⟩, ⟨rfl, by decide⟩, trivial⟩
  · exact ⟨rfl, Nat.le_refl _, by unfold maxLen; simp only; omega, by simp, [[.int .i64 0, .int .i64 1, .int .i64 1, .int .i64 0], [.int .i64 0, .int .i64 1, .int .i64 2, .int .i64 1]], HJ.out,
      ⟨[.int .i64 0, .int .i64 1], [.int .i64 1, .int .i64 0], rfl, ⟨[.int .i64 0], [.int .i64 1], rfl, ⟨rfl, by decide⟩, ⟨rfl, by decide⟩⟩, ⟨[.int .i64 1], [.int .i64 0], rfl, ⟨rfl, by decide⟩, ⟨rfl, by decide⟩⟩⟩,
      ⟨[.int .i64 0, .int .i64 1], [.int .i64 2, .int .i64 1], rfl, ⟨[.int .i64 0], [.int .i64 1], rfl, ⟨rfl, by decide⟩, ⟨rfl, by decide⟩⟩, ⟨[.int .i64 2], [.int .i64 1], rfl, ⟨rfl, by decide⟩, ⟨rfl, by decide⟩⟩⟩, trivial⟩


set_option maxHeartbeats 8000000 in
set_option maxRecDepth 100000 in
theorem awake14_any (w : World) : Calls Try.prog 10 #[] w fun e w' => e = .returned (.bool true) ∧ Keep Never w w' := by
  have qe : ∀ (w : World) (a b : Int) (c : Bool), (binOp .eql 29 (.agg #[.int .i64 a, .int .i64 b, .bool c]) (.agg #[.int .i64 a, .int .i64 b, .bool c])).run Try.prog w = .ok (.bool true) w := run_eql_pos
  have HS := Lib.hid small14_any
  go_enter Try.func10, Try.ntmps10
  have HK0 := Lib.hid (Keep.refl Never w)
  go_wp2_with fail
  refine (HS.out _).mono ?_
  rintro en w101 ⟨x, rfl, ht, hk1⟩
  have Ht := Lib.hid ht
  clear ht
  have HK1 := Lib.hid (HK0.out.trans hk1)
  clear hk1
  have hw := pwalk_any x smallT _ 1 150 true 200 w101 Ht.out ⟨by rw [Ht.out.e.len]; decide, by rw [Ht.out.j.len]; decide, by rw [Ht.out.b.len]; decide, by rw [Ht.out.r.len]; decide, by intro r hr; simp [smallT] at hr⟩ (Nat.le_refl _)
  obtain ⟨⟨⟨a1, a2, a3⟩, ae⟩, hz⟩ : ∃ z, walkP smallT (1, 150, true) 200 = z := ⟨_, rfl⟩
  rw [hz] at hw
  have HVa := Lib.hid (hz.symm.trans walk_small1)
  unfold PsRet2 psV at hw
  dsimp only at hw
  have HC := Lib.hid hw
  clear hw hz
  obtain ⟨Ae, ne, ce, Aj, nj, cj, Ab, nb, cb, Ar, nr, cr⟩ := x
  simp only [TA.cs] at HC ⊢
  clear Ht
  go_wp2_with fail
  refine HC.out.mono ?_
  rintro en w102 ⟨rfl, hk2⟩
  have HK2 := Lib.hid (HK1.out.trans hk2)
  clear hk2 HC
  obtain ⟨w103, hw103⟩ : ∃ V : World, w102.alloc (.cells #[.int .i64 a1, .int .i64 a2, .bool a3] 29) = V := ⟨_, rfl⟩
  have kx : Keep Never w102 w103 := by rw [← hw103]; exact (Keep.refl _ _).alloc _
  have bx := Blk.new w102 29 #[.int .i64 a1, .int .i64 a2, .bool a3]
  rw [hw103] at bx
  obtain ⟨ba, hba⟩ : ∃ q, w102.heap.size = q := ⟨_, rfl⟩
  rw [hba] at bx
  have HBx3 := Lib.hid bx
  have HK3 := Lib.hid (HK2.out.trans kx)
  clear kx bx
  go_wp2_with fail
  refine (HS.out _).mono ?_
  rintro en w104 ⟨x, rfl, ht, hk4⟩
  have Ht := Lib.hid ht
  clear ht
  have HK4 := Lib.hid (HK3.out.trans hk4)
  have Ha4 := Lib.hid (HBx3.out.keep hk4 (fun h => h))
  clear hk4
  have hw := pwalk_any x smallT _ 0 50 false 50 w104 Ht.out ⟨by rw [Ht.out.e.len]; decide, by rw [Ht.out.j.len]; decide, by rw [Ht.out.b.len]; decide, by rw [Ht.out.r.len]; decide, by intro r hr; simp [smallT] at hr⟩ (Nat.le_refl _)
  obtain ⟨⟨⟨c1, c2, c3⟩, ce_⟩, hz⟩ : ∃ z, walkP smallT (0, 50, false) 50 = z := ⟨_, rfl⟩
  rw [hz] at hw
  have HVc := Lib.hid (hz.symm.trans walk_small2)
  unfold PsRet2 psV at hw
  dsimp only at hw
  have HC := Lib.hid hw
  clear hw hz
  obtain ⟨Ae, ne, ce, Aj, nj, cj, Ab, nb, cb, Ar, nr, cr⟩ := x
  simp only [TA.cs] at HC ⊢
  clear Ht
  go_wp2_with fail
  refine HC.out.mono ?_
  rintro en w105 ⟨rfl, hk5⟩
  have HK5 := Lib.hid (HK4.out.trans hk5)
  have Ha5 := Lib.hid (Ha4.out.keep hk5 (fun h => h))
  clear hk5 HC
  obtain ⟨w106, hw106⟩ : ∃ V : World, w105.alloc (.cells #[.int .i64 c1, .int .i64 c2, .bool c3] 29) = V := ⟨_, rfl⟩
  have kx : Keep Never w105 w106 := by rw [← hw106]; exact (Keep.refl _ _).alloc _
  have bx := Blk.new w105 29 #[.int .i64 c1, .int .i64 c2, .bool c3]
  rw [hw106] at bx
  obtain ⟨bc, hbc⟩ : ∃ q, w105.heap.size = q := ⟨_, rfl⟩
  rw [hbc] at bx
  have HBx6 := Lib.hid bx
  have HK6 := Lib.hid (HK5.out.trans kx)
  have Ha6 := Lib.hid (Ha5.out.keep kx (fun h => h))
  clear kx bx
  go_wp2_with fail
  refine (HS.out _).mono ?_
  rintro en w107 ⟨x, rfl, ht, hk7⟩
  have Ht := Lib.hid ht
  clear ht
  have HK7 := Lib.hid (HK6.out.trans hk7)
  have Ha7 := Lib.hid (Ha6.out.keep hk7 (fun h => h))
  have Hc7 := Lib.hid (HBx6.out.keep hk7 (fun h => h))
  clear hk7
  have hw := pwalk_any x smallT _ 0 50 false 51 w107 Ht.out ⟨by rw [Ht.out.e.len]; decide, by rw [Ht.out.j.len]; decide, by rw [Ht.out.b.len]; decide, by rw [Ht.out.r.len]; decide, by intro r hr; simp [smallT] at hr⟩ (Nat.le_refl _)
  obtain ⟨⟨⟨d1, d2, d3⟩, de⟩, hz⟩ : ∃ z, walkP smallT (0, 50, false) 51 = z := ⟨_, rfl⟩
  rw [hz] at hw
  have HVd := Lib.hid (hz.symm.trans walk_small3)
  unfold PsRet2 psV at hw
  dsimp only at hw
  have HC := Lib.hid hw
  clear hw hz
  obtain ⟨Ae, ne, ce, Aj, nj, cj, Ab, nb, cb, Ar, nr, cr⟩ := x
  simp only [TA.cs] at HC ⊢
  clear Ht
  go_wp2_with fail
  refine HC.out.mono ?_
  rintro en w108 ⟨rfl, hk8⟩
  have HK8 := Lib.hid (HK7.out.trans hk8)
  have Ha8 := Lib.hid (Ha7.out.keep hk8 (fun h => h))
  have Hc8 := Lib.hid (Hc7.out.keep hk8 (fun h => h))
  clear hk8 HC
  obtain ⟨w109, hw109⟩ : ∃ V : World, w108.alloc (.cells #[.int .i64 d1, .int .i64 d2, .bool d3] 29) = V := ⟨_, rfl⟩
  have kx : Keep Never w108 w109 := by rw [← hw109]; exact (Keep.refl _ _).alloc _
  have bx := Blk.new w108 29 #[.int .i64 d1, .int .i64 d2, .bool d3]
  rw [hw109] at bx
  obtain ⟨bd, hbd⟩ : ∃ q, w108.heap.size = q := ⟨_, rfl⟩
  rw [hbd] at bx
  have HBx9 := Lib.hid bx
  have HK9 := Lib.hid (HK8.out.trans kx)
  have Ha9 := Lib.hid (Ha8.out.keep kx (fun h => h))
  have Hc9 := Lib.hid (Hc8.out.keep kx (fun h => h))
  clear kx bx
  go_wp2_with fail
  refine (HS.out _).mono ?_
  rintro en w110 ⟨x, rfl, ht, hk10⟩
  have Ht := Lib.hid ht
  clear ht
  have HK10 := Lib.hid (HK9.out.trans hk10)
  have Ha10 := Lib.hid (Ha9.out.keep hk10 (fun h => h))
  have Hc10 := Lib.hid (Hc9.out.keep hk10 (fun h => h))
  have Hd10 := Lib.hid (HBx9.out.keep hk10 (fun h => h))
  clear hk10
  obtain ⟨W6, hW6⟩ : ∃ W : World, w110.alloc (.cells #[.int .i64 0, .bool false, .int .i64 1, .bool false] 45) = W := ⟨_, rfl⟩
  have k6 : Keep Never w110 W6 := by rw [← hW6]; exact (Keep.refl _ _).alloc _
  have b6 := Blk.new w110 45 #[.int .i64 0, .bool false, .int .i64 1, .bool false]
  rw [hW6] at b6
  have hp6 : repStp.Sl W6 W6.heap.size (some ⟨w110.heap.size, 0, none⟩) 2 2 [(0, false), (1, false)] := stps_sl (Rd.of_blk (size := 2) (n := 2) (cs := [.int .i64 0, .bool false, .int .i64 1, .bool false]) b6 rfl) (by omega) (by unfold maxLen; omega) (by simp) (by intro s hs; simp at hs; rcases hs with rfl | rfl <;> (constructor <;> simp))
  have ht6 : TpAt W6 W6.heap.size x smallT := (Ht.out.keep k6).more k6.size
  have hw := pon_any x smallT _ _ 2 2 [(0, false), (1, false)] 1 30 false W6 ht6 ⟨by rw [ht6.e.len]; decide, by rw [ht6.j.len]; decide, by rw [ht6.b.len]; decide, by rw [ht6.r.len]; decide, by intro r hr; simp [smallT] at hr⟩ (Nat.le_refl _) hp6 (by omega)
  rw [on_small] at hw
  dsimp only at hw
  have HC := Lib.hid hw
  clear hw ht6 hp6 b6
  obtain ⟨Ae, ne, ce, Aj, nj, cj, Ab, nb, cb, Ar, nr, cr⟩ := x
  simp only [TA.cs] at HC ⊢
  clear Ht
  have HK11 := Lib.hid (HK10.out.trans k6)
  have Ha11 := Lib.hid (Ha10.out.keep k6 (fun h => h))
  have Hc11 := Lib.hid (Hc10.out.keep k6 (fun h => h))
  have Hd11 := Lib.hid (Hd10.out.keep k6 (fun h => h))
  clear k6
  go_wp2_with fail
  refine HC.out.mono ?_
  rintro en w112 ⟨rfl, hk12⟩
  have HK12 := Lib.hid (HK11.out.trans hk12)
  have Ha12 := Lib.hid (Ha11.out.keep hk12 (fun h => h))
  have Hc12 := Lib.hid (Hc11.out.keep hk12 (fun h => h))
  have Hd12 := Lib.hid (Hd11.out.keep hk12 (fun h => h))
  clear hk12 HC
  obtain ⟨⟨rfl, rfl, rfl⟩, rfl⟩ : (a1 = 0 ∧ a2 = 50 ∧ a3 = true) ∧ ae = 0 := by simpa using HVa.out
  obtain ⟨⟨rfl, rfl, rfl⟩, rfl⟩ : (c1 = 0 ∧ c2 = 100 ∧ c3 = false) ∧ ce_ = 0 := by simpa using HVc.out
  obtain ⟨_, rfl⟩ : (d1, d2, d3) = noP ∧ de = 140 := by simpa using HVd.out
  have a0 : w112.cell? ⟨ba, 0, none⟩ = some (.int .i64 0) := Ha12.out.cell 0
  have a1 : w112.cell? ⟨ba, 1, none⟩ = some (.int .i64 50) := Ha12.out.cell 1
  have a2 : w112.cell? ⟨ba, 2, none⟩ = some (.bool true) := Ha12.out.cell 2
  have c0 : w112.cell? ⟨bc, 0, none⟩ = some (.int .i64 0) := Hc12.out.cell 0
  have c1 : w112.cell? ⟨bc, 1, none⟩ = some (.int .i64 100) := Hc12.out.cell 1
  have c2 : w112.cell? ⟨bc, 2, none⟩ = some (.bool false) := Hc12.out.cell 2
  clear HS HVa HVc HVd
  go_wp2_with fail
  go_ret
  exact ⟨rfl, HK12.out⟩

end Go.Proofs.Ytijdkjcjhfebfaa
