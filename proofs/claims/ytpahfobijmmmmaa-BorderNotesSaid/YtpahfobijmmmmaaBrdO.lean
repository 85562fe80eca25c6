/- Chapter 20 (border): BorderOnly. -/
import Derived.Test.YtpahfobijmmmmaaBdBrdJ
namespace Go.Proofs.Ytpahfobijmmmmaa
open Go.RowKit

set_option maxHeartbeats 8000000 in
set_option maxRecDepth 100000 in
theorem only20_any (A : Option Addr) (n c B : Nat) (bs : List Nat) (w : World) (hr : Rd w B 1 A n (bs.map u8v)) (h8 : ∀ x ∈ bs, x < 256) :
    Calls Try.prog 6 #[.slice A n c] w (fun e w' => e = .returned (.bool true) ∧ Keep Never w w') := by
  have HRd := Lib.hid hr
  have H8 := Lib.hid h8
  have HA := Lib.hid (awake20_any w)
  clear hr h8
  go_enter Try.func6, Try.ntmps6
  go_wp2_with fail
  refine HA.out.mono ?_
  rintro e w2 ⟨rfl, hk2⟩
  have HK2 := Lib.hid hk2
  clear hk2 HA
  by_cases g1 : 2000 < n
  · have u1 : decide ((n : Int) > 2000) = true := decide_eq_true (by omega)
    clear g1
    go_wp2_with fail
    go_ret
    exact ⟨rfl, HK2.out⟩
  have u1 : decide ((n : Int) > 2000) = false := decide_eq_false (by omega)
  have HD := Lib.hid (dec20_any A n c B bs w2 (HRd.out.keep HK2.out (fun _ h => h.elim)) H8.out (by omega))
  have HZ : Hid ((decG gP 24 16 bs).2 = 0 → mayN (decG gP 24 16 bs).1 = true ∧ encN (decG gP 24 16 bs).1 = bs) := Lib.hid dec_only
  have HZn : Hid ((decG gP 24 16 bs).2 ≠ 0 → decG gP 24 16 bs = (noN, 8)) := Lib.hid dec_none
  obtain ⟨z, hz⟩ : ∃ z, decG gP 24 16 bs = z := ⟨_, rfl⟩
  rw [hz] at HD HZ HZn
  clear hz g1
  go_wp2_with fail
  refine HD.out.mono ?_
  rintro e w3 ⟨⟨B1, q1, d1, B2, q2, d2⟩, rfl, hnt, hk3⟩
  have HK3 := Lib.hid (HK2.out.trans hk3)
  have HNt := Lib.hid hnt
  clear hk3 hnt HD u1
  obtain ⟨⟨k0, tr, tt, un, l, h⟩, er⟩ := z
  by_cases g : er = 0
  case neg =>
    have hno := HZn.out g
    unfold noN at hno
    injection hno with e1 e2
    injection e1 with e3 e4
    injection e4 with e4 e5
    injection e5 with e5 e6
    injection e6 with e6 e7
    injection e7 with e7 e8
    subst e2 e3 e4 e5 e6 e7 e8
    have hq1 : q1 = 0 := HNt.out.l.len.symm
    have hq2 : q2 = 0 := HNt.out.h.len.symm
    subst hq1 hq2
    clear g HZ HZn
    dsimp only [NA.cs]
    have z0 : (w3.alloc (.cells #[.int .i64 0, .int .i64 0, .int .i64 0, .int .i64 0, .slice none 0 0, .slice none 0 0] 25)).cell? ⟨w3.heap.size, 0, none⟩ = some (.int .i64 0) := (Blk.new w3 25 #[.int .i64 0, .int .i64 0, .int .i64 0, .int .i64 0, .slice none 0 0, .slice none 0 0]).cell 0
    have zf0 : (w3.alloc (.cells #[.int .i64 0, .int .i64 0, .int .i64 0, .int .i64 0, .slice none 0 0, .slice none 0 0] 25)).frozen? ⟨w3.heap.size, 0, none⟩ = false := (Blk.new w3 25 #[.int .i64 0, .int .i64 0, .int .i64 0, .int .i64 0, .slice none 0 0, .slice none 0 0]).frozen 0
    have z1 : (w3.alloc (.cells #[.int .i64 0, .int .i64 0, .int .i64 0, .int .i64 0, .slice none 0 0, .slice none 0 0] 25)).cell? ⟨w3.heap.size, 1, none⟩ = some (.int .i64 0) := (Blk.new w3 25 #[.int .i64 0, .int .i64 0, .int .i64 0, .int .i64 0, .slice none 0 0, .slice none 0 0]).cell 1
    have zf1 : (w3.alloc (.cells #[.int .i64 0, .int .i64 0, .int .i64 0, .int .i64 0, .slice none 0 0, .slice none 0 0] 25)).frozen? ⟨w3.heap.size, 1, none⟩ = false := (Blk.new w3 25 #[.int .i64 0, .int .i64 0, .int .i64 0, .int .i64 0, .slice none 0 0, .slice none 0 0]).frozen 1
    have z2 : (w3.alloc (.cells #[.int .i64 0, .int .i64 0, .int .i64 0, .int .i64 0, .slice none 0 0, .slice none 0 0] 25)).cell? ⟨w3.heap.size, 2, none⟩ = some (.int .i64 0) := (Blk.new w3 25 #[.int .i64 0, .int .i64 0, .int .i64 0, .int .i64 0, .slice none 0 0, .slice none 0 0]).cell 2
    have zf2 : (w3.alloc (.cells #[.int .i64 0, .int .i64 0, .int .i64 0, .int .i64 0, .slice none 0 0, .slice none 0 0] 25)).frozen? ⟨w3.heap.size, 2, none⟩ = false := (Blk.new w3 25 #[.int .i64 0, .int .i64 0, .int .i64 0, .int .i64 0, .slice none 0 0, .slice none 0 0]).frozen 2
    have z3 : (w3.alloc (.cells #[.int .i64 0, .int .i64 0, .int .i64 0, .int .i64 0, .slice none 0 0, .slice none 0 0] 25)).cell? ⟨w3.heap.size, 3, none⟩ = some (.int .i64 0) := (Blk.new w3 25 #[.int .i64 0, .int .i64 0, .int .i64 0, .int .i64 0, .slice none 0 0, .slice none 0 0]).cell 3
    have zf3 : (w3.alloc (.cells #[.int .i64 0, .int .i64 0, .int .i64 0, .int .i64 0, .slice none 0 0, .slice none 0 0] 25)).frozen? ⟨w3.heap.size, 3, none⟩ = false := (Blk.new w3 25 #[.int .i64 0, .int .i64 0, .int .i64 0, .int .i64 0, .slice none 0 0, .slice none 0 0]).frozen 3
    have z4 : (w3.alloc (.cells #[.int .i64 0, .int .i64 0, .int .i64 0, .int .i64 0, .slice none 0 0, .slice none 0 0] 25)).cell? ⟨w3.heap.size, 4, none⟩ = some (.slice none 0 0) := (Blk.new w3 25 #[.int .i64 0, .int .i64 0, .int .i64 0, .int .i64 0, .slice none 0 0, .slice none 0 0]).cell 4
    have zf4 : (w3.alloc (.cells #[.int .i64 0, .int .i64 0, .int .i64 0, .int .i64 0, .slice none 0 0, .slice none 0 0] 25)).frozen? ⟨w3.heap.size, 4, none⟩ = false := (Blk.new w3 25 #[.int .i64 0, .int .i64 0, .int .i64 0, .int .i64 0, .slice none 0 0, .slice none 0 0]).frozen 4
    have z5 : (w3.alloc (.cells #[.int .i64 0, .int .i64 0, .int .i64 0, .int .i64 0, .slice none 0 0, .slice none 0 0] 25)).cell? ⟨w3.heap.size, 5, none⟩ = some (.slice none 0 0) := (Blk.new w3 25 #[.int .i64 0, .int .i64 0, .int .i64 0, .int .i64 0, .slice none 0 0, .slice none 0 0]).cell 5
    have zf5 : (w3.alloc (.cells #[.int .i64 0, .int .i64 0, .int .i64 0, .int .i64 0, .slice none 0 0, .slice none 0 0] 25)).frozen? ⟨w3.heap.size, 5, none⟩ = false := (Blk.new w3 25 #[.int .i64 0, .int .i64 0, .int .i64 0, .int .i64 0, .slice none 0 0, .slice none 0 0]).frozen 5
    go_upto_region 4 with (fail)
    clear z0 zf0 z1 zf1 z2 zf2 z3 zf3 z4 zf4 z5 zf5
    obtain ⟨w4, hw4⟩ : ∃ V : World, w3.alloc (.cells #[.int .i64 0, .int .i64 0, .int .i64 0, .int .i64 0, .slice B1 0 d1, .slice B2 0 d2] 25) = V := ⟨_, rfl⟩
    have kx : Keep Never w3 w4 := (by rw [← hw4]; exact (Keep.refl _ _).alloc _)
    have bx := Blk.new w3 25 #[.int .i64 0, .int .i64 0, .int .i64 0, .int .i64 0, .slice B1 0 d1, .slice B2 0 d2]
    rw [hw4] at bx ⊢
    obtain ⟨b4, hbb4⟩ : ∃ q, w3.heap.size = q := ⟨_, rfl⟩
    rw [hbb4] at bx ⊢
    have HK4 := Lib.hid (HK3.out.trans kx)
    clear kx hw4 hbb4
    have m0 : w4.cell? ⟨b4, 0, none⟩ = some (.int .i64 0) := bx.cell 0
    have m4 : w4.cell? ⟨b4, 4, none⟩ = some (.slice B1 0 d1) := bx.cell 4
    have m5 : w4.cell? ⟨b4, 5, none⟩ = some (.slice B2 0 d2) := bx.cell 5
    clear bx
    go_wp2_with fail
    go_ret
    exact ⟨rfl, HK4.out⟩
  case pos =>
    subst g
    obtain ⟨hm, hbs⟩ := HZ.out rfl
    have HM := Lib.hid hm
    have HBs := Lib.hid hbs
    clear hm hbs HZ HZn
    have HQ : Hid (q1 ≤ 24 ∧ q2 ≤ 16) := Lib.hid (by have a1 := HNt.out.l.len; have a2 := HNt.out.h.len; have a3 := (mayN_iff.1 HM.out).few; have a4 := (mayN_iff.1 HM.out).here; simp only at a1 a2 a3 a4; omega)
    have HTt : Hid (-9223372036854775808 ≤ tt ∧ tt ≤ 9223372036854775807) := Lib.hid (by have a3 := (mayN_iff.1 HM.out).time; simp only at a3; omega)
    dsimp only [NA.cs]
    have z0 : (w3.alloc (.cells #[.int .i64 0, .int .i64 0, .int .i64 0, .int .i64 0, .slice none 0 0, .slice none 0 0] 25)).cell? ⟨w3.heap.size, 0, none⟩ = some (.int .i64 0) := (Blk.new w3 25 #[.int .i64 0, .int .i64 0, .int .i64 0, .int .i64 0, .slice none 0 0, .slice none 0 0]).cell 0
    have zf0 : (w3.alloc (.cells #[.int .i64 0, .int .i64 0, .int .i64 0, .int .i64 0, .slice none 0 0, .slice none 0 0] 25)).frozen? ⟨w3.heap.size, 0, none⟩ = false := (Blk.new w3 25 #[.int .i64 0, .int .i64 0, .int .i64 0, .int .i64 0, .slice none 0 0, .slice none 0 0]).frozen 0
    have z1 : (w3.alloc (.cells #[.int .i64 0, .int .i64 0, .int .i64 0, .int .i64 0, .slice none 0 0, .slice none 0 0] 25)).cell? ⟨w3.heap.size, 1, none⟩ = some (.int .i64 0) := (Blk.new w3 25 #[.int .i64 0, .int .i64 0, .int .i64 0, .int .i64 0, .slice none 0 0, .slice none 0 0]).cell 1
    have zf1 : (w3.alloc (.cells #[.int .i64 0, .int .i64 0, .int .i64 0, .int .i64 0, .slice none 0 0, .slice none 0 0] 25)).frozen? ⟨w3.heap.size, 1, none⟩ = false := (Blk.new w3 25 #[.int .i64 0, .int .i64 0, .int .i64 0, .int .i64 0, .slice none 0 0, .slice none 0 0]).frozen 1
    have z2 : (w3.alloc (.cells #[.int .i64 0, .int .i64 0, .int .i64 0, .int .i64 0, .slice none 0 0, .slice none 0 0] 25)).cell? ⟨w3.heap.size, 2, none⟩ = some (.int .i64 0) := (Blk.new w3 25 #[.int .i64 0, .int .i64 0, .int .i64 0, .int .i64 0, .slice none 0 0, .slice none 0 0]).cell 2
    have zf2 : (w3.alloc (.cells #[.int .i64 0, .int .i64 0, .int .i64 0, .int .i64 0, .slice none 0 0, .slice none 0 0] 25)).frozen? ⟨w3.heap.size, 2, none⟩ = false := (Blk.new w3 25 #[.int .i64 0, .int .i64 0, .int .i64 0, .int .i64 0, .slice none 0 0, .slice none 0 0]).frozen 2
    have z3 : (w3.alloc (.cells #[.int .i64 0, .int .i64 0, .int .i64 0, .int .i64 0, .slice none 0 0, .slice none 0 0] 25)).cell? ⟨w3.heap.size, 3, none⟩ = some (.int .i64 0) := (Blk.new w3 25 #[.int .i64 0, .int .i64 0, .int .i64 0, .int .i64 0, .slice none 0 0, .slice none 0 0]).cell 3
    have zf3 : (w3.alloc (.cells #[.int .i64 0, .int .i64 0, .int .i64 0, .int .i64 0, .slice none 0 0, .slice none 0 0] 25)).frozen? ⟨w3.heap.size, 3, none⟩ = false := (Blk.new w3 25 #[.int .i64 0, .int .i64 0, .int .i64 0, .int .i64 0, .slice none 0 0, .slice none 0 0]).frozen 3
    have z4 : (w3.alloc (.cells #[.int .i64 0, .int .i64 0, .int .i64 0, .int .i64 0, .slice none 0 0, .slice none 0 0] 25)).cell? ⟨w3.heap.size, 4, none⟩ = some (.slice none 0 0) := (Blk.new w3 25 #[.int .i64 0, .int .i64 0, .int .i64 0, .int .i64 0, .slice none 0 0, .slice none 0 0]).cell 4
    have zf4 : (w3.alloc (.cells #[.int .i64 0, .int .i64 0, .int .i64 0, .int .i64 0, .slice none 0 0, .slice none 0 0] 25)).frozen? ⟨w3.heap.size, 4, none⟩ = false := (Blk.new w3 25 #[.int .i64 0, .int .i64 0, .int .i64 0, .int .i64 0, .slice none 0 0, .slice none 0 0]).frozen 4
    have z5 : (w3.alloc (.cells #[.int .i64 0, .int .i64 0, .int .i64 0, .int .i64 0, .slice none 0 0, .slice none 0 0] 25)).cell? ⟨w3.heap.size, 5, none⟩ = some (.slice none 0 0) := (Blk.new w3 25 #[.int .i64 0, .int .i64 0, .int .i64 0, .int .i64 0, .slice none 0 0, .slice none 0 0]).cell 5
    have zf5 : (w3.alloc (.cells #[.int .i64 0, .int .i64 0, .int .i64 0, .int .i64 0, .slice none 0 0, .slice none 0 0] 25)).frozen? ⟨w3.heap.size, 5, none⟩ = false := (Blk.new w3 25 #[.int .i64 0, .int .i64 0, .int .i64 0, .int .i64 0, .slice none 0 0, .slice none 0 0]).frozen 5
    go_upto_region 4 with (fail)
    clear z0 zf0 z1 zf1 z2 zf2 z3 zf3 z4 zf4 z5 zf5
    obtain ⟨w4, hw4⟩ : ∃ V : World, w3.alloc (.cells #[.int .i64 k0, .int .i64 tr, .int .i64 tt, .int .i64 un, .slice B1 q1 d1, .slice B2 q2 d2] 25) = V := ⟨_, rfl⟩
    have kx : Keep Never w3 w4 := (by rw [← hw4]; exact (Keep.refl _ _).alloc _)
    have bx := Blk.new w3 25 #[.int .i64 k0, .int .i64 tr, .int .i64 tt, .int .i64 un, .slice B1 q1 d1, .slice B2 q2 d2]
    rw [hw4] at bx ⊢
    obtain ⟨b4, hbb4⟩ : ∃ q, w3.heap.size = q := ⟨_, rfl⟩
    rw [hbb4] at bx ⊢
    have HK4 := Lib.hid (HK3.out.trans kx)
    have HN4 := Lib.hid (HNt.out.keep kx)
    have HE := Lib.hid (enc20_any k0 tr tt un B1 B2 q1 d1 q2 d2 _ l h w4 HN4.out.l HN4.out.h (by have := HQ.out; omega) (by have := HQ.out; omega) kx.size HTt.out)
    clear kx hw4 hbb4
    have m0 : w4.cell? ⟨b4, 0, none⟩ = some (.int .i64 k0) := bx.cell 0
    have m1 : w4.cell? ⟨b4, 1, none⟩ = some (.int .i64 tr) := bx.cell 1
    have m2 : w4.cell? ⟨b4, 2, none⟩ = some (.int .i64 tt) := bx.cell 2
    have m3 : w4.cell? ⟨b4, 3, none⟩ = some (.int .i64 un) := bx.cell 3
    have m4 : w4.cell? ⟨b4, 4, none⟩ = some (.slice B1 q1 d1) := bx.cell 4
    have m5 : w4.cell? ⟨b4, 5, none⟩ = some (.slice B2 q2 d2) := bx.cell 5
    clear bx
    go_wp2_with fail
    refine HE.out.mono ?_
    rintro e w5 ⟨Ae, ce, rfl, ho5, hk5⟩
    rw [HM.out] at ho5
    rw [HM.out]
    simp only [if_true] at ho5 ⊢
    rw [HBs.out] at ho5 ⊢
    have HK5 := Lib.hid (HK4.out.trans hk5)
    have HO5 := Lib.hid ho5
    have hc1 := run_str (P := Try.prog) (src := 27) (dst := 9) Try.underlying27 Try.underlying5 Try.underlying9 (l := bs) HO5.out.rd H8.out ce
    have hc2 := run_str (P := Try.prog) (src := 27) (dst := 9) Try.underlying27 Try.underlying5 Try.underlying9 (l := bs) (HRd.out.keep HK5.out (fun _ h => h.elim)) H8.out c
    clear hk5 ho5 HE m0 m1 m2 m3 m4 m5
    go_wp2_with fail
    go_ret
    exact ⟨rfl, HK5.out⟩

theorem borderOnly_walk (W : World) (A : Option Addr) (n c : Nat) (l : List Nat) (s : Rep.byte.Sl W W.heap.size A n c l) :
    Calls Try.prog 6 #[.slice A n c] W fun e W' => e = .returned (.bool true) ∧ Keep Never W W' := by
  obtain ⟨h1, _, h3⟩ := bytes_rd s
  exact only20_any A n c _ l W h1 h3

end Go.Proofs.Ytpahfobijmmmmaa
