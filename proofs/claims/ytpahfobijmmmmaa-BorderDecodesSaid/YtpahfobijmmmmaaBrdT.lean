/- Chapter 20 (border): BorderNotes, BorderDecodes. -/
import Derived.Test.YtpahfobijmmmmaaBrdS
import Derived.Test.YtpahfobijmmmmaaBrdO
namespace Go.Proofs.Ytpahfobijmmmmaa
open Go.RowKit

set_option maxHeartbeats 8000000 in
set_option maxRecDepth 100000 in
theorem notesd20_any (k0 tr tt un : Int) (A1 A2 : Option Addr) (n1 c1 n2 c2 B : Nat) (l : List Lok) (h : List Sp) (w : World) (hl : SpAt w B A1 n1 c1 l) (hh : SpAt w B A2 n2 c2 h) (hB : B ≤ w.heap.size) (hb : -9223372036854775808 ≤ tt ∧ tt ≤ 9223372036854775807) :
    Calls Try.prog 3 #[.agg #[.int .i64 k0, .int .i64 tr, .int .i64 tt, .int .i64 un, .slice A1 n1 c1, .slice A2 n2 c2]] w (fun e w' => e = .returned (.bool true) ∧ Keep Never w w') := by
  have Hl := Lib.hid hl
  have Hh := Lib.hid hh
  have HBb := Lib.hid hB
  have Htt := Lib.hid hb
  clear hl hh hB hb
  obtain ⟨w1, hw1⟩ : ∃ V : World, w.alloc (.cells #[.int .i64 k0, .int .i64 tr, .int .i64 tt, .int .i64 un, .slice A1 n1 c1, .slice A2 n2 c2] 25) = V := ⟨_, rfl⟩
  have kw1 : Keep Never w w1 := by rw [← hw1]; exact (Keep.refl _ _).alloc _
  have bw1 := Blk.new w 25 #[.int .i64 k0, .int .i64 tr, .int .i64 tt, .int .i64 un, .slice A1 n1 c1, .slice A2 n2 c2]
  rw [hw1] at bw1
  have HB1 := Lib.hid bw1
  have HK := Lib.hid kw1
  clear kw1 bw1
  have HA := Lib.hid (awake20_any w1)
  go_enter Try.func3, Try.ntmps3
  go_wp2_with fail
  refine HA.out.mono ?_
  rintro e w2 ⟨rfl, hk2⟩
  have HK2 := Lib.hid (HK.out.trans hk2)
  have HB2 := Lib.hid (HB1.out.keep hk2 (fun h => h))
  clear hk2 HA
  have m0 : w2.cell? ⟨w.heap.size, 0, none⟩ = some (.int .i64 k0) := HB2.out.cell 0
  have m1 : w2.cell? ⟨w.heap.size, 1, none⟩ = some (.int .i64 tr) := HB2.out.cell 1
  have m2 : w2.cell? ⟨w.heap.size, 2, none⟩ = some (.int .i64 tt) := HB2.out.cell 2
  have m3 : w2.cell? ⟨w.heap.size, 3, none⟩ = some (.int .i64 un) := HB2.out.cell 3
  have m4 : w2.cell? ⟨w.heap.size, 4, none⟩ = some (.slice A1 n1 c1) := HB2.out.cell 4
  have m5 : w2.cell? ⟨w.heap.size, 5, none⟩ = some (.slice A2 n2 c2) := HB2.out.cell 5
  by_cases g1 : 60 < n1
  · have u1 : decide ((n1 : Int) > 60) = true := decide_eq_true (by omega)
    clear g1
    go_wp2_with fail
    go_ret
    exact ⟨rfl, HK2.out⟩
  have u1 : decide ((n1 : Int) > 60) = false := decide_eq_false (by omega)
  by_cases g2 : 60 < n2
  · have u2 : decide ((n2 : Int) > 60) = true := decide_eq_true (by omega)
    clear g1 g2
    go_wp2_with fail
    go_ret
    exact ⟨rfl, HK2.out⟩
  have u2 : decide ((n2 : Int) > 60) = false := decide_eq_false (by omega)
  have HE := Lib.hid (enc20_any k0 tr tt un A1 A2 n1 c1 n2 c2 B l h w2 (Hl.out.keep HK2.out) (Hh.out.keep HK2.out) (by omega) (by omega) (Nat.le_trans HBb.out HK2.out.size) Htt.out)
  have HMy : Hid (∀ V, Keep Never w V → Calls Try.prog 11 #[.agg #[.int .i64 k0, .int .i64 tr, .int .i64 tt, .int .i64 un, .slice A1 n1 c1, .slice A2 n2 c2]] V fun e w' => e = .returned (.bool (mayN (k0, tr, tt, un, l, h))) ∧ Keep Never V w') := Lib.hid (fun V hV => may20_any k0 tr tt un A1 A2 n1 c1 n2 c2 B l h V (Hl.out.keep hV) (Hh.out.keep hV) (by omega) (by omega) (Nat.le_trans HBb.out hV.size) Htt.out)
  have HMr : Hid (∀ V, Keep Never w V → Calls Try.prog 12 #[.agg #[.int .i64 k0, .int .i64 tr, .int .i64 tt, .int .i64 un, .slice A1 n1 c1, .slice A2 n2 c2]] V fun e w' => e = .returned (.bool (mayN (k0, tr, tt, un, l, h))) ∧ Keep Never V w') := Lib.hid (fun V hV => rmay20_any k0 tr tt un A1 A2 n1 c1 n2 c2 B l h V (Hl.out.keep hV) (Hh.out.keep hV) (by omega) (by omega) (Nat.le_trans HBb.out hV.size))
  have HEr : Hid (∀ V, Keep Never w V → Calls Try.prog 10 #[.agg #[.int .i64 k0, .int .i64 tr, .int .i64 tt, .int .i64 un, .slice A1 n1 c1, .slice A2 n2 c2]] V (REncRet20 (k0, tr, tt, un, l, h) V)) := Lib.hid (fun V hV => renc20_any k0 tr tt un A1 A2 n1 c1 n2 c2 B l h V (Hl.out.keep hV) (Hh.out.keep hV) (by omega) (by omega) (Nat.le_trans HBb.out hV.size))
  unfold EncRet at HE
  unfold REncRet20 at HEr
  clear g1 g2
  have H8e : Hid (∀ x ∈ encN (k0, tr, tt, un, l, h), x < 256) := Lib.hid (bytesOf_lt _)
  obtain ⟨my, hmy⟩ : ∃ y, mayN (k0, tr, tt, un, l, h) = y := ⟨_, rfl⟩
  rw [hmy] at HE HMy HMr HEr
  clear hmy
  obtain ⟨xs, hxs⟩ : ∃ z, encN (k0, tr, tt, un, l, h) = z := ⟨_, rfl⟩
  rw [hxs] at HE HEr H8e
  clear hxs
  obtain ⟨ys, hys⟩ : ∃ z, (if my = true then xs else []) = z := ⟨_, rfl⟩
  obtain ⟨er, her⟩ : ∃ z : Int, (if my = true then 0 else 1) = z := ⟨_, rfl⟩
  rw [hys, her] at HE HEr
  have H8y : Hid (∀ x ∈ ys, x < 256) := Lib.hid (by rw [← hys]; split; exact H8e.out; simp)
  clear hys her
  go_wp2_with fail
  refine HE.out.mono ?_
  rintro e w3 ⟨Ae, ce, rfl, ho3, hk3⟩
  have HK3 := Lib.hid (HK2.out.trans hk3)
  have HB3 := Lib.hid (HB2.out.keep hk3 (fun h => h))
  have HO3 := Lib.hid ho3
  clear hk3 ho3 HE u1 u2 m0 m1 m2 m3 m4 m5
  have m0 : w3.cell? ⟨w.heap.size, 0, none⟩ = some (.int .i64 k0) := HB3.out.cell 0
  have m1 : w3.cell? ⟨w.heap.size, 1, none⟩ = some (.int .i64 tr) := HB3.out.cell 1
  have m2 : w3.cell? ⟨w.heap.size, 2, none⟩ = some (.int .i64 tt) := HB3.out.cell 2
  have m3 : w3.cell? ⟨w.heap.size, 3, none⟩ = some (.int .i64 un) := HB3.out.cell 3
  have m4 : w3.cell? ⟨w.heap.size, 4, none⟩ = some (.slice A1 n1 c1) := HB3.out.cell 4
  have m5 : w3.cell? ⟨w.heap.size, 5, none⟩ = some (.slice A2 n2 c2) := HB3.out.cell 5
  go_wp2_with fail
  refine (HEr.out _ HK3.out).mono ?_
  rintro e w4 ⟨Ar, mr, cr, rfl, hr4, hk4⟩
  have HK4 := Lib.hid (HK3.out.trans hk4)
  have HB4 := Lib.hid (HB3.out.keep hk4 (fun h => h))
  have HRa := Lib.hid (HO3.out.keep hk4 (fun _ _ h => h)).rd
  have HRb := Lib.hid hr4
  obtain rfl : mr = ys.length := by have := hr4.1; simpa using this.symm
  clear hk4 HEr m0 m1 m2 m3 m4 m5 hr4
  have ter : (er == er) = true := beq_self_eq_true er
  have tmy : (my == my) = true := beq_self_eq_true my
  have m0 : w4.cell? ⟨w.heap.size, 0, none⟩ = some (.int .i64 k0) := HB4.out.cell 0
  have m1 : w4.cell? ⟨w.heap.size, 1, none⟩ = some (.int .i64 tr) := HB4.out.cell 1
  have m2 : w4.cell? ⟨w.heap.size, 2, none⟩ = some (.int .i64 tt) := HB4.out.cell 2
  have m3 : w4.cell? ⟨w.heap.size, 3, none⟩ = some (.int .i64 un) := HB4.out.cell 3
  have m4 : w4.cell? ⟨w.heap.size, 4, none⟩ = some (.slice A1 n1 c1) := HB4.out.cell 4
  have m5 : w4.cell? ⟨w.heap.size, 5, none⟩ = some (.slice A2 n2 c2) := HB4.out.cell 5
  have HS2 : Hid (∀ W', Keep Never w4 W' → Keep Never w4 W' ∧ W'.cell? ⟨w.heap.size, 0, none⟩ = some (.int .i64 k0) ∧ W'.cell? ⟨w.heap.size, 1, none⟩ = some (.int .i64 tr) ∧ W'.cell? ⟨w.heap.size, 2, none⟩ = some (.int .i64 tt) ∧ W'.cell? ⟨w.heap.size, 3, none⟩ = some (.int .i64 un) ∧ W'.cell? ⟨w.heap.size, 4, none⟩ = some (.slice A1 n1 c1) ∧ W'.cell? ⟨w.heap.size, 5, none⟩ = some (.slice A2 n2 c2) ∧ (convert 27 9 (.slice Ae ys.length ce)).run Try.prog W' = .ok (.string (strOf ys)) W' ∧ (convert 27 9 (.slice Ar ys.length cr)).run Try.prog W' = .ok (.string (strOf ys)) W') := Lib.hid (fun W' h => ⟨h, keepT h m0, keepT h m1, keepT h m2, keepT h m3, keepT h m4, keepT h m5, run_str (P := Try.prog) (src := 27) (dst := 9) Try.underlying27 Try.underlying5 Try.underlying9 (HRa.out.keep h (fun _ h => h.elim)) H8y.out ce, run_str (P := Try.prog) (src := 27) (dst := 9) Try.underlying27 Try.underlying5 Try.underlying9 (HRb.out.keep h (fun _ h => h.elim)) H8y.out cr⟩)
  go_wp2_with fail
  clear m0 m1 m2 m3 m4 m5
  go_region_held3 (fun W' => Keep Never w4 W' ∧ W'.cell? ⟨w.heap.size, 0, none⟩ = some (.int .i64 k0) ∧ W'.cell? ⟨w.heap.size, 1, none⟩ = some (.int .i64 tr) ∧ W'.cell? ⟨w.heap.size, 2, none⟩ = some (.int .i64 tt) ∧ W'.cell? ⟨w.heap.size, 3, none⟩ = some (.int .i64 un) ∧ W'.cell? ⟨w.heap.size, 4, none⟩ = some (.slice A1 n1 c1) ∧ W'.cell? ⟨w.heap.size, 5, none⟩ = some (.slice A2 n2 c2) ∧ (convert 27 9 (.slice Ae ys.length ce)).run Try.prog W' = .ok (.string (strOf ys)) W' ∧ (convert 27 9 (.slice Ar ys.length cr)).run Try.prog W' = .ok (.string (strOf ys)) W')
    (first | assumption | exact HS2.out _ ((Keep.refl Never w4).drew) | exact HS2.out _ (Keep.trans (And.left (by assumption)) hk3) | exact HS2.out _ (Keep.trans ((Keep.refl Never w4).drew) hk3))
    (first
      | (go_at_call 11; refine (HMy.out _ (HK4.out.trans (by first | exact And.left (by assumption) | exact (Keep.refl Never w4).drew | exact Keep.refl Never w4))).mono ?_; rintro e w5 ⟨rfl, hk3⟩)
      | (go_at_call 12; refine (HMr.out _ (HK4.out.trans (by first | exact And.left (by assumption) | exact (Keep.refl Never w4).drew | exact Keep.refl Never w4))).mono ?_; rintro e w6 ⟨rfl, hk3⟩))
  all_goals
    rename_i hS
    have HKf := Lib.hid (HK4.out.trans hS.1)
    clear hS HS2
    go_wp2_with fail
    go_ret
    exact ⟨rfl, HKf.out⟩

theorem borderNotes_walk (W : World) (cs0 : Array Value) (nt : Nt) (s0 : repNt.cells W W.heap.size nt cs0.toList) :
    Calls Try.prog 3 #[.agg cs0] W fun e W' => e = .returned (.bool true) ∧ Keep Never W W' := by
  obtain ⟨x, hx, ht, hb⟩ := NtAt.of_t s0
  obtain rfl : cs0 = x.cs nt := by apply Array.ext'; exact hx
  obtain ⟨k0, tr, tt, un, l, h⟩ := nt
  obtain ⟨A1, n1, c1, A2, n2, c2⟩ := x
  exact notesd20_any k0 tr tt un A1 A2 n1 c1 n2 c2 W.heap.size l h W ht.l ht.h (Nat.le_refl _) hb
set_option maxHeartbeats 8000000 in
set_option maxRecDepth 100000 in
theorem decodesd20_any (A : Option Addr) (n c B : Nat) (bs : List Nat) (w : World) (hr : Rd w B 1 A n (bs.map u8v)) (hB : B ≤ w.heap.size) (h8 : ∀ x ∈ bs, x < 256) :
    Calls Try.prog 4 #[.slice A n c] w (fun e w' => e = .returned (.bool true) ∧ Keep Never w w') := by
  have HRd := Lib.hid hr
  have H8 := Lib.hid h8
  have HLn : Hid (bs.length = n) := Lib.hid (by have := hr.1; simpa using this)
  have HA := Lib.hid (awake20_any w)
  have HBb := Lib.hid hB
  clear hr h8 hB
  go_enter Try.func4, Try.ntmps4
  go_wp2_with fail
  refine HA.out.mono ?_
  rintro e w2 ⟨rfl, hk2⟩
  have HK2 := Lib.hid hk2
  clear hk2 HA
  by_cases g1 : 2000 < n
  · have u1 : decide ((n : Int) > 2000) = true := decide_eq_true (by omega)
    clear g1
    go_wp2_with fail
    go_ret
    exact ⟨rfl, HK2.out⟩
  have u1 : decide ((n : Int) > 2000) = false := decide_eq_false (by omega)
  have HD := Lib.hid (dec20_any A n c B bs w2 (HRd.out.keep HK2.out (fun _ h => h.elim)) H8.out (by omega))
  have HDr : Hid (∀ V, Keep Never w V → Calls Try.prog 14 #[.slice A n c] V (DecRet (decG gR 30 30 bs) V)) := Lib.hid (fun V hV => rdec20_any A n c B bs V (HRd.out.keep hV (fun _ h => h.elim)) (Nat.le_trans HBb.out hV.size) H8.out (by omega))
  have hsm : decG gR 30 30 bs = decG gP 24 16 bs := dec_same gR_ok gP_ok (by omega) (by omega) (by omega) (by omega) bs
  rw [hsm] at HDr
  have HQ : Hid ((decG gP 24 16 bs).1.2.2.2.2.1.length ≤ 24 ∧ (decG gP 24 16 bs).1.2.2.2.2.2.length ≤ 16) := Lib.hid (by
    by_cases g : (decG gP 24 16 bs).2 = 0
    · have h1 := mayN_iff.1 (dec_only g).1
      exact ⟨h1.few, h1.here⟩
    · rw [dec_none g]; exact ⟨by decide, by decide⟩)
  obtain ⟨z, hz⟩ : ∃ z, decG gP 24 16 bs = z := ⟨_, rfl⟩
  rw [hz] at HD HDr HQ
  clear hz hsm g1
  obtain ⟨⟨k0, tr, tt, un, l, h⟩, er⟩ := z
  go_wp2_with fail
  refine HD.out.mono ?_
  rintro e w3 ⟨⟨B1, q1, d1, B2, q2, d2⟩, rfl, hnt, hk3⟩
  have HK3 := Lib.hid (HK2.out.trans hk3)
  have HNt := Lib.hid hnt
  clear hk3 hnt HD u1
  dsimp only [NA.cs]
  have z0 : (w3.alloc (.cells #[.int .i64 0, .int .i64 0, .int .i64 0, .int .i64 0, .slice none 0 0, .slice none 0 0] 25)).cell? ⟨w3.heap.size, 0, none⟩ = some (.int .i64 0) := (Blk.new w3 25 #[.int .i64 0, .int .i64 0, .int .i64 0, .int .i64 0, .slice none 0 0, .slice none 0 0]).cell 0
  have zf0 : (w3.alloc (.cells #[.int .i64 0, .int .i64 0, .int .i64 0, .int .i64 0, .slice none 0 0, .slice none 0 0] 25)).frozen? ⟨w3.heap.size, 0, none⟩ = false := (Blk.new w3 25 #[.int .i64 0, .int .i64 0, .int .i64 0, .int .i64 0, .slice none 0 0, .slice none 0 0]).frozen 0
  have z1 : (w3.alloc (.cells #[.int .i64 0, .int .i64 0, .int .i64 0, .int .i64 0, .slice none 0 0, .slice none 0 0] 25)).cell? ⟨w3.heap.size, 1, none⟩ = some (.int .i64 0) := (Blk.new w3 25 #[.int .i64 0, .int .i64 0, .int .i64 0, .int .i64 0, .slice none 0 0, .slice none 0 0]).cell 1
  have zf1 : (w3.alloc (.cells #[.int .i64 0, .int .i64 0, .int .i64 0, .int .i64 0, .slice none 0 0, .slice none 0 0] 25)).frozen? ⟨w3.heap.size, 1, none⟩ = false := (Blk.new w3 25 #[.int .i64 0, .int .i64 0, .int .i64 0, .int .i64 0, .slice none 0 0, .slice none 0 0]).frozen 1
  have z2 : (w3.alloc (.cells #[.int .i64 0, .int .i64 0, .int .i64 0, .int .i64 0, .slice none 0 0, .slice none 0 0] 25)).cell? ⟨w3.heap.size, 2, none⟩ = some (.int .i64 0) := (Blk.new w3 25 #[.int .i64 0, .int .i64 0, .int .i64 0, .int .i64 0, .slice none 0 0, .slice none 0 0]).cell 2
  have zf2 : (w3.alloc (.cells #[.int .i64 0, .int .i64 0, .int .i64 0, .int .i64 0, .slice none 0 0, .slice none 0 0] 25)).frozen? ⟨w3.heap.size, 2, none⟩ = false := (Blk.new w3 25 #[.int .i64 0, .int .i64 0, .int .i64 0, .int .i64 0, .slice none 0 0, .slice none 0 0]).frozen 2
  have z3 : (w3.alloc (.cells #[.int .i64 0, .int .i64 0, .int .i64 0, .int .i64 0, .slice none 0 0, .slice none 0 0] 25)).cell? ⟨w3.heap.size, 3, none⟩ = some (.int .i64 0) := (Blk.new w3 25 #[.int .i64 0, .int .i64 0, .int .i64 0, .int .i64 0, .slice none 0 0, .slice none 0 0]).cell 3
  have zf3 : (w3.alloc (.cells #[.int .i64 0, .int .i64 0, .int .i64 0, .int .i64 0, .slice none 0 0, .slice none 0 0] 25)).frozen? ⟨w3.heap.size, 3, none⟩ = false := (Blk.new w3 25 #[.int .i64 0, .int .i64 0, .int .i64 0, .int .i64 0, .slice none 0 0, .slice none 0 0]).frozen 3
  have z4 : (w3.alloc (.cells #[.int .i64 0, .int .i64 0, .int .i64 0, .int .i64 0, .slice none 0 0, .slice none 0 0] 25)).cell? ⟨w3.heap.size, 4, none⟩ = some (.slice none 0 0) := (Blk.new w3 25 #[.int .i64 0, .int .i64 0, .int .i64 0, .int .i64 0, .slice none 0 0, .slice none 0 0]).cell 4
  have zf4 : (w3.alloc (.cells #[.int .i64 0, .int .i64 0, .int .i64 0, .int .i64 0, .slice none 0 0, .slice none 0 0] 25)).frozen? ⟨w3.heap.size, 4, none⟩ = false := (Blk.new w3 25 #[.int .i64 0, .int .i64 0, .int .i64 0, .int .i64 0, .slice none 0 0, .slice none 0 0]).frozen 4
  have z5 : (w3.alloc (.cells #[.int .i64 0, .int .i64 0, .int .i64 0, .int .i64 0, .slice none 0 0, .slice none 0 0] 25)).cell? ⟨w3.heap.size, 5, none⟩ = some (.slice none 0 0) := (Blk.new w3 25 #[.int .i64 0, .int .i64 0, .int .i64 0, .int .i64 0, .slice none 0 0, .slice none 0 0]).cell 5
  have zf5 : (w3.alloc (.cells #[.int .i64 0, .int .i64 0, .int .i64 0, .int .i64 0, .slice none 0 0, .slice none 0 0] 25)).frozen? ⟨w3.heap.size, 5, none⟩ = false := (Blk.new w3 25 #[.int .i64 0, .int .i64 0, .int .i64 0, .int .i64 0, .slice none 0 0, .slice none 0 0]).frozen 5
  go_upto_region 5 with (fail)
  clear z0 zf0 z1 zf1 z2 zf2 z3 zf3 z4 zf4 z5 zf5
  obtain ⟨w4, hw4⟩ : ∃ V : World, w3.alloc (.cells #[.int .i64 k0, .int .i64 tr, .int .i64 tt, .int .i64 un, .slice B1 q1 d1, .slice B2 q2 d2] 25) = V := ⟨_, rfl⟩
  have kx : Keep Never w3 w4 := (by rw [← hw4]; exact (Keep.refl _ _).alloc _)
  have bx := Blk.new w3 25 #[.int .i64 k0, .int .i64 tr, .int .i64 tt, .int .i64 un, .slice B1 q1 d1, .slice B2 q2 d2]
  rw [hw4] at bx ⊢
  obtain ⟨b4, hbb4⟩ : ∃ q, w3.heap.size = q := ⟨_, rfl⟩
  rw [hbb4] at bx ⊢
  have HK4 := Lib.hid (HK3.out.trans kx)
  have HN4 := Lib.hid (HNt.out.keep kx)
  have HX4 := Lib.hid bx
  clear kx bx hw4 hbb4
  go_wp2_with fail
  refine (HDr.out _ HK4.out).mono ?_
  rintro e w5 ⟨⟨B3, q3, d3, B4, q4, d4⟩, rfl, hnt, hk5⟩
  have HK5 := Lib.hid (HK4.out.trans hk5)
  have HNr := Lib.hid hnt
  have HN5 := Lib.hid (HN4.out.keep hk5)
  have HX5 := Lib.hid (HX4.out.keep hk5 (fun h => h))
  clear hk5 hnt HDr
  dsimp only [NA.cs]
  have z0 : (w5.alloc (.cells #[.int .i64 0, .int .i64 0, .int .i64 0, .int .i64 0, .slice none 0 0, .slice none 0 0] 25)).cell? ⟨w5.heap.size, 0, none⟩ = some (.int .i64 0) := (Blk.new w5 25 #[.int .i64 0, .int .i64 0, .int .i64 0, .int .i64 0, .slice none 0 0, .slice none 0 0]).cell 0
  have zf0 : (w5.alloc (.cells #[.int .i64 0, .int .i64 0, .int .i64 0, .int .i64 0, .slice none 0 0, .slice none 0 0] 25)).frozen? ⟨w5.heap.size, 0, none⟩ = false := (Blk.new w5 25 #[.int .i64 0, .int .i64 0, .int .i64 0, .int .i64 0, .slice none 0 0, .slice none 0 0]).frozen 0
  have z1 : (w5.alloc (.cells #[.int .i64 0, .int .i64 0, .int .i64 0, .int .i64 0, .slice none 0 0, .slice none 0 0] 25)).cell? ⟨w5.heap.size, 1, none⟩ = some (.int .i64 0) := (Blk.new w5 25 #[.int .i64 0, .int .i64 0, .int .i64 0, .int .i64 0, .slice none 0 0, .slice none 0 0]).cell 1
  have zf1 : (w5.alloc (.cells #[.int .i64 0, .int .i64 0, .int .i64 0, .int .i64 0, .slice none 0 0, .slice none 0 0] 25)).frozen? ⟨w5.heap.size, 1, none⟩ = false := (Blk.new w5 25 #[.int .i64 0, .int .i64 0, .int .i64 0, .int .i64 0, .slice none 0 0, .slice none 0 0]).frozen 1
  have z2 : (w5.alloc (.cells #[.int .i64 0, .int .i64 0, .int .i64 0, .int .i64 0, .slice none 0 0, .slice none 0 0] 25)).cell? ⟨w5.heap.size, 2, none⟩ = some (.int .i64 0) := (Blk.new w5 25 #[.int .i64 0, .int .i64 0, .int .i64 0, .int .i64 0, .slice none 0 0, .slice none 0 0]).cell 2
  have zf2 : (w5.alloc (.cells #[.int .i64 0, .int .i64 0, .int .i64 0, .int .i64 0, .slice none 0 0, .slice none 0 0] 25)).frozen? ⟨w5.heap.size, 2, none⟩ = false := (Blk.new w5 25 #[.int .i64 0, .int .i64 0, .int .i64 0, .int .i64 0, .slice none 0 0, .slice none 0 0]).frozen 2
  have z3 : (w5.alloc (.cells #[.int .i64 0, .int .i64 0, .int .i64 0, .int .i64 0, .slice none 0 0, .slice none 0 0] 25)).cell? ⟨w5.heap.size, 3, none⟩ = some (.int .i64 0) := (Blk.new w5 25 #[.int .i64 0, .int .i64 0, .int .i64 0, .int .i64 0, .slice none 0 0, .slice none 0 0]).cell 3
  have zf3 : (w5.alloc (.cells #[.int .i64 0, .int .i64 0, .int .i64 0, .int .i64 0, .slice none 0 0, .slice none 0 0] 25)).frozen? ⟨w5.heap.size, 3, none⟩ = false := (Blk.new w5 25 #[.int .i64 0, .int .i64 0, .int .i64 0, .int .i64 0, .slice none 0 0, .slice none 0 0]).frozen 3
  have z4 : (w5.alloc (.cells #[.int .i64 0, .int .i64 0, .int .i64 0, .int .i64 0, .slice none 0 0, .slice none 0 0] 25)).cell? ⟨w5.heap.size, 4, none⟩ = some (.slice none 0 0) := (Blk.new w5 25 #[.int .i64 0, .int .i64 0, .int .i64 0, .int .i64 0, .slice none 0 0, .slice none 0 0]).cell 4
  have zf4 : (w5.alloc (.cells #[.int .i64 0, .int .i64 0, .int .i64 0, .int .i64 0, .slice none 0 0, .slice none 0 0] 25)).frozen? ⟨w5.heap.size, 4, none⟩ = false := (Blk.new w5 25 #[.int .i64 0, .int .i64 0, .int .i64 0, .int .i64 0, .slice none 0 0, .slice none 0 0]).frozen 4
  have z5 : (w5.alloc (.cells #[.int .i64 0, .int .i64 0, .int .i64 0, .int .i64 0, .slice none 0 0, .slice none 0 0] 25)).cell? ⟨w5.heap.size, 5, none⟩ = some (.slice none 0 0) := (Blk.new w5 25 #[.int .i64 0, .int .i64 0, .int .i64 0, .int .i64 0, .slice none 0 0, .slice none 0 0]).cell 5
  have zf5 : (w5.alloc (.cells #[.int .i64 0, .int .i64 0, .int .i64 0, .int .i64 0, .slice none 0 0, .slice none 0 0] 25)).frozen? ⟨w5.heap.size, 5, none⟩ = false := (Blk.new w5 25 #[.int .i64 0, .int .i64 0, .int .i64 0, .int .i64 0, .slice none 0 0, .slice none 0 0]).frozen 5
  go_upto_region 6 with (fail)
  clear z0 zf0 z1 zf1 z2 zf2 z3 zf3 z4 zf4 z5 zf5
  obtain ⟨w6, hw6⟩ : ∃ V : World, w5.alloc (.cells #[.int .i64 k0, .int .i64 tr, .int .i64 tt, .int .i64 un, .slice B3 q3 d3, .slice B4 q4 d4] 25) = V := ⟨_, rfl⟩
  have kx : Keep Never w5 w6 := (by rw [← hw6]; exact (Keep.refl _ _).alloc _)
  have bx := Blk.new w5 25 #[.int .i64 k0, .int .i64 tr, .int .i64 tt, .int .i64 un, .slice B3 q3 d3, .slice B4 q4 d4]
  rw [hw6] at bx ⊢
  obtain ⟨b6, hbb6⟩ : ∃ q, w5.heap.size = q := ⟨_, rfl⟩
  rw [hbb6] at bx ⊢
  have HK6 := Lib.hid (HK5.out.trans kx)
  have HC := Lib.hid (notes20_any k0 tr tt un k0 tr tt un B1 B2 B3 B4 q1 d1 q2 d2 q3 d3 q4 d4 _ _ l l h h w6 (HN5.out.keep kx).l (HN5.out.keep kx).h (HNr.out.keep kx).l (HNr.out.keep kx).h (by have a1 := HQ.out; have a2 := HN5.out.l.len; simp only at a1 a2; omega) (by have a1 := HQ.out; have a2 := HN5.out.h.len; simp only at a1 a2; omega) (by have a1 := HQ.out; have a2 := HNr.out.l.len; simp only at a1 a2; omega) (by have a1 := HQ.out; have a2 := HNr.out.h.len; simp only at a1 a2; omega))
  have HX6 := Lib.hid (HX5.out.keep kx (fun h => h))
  clear kx hw6 hbb6
  have m0 : w6.cell? ⟨b4, 0, none⟩ = some (.int .i64 k0) := HX6.out.cell 0
  have y0 : w6.cell? ⟨b6, 0, none⟩ = some (.int .i64 k0) := bx.cell 0
  have m1 : w6.cell? ⟨b4, 1, none⟩ = some (.int .i64 tr) := HX6.out.cell 1
  have y1 : w6.cell? ⟨b6, 1, none⟩ = some (.int .i64 tr) := bx.cell 1
  have m2 : w6.cell? ⟨b4, 2, none⟩ = some (.int .i64 tt) := HX6.out.cell 2
  have y2 : w6.cell? ⟨b6, 2, none⟩ = some (.int .i64 tt) := bx.cell 2
  have m3 : w6.cell? ⟨b4, 3, none⟩ = some (.int .i64 un) := HX6.out.cell 3
  have y3 : w6.cell? ⟨b6, 3, none⟩ = some (.int .i64 un) := bx.cell 3
  have m4 : w6.cell? ⟨b4, 4, none⟩ = some (.slice B1 q1 d1) := HX6.out.cell 4
  have y4 : w6.cell? ⟨b6, 4, none⟩ = some (.slice B3 q3 d3) := bx.cell 4
  have m5 : w6.cell? ⟨b4, 5, none⟩ = some (.slice B2 q2 d2) := HX6.out.cell 5
  have y5 : w6.cell? ⟨b6, 5, none⟩ = some (.slice B4 q4 d4) := bx.cell 5
  clear bx
  go_wp2_with fail
  refine HC.out.mono ?_
  rintro e w7 ⟨rfl, hk7⟩
  have HK7 := Lib.hid (HK6.out.trans hk7)
  clear hk7 HC m0 m1 m2 m3 m4 m5 y0 y1 y2 y3 y4 y5
  simp only [decide_true, beq_self_eq_true, Bool.and_self]
  have ter : (er == er) = true := beq_self_eq_true er
  go_wp2_with fail
  go_ret
  exact ⟨rfl, HK7.out⟩

theorem borderDecodes_walk (W : World) (A : Option Addr) (n c : Nat) (l : List Nat) (s : Rep.byte.Sl W W.heap.size A n c l) :
    Calls Try.prog 4 #[.slice A n c] W fun e W' => e = .returned (.bool true) ∧ Keep Never W W' := by
  obtain ⟨h1, _, h3⟩ := bytes_rd s
  exact decodesd20_any A n c _ l W h1 (Nat.le_refl _) h3

end Go.Proofs.Ytpahfobijmmmmaa
