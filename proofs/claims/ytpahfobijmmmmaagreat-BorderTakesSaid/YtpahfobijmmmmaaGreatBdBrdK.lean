/- Chapter 20 (border): awake. -/
import Derived.Test.YtpahfobijmmmmaaGreatBdBrdJ
import Derived.Lib.SlBytesConst
import Derived.Test.YtpahfobijmmmmaaGreatBdSpnL
namespace Go.Proofs.YtpahfobijmmmmaaGreat
open Go.RowKit

theorem run_front20 {P : Program} {t e size : Nat} (ht : P.underlying t = some (.slice e)) (hsz : ∀ w, (sizeOf e).run P w = .ok size w) (A : Option Addr) (n c k : Nat) (hj : k ≤ n) (hc : n ≤ c) (w : World) :
    (Instr.slice t (.slice A n c) none (some (.int .i64 k)) none).run P w = .ok (.slice A k c) w := by
  have hjc : k ≤ c := by omega
  have e0 : (if c = 0 then A else A.map (·.add (0 * size))) = A := by
    split
    · rfl
    · cases A <;> simp [show ∀ a : Addr, a.add 0 = a from fun a => by unfold Addr.add; split <;> simp_all]
  have : (Instr.slice t (.slice A n c) none (some (.int .i64 k)) none).run P w = .ok (.slice (if c = 0 then A else A.map (·.add (0 * size))) (k - 0) (c - 0)) w := by
    simp [Instr.slice, run_underlying ht, Instr.sliceBounds, Instr.sliceBound, asIntOf, hsz, hjc, Result.andThen]
  rw [this, e0]; simp
theorem ex_may : mayN (1, 5, 9, 0, [], []) = true := by decide
set_option maxRecDepth 100000 in
theorem ex_enc : encN (1, 5, 9, 0, [], []) = [1, 0, 0, 5, 0, 0, 0, 9, 0, 0, 0, 0, 0, 0, 0, 0] := by decide
theorem rd_lit (w : World) (xs : List Value) (t : TypeId) (fr : Nat × Nat) (n : Nat) (hn : n = xs.length) : Rd (w.alloc (.cells xs.toArray t fr)) (w.alloc (.cells xs.toArray t fr)).heap.size 1 (some ⟨w.heap.size, 0, none⟩) n xs := by
  subst hn
  refine ⟨by simp, fun _ => ⟨_, rfl, by simp, fun j u hu => ?_⟩⟩
  have hadd : (⟨w.heap.size, 0, none⟩ : Addr).add j = ⟨w.heap.size, j, none⟩ := by unfold Addr.add; split <;> simp_all
  rw [hadd, World.cell?_alloc_mark]
  simpa using hu
theorem keep_mark (w : World) (o : Obj) : Keep Never w (w.alloc o) := (Keep.refl _ _).alloc _
set_option maxHeartbeats 4000000 in
set_option maxRecDepth 100000 in
theorem awake20_any (w : World) :
    Calls Tryz.prog 4 #[] w (fun e w' => e = .returned (.bool true) ∧ Keep Never w w') := by
  have HE := Lib.hid (fun V => enc20_any 1 5 9 0 none none 0 0 0 0 V.heap.size [] [] V (spAt_own3 (e := 0) (base := 0) (l := []) (Own.nil _ _ _ _)) (spAt_own3 (e := 0) (base := 0) (l := []) (Own.nil _ _ _ _)) (by omega) (by omega) (Nat.le_refl _) (by omega))
  go_enter Tryz.func4, Tryz.ntmps4
  go_wp2_with fail
  refine (HE.out w).mono ?_
  rintro e w2 ⟨Ae, ce, rfl, ho2, hk2⟩
  have h16 : (encN (1, 5, 9, 0, [], [])).length = 16 := by rw [ex_enc]; rfl
  rw [ex_may] at ho2
  simp only [if_true] at ho2
  rw [h16] at ho2
  simp only [ex_may, if_true, h16]
  clear HE h16
  have HO2 := Lib.hid ho2
  have HK2 := Lib.hid hk2
  clear ho2 hk2
  have HDc : Hid (∀ fr, Calls Tryz.prog 17 #[.slice (some ⟨w2.heap.size, 0, none⟩) 16 16] (w2.alloc (.cells #[.int .u8 1, .int .u8 0, .int .u8 0, .int .u8 5, .int .u8 0, .int .u8 0, .int .u8 0, .int .u8 9, .int .u8 0, .int .u8 0, .int .u8 0, .int .u8 0, .int .u8 0, .int .u8 0, .int .u8 0, .int .u8 0] 5 fr)) (DecRet ((1, 5, 9, 0, [], []), 0) (w2.alloc (.cells #[.int .u8 1, .int .u8 0, .int .u8 0, .int .u8 5, .int .u8 0, .int .u8 0, .int .u8 0, .int .u8 9, .int .u8 0, .int .u8 0, .int .u8 0, .int .u8 0, .int .u8 0, .int .u8 0, .int .u8 0, .int .u8 0] 5 fr)))) := Lib.hid (fun fr => by
    have h := dec20_any (some ⟨w2.heap.size, 0, none⟩) 16 16 _ [1, 0, 0, 5, 0, 0, 0, 9, 0, 0, 0, 0, 0, 0, 0, 0] (w2.alloc (.cells #[.int .u8 1, .int .u8 0, .int .u8 0, .int .u8 5, .int .u8 0, .int .u8 0, .int .u8 0, .int .u8 9, .int .u8 0, .int .u8 0, .int .u8 0, .int .u8 0, .int .u8 0, .int .u8 0, .int .u8 0, .int .u8 0] 5 fr)) (rd_lit w2 [.int .u8 1, .int .u8 0, .int .u8 0, .int .u8 5, .int .u8 0, .int .u8 0, .int .u8 0, .int .u8 9, .int .u8 0, .int .u8 0, .int .u8 0, .int .u8 0, .int .u8 0, .int .u8 0, .int .u8 0, .int .u8 0] 5 fr 16 rfl) (by decide) (by omega)
    rw [← ex_enc, dec_back gP_ok (by omega) (by omega) ex_may] at h
    exact h)
  have kc := Lib.run_convert_bytes_const (P := Tryz.prog) w2 46 5 #[.int .u8 1, .int .u8 0, .int .u8 0, .int .u8 5, .int .u8 0, .int .u8 0, .int .u8 0, .int .u8 9, .int .u8 0, .int .u8 0, .int .u8 0, .int .u8 0, .int .u8 0, .int .u8 0, .int .u8 0, .int .u8 0] 16 16 Tryz.underlying46 Tryz.underlying5
  go_wp2_with fail
  refine (HDc.out _).mono ?_
  rintro e w3 ⟨⟨A1, n1, c1, A2, n2, c2⟩, rfl, hnt, hk3⟩
  have HK3 := Lib.hid ((HK2.out.trans (keep_mark w2 _)).trans hk3)
  have HO3 := Lib.hid (HO2.out.keep ((keep_mark w2 _).trans hk3) (fun _ _ h => h))
  have HNt := Lib.hid hnt
  have hn1 : n1 = 0 := hnt.l.len.symm
  have hn2 : n2 = 0 := hnt.h.len.symm
  subst hn1
  subst hn2
  clear hk3 hnt HDc kc
  dsimp only [NA.cs]
  have z0 : (w3.alloc (.cells #[.int .i64 0, .int .i64 0, .int .i64 0, .int .i64 0, .slice none 0 0, .slice none 0 0] 34)).cell? ⟨w3.heap.size, 0, none⟩ = some (.int .i64 0) := (Blk.new w3 34 #[.int .i64 0, .int .i64 0, .int .i64 0, .int .i64 0, .slice none 0 0, .slice none 0 0]).cell 0
  have zf0 : (w3.alloc (.cells #[.int .i64 0, .int .i64 0, .int .i64 0, .int .i64 0, .slice none 0 0, .slice none 0 0] 34)).frozen? ⟨w3.heap.size, 0, none⟩ = false := (Blk.new w3 34 #[.int .i64 0, .int .i64 0, .int .i64 0, .int .i64 0, .slice none 0 0, .slice none 0 0]).frozen 0
  have z1 : (w3.alloc (.cells #[.int .i64 0, .int .i64 0, .int .i64 0, .int .i64 0, .slice none 0 0, .slice none 0 0] 34)).cell? ⟨w3.heap.size, 1, none⟩ = some (.int .i64 0) := (Blk.new w3 34 #[.int .i64 0, .int .i64 0, .int .i64 0, .int .i64 0, .slice none 0 0, .slice none 0 0]).cell 1
  have zf1 : (w3.alloc (.cells #[.int .i64 0, .int .i64 0, .int .i64 0, .int .i64 0, .slice none 0 0, .slice none 0 0] 34)).frozen? ⟨w3.heap.size, 1, none⟩ = false := (Blk.new w3 34 #[.int .i64 0, .int .i64 0, .int .i64 0, .int .i64 0, .slice none 0 0, .slice none 0 0]).frozen 1
  have z2 : (w3.alloc (.cells #[.int .i64 0, .int .i64 0, .int .i64 0, .int .i64 0, .slice none 0 0, .slice none 0 0] 34)).cell? ⟨w3.heap.size, 2, none⟩ = some (.int .i64 0) := (Blk.new w3 34 #[.int .i64 0, .int .i64 0, .int .i64 0, .int .i64 0, .slice none 0 0, .slice none 0 0]).cell 2
  have zf2 : (w3.alloc (.cells #[.int .i64 0, .int .i64 0, .int .i64 0, .int .i64 0, .slice none 0 0, .slice none 0 0] 34)).frozen? ⟨w3.heap.size, 2, none⟩ = false := (Blk.new w3 34 #[.int .i64 0, .int .i64 0, .int .i64 0, .int .i64 0, .slice none 0 0, .slice none 0 0]).frozen 2
  have z3 : (w3.alloc (.cells #[.int .i64 0, .int .i64 0, .int .i64 0, .int .i64 0, .slice none 0 0, .slice none 0 0] 34)).cell? ⟨w3.heap.size, 3, none⟩ = some (.int .i64 0) := (Blk.new w3 34 #[.int .i64 0, .int .i64 0, .int .i64 0, .int .i64 0, .slice none 0 0, .slice none 0 0]).cell 3
  have zf3 : (w3.alloc (.cells #[.int .i64 0, .int .i64 0, .int .i64 0, .int .i64 0, .slice none 0 0, .slice none 0 0] 34)).frozen? ⟨w3.heap.size, 3, none⟩ = false := (Blk.new w3 34 #[.int .i64 0, .int .i64 0, .int .i64 0, .int .i64 0, .slice none 0 0, .slice none 0 0]).frozen 3
  have z4 : (w3.alloc (.cells #[.int .i64 0, .int .i64 0, .int .i64 0, .int .i64 0, .slice none 0 0, .slice none 0 0] 34)).cell? ⟨w3.heap.size, 4, none⟩ = some (.slice none 0 0) := (Blk.new w3 34 #[.int .i64 0, .int .i64 0, .int .i64 0, .int .i64 0, .slice none 0 0, .slice none 0 0]).cell 4
  have zf4 : (w3.alloc (.cells #[.int .i64 0, .int .i64 0, .int .i64 0, .int .i64 0, .slice none 0 0, .slice none 0 0] 34)).frozen? ⟨w3.heap.size, 4, none⟩ = false := (Blk.new w3 34 #[.int .i64 0, .int .i64 0, .int .i64 0, .int .i64 0, .slice none 0 0, .slice none 0 0]).frozen 4
  have z5 : (w3.alloc (.cells #[.int .i64 0, .int .i64 0, .int .i64 0, .int .i64 0, .slice none 0 0, .slice none 0 0] 34)).cell? ⟨w3.heap.size, 5, none⟩ = some (.slice none 0 0) := (Blk.new w3 34 #[.int .i64 0, .int .i64 0, .int .i64 0, .int .i64 0, .slice none 0 0, .slice none 0 0]).cell 5
  have zf5 : (w3.alloc (.cells #[.int .i64 0, .int .i64 0, .int .i64 0, .int .i64 0, .slice none 0 0, .slice none 0 0] 34)).frozen? ⟨w3.heap.size, 5, none⟩ = false := (Blk.new w3 34 #[.int .i64 0, .int .i64 0, .int .i64 0, .int .i64 0, .slice none 0 0, .slice none 0 0]).frozen 5
  go_upto_region 3 with (fail)
  clear z0 zf0 z1 zf1 z2 zf2 z3 zf3 z4 zf4 z5 zf5
  obtain ⟨w4, hw4⟩ : ∃ V : World, w3.alloc (.cells #[.int .i64 1, .int .i64 5, .int .i64 9, .int .i64 0, .slice A1 0 c1, .slice A2 0 c2] 34) = V := ⟨_, rfl⟩
  have k4 : Keep Never w3 w4 := (by rw [← hw4]; exact (Keep.refl _ _).alloc _)
  have B4 := Blk.new w3 34 #[.int .i64 1, .int .i64 5, .int .i64 9, .int .i64 0, .slice A1 0 c1, .slice A2 0 c2]
  rw [hw4] at B4 ⊢
  obtain ⟨bn, hbn⟩ : ∃ q, w3.heap.size = q := ⟨_, rfl⟩
  rw [hbn] at B4 ⊢
  have Hn4 := Lib.hid B4
  have HK4 := Lib.hid (HK3.out.trans k4)
  have HO4 := Lib.hid (HO3.out.keep k4 (fun _ _ h => h))
  have HT := Lib.hid (take20_ask 1 5 9 0 A1 A2 0 c1 0 c2 _ [] [] w4 (HNt.out.keep k4).l (HNt.out.keep k4).h (by omega) (by omega) k4.size (by omega) ex_may (by omega) (by omega))
  clear k4 B4 hw4 hbn
  have m0 : w4.cell? ⟨bn, 0, none⟩ = some (.int .i64 1) := Hn4.out.cell 0
  have m1 : w4.cell? ⟨bn, 1, none⟩ = some (.int .i64 5) := Hn4.out.cell 1
  have m2 : w4.cell? ⟨bn, 2, none⟩ = some (.int .i64 9) := Hn4.out.cell 2
  have m3 : w4.cell? ⟨bn, 3, none⟩ = some (.int .i64 0) := Hn4.out.cell 3
  have m4 : w4.cell? ⟨bn, 4, none⟩ = some (.slice A1 0 c1) := Hn4.out.cell 4
  have m5 : w4.cell? ⟨bn, 5, none⟩ = some (.slice A2 0 c2) := Hn4.out.cell 5
  go_wp2_with fail
  refine HT.out.mono ?_
  rintro e w5 ⟨rfl, hk5⟩
  clear HT m0 m1 m2 m3 m4 m5
  have Hn5 := Lib.hid (Hn4.out.keep hk5 (fun h => h))
  have HK5 := Lib.hid (HK4.out.trans hk5)
  have HO5 := Lib.hid (HO4.out.keep hk5 (fun _ _ h => h))
  clear hk5
  have z0 : (w5.alloc (.cells #[.int .i64 0, .int .i64 0, .slice none 0 0] 30)).cell? ⟨w5.heap.size, 0, none⟩ = some (.int .i64 0) := (Blk.new w5 30 #[.int .i64 0, .int .i64 0, .slice none 0 0]).cell 0
  have zf0 : (w5.alloc (.cells #[.int .i64 0, .int .i64 0, .slice none 0 0] 30)).frozen? ⟨w5.heap.size, 0, none⟩ = false := (Blk.new w5 30 #[.int .i64 0, .int .i64 0, .slice none 0 0]).frozen 0
  have z1 : (w5.alloc (.cells #[.int .i64 0, .int .i64 0, .slice none 0 0] 30)).cell? ⟨w5.heap.size, 1, none⟩ = some (.int .i64 0) := (Blk.new w5 30 #[.int .i64 0, .int .i64 0, .slice none 0 0]).cell 1
  have zf1 : (w5.alloc (.cells #[.int .i64 0, .int .i64 0, .slice none 0 0] 30)).frozen? ⟨w5.heap.size, 1, none⟩ = false := (Blk.new w5 30 #[.int .i64 0, .int .i64 0, .slice none 0 0]).frozen 1
  have z2 : (w5.alloc (.cells #[.int .i64 0, .int .i64 0, .slice none 0 0] 30)).cell? ⟨w5.heap.size, 2, none⟩ = some (.slice none 0 0) := (Blk.new w5 30 #[.int .i64 0, .int .i64 0, .slice none 0 0]).cell 2
  have zf2 : (w5.alloc (.cells #[.int .i64 0, .int .i64 0, .slice none 0 0] 30)).frozen? ⟨w5.heap.size, 2, none⟩ = false := (Blk.new w5 30 #[.int .i64 0, .int .i64 0, .slice none 0 0]).frozen 2
  go_upto_region 4 with (fail)
  clear z0 zf0 z1 zf1 z2 zf2
  obtain ⟨w6, hw6⟩ : ∃ V : World, w5.alloc (.cells #[.int .i64 (-1), .int .i64 9, .slice none 0 0] 30) = V := ⟨_, rfl⟩
  have k6 : Keep Never w5 w6 := (by rw [← hw6]; exact (Keep.refl _ _).alloc _)
  have B6 := Blk.new w5 30 #[.int .i64 (-1), .int .i64 9, .slice none 0 0]
  rw [hw6] at B6 ⊢
  obtain ⟨bx, hbx⟩ : ∃ q, w5.heap.size = q := ⟨_, rfl⟩
  rw [hbx] at B6 ⊢
  have Hn6 := Lib.hid (Hn5.out.keep k6 (fun h => h))
  have HK6 := Lib.hid (HK5.out.trans k6)
  have HO6 := Lib.hid (HO5.out.keep k6 (fun _ _ h => h))
  have n1 : w6.cell? ⟨bn, 1, none⟩ = some (.int .i64 5) := Hn6.out.cell 1
  have n2 : w6.cell? ⟨bn, 2, none⟩ = some (.int .i64 9) := Hn6.out.cell 2
  have x1 : w6.cell? ⟨bx, 1, none⟩ = some (.int .i64 9) := B6.cell 1
  clear k6 B6 hw6 hbx
  have HXs : Hid ((encN (1, 5, 9, 0, [], [])).map u8v = [1, 0, 0, 5, 0, 0, 0, 9, 0, 0, 0, 0, 0, 0, 0, 0].map u8v) := Lib.hid (by rw [ex_enc])
  have hcap : 16 ≤ ce := HO6.out.cap_le
  have hq : ∀ w, (Instr.slice 46 (.slice Ae 16 ce) none (some (.int .i64 8)) none).run Tryz.prog w = .ok (.slice Ae 8 ce) w := fun w => run_front20 (P := Tryz.prog) Tryz.underlying46 Tryz.sizeOf5 Ae 16 ce 8 (by omega) hcap w
  have hc8 := run_str (P := Tryz.prog) (src := 46) (dst := 9) Tryz.underlying46 Tryz.underlying5 Tryz.underlying9 (l := [1, 0, 0, 5, 0, 0, 0, 9]) (by have h := HO6.out.rd; rw [HXs.out] at h; exact h.front (k := 8) (by omega)) (by decide) ce
  rw [show strOf [1, 0, 0, 5, 0, 0, 0, 9] = { data := #[1, 0, 0, 5, 0, 0, 0, 9] } from rfl] at hc8
  clear hcap
  go_wp2_with fail
  go_ret
  exact ⟨rfl, HK6.out⟩


end Go.Proofs.YtpahfobijmmmmaaGreat

namespace Go.Proofs.YtpahfobijmmmmaaGreat
open Go.RowKit

set_option maxHeartbeats 2000000 in
set_option maxRecDepth 100000 in
theorem locks20_any (l m : List Sp) (A A' : Option Addr) (n n' c c' B B' : Nat) (w : World) (hr : Rd w B 3 A n (spCells l)) (hr' : Rd w B' 3 A' n' (spCells m)) (hn : n ≤ 100000000000) (hn' : n' ≤ 100000000000) :
    Calls Tryz.prog 9 #[.slice A n c, .slice A' n' c'] w fun e w' => e = .returned (.bool (decide (l = m))) ∧ Keep Never w w' := by
  have Hl := Lib.hid hr.sp_len
  have Hm := Lib.hid hr'.sp_len
  have Hr := Lib.hid hr
  have Hr' := Lib.hid hr'
  clear hr hr'
  by_cases hne : n = n'
  · subst hne
    go_enter Tryz.func9, Tryz.ntmps9
    go_wp2_with fail
    go_loopw [5] (fun i wr => ∃ k : Nat, k ≤ n ∧ i = .int .i64 k ∧ Hid (Keep Never w wr ∧ l.take k = m.take k)) (fun i _ => n - (intOf i).toNat)
    case atStart => exact ⟨0, by omega, rfl, Keep.refl _ _, by simp⟩
    case round =>
      obtain ⟨k, hk, rfl, HH⟩ := hrel
      by_cases h0 : k < n
      · obtain ⟨ad, x, hA, _, hx, c0, c1, c2⟩ := (Hr.out.keep HH.out.1 (fun _ h => h.elim)).sp h0
        obtain ⟨ad', y, hA', _, hy, d0, d1, d2⟩ := (Hr'.out.keep HH.out.1 (fun _ h => h.elim)).sp h0
        subst hA
        subst hA'
        obtain ⟨x1, x2, x3⟩ := x
        obtain ⟨y1, y2, y3⟩ := y
        simp only at c0 c1 c2 d0 d1 d2
        have HX := Lib.hid hx
        have HY := Lib.hid hy
        have hki : (k : Int) < (n : Int) := by omega
        have hk00 : (0 : Int) ≤ (k : Int) := by omega
        clear hx hy
        have htx : Hid (l.take (k + 1) = l.take k ++ [(x1, x2, x3)]) := by
          obtain ⟨h2, h3⟩ := List.getElem?_eq_some_iff.1 HX.out
          show _ = _
          rw [List.take_succ_eq_append_getElem h2, h3]
        have hty : Hid (m.take (k + 1) = m.take k ++ [(y1, y2, y3)]) := by
          obtain ⟨h2, h3⟩ := List.getElem?_eq_some_iff.1 HY.out
          show _ = _
          rw [List.take_succ_eq_append_getElem h2, h3]
        by_cases hxy : x1 = y1 ∧ x2 = y2 ∧ x3 = y3
        · obtain ⟨rfl, rfl, rfl⟩ := hxy
          go_wp2_with fail
          go_quiet (fail)
          go_wp2_with fail
          go_roundw
          case rel => exact ⟨k + 1, by omega, by go_num, HH.out.1.drewN _, by rw [htx.out, hty.out, HH.out.2]⟩
          case measure => simp [intOf]; try omega
        · have hb : (x1 == y1) = false ∨ ((x1 == y1) = true ∧ (x2 == y2) = false) ∨ ((x1 == y1) = true ∧ (x2 == y2) = true ∧ (x3 == y3) = false) := by
            by_cases h : x1 = y1
            · right
              by_cases h2 : x2 = y2
              · right; exact ⟨by simpa using h, by simpa using h2, by simp; exact fun h' => hxy ⟨h, h2, h'⟩⟩
              · left; exact ⟨by simpa using h, by simpa using h2⟩
            · exact .inl (by simpa using h)
          have hne : Hid (decide (l = m) = false) := by
            show _ = _
            rw [decide_eq_false_iff_not]
            intro e
            have h1 := HX.out
            rw [e, HY.out] at h1
            injection h1 with h1
            injection h1 with h1 h2
            injection h2 with h2 h3
            exact hxy ⟨h1.symm, h2.symm, h3.symm⟩
          clear hxy
          rcases hb with hb | ⟨hb, hb2⟩ | ⟨hb, hb2, hb3⟩
          all_goals
            go_wp2_with fail
            go_quiet (fail)
            go_wp2_with fail
            go_ret
            exact ⟨by rw [hne.out]; rfl, HH.out.1.drewN _⟩
      · obtain rfl : k = n := by omega
        have he : Hid (decide (l = m) = true) := by
          show _ = _
          rw [decide_eq_true_iff]
          have := HH.out.2
          rwa [List.take_of_length_le (by rw [Hl.out]; exact Nat.le_refl _), List.take_of_length_le (by rw [Hm.out]; exact Nat.le_refl _)] at this
        go_wp2_with fail
        go_ret
        exact ⟨by rw [he.out]; rfl, HH.out.1⟩
  · have he : Hid (decide (l = m) = false) := by
      show _ = _
      rw [decide_eq_false_iff_not]
      intro e
      have h1 := Hl.out
      rw [e, Hm.out] at h1
      exact hne h1.symm
    have hb : ((n : Int) == (n' : Int)) = false := by simp; omega
    clear hne
    go_enter Tryz.func9, Tryz.ntmps9
    go_wp2_with fail
    go_ret
    exact ⟨by rw [he.out]; rfl, Keep.refl _ _⟩

end Go.Proofs.YtpahfobijmmmmaaGreat
