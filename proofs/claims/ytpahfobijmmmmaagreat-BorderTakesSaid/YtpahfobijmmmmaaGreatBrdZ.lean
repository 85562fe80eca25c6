/- Chapter 20 (border): Use; BorderTakes. -/
import Derived.Test.YtpahfobijmmmmaaGreatBrdY
import Derived.Test.YtpahfobijmmmmaaGreatBdBrdK
import Derived.Test.YtpahfobijmmmmaaGreatTopO
import Derived.Test.YtpahfobijmmmmaaGreatBdTopP
import Derived.Test.YtpahfobijmmmmaaGreatBdRf13C
namespace Go.Proofs.YtpahfobijmmmmaaGreat
open Go.RowKit

def tickB (n : Int) : Bool := decide (0 ≤ n) && decide (n ≤ 268435456)
/-- may a lent lock be used for the train? -/
def mayUse (t : Tp) (train now skew : Int) (h : Len) : Bool := (rtM t.2.2.2 h.1.1).isSome && (h.1.2.1 == train) && decide (wrap64 (wrap64 (now + ((rtM t.2.2.2 h.1.1).getD (0, [], 0, 0)).2.2.2) + skew) ≤ h.2)
def useM (t : Tp) (x : Bdr) (train now skew : Int) : List Lok := if rightX x = true ∧ checkM t = 0 ∧ tickB now = true ∧ tickB skew = true then (x.2.2.filter (mayUse t train now skew)).map Prod.fst else []
/-- what Use answers: its row is new -/
def UsRet (L : List Lok) (w : World) (e : Ending) (w' : World) : Prop := ∃ A n c, e = .returned (.slice A n c) ∧ Own w' w.heap.size 57 3 A n c (spCells L) ∧ Keep Never w w'
theorem use_take {l : List Len} {k : Nat} {s : Len} (h : l[k]? = some s) (p : Len → Bool) : ((l.take (k + 1)).filter p).map Prod.fst = ((l.take k).filter p).map Prod.fst ++ (if p s = true then [s.1] else []) := by
  rw [filter_takeT h, List.map_append]
  split <;> rfl
set_option maxHeartbeats 2000000 in
set_option maxRecDepth 100000 in
theorem tick20_any (n : Int) (w : World) :
    Calls Tryz.prog 23 #[.int .i64 n] w (fun e w' => e = .returned (.bool (tickB n)) ∧ Keep Never w w') := by
  by_cases g0 : 0 ≤ n
  · have t0 : decide (n ≥ 0) = true := by simpa using g0
    by_cases g1 : n ≤ 268435456
    · have t1 : decide (n ≤ 268435456) = true := decide_eq_true g1
      have HF : Hid (tickB n = true) := Lib.hid (by unfold tickB; simp [g0, g1])
      clear g0 g1
      go_enter Tryz.func23, Tryz.ntmps23
      go_wp2_with fail
      go_ret
      exact ⟨by rw [HF.out]; rfl, Keep.refl _ _⟩
    · have t1 : decide (n ≤ 268435456) = false := decide_eq_false g1
      have HF : Hid (tickB n = false) := Lib.hid (by unfold tickB; simp [g1])
      clear g0 g1
      go_enter Tryz.func23, Tryz.ntmps23
      go_wp2_with fail
      go_ret
      exact ⟨by rw [HF.out]; rfl, Keep.refl _ _⟩
  · have t0 : decide (n ≥ 0) = false := by simpa using g0
    have HF : Hid (tickB n = false) := Lib.hid (by unfold tickB; simp [g0])
    clear g0
    go_enter Tryz.func23, Tryz.ntmps23
    go_wp2_with fail
    go_ret
    exact ⟨by rw [HF.out]; rfl, Keep.refl _ _⟩

set_option maxHeartbeats 8000000 in
set_option maxRecDepth 100000 in
theorem use20_any (x : TA) (t : Tp) (sn gt : Int) (A : Option Addr) (n c B : Nat) (l : List Len) (train now skew : Int) (w : World) (ht : TpAt w B x t) (hs : TpSmall x t) (hx : LeAt w B A n c l) (hn : n ≤ 1000000) (hB : B ≤ w.heap.size) (hsn : -9223372036854775808 ≤ sn ∧ sn ≤ 9223372036854775807) (hgt : -9223372036854775808 ≤ gt ∧ gt ≤ 9223372036854775807) :
    Calls Tryz.prog 10 #[.agg x.cs, .agg #[.int .i64 sn, .int .i64 gt, .slice A n c], .int .i64 train, .int .i64 now, .int .i64 skew] w (UsRet (useM t (sn, gt, l) train now skew) w) := by
  have HR : Hid (∀ V, Keep Never w V → Calls Tryz.prog 14 #[.agg #[.int .i64 sn, .int .i64 gt, .slice A n c]] V fun e w' => e = .returned (.bool (rightX (sn, gt, l))) ∧ Keep Never V w') := Lib.hid (fun V hV => right20_any sn gt A n c B l V (hx.keep hV) hsn hgt (by omega))
  have HCk : Hid (∀ V, Keep Never w V → Calls Tryz.prog 24 #[.agg x.cs] V fun e w' => e = .returned (.int .i64 (checkM t)) ∧ Keep Never V w') := Lib.hid (fun V hV => check_any x t B V (ht.keep hV) hs (Nat.le_trans hB hV.size))
  have HRt : Hid (∀ r V, Keep Never w V → Calls Tryz.prog 25 #[.agg x.cs, .int .i64 r] V (RtRet (rtM t.2.2.2 r) V)) := Lib.hid (fun r V hV => route_any x t B r V (ht.keep hV) hs.r hs.p (Nat.le_trans hB hV.size))
  have HTc : Hid (∀ n V, Calls Tryz.prog 23 #[.int .i64 n] V fun e w' => e = .returned (.bool (tickB n)) ∧ Keep Never V w') := Lib.hid (fun n V => tick20_any n V)
  have eg := enters_of Tryz.func23 (by kernel_rfl) rfl
  have HLx := Lib.hid hx
  have HLn : Hid (l.length = n) := Lib.hid hx.len
  have Hn := Lib.hid hn
  have HNo : Hid ((rightX (sn, gt, l) = true ∧ checkM t = 0 ∧ tickB now = true ∧ tickB skew = true → False) → useM t (sn, gt, l) train now skew = []) := Lib.hid (fun h => by unfold useM; rw [if_neg h])
  have HYs : Hid (rightX (sn, gt, l) = true ∧ checkM t = 0 ∧ tickB now = true ∧ tickB skew = true → useM t (sn, gt, l) train now skew = (l.filter (mayUse t train now skew)).map Prod.fst) := Lib.hid (fun h => by unfold useM; rw [if_pos h])
  obtain ⟨Ae, ne, ce, Aj, nj, cj, Ab, nb, cb, Ar, nr, cr⟩ := x
  simp only [TA.cs] at HCk HRt ⊢
  clear hx ht hs hB hn hsn hgt
  obtain ⟨w1, hw1⟩ : ∃ V : World, w.alloc (.cells #[.slice Ae ne ce, .slice Aj nj cj, .slice Ab nb cb, .slice Ar nr cr] 27) = V := ⟨_, rfl⟩
  have zw1 : w1.heap.size = w.heap.size + 1 := by rw [← hw1]; simp
  have kw1 : Keep Never w w1 := by rw [← hw1]; exact (Keep.refl _ _).alloc _
  have bw1 := Blk.new w 27 #[.slice Ae ne ce, .slice Aj nj cj, .slice Ab nb cb, .slice Ar nr cr]
  rw [hw1] at bw1
  obtain ⟨w2, hw2⟩ : ∃ V : World, w1.alloc (.cells #[.int .i64 sn, .int .i64 gt, .slice A n c] 30) = V := ⟨_, rfl⟩
  have kw2 : Keep Never w1 w2 := by rw [← hw2]; exact (Keep.refl _ _).alloc _
  have bw2 := Blk.new w1 30 #[.int .i64 sn, .int .i64 gt, .slice A n c]
  rw [hw2, zw1] at bw2
  have HB1 := Lib.hid (bw1.keep kw2 (fun h => h))
  have HB2 := Lib.hid bw2
  have HK := Lib.hid (kw1.trans kw2)
  clear kw1 kw2 bw1 bw2
  obtain ⟨rx, hrx⟩ : ∃ y, rightX (sn, gt, l) = y := ⟨_, rfl⟩
  rw [hrx] at HR
  have HRx := Lib.hid hrx
  clear hrx
  have x0 : w2.cell? ⟨w.heap.size + 1, 0, none⟩ = some (.int .i64 sn) := HB2.out.cell 0
  have x1 : w2.cell? ⟨w.heap.size + 1, 1, none⟩ = some (.int .i64 gt) := HB2.out.cell 1
  have x2 : w2.cell? ⟨w.heap.size + 1, 2, none⟩ = some (.slice A n c) := HB2.out.cell 2
  go_enter Tryz.func10, Tryz.ntmps10
  go_wp2_with fail
  refine (HR.out _ HK.out).mono ?_
  rintro e w3 ⟨rfl, hk3⟩
  have HK3 := Lib.hid (HK.out.trans hk3)
  have HB13 := Lib.hid (HB1.out.keep hk3 (fun h => h))
  have HB23 := Lib.hid (HB2.out.keep hk3 (fun h => h))
  clear hk3 HR x0 x1 x2 hw1 hw2
  cases rx with
  | false =>
    have HF := Lib.hid (HNo.out (fun h => Bool.false_ne_true (HRx.out.symm.trans h.1)))
    go_wp2_with fail
    go_ret
    exact ⟨none, 0, 0, rfl, by rw [HF.out]; exact Own.nil _ _ _ _, HK3.out⟩
  | true =>
  have t0 : w3.cell? ⟨w.heap.size, 0, none⟩ = some (.slice Ae ne ce) := HB13.out.cell 0
  have t1 : w3.cell? ⟨w.heap.size, 1, none⟩ = some (.slice Aj nj cj) := HB13.out.cell 1
  have t2 : w3.cell? ⟨w.heap.size, 2, none⟩ = some (.slice Ab nb cb) := HB13.out.cell 2
  have t3 : w3.cell? ⟨w.heap.size, 3, none⟩ = some (.slice Ar nr cr) := HB13.out.cell 3
  go_wp2_with fail
  refine (HCk.out _ HK3.out).mono ?_
  rintro e w4 ⟨rfl, hk4⟩
  have HK4 := Lib.hid (HK3.out.trans hk4)
  have HB14 := Lib.hid (HB13.out.keep hk4 (fun h => h))
  have HB24 := Lib.hid (HB23.out.keep hk4 (fun h => h))
  clear hk4 HCk t0 t1 t2 t3
  obtain ⟨er, her⟩ : ∃ y, checkM t = y := ⟨_, rfl⟩
  have HEr := Lib.hid her
  rw [her]
  clear her
  by_cases ge : er = 0
  case neg =>
    have te : (er != 0) = true := by simpa using ge
    have HF := Lib.hid (HNo.out (fun h => ge (HEr.out.symm.trans h.2.1)))
    clear ge
    go_wp2_with fail
    go_ret
    exact ⟨none, 0, 0, rfl, by rw [HF.out]; exact Own.nil _ _ _ _, HK4.out⟩
  case pos =>
  subst ge
  have te : ((0 : Int) != 0) = false := by decide
  go_wp2_with fail
  refine (HTc.out now _).mono ?_
  rintro e w5 ⟨rfl, hk⟩
  have HK5 := Lib.hid (HK4.out.trans hk)
  have HB15 := Lib.hid (HB14.out.keep hk (fun h => h))
  have HB25 := Lib.hid (HB24.out.keep hk (fun h => h))
  clear hk
  obtain ⟨tk1, htk1⟩ : ∃ y, tickB now = y := ⟨_, rfl⟩
  have HT1 := Lib.hid htk1
  rw [htk1]
  clear htk1
  cases tk1 with
  | false =>
    have HF := Lib.hid (HNo.out (fun h => Bool.false_ne_true (HT1.out.symm.trans h.2.2.1)))
    go_wp2_with fail
    go_ret
    exact ⟨none, 0, 0, rfl, by rw [HF.out]; exact Own.nil _ _ _ _, HK5.out⟩
  | true =>
  go_wp2_with fail
  refine (HTc.out skew _).mono ?_
  rintro e w6 ⟨rfl, hk⟩
  have HK6 := Lib.hid (HK5.out.trans hk)
  have HB16 := Lib.hid (HB15.out.keep hk (fun h => h))
  have HB26 := Lib.hid (HB25.out.keep hk (fun h => h))
  clear hk
  obtain ⟨tk2, htk2⟩ : ∃ y, tickB skew = y := ⟨_, rfl⟩
  have HT2 := Lib.hid htk2
  rw [htk2]
  clear htk2
  cases tk2 with
  | false =>
    have HF := Lib.hid (HNo.out (fun h => Bool.false_ne_true (HT2.out.symm.trans h.2.2.2)))
    go_wp2_with fail
    go_ret
    exact ⟨none, 0, 0, rfl, by rw [HF.out]; exact Own.nil _ _ _ _, HK6.out⟩
  | true =>
  have HEq := Lib.hid (HYs.out ⟨HRx.out, HEr.out, HT1.out, HT2.out⟩)
  clear te HNo HYs
  have x0 : w6.cell? ⟨w.heap.size + 1, 0, none⟩ = some (.int .i64 sn) := HB26.out.cell 0
  have x1 : w6.cell? ⟨w.heap.size + 1, 1, none⟩ = some (.int .i64 gt) := HB26.out.cell 1
  have x2 : w6.cell? ⟨w.heap.size + 1, 2, none⟩ = some (.slice A n c) := HB26.out.cell 2
  go_wp2_with fail
  clear x0 x1 x2
  go_loopw [12, 40] (fun s12 si wr => ∃ (k no co : Nat) (Ao : Option Addr), k ≤ n ∧ s12 = .slice Ao no co ∧ si = .int .i64 k ∧ no ≤ k ∧ Hid (Keep Never w wr ∧ Blk wr w.heap.size 27 #[.slice Ae ne ce, .slice Aj nj cj, .slice Ab nb cb, .slice Ar nr cr] ∧ Blk wr (w.heap.size + 1) 30 #[.int .i64 sn, .int .i64 gt, .slice A n c] ∧ Own wr w.heap.size 57 3 Ao no co (spCells (((l.take k).filter (mayUse t train now skew)).map Prod.fst)))) (fun _ i _ => n - (intOf i).toNat)
  case atStart => exact ⟨0, 0, 0, none, by omega, rfl, rfl, by omega, Lib.hid ⟨HK6.out, HB16.out, HB26.out, Own.nil _ _ _ _⟩⟩
  case round =>
    obtain ⟨k, no, co, Ao, hk, rfl, rfl, hno, HH⟩ := hrel
    have HKr := Lib.hid HH.out.1
    have HB1r := Lib.hid HH.out.2.1
    have HB2r := Lib.hid HH.out.2.2.1
    have HOr := Lib.hid HH.out.2.2.2
    clear HH
    have hn6 : n ≤ 1000000 := Hn.out
    have x0 : wr.cell? ⟨w.heap.size + 1, 0, none⟩ = some (.int .i64 sn) := HB2r.out.cell 0
    have x1 : wr.cell? ⟨w.heap.size + 1, 1, none⟩ = some (.int .i64 gt) := HB2r.out.cell 1
    have x2 : wr.cell? ⟨w.heap.size + 1, 2, none⟩ = some (.slice A n c) := HB2r.out.cell 2
    by_cases h0 : k < n
    · have hki : (k : Int) < (n : Int) := by omega
      obtain ⟨ad, s, hA, hab, hs, d0, d1, d2, d3⟩ := (HLx.out.keep HKr.out).rd.le h0
      subst hA
      have HTk := Lib.hid (use_take hs (mayUse t train now skew))
      clear hs hab
      obtain ⟨⟨s1, s2, s3⟩, s4⟩ := s
      simp only at d0 d1 d2 d3 HTk
      have z0 : (wr.alloc (.cells #[.int .i64 0, .int .i64 0, .int .i64 0, .int .i64 0] 59)).cell? ⟨wr.heap.size, 0, none⟩ = some (.int .i64 0) := (Blk.new wr 59 #[.int .i64 0, .int .i64 0, .int .i64 0, .int .i64 0]).cell 0
      have zf0 := (Blk.new wr 59 #[.int .i64 0, .int .i64 0, .int .i64 0, .int .i64 0]).frozen 0
      have z1 : (wr.alloc (.cells #[.int .i64 0, .int .i64 0, .int .i64 0, .int .i64 0] 59)).cell? ⟨wr.heap.size, 1, none⟩ = some (.int .i64 0) := (Blk.new wr 59 #[.int .i64 0, .int .i64 0, .int .i64 0, .int .i64 0]).cell 1
      have zf1 := (Blk.new wr 59 #[.int .i64 0, .int .i64 0, .int .i64 0, .int .i64 0]).frozen 1
      have z2 : (wr.alloc (.cells #[.int .i64 0, .int .i64 0, .int .i64 0, .int .i64 0] 59)).cell? ⟨wr.heap.size, 2, none⟩ = some (.int .i64 0) := (Blk.new wr 59 #[.int .i64 0, .int .i64 0, .int .i64 0, .int .i64 0]).cell 2
      have zf2 := (Blk.new wr 59 #[.int .i64 0, .int .i64 0, .int .i64 0, .int .i64 0]).frozen 2
      have z3 : (wr.alloc (.cells #[.int .i64 0, .int .i64 0, .int .i64 0, .int .i64 0] 59)).cell? ⟨wr.heap.size, 3, none⟩ = some (.int .i64 0) := (Blk.new wr 59 #[.int .i64 0, .int .i64 0, .int .i64 0, .int .i64 0]).cell 3
      have zf3 := (Blk.new wr 59 #[.int .i64 0, .int .i64 0, .int .i64 0, .int .i64 0]).frozen 3
      go_upto_region 8 with (fail)
      clear z0 z1 z2 z3 zf0 zf1 zf2 zf3 d0 d1 d2 d3 x0 x1 x2
      obtain ⟨wb, hwb⟩ : ∃ V : World, wr.alloc (.cells #[.int .i64 s1, .int .i64 s2, .int .i64 s3, .int .i64 s4] 59) = V := ⟨_, rfl⟩
      have kb : Keep Never wr wb := (by rw [← hwb]; exact (Keep.refl _ _).alloc _)
      have bb := Blk.new wr 59 #[.int .i64 s1, .int .i64 s2, .int .i64 s3, .int .i64 s4]
      rw [hwb] at bb ⊢
      obtain ⟨bl, hbl⟩ : ∃ q, wr.heap.size = q := ⟨_, rfl⟩
      rw [hbl] at bb ⊢
      have HKb := Lib.hid (HKr.out.trans kb)
      have HB1b := Lib.hid (HB1r.out.keep kb (fun h => h))
      have HB2b := Lib.hid (HB2r.out.keep kb (fun h => h))
      have HOb := Lib.hid (HOr.out.keep kb (fun _ _ h => h))
      have HLb := Lib.hid bb
      clear kb hwb hbl bb
      have t0 : wb.cell? ⟨w.heap.size, 0, none⟩ = some (.slice Ae ne ce) := HB1b.out.cell 0
      have t1 : wb.cell? ⟨w.heap.size, 1, none⟩ = some (.slice Aj nj cj) := HB1b.out.cell 1
      have t2 : wb.cell? ⟨w.heap.size, 2, none⟩ = some (.slice Ab nb cb) := HB1b.out.cell 2
      have t3 : wb.cell? ⟨w.heap.size, 3, none⟩ = some (.slice Ar nr cr) := HB1b.out.cell 3
      have y0 : wb.cell? ⟨bl, 0, none⟩ = some (.int .i64 s1) := HLb.out.cell 0
      have HC := Lib.hid (HRt.out s1 wb HKb.out)
      unfold RtRet at HC
      obtain ⟨o, ho⟩ : ∃ o, rtM t.2.2.2 s1 = o := ⟨_, rfl⟩
      have HMu : Hid (mayUse t train now skew ((s1, s2, s3), s4) = (o.isSome && (s2 == train) && decide (wrap64 (wrap64 (now + (o.getD (0, [], 0, 0)).2.2.2) + skew) ≤ s4))) := Lib.hid (by unfold mayUse; simp only; rw [ho])
      rw [ho] at HC
      clear ho
      go_wp2_with fail
      refine HC.out.mono ?_
      rintro e w7 ⟨A7, n7, c7, rfl, _, hk7⟩
      have HK7 := Lib.hid (HKb.out.trans hk7)
      have HB17 := Lib.hid (HB1b.out.keep hk7 (fun h => h))
      have HB27 := Lib.hid (HB2b.out.keep hk7 (fun h => h))
      have HO7 := Lib.hid (HOb.out.keep hk7 (fun _ _ h => h))
      have HL7 := Lib.hid (HLb.out.keep hk7 (fun h => h))
      clear hk7 HC t0 t1 t2 t3 y0
      obtain ⟨q0, hq0⟩ : ∃ z, (o.getD (0, [], 0, 0)).1 = z := ⟨_, rfl⟩
      obtain ⟨q2, hq2⟩ : ∃ z, (o.getD (0, [], 0, 0)).2.2.1 = z := ⟨_, rfl⟩
      obtain ⟨tm, htm⟩ : ∃ z, (o.getD (0, [], 0, 0)).2.2.2 = z := ⟨_, rfl⟩
      obtain ⟨ok, hok⟩ : ∃ z, o.isSome = z := ⟨_, rfl⟩
      rw [htm, hok] at HMu
      rw [hq0, hq2, htm, hok]
      clear hq0 hq2 htm hok
      have z0 : (w7.alloc (.cells #[.int .i64 0, .slice none 0 0, .int .i64 0, .int .i64 0] 53)).cell? ⟨w7.heap.size, 0, none⟩ = some (.int .i64 0) := (Blk.new w7 53 #[.int .i64 0, .slice none 0 0, .int .i64 0, .int .i64 0]).cell 0
      have zf0 := (Blk.new w7 53 #[.int .i64 0, .slice none 0 0, .int .i64 0, .int .i64 0]).frozen 0
      have z1 : (w7.alloc (.cells #[.int .i64 0, .slice none 0 0, .int .i64 0, .int .i64 0] 53)).cell? ⟨w7.heap.size, 1, none⟩ = some (.slice none 0 0) := (Blk.new w7 53 #[.int .i64 0, .slice none 0 0, .int .i64 0, .int .i64 0]).cell 1
      have zf1 := (Blk.new w7 53 #[.int .i64 0, .slice none 0 0, .int .i64 0, .int .i64 0]).frozen 1
      have z2 : (w7.alloc (.cells #[.int .i64 0, .slice none 0 0, .int .i64 0, .int .i64 0] 53)).cell? ⟨w7.heap.size, 2, none⟩ = some (.int .i64 0) := (Blk.new w7 53 #[.int .i64 0, .slice none 0 0, .int .i64 0, .int .i64 0]).cell 2
      have zf2 := (Blk.new w7 53 #[.int .i64 0, .slice none 0 0, .int .i64 0, .int .i64 0]).frozen 2
      have z3 : (w7.alloc (.cells #[.int .i64 0, .slice none 0 0, .int .i64 0, .int .i64 0] 53)).cell? ⟨w7.heap.size, 3, none⟩ = some (.int .i64 0) := (Blk.new w7 53 #[.int .i64 0, .slice none 0 0, .int .i64 0, .int .i64 0]).cell 3
      have zf3 := (Blk.new w7 53 #[.int .i64 0, .slice none 0 0, .int .i64 0, .int .i64 0]).frozen 3
      go_upto_region 9 with (fail)
      clear z0 z1 z2 z3 zf0 zf1 zf2 zf3
      obtain ⟨w8, hw8⟩ : ∃ V : World, w7.alloc (.cells #[.int .i64 q0, .slice A7 n7 c7, .int .i64 q2, .int .i64 tm] 53) = V := ⟨_, rfl⟩
      have k8 : Keep Never w7 w8 := (by rw [← hw8]; exact (Keep.refl _ _).alloc _)
      have b8 := Blk.new w7 53 #[.int .i64 q0, .slice A7 n7 c7, .int .i64 q2, .int .i64 tm]
      rw [hw8] at b8 ⊢
      obtain ⟨br, hbr⟩ : ∃ q, w7.heap.size = q := ⟨_, rfl⟩
      rw [hbr] at b8 ⊢
      have HK8 := Lib.hid (HK7.out.trans k8)
      have HB18 := Lib.hid (HB17.out.keep k8 (fun h => h))
      have HB28 := Lib.hid (HB27.out.keep k8 (fun h => h))
      have HO8 := Lib.hid (HO7.out.keep k8 (fun _ _ h => h))
      have HL8 := Lib.hid (HL7.out.keep k8 (fun h => h))
      clear k8 hw8 hbr
      have r3 : w8.cell? ⟨br, 3, none⟩ = some (.int .i64 tm) := b8.cell 3
      clear b8
      have y0 : w8.cell? ⟨bl, 0, none⟩ = some (.int .i64 s1) := HL8.out.cell 0
      have y1 : w8.cell? ⟨bl, 1, none⟩ = some (.int .i64 s2) := HL8.out.cell 1
      have y2 : w8.cell? ⟨bl, 2, none⟩ = some (.int .i64 s3) := HL8.out.cell 2
      have y3 : w8.cell? ⟨bl, 3, none⟩ = some (.int .i64 s4) := HL8.out.cell 3
      have hcs : mayUse t train now skew ((s1, s2, s3), s4) = true ∧ ok = true ∧ (s2 == train) = true ∧ decide (wrap64 (wrap64 (now + tm) + skew) ≤ s4) = true ∨ mayUse t train now skew ((s1, s2, s3), s4) = false ∧ (ok = false ∨ ok = true ∧ (s2 == train) = false ∨ ok = true ∧ (s2 == train) = true ∧ decide (wrap64 (wrap64 (now + tm) + skew) ≤ s4) = false) := by
        rw [HMu.out]
        cases ok <;> cases (s2 == train) <;> cases decide (wrap64 (wrap64 (now + tm) + skew) ≤ s4) <;> simp
      rcases hcs with ⟨hmu, hc1, hc2, hc3⟩ | ⟨hmu, hcs⟩
      · subst hc1
        have HTn : Hid (((l.take (k + 1)).filter (mayUse t train now skew)).map Prod.fst = ((l.take k).filter (mayUse t train now skew)).map Prod.fst ++ [(s1, s2, s3)]) := Lib.hid (by rw [HTk.out, if_pos hmu])
        have hsz : w.heap.size ≤ (w8.alloc (.cells #[.int .i64 s1, .int .i64 s2, .int .i64 s3] 57)).heap.size := by have := HK8.out.size; simp; omega
        clear hmu HTk HMu
        go_wp2_with (at_builtin; refine wpList_app _ rfl (.tmp 71) (.tmp 74) _ rfl elemLo w.heap.size (A := Ao) (n := no) (c := co) (by go_simp) (HO8.out.alloc _) _ (A' := some ⟨w8.heap.size, 0, none⟩) (m := 1) (c' := 1) (by go_simp) (Rd.of_blk (n := 1) (cs := [.int .i64 s1, .int .i64 s2, .int .i64 s3]) (Blk.new w8 _ _) rfl) (by simp [Value.oneCell']) (by omega) (by unfold maxLen; omega) hsz ?_; intro A5 c5 w16 hown hk hrow; have hk16 : Keep (InRow Ao) w8 w16 := ((Keep.refl (InRow Ao) _).alloc _).trans hk; have HO16 := Lib.hid hown; have HB116 := Lib.hid (HB18.out.keep hk16 (fun h => HO8.out.ne_blk HB18.out (by decide) _ h rfl)); have HB216 := Lib.hid (HB28.out.keep hk16 (fun h => HO8.out.ne_blk HB28.out (by decide) _ h rfl)); have HK16 := Lib.hid (HK8.out.then_ hk16 (fun i hi h => by have := (HO8.out.row h).1; omega)); clear hown hk hrow hk16)
        go_roundw
        case measure => simp [intOf]; try omega
        case rel => exact ⟨k + 1, no + 1, c5, A5, by omega, rfl, by go_num, by omega, Lib.hid ⟨HK16.out, HB116.out, HB216.out, by rw [HTn.out, spCells_app]; exact HO16.out⟩⟩
      · have HTn : Hid (((l.take (k + 1)).filter (mayUse t train now skew)).map Prod.fst = ((l.take k).filter (mayUse t train now skew)).map Prod.fst) := Lib.hid (by rw [HTk.out, if_neg (by rw [hmu]; simp), List.append_nil])
        clear hmu HTk HMu
        rcases hcs with rfl | ⟨rfl, hc2⟩ | ⟨rfl, hc2, hc3⟩
        all_goals
          go_wp2_with fail
          refine ⟨⟨k + 1, no, co, Ao, by omega, rfl, by go_num, by omega, Lib.hid ⟨HK8.out, HB18.out, HB28.out, by rw [HTn.out]; exact HO8.out⟩⟩, ?_⟩
          simp [intOf]; try omega
    · obtain rfl : k = n := by omega
      have hki : ¬ (k : Int) < (k : Int) := by omega
      have HOf : Hid (Own wr w.heap.size 57 3 Ao no co (spCells (useM t (sn, gt, l) train now skew))) := Lib.hid (by have h1 := HOr.out; rw [List.take_of_length_le (by have := HLn.out; omega)] at h1; rw [HEq.out]; exact h1)
      go_wp2_with fail
      go_ret
      exact ⟨Ao, no, co, rfl, HOf.out, HKr.out⟩

set_option maxHeartbeats 8000000 in
set_option maxRecDepth 100000 in
theorem ruse20_any (x : TA) (t : Tp) (sn gt : Int) (A : Option Addr) (n c B : Nat) (l : List Len) (train now skew : Int) (w : World) (ht : TpAt w B x t) (hs : TpSmall x t) (hx : LeAt w B A n c l) (hn : n ≤ 1000000) (hB : B ≤ w.heap.size) :
    Calls Tryz.prog 11 #[.agg x.cs, .agg #[.int .i64 sn, .int .i64 gt, .slice A n c], .int .i64 train, .int .i64 now, .int .i64 skew] w (UsRet (useM t (sn, gt, l) train now skew) w) := by
  have HR : Hid (∀ V, Keep Never w V → Calls Tryz.prog 15 #[.agg #[.int .i64 sn, .int .i64 gt, .slice A n c]] V fun e w' => e = .returned (.bool (rightX (sn, gt, l))) ∧ Keep Never V w') := Lib.hid (fun V hV => rright20_any sn gt A n c B l V (hx.keep hV))
  have HCk : Hid (∀ V, Keep Never w V → Calls Tryz.prog 26 #[.agg x.cs] V fun e w' => e = .returned (.int .i64 (checkM t)) ∧ Keep Never V w') := Lib.hid (fun V hV => rcheck_any x t B V (ht.keep hV) hs (Nat.le_trans hB hV.size))
  have HRt : Hid (∀ r V, Keep Never w V → Calls Tryz.prog 27 #[.agg x.cs, .int .i64 r] V (RtRet (rtM t.2.2.2 r) V)) := Lib.hid (fun r V hV => rrt_any x t B r V (ht.keep hV) hs.r (Nat.le_trans hB hV.size))
  skip
  have HLx := Lib.hid hx
  have HLn : Hid (l.length = n) := Lib.hid hx.len
  have Hn := Lib.hid hn
  have HNo : Hid ((rightX (sn, gt, l) = true ∧ checkM t = 0 ∧ tickB now = true ∧ tickB skew = true → False) → useM t (sn, gt, l) train now skew = []) := Lib.hid (fun h => by unfold useM; rw [if_neg h])
  have HYs : Hid (rightX (sn, gt, l) = true ∧ checkM t = 0 ∧ tickB now = true ∧ tickB skew = true → useM t (sn, gt, l) train now skew = (l.filter (mayUse t train now skew)).map Prod.fst) := Lib.hid (fun h => by unfold useM; rw [if_pos h])
  obtain ⟨Ae, ne, ce, Aj, nj, cj, Ab, nb, cb, Ar, nr, cr⟩ := x
  simp only [TA.cs] at HCk HRt ⊢
  clear hx ht hs hB hn
  obtain ⟨w1, hw1⟩ : ∃ V : World, w.alloc (.cells #[.slice Ae ne ce, .slice Aj nj cj, .slice Ab nb cb, .slice Ar nr cr] 27) = V := ⟨_, rfl⟩
  have zw1 : w1.heap.size = w.heap.size + 1 := by rw [← hw1]; simp
  have kw1 : Keep Never w w1 := by rw [← hw1]; exact (Keep.refl _ _).alloc _
  have bw1 := Blk.new w 27 #[.slice Ae ne ce, .slice Aj nj cj, .slice Ab nb cb, .slice Ar nr cr]
  rw [hw1] at bw1
  obtain ⟨w2, hw2⟩ : ∃ V : World, w1.alloc (.cells #[.int .i64 sn, .int .i64 gt, .slice A n c] 30) = V := ⟨_, rfl⟩
  have kw2 : Keep Never w1 w2 := by rw [← hw2]; exact (Keep.refl _ _).alloc _
  have bw2 := Blk.new w1 30 #[.int .i64 sn, .int .i64 gt, .slice A n c]
  rw [hw2, zw1] at bw2
  have HB1 := Lib.hid (bw1.keep kw2 (fun h => h))
  have HB2 := Lib.hid bw2
  have HK := Lib.hid (kw1.trans kw2)
  clear kw1 kw2 bw1 bw2
  obtain ⟨rx, hrx⟩ : ∃ y, rightX (sn, gt, l) = y := ⟨_, rfl⟩
  rw [hrx] at HR
  have HRx := Lib.hid hrx
  clear hrx
  have x0 : w2.cell? ⟨w.heap.size + 1, 0, none⟩ = some (.int .i64 sn) := HB2.out.cell 0
  have x1 : w2.cell? ⟨w.heap.size + 1, 1, none⟩ = some (.int .i64 gt) := HB2.out.cell 1
  have x2 : w2.cell? ⟨w.heap.size + 1, 2, none⟩ = some (.slice A n c) := HB2.out.cell 2
  go_enter Tryz.func11, Tryz.ntmps11
  go_wp2_with fail
  refine (HR.out _ HK.out).mono ?_
  rintro e w3 ⟨rfl, hk3⟩
  have HK3 := Lib.hid (HK.out.trans hk3)
  have HB13 := Lib.hid (HB1.out.keep hk3 (fun h => h))
  have HB23 := Lib.hid (HB2.out.keep hk3 (fun h => h))
  clear hk3 HR x0 x1 x2 hw1 hw2
  cases rx with
  | false =>
    have HF := Lib.hid (HNo.out (fun h => Bool.false_ne_true (HRx.out.symm.trans h.1)))
    go_wp2_with fail
    go_ret
    exact ⟨none, 0, 0, rfl, by rw [HF.out]; exact Own.nil _ _ _ _, HK3.out⟩
  | true =>
  have t0 : w3.cell? ⟨w.heap.size, 0, none⟩ = some (.slice Ae ne ce) := HB13.out.cell 0
  have t1 : w3.cell? ⟨w.heap.size, 1, none⟩ = some (.slice Aj nj cj) := HB13.out.cell 1
  have t2 : w3.cell? ⟨w.heap.size, 2, none⟩ = some (.slice Ab nb cb) := HB13.out.cell 2
  have t3 : w3.cell? ⟨w.heap.size, 3, none⟩ = some (.slice Ar nr cr) := HB13.out.cell 3
  go_wp2_with fail
  refine (HCk.out _ HK3.out).mono ?_
  rintro e w4 ⟨rfl, hk4⟩
  have HK4 := Lib.hid (HK3.out.trans hk4)
  have HB14 := Lib.hid (HB13.out.keep hk4 (fun h => h))
  have HB24 := Lib.hid (HB23.out.keep hk4 (fun h => h))
  clear hk4 HCk t0 t1 t2 t3
  obtain ⟨er, her⟩ : ∃ y, checkM t = y := ⟨_, rfl⟩
  have HEr := Lib.hid her
  rw [her]
  clear her
  by_cases ge : er = 0
  case neg =>
    have te : (er != 0) = true := by simpa using ge
    have HF := Lib.hid (HNo.out (fun h => ge (HEr.out.symm.trans h.2.1)))
    clear ge
    go_wp2_with fail
    go_ret
    exact ⟨none, 0, 0, rfl, by rw [HF.out]; exact Own.nil _ _ _ _, HK4.out⟩
  case pos =>
  subst ge
  have te : ((0 : Int) != 0) = false := by decide
  by_cases e0 : now < 0
  · have v0 : decide (now < 0) = true := decide_eq_true e0
    have HF := Lib.hid (HNo.out (fun h => by have h1 := h.2.2.1; unfold tickB at h1; simp only [Bool.and_eq_true, decide_eq_true_eq] at h1; omega))
    clear e0
    go_wp2_with fail
    go_ret
    exact ⟨none, 0, 0, rfl, by rw [HF.out]; exact Own.nil _ _ _ _, HK4.out⟩
  have v0 : decide (now < 0) = false := decide_eq_false e0
  by_cases e1 : now > 268435456
  · have v1 : decide (now > 268435456) = true := decide_eq_true e1
    have HF := Lib.hid (HNo.out (fun h => by have h1 := h.2.2.1; unfold tickB at h1; simp only [Bool.and_eq_true, decide_eq_true_eq] at h1; omega))
    clear e0 e1
    go_wp2_with fail
    go_ret
    exact ⟨none, 0, 0, rfl, by rw [HF.out]; exact Own.nil _ _ _ _, HK4.out⟩
  have v1 : decide (now > 268435456) = false := decide_eq_false e1
  by_cases e2 : skew < 0
  · have v2 : decide (skew < 0) = true := decide_eq_true e2
    have HF := Lib.hid (HNo.out (fun h => by have h1 := h.2.2.2; unfold tickB at h1; simp only [Bool.and_eq_true, decide_eq_true_eq] at h1; omega))
    clear e0 e1 e2
    go_wp2_with fail
    go_ret
    exact ⟨none, 0, 0, rfl, by rw [HF.out]; exact Own.nil _ _ _ _, HK4.out⟩
  have v2 : decide (skew < 0) = false := decide_eq_false e2
  by_cases e3 : skew > 268435456
  · have v3 : decide (skew > 268435456) = true := decide_eq_true e3
    have HF := Lib.hid (HNo.out (fun h => by have h1 := h.2.2.2; unfold tickB at h1; simp only [Bool.and_eq_true, decide_eq_true_eq] at h1; omega))
    clear e0 e1 e2 e3
    go_wp2_with fail
    go_ret
    exact ⟨none, 0, 0, rfl, by rw [HF.out]; exact Own.nil _ _ _ _, HK4.out⟩
  have v3 : decide (skew > 268435456) = false := decide_eq_false e3
  have HT1 : Hid (tickB now = true) := Lib.hid (by unfold tickB; simp only [Bool.and_eq_true, decide_eq_true_eq]; omega)
  have HT2 : Hid (tickB skew = true) := Lib.hid (by unfold tickB; simp only [Bool.and_eq_true, decide_eq_true_eq]; omega)
  clear e0 e1 e2 e3
  have HEq := Lib.hid (HYs.out ⟨HRx.out, HEr.out, HT1.out, HT2.out⟩)
  clear te HNo HYs
  have x0 : w4.cell? ⟨w.heap.size + 1, 0, none⟩ = some (.int .i64 sn) := HB24.out.cell 0
  have x1 : w4.cell? ⟨w.heap.size + 1, 1, none⟩ = some (.int .i64 gt) := HB24.out.cell 1
  have x2 : w4.cell? ⟨w.heap.size + 1, 2, none⟩ = some (.slice A n c) := HB24.out.cell 2
  go_wp2_with fail
  clear x0 x1 x2
  go_loopw [12, 13] (fun s12 si wr => ∃ (k no co : Nat) (Ao : Option Addr), k ≤ n ∧ s12 = .slice Ao no co ∧ si = .int .i64 k ∧ no ≤ k ∧ Hid (Keep Never w wr ∧ Blk wr w.heap.size 27 #[.slice Ae ne ce, .slice Aj nj cj, .slice Ab nb cb, .slice Ar nr cr] ∧ Blk wr (w.heap.size + 1) 30 #[.int .i64 sn, .int .i64 gt, .slice A n c] ∧ Own wr w.heap.size 57 3 Ao no co (spCells (((l.take k).filter (mayUse t train now skew)).map Prod.fst)))) (fun _ i _ => n - (intOf i).toNat)
  case atStart => exact ⟨0, 0, 0, none, by omega, rfl, rfl, by omega, Lib.hid ⟨HK4.out, HB14.out, HB24.out, Own.nil _ _ _ _⟩⟩
  case round =>
    obtain ⟨k, no, co, Ao, hk, rfl, rfl, hno, HH⟩ := hrel
    have HKr := Lib.hid HH.out.1
    have HB1r := Lib.hid HH.out.2.1
    have HB2r := Lib.hid HH.out.2.2.1
    have HOr := Lib.hid HH.out.2.2.2
    clear HH
    have hn6 : n ≤ 1000000 := Hn.out
    have x0 : wr.cell? ⟨w.heap.size + 1, 0, none⟩ = some (.int .i64 sn) := HB2r.out.cell 0
    have x1 : wr.cell? ⟨w.heap.size + 1, 1, none⟩ = some (.int .i64 gt) := HB2r.out.cell 1
    have x2 : wr.cell? ⟨w.heap.size + 1, 2, none⟩ = some (.slice A n c) := HB2r.out.cell 2
    by_cases h0 : k < n
    · have hki : (k : Int) < (n : Int) := by omega
      obtain ⟨ad, s, hA, hab, hs, d0, d1, d2, d3⟩ := (HLx.out.keep HKr.out).rd.le h0
      subst hA
      have HTk := Lib.hid (use_take hs (mayUse t train now skew))
      clear hs hab
      obtain ⟨⟨s1, s2, s3⟩, s4⟩ := s
      simp only at d0 d1 d2 d3 HTk
      have z0 : (wr.alloc (.cells #[.int .i64 0, .int .i64 0, .int .i64 0, .int .i64 0] 59)).cell? ⟨wr.heap.size, 0, none⟩ = some (.int .i64 0) := (Blk.new wr 59 #[.int .i64 0, .int .i64 0, .int .i64 0, .int .i64 0]).cell 0
      have zf0 := (Blk.new wr 59 #[.int .i64 0, .int .i64 0, .int .i64 0, .int .i64 0]).frozen 0
      have z1 : (wr.alloc (.cells #[.int .i64 0, .int .i64 0, .int .i64 0, .int .i64 0] 59)).cell? ⟨wr.heap.size, 1, none⟩ = some (.int .i64 0) := (Blk.new wr 59 #[.int .i64 0, .int .i64 0, .int .i64 0, .int .i64 0]).cell 1
      have zf1 := (Blk.new wr 59 #[.int .i64 0, .int .i64 0, .int .i64 0, .int .i64 0]).frozen 1
      have z2 : (wr.alloc (.cells #[.int .i64 0, .int .i64 0, .int .i64 0, .int .i64 0] 59)).cell? ⟨wr.heap.size, 2, none⟩ = some (.int .i64 0) := (Blk.new wr 59 #[.int .i64 0, .int .i64 0, .int .i64 0, .int .i64 0]).cell 2
      have zf2 := (Blk.new wr 59 #[.int .i64 0, .int .i64 0, .int .i64 0, .int .i64 0]).frozen 2
      have z3 : (wr.alloc (.cells #[.int .i64 0, .int .i64 0, .int .i64 0, .int .i64 0] 59)).cell? ⟨wr.heap.size, 3, none⟩ = some (.int .i64 0) := (Blk.new wr 59 #[.int .i64 0, .int .i64 0, .int .i64 0, .int .i64 0]).cell 3
      have zf3 := (Blk.new wr 59 #[.int .i64 0, .int .i64 0, .int .i64 0, .int .i64 0]).frozen 3
      go_upto_region 9 with (fail)
      clear z0 z1 z2 z3 zf0 zf1 zf2 zf3 d0 d1 d2 d3 x0 x1 x2
      obtain ⟨wb, hwb⟩ : ∃ V : World, wr.alloc (.cells #[.int .i64 s1, .int .i64 s2, .int .i64 s3, .int .i64 s4] 59) = V := ⟨_, rfl⟩
      have kb : Keep Never wr wb := (by rw [← hwb]; exact (Keep.refl _ _).alloc _)
      have bb := Blk.new wr 59 #[.int .i64 s1, .int .i64 s2, .int .i64 s3, .int .i64 s4]
      rw [hwb] at bb ⊢
      obtain ⟨bl, hbl⟩ : ∃ q, wr.heap.size = q := ⟨_, rfl⟩
      rw [hbl] at bb ⊢
      have HKb := Lib.hid (HKr.out.trans kb)
      have HB1b := Lib.hid (HB1r.out.keep kb (fun h => h))
      have HB2b := Lib.hid (HB2r.out.keep kb (fun h => h))
      have HOb := Lib.hid (HOr.out.keep kb (fun _ _ h => h))
      have HLb := Lib.hid bb
      clear kb hwb hbl bb
      have t0 : wb.cell? ⟨w.heap.size, 0, none⟩ = some (.slice Ae ne ce) := HB1b.out.cell 0
      have t1 : wb.cell? ⟨w.heap.size, 1, none⟩ = some (.slice Aj nj cj) := HB1b.out.cell 1
      have t2 : wb.cell? ⟨w.heap.size, 2, none⟩ = some (.slice Ab nb cb) := HB1b.out.cell 2
      have t3 : wb.cell? ⟨w.heap.size, 3, none⟩ = some (.slice Ar nr cr) := HB1b.out.cell 3
      have y0 : wb.cell? ⟨bl, 0, none⟩ = some (.int .i64 s1) := HLb.out.cell 0
      have HC := Lib.hid (HRt.out s1 wb HKb.out)
      unfold RtRet at HC
      obtain ⟨o, ho⟩ : ∃ o, rtM t.2.2.2 s1 = o := ⟨_, rfl⟩
      have HMu : Hid (mayUse t train now skew ((s1, s2, s3), s4) = (o.isSome && (s2 == train) && decide (wrap64 (wrap64 (now + (o.getD (0, [], 0, 0)).2.2.2) + skew) ≤ s4))) := Lib.hid (by unfold mayUse; simp only; rw [ho])
      rw [ho] at HC
      clear ho
      go_wp2_with fail
      refine HC.out.mono ?_
      rintro e w7 ⟨A7, n7, c7, rfl, _, hk7⟩
      have HK7 := Lib.hid (HKb.out.trans hk7)
      have HB17 := Lib.hid (HB1b.out.keep hk7 (fun h => h))
      have HB27 := Lib.hid (HB2b.out.keep hk7 (fun h => h))
      have HO7 := Lib.hid (HOb.out.keep hk7 (fun _ _ h => h))
      have HL7 := Lib.hid (HLb.out.keep hk7 (fun h => h))
      clear hk7 HC t0 t1 t2 t3 y0
      obtain ⟨q0, hq0⟩ : ∃ z, (o.getD (0, [], 0, 0)).1 = z := ⟨_, rfl⟩
      obtain ⟨q2, hq2⟩ : ∃ z, (o.getD (0, [], 0, 0)).2.2.1 = z := ⟨_, rfl⟩
      obtain ⟨tm, htm⟩ : ∃ z, (o.getD (0, [], 0, 0)).2.2.2 = z := ⟨_, rfl⟩
      obtain ⟨ok, hok⟩ : ∃ z, o.isSome = z := ⟨_, rfl⟩
      rw [htm, hok] at HMu
      rw [hq0, hq2, htm, hok]
      clear hq0 hq2 htm hok
      have z0 : (w7.alloc (.cells #[.int .i64 0, .slice none 0 0, .int .i64 0, .int .i64 0] 53)).cell? ⟨w7.heap.size, 0, none⟩ = some (.int .i64 0) := (Blk.new w7 53 #[.int .i64 0, .slice none 0 0, .int .i64 0, .int .i64 0]).cell 0
      have zf0 := (Blk.new w7 53 #[.int .i64 0, .slice none 0 0, .int .i64 0, .int .i64 0]).frozen 0
      have z1 : (w7.alloc (.cells #[.int .i64 0, .slice none 0 0, .int .i64 0, .int .i64 0] 53)).cell? ⟨w7.heap.size, 1, none⟩ = some (.slice none 0 0) := (Blk.new w7 53 #[.int .i64 0, .slice none 0 0, .int .i64 0, .int .i64 0]).cell 1
      have zf1 := (Blk.new w7 53 #[.int .i64 0, .slice none 0 0, .int .i64 0, .int .i64 0]).frozen 1
      have z2 : (w7.alloc (.cells #[.int .i64 0, .slice none 0 0, .int .i64 0, .int .i64 0] 53)).cell? ⟨w7.heap.size, 2, none⟩ = some (.int .i64 0) := (Blk.new w7 53 #[.int .i64 0, .slice none 0 0, .int .i64 0, .int .i64 0]).cell 2
      have zf2 := (Blk.new w7 53 #[.int .i64 0, .slice none 0 0, .int .i64 0, .int .i64 0]).frozen 2
      have z3 : (w7.alloc (.cells #[.int .i64 0, .slice none 0 0, .int .i64 0, .int .i64 0] 53)).cell? ⟨w7.heap.size, 3, none⟩ = some (.int .i64 0) := (Blk.new w7 53 #[.int .i64 0, .slice none 0 0, .int .i64 0, .int .i64 0]).cell 3
      have zf3 := (Blk.new w7 53 #[.int .i64 0, .slice none 0 0, .int .i64 0, .int .i64 0]).frozen 3
      go_upto_region 10 with (fail)
      clear z0 z1 z2 z3 zf0 zf1 zf2 zf3
      obtain ⟨w8, hw8⟩ : ∃ V : World, w7.alloc (.cells #[.int .i64 q0, .slice A7 n7 c7, .int .i64 q2, .int .i64 tm] 53) = V := ⟨_, rfl⟩
      have k8 : Keep Never w7 w8 := (by rw [← hw8]; exact (Keep.refl _ _).alloc _)
      have b8 := Blk.new w7 53 #[.int .i64 q0, .slice A7 n7 c7, .int .i64 q2, .int .i64 tm]
      rw [hw8] at b8 ⊢
      obtain ⟨br, hbr⟩ : ∃ q, w7.heap.size = q := ⟨_, rfl⟩
      rw [hbr] at b8 ⊢
      have HK8 := Lib.hid (HK7.out.trans k8)
      have HB18 := Lib.hid (HB17.out.keep k8 (fun h => h))
      have HB28 := Lib.hid (HB27.out.keep k8 (fun h => h))
      have HO8 := Lib.hid (HO7.out.keep k8 (fun _ _ h => h))
      have HL8 := Lib.hid (HL7.out.keep k8 (fun h => h))
      clear k8 hw8 hbr
      have r3 : w8.cell? ⟨br, 3, none⟩ = some (.int .i64 tm) := b8.cell 3
      clear b8
      have y0 : w8.cell? ⟨bl, 0, none⟩ = some (.int .i64 s1) := HL8.out.cell 0
      have y1 : w8.cell? ⟨bl, 1, none⟩ = some (.int .i64 s2) := HL8.out.cell 1
      have y2 : w8.cell? ⟨bl, 2, none⟩ = some (.int .i64 s3) := HL8.out.cell 2
      have y3 : w8.cell? ⟨bl, 3, none⟩ = some (.int .i64 s4) := HL8.out.cell 3
      have hcs : mayUse t train now skew ((s1, s2, s3), s4) = true ∧ ok = true ∧ (s2 == train) = true ∧ decide (wrap64 (wrap64 (now + tm) + skew) ≤ s4) = true ∨ mayUse t train now skew ((s1, s2, s3), s4) = false ∧ (ok = false ∨ ok = true ∧ (s2 == train) = false ∨ ok = true ∧ (s2 == train) = true ∧ decide (wrap64 (wrap64 (now + tm) + skew) ≤ s4) = false) := by
        rw [HMu.out]
        cases ok <;> cases (s2 == train) <;> cases decide (wrap64 (wrap64 (now + tm) + skew) ≤ s4) <;> simp
      rcases hcs with ⟨hmu, hc1, hc2, hc3⟩ | ⟨hmu, hcs⟩
      · subst hc1
        have HTn : Hid (((l.take (k + 1)).filter (mayUse t train now skew)).map Prod.fst = ((l.take k).filter (mayUse t train now skew)).map Prod.fst ++ [(s1, s2, s3)]) := Lib.hid (by rw [HTk.out, if_pos hmu])
        have hsz : w.heap.size ≤ (w8.alloc (.cells #[.int .i64 s1, .int .i64 s2, .int .i64 s3] 57)).heap.size := by have := HK8.out.size; simp; omega
        clear hmu HTk HMu
        go_wp2_with (at_builtin; refine wpList_app _ rfl (.tmp 81) (.tmp 84) _ rfl elemLo w.heap.size (A := Ao) (n := no) (c := co) (by go_simp) (HO8.out.alloc _) _ (A' := some ⟨w8.heap.size, 0, none⟩) (m := 1) (c' := 1) (by go_simp) (Rd.of_blk (n := 1) (cs := [.int .i64 s1, .int .i64 s2, .int .i64 s3]) (Blk.new w8 _ _) rfl) (by simp [Value.oneCell']) (by omega) (by unfold maxLen; omega) hsz ?_; intro A5 c5 w16 hown hk hrow; have hk16 : Keep (InRow Ao) w8 w16 := ((Keep.refl (InRow Ao) _).alloc _).trans hk; have HO16 := Lib.hid hown; have HB116 := Lib.hid (HB18.out.keep hk16 (fun h => HO8.out.ne_blk HB18.out (by decide) _ h rfl)); have HB216 := Lib.hid (HB28.out.keep hk16 (fun h => HO8.out.ne_blk HB28.out (by decide) _ h rfl)); have HK16 := Lib.hid (HK8.out.then_ hk16 (fun i hi h => by have := (HO8.out.row h).1; omega)); clear hown hk hrow hk16)
        go_roundw
        case measure => simp [intOf]; try omega
        case rel => exact ⟨k + 1, no + 1, c5, A5, by omega, rfl, by go_num, by omega, Lib.hid ⟨HK16.out, HB116.out, HB216.out, by rw [HTn.out, spCells_app]; exact HO16.out⟩⟩
      · have HTn : Hid (((l.take (k + 1)).filter (mayUse t train now skew)).map Prod.fst = ((l.take k).filter (mayUse t train now skew)).map Prod.fst) := Lib.hid (by rw [HTk.out, if_neg (by rw [hmu]; simp), List.append_nil])
        clear hmu HTk HMu
        rcases hcs with rfl | ⟨rfl, hc2⟩ | ⟨rfl, hc2, hc3⟩
        all_goals
          go_wp2_with fail
          refine ⟨⟨k + 1, no, co, Ao, by omega, rfl, by go_num, by omega, Lib.hid ⟨HK8.out, HB18.out, HB28.out, by rw [HTn.out]; exact HO8.out⟩⟩, ?_⟩
          simp [intOf]; try omega
    · obtain rfl : k = n := by omega
      have hki : ¬ (k : Int) < (k : Int) := by omega
      have HOf : Hid (Own wr w.heap.size 57 3 Ao no co (spCells (useM t (sn, gt, l) train now skew))) := Lib.hid (by have h1 := HOr.out; rw [List.take_of_length_le (by have := HLn.out; omega)] at h1; rw [HEq.out]; exact h1)
      go_wp2_with fail
      go_ret
      exact ⟨Ao, no, co, rfl, HOf.out, HKr.out⟩

def repLe : Rep Len := repLo.pair Rep.int
theorem opens_le : Rep.Opens Tryz.prog 59 repLe :=
  Rep.opens_struct Tryz.underlying59 (by kernel_rfl) (Rep.fopens_cons rfl (by kernel_rfl) opens_lo (Rep.fopens_last rfl (by kernel_rfl) (Rep.opens_int Tryz.underlying3)))
theorem opens_les : Rep.Opens Tryz.prog 28 repLe.list := Rep.opens_list Tryz.underlying28 (by kernel_rfl) (by decide) opens_le
/-- a border: Sent, Got, Have -/
def repBd : Rep Bdr := Rep.int.pair (Rep.int.pair repLe.list)
theorem opens_bd : Rep.Opens Tryz.prog 30 repBd :=
  Rep.opens_struct Tryz.underlying30 (by kernel_rfl)
    (Rep.fopens_cons rfl (by kernel_rfl) (Rep.opens_int Tryz.underlying3) (Rep.fopens_cons rfl (by kernel_rfl) (Rep.opens_int Tryz.underlying3) (Rep.fopens_last rfl (by kernel_rfl) opens_les)))
theorem les_at {w : World} {B n c : Nat} {A : Option Addr} {l : List Len} (h : repLe.Sl w B A n c l) : LeAt w B A n c l := by
  obtain ⟨h1, h2, h3, h4, css, h5, h6⟩ := h
  have hf : css.flatten = leCells l := by
    clear h5 h1
    induction l generalizing css with
    | nil => cases css with
      | nil => rfl
      | cons b m => exact h6.elim
    | cons a l ih => cases css with
      | nil => exact h6.elim
      | cons b m =>
        obtain ⟨h7, h8⟩ := h6
        obtain ⟨p, q, rfl, ⟨p1, q1, rfl, ⟨rfl, _⟩, p2, q2, rfl, ⟨rfl, _⟩, ⟨rfl, _⟩⟩, ⟨rfl, _⟩⟩ := h7
        rw [List.flatten_cons, ih m h8]
        rfl
  exact ⟨by rw [← hf]; exact h5, h4, h2⟩
theorem BdAt.of {w : World} {B : Nat} {x : Bdr} {cs : List Value} (h : repBd.cells w B x cs) : ∃ A n c, cs = [.int .i64 x.1, .int .i64 x.2.1, .slice A n c] ∧ LeAt w B A n c x.2.2 ∧ (-9223372036854775808 ≤ x.1 ∧ x.1 ≤ 9223372036854775807) ∧ (-9223372036854775808 ≤ x.2.1 ∧ x.2.1 ≤ 9223372036854775807) := by
  obtain ⟨c1, d1, rfl, ⟨rfl, h1⟩, c2, d2, rfl, ⟨rfl, h2⟩, ⟨A, n, c, rfl, h3⟩⟩ := h
  exact ⟨A, n, c, rfl, les_at h3, h1, h2⟩
theorem sameT20 {V : World} {B B2 n c n2 c2 : Nat} {A A2 : Option Addr} {L : List Len} (sn gt : Int) (h1 : LeAt V B A n c L) (h2 : LeAt V B2 A2 n2 c2 L) (hn : L.length ≤ 1000000) :
    Calls Tryz.prog 8 #[.agg #[.int .i64 sn, .int .i64 gt, .slice A n c], .agg #[.int .i64 sn, .int .i64 gt, .slice A2 n2 c2]] V fun e w' => e = .returned (.bool true) ∧ Keep Never V w' := by
  obtain rfl : n2 = n := h2.len.symm.trans h1.len
  exact rsame20_any sn gt A A2 n2 c c2 B B2 L V h1 h2 (by have := h1.len; omega)
theorem locksT20 {V : World} {B B2 n c n2 c2 : Nat} {A A2 : Option Addr} {L : List Lok} (h1 : SpAt V B A n c L) (h2 : SpAt V B2 A2 n2 c2 L) (hn : L.length ≤ 1000000) :
    Calls Tryz.prog 9 #[.slice A n c, .slice A2 n2 c2] V fun e w' => e = .returned (.bool true) ∧ Keep Never V w' :=
  (locks20_any L L A A2 n n2 c c2 B B2 V h1.rd h2.rd (by have := h1.len; omega) (by have := h2.len; omega)).mono (fun e w' ⟨h3, h4⟩ => ⟨by rw [h3, decide_eq_true rfl], h4⟩)
theorem LeAt.here {w w' : World} {n c : Nat} {A : Option Addr} {l : List Len} (h : LeAt w w.heap.size A n c l) (hk : Keep Never w w') : LeAt w' w'.heap.size A n c l := (h.keep hk).more hk.size
theorem use_len (t : Tp) (x : Bdr) (train now skew : Int) : (useM t x train now skew).length ≤ x.2.2.length := by
  unfold useM
  split
  · rw [List.length_map]; exact List.length_filter_le _ _
  · simp
set_option maxHeartbeats 16000000 in
set_option maxRecDepth 100000 in
theorem takes20_any (x : TA) (t : Tp) (sn gt : Int) (A : Option Addr) (n c : Nat) (l : List Len) (k0 tr tt un : Int) (A1 A2 : Option Addr) (n1 c1 n2 c2 : Nat) (ln : List Lok) (h : List Sp) (train now skew : Int) (W : World) (ht : TpAt W W.heap.size x t) (hx : LeAt W W.heap.size A n c l) (hl : SpAt W W.heap.size A1 n1 c1 ln) (hh : SpAt W W.heap.size A2 n2 c2 h) (hb : -9223372036854775808 ≤ tt ∧ tt ≤ 9223372036854775807) (hsn : -9223372036854775808 ≤ sn ∧ sn ≤ 9223372036854775807) (hgt : -9223372036854775808 ≤ gt ∧ gt ≤ 9223372036854775807) :
    Calls Tryz.prog 3 #[.agg x.cs, .agg #[.int .i64 sn, .int .i64 gt, .slice A n c], .agg #[.int .i64 k0, .int .i64 tr, .int .i64 tt, .int .i64 un, .slice A1 n1 c1, .slice A2 n2 c2], .int .i64 train, .int .i64 now, .int .i64 skew] W (fun e w' => e = .returned (.bool true) ∧ Keep Never W w') := by
  have HLt : Hid (∀ V, Keep Never W V → Calls Tryz.prog 5 #[.agg x.cs] V fun e w'' => ∃ b, e = .returned (.bool b) ∧ Hid (b = true → TpLight x t) ∧ Keep Never V w'') := Lib.hid (fun V h => light13r_any x t W.heap.size V (ht.keep h))
  have HUa : Hid (∀ V, Keep Never W V → TpLight x t → n ≤ 100 → Calls Tryz.prog 10 #[.agg x.cs, .agg #[.int .i64 sn, .int .i64 gt, .slice A n c], .int .i64 train, .int .i64 now, .int .i64 skew] V (UsRet (useM t (sn, gt, l) train now skew) V)) := Lib.hid (fun V h hL hn => use20_any x t sn gt A n c W.heap.size l train now skew V (ht.keep h) hL.small (hx.keep h) (by omega) h.size hsn hgt)
  have HUb : Hid (∀ V, Keep Never W V → TpLight x t → n ≤ 100 → Calls Tryz.prog 11 #[.agg x.cs, .agg #[.int .i64 sn, .int .i64 gt, .slice A n c], .int .i64 train, .int .i64 now, .int .i64 skew] V (UsRet (useM t (sn, gt, l) train now skew) V)) := Lib.hid (fun V h hL hn => ruse20_any x t sn gt A n c W.heap.size l train now skew V (ht.keep h) hL.small (hx.keep h) (by omega) h.size)
  have HTa : Hid (∀ V, Keep Never W V → n ≤ 100 → n1 ≤ 60 → n2 ≤ 60 → Calls Tryz.prog 6 #[.agg #[.int .i64 sn, .int .i64 gt, .slice A n c], .agg #[.int .i64 k0, .int .i64 tr, .int .i64 tt, .int .i64 un, .slice A1 n1 c1, .slice A2 n2 c2]] V (TkRet (takeM (sn, gt, l) (k0, tr, tt, un, ln, h)) V)) := Lib.hid (fun V hV a1 a2 a3 => take20_any sn gt A n c l k0 tr tt un A1 A2 n1 c1 n2 c2 W.heap.size ln h V (hx.keep hV) (hl.keep hV) (hh.keep hV) (by omega) (by omega) (by omega) hV.size hb hsn hgt)
  have HTb : Hid (∀ V, Keep Never W V → n1 ≤ 60 → n2 ≤ 60 → Calls Tryz.prog 7 #[.agg #[.int .i64 sn, .int .i64 gt, .slice A n c], .agg #[.int .i64 k0, .int .i64 tr, .int .i64 tt, .int .i64 un, .slice A1 n1 c1, .slice A2 n2 c2]] V (TkRet (takeM (sn, gt, l) (k0, tr, tt, un, ln, h)) V)) := Lib.hid (fun V hV a2 a3 => rtake20b_any sn gt A n c l k0 tr tt un A1 A2 n1 c1 n2 c2 W.heap.size ln h V (hx.keep hV) (hl.keep hV) (hh.keep hV) (by omega) (by omega) hV.size)
  have HOa : Hid (∀ V, Keep Never W V → n ≤ 100 → Calls Tryz.prog 12 #[.agg #[.int .i64 sn, .int .i64 gt, .slice A n c], .int .i64 now] V (OvRet (overX (sn, gt, l) now) V)) := Lib.hid (fun V hV a1 => over20_any sn gt now A n c W.heap.size l V (hx.keep hV) (by omega) hV.size)
  have HOb : Hid (∀ V, Keep Never W V → n ≤ 100 → Calls Tryz.prog 13 #[.agg #[.int .i64 sn, .int .i64 gt, .slice A n c], .int .i64 now] V (OvRet (overX (sn, gt, l) now) V)) := Lib.hid (fun V hV a1 => rover20_any sn gt now A n c W.heap.size l V (hx.keep hV) (by omega))
  have HRa : Hid (∀ V, Keep Never W V → n ≤ 100 → Calls Tryz.prog 14 #[.agg #[.int .i64 sn, .int .i64 gt, .slice A n c]] V fun e w' => e = .returned (.bool (rightX (sn, gt, l))) ∧ Keep Never V w') := Lib.hid (fun V hV a1 => right20_any sn gt A n c W.heap.size l V (hx.keep hV) hsn hgt (by omega))
  have HRb : Hid (∀ V, Keep Never W V → Calls Tryz.prog 15 #[.agg #[.int .i64 sn, .int .i64 gt, .slice A n c]] V fun e w' => e = .returned (.bool (rightX (sn, gt, l))) ∧ Keep Never V w') := Lib.hid (fun V hV => rright20_any sn gt A n c W.heap.size l V (hx.keep hV))
  have HLn : Hid (l.length = n) := Lib.hid hx.len
  have HLk : Hid ((takeM (sn, gt, l) (k0, tr, tt, un, ln, h)).1.2.2.length ≤ 48) := Lib.hid (by
    unfold takeM
    split
    · split
      · simp [noX]
      · split
        · simp [noX]
        · simp only; omega
    · simp [noX])
  obtain ⟨Ae, ne, ce, Aj, nj, cj, Ab, nb, cb, Ar, nr, cr⟩ := x
  simp only [TA.cs] at HLt HUa HUb ⊢
  clear ht hx hl hh hb hsn hgt
  obtain ⟨w1, hw1⟩ : ∃ V : World, W.alloc (.cells #[.slice Ae ne ce, .slice Aj nj cj, .slice Ab nb cb, .slice Ar nr cr] 27) = V := ⟨_, rfl⟩
  have zw1 : w1.heap.size = W.heap.size + 1 := by rw [← hw1]; simp
  have kw1 : Keep Never W w1 := by rw [← hw1]; exact (Keep.refl _ _).alloc _
  have bw1 := Blk.new W 27 #[.slice Ae ne ce, .slice Aj nj cj, .slice Ab nb cb, .slice Ar nr cr]
  rw [hw1] at bw1
  obtain ⟨w2, hw2⟩ : ∃ V : World, w1.alloc (.cells #[.int .i64 sn, .int .i64 gt, .slice A n c] 30) = V := ⟨_, rfl⟩
  have zw2 : w2.heap.size = W.heap.size + 1 + 1 := by rw [← hw2]; simp [zw1]
  have kw2 : Keep Never w1 w2 := by rw [← hw2]; exact (Keep.refl _ _).alloc _
  have bw2 := Blk.new w1 30 #[.int .i64 sn, .int .i64 gt, .slice A n c]
  rw [hw2, zw1] at bw2
  obtain ⟨w3, hw3⟩ : ∃ V : World, w2.alloc (.cells #[.int .i64 k0, .int .i64 tr, .int .i64 tt, .int .i64 un, .slice A1 n1 c1, .slice A2 n2 c2] 34) = V := ⟨_, rfl⟩
  have kw3 : Keep Never w2 w3 := by rw [← hw3]; exact (Keep.refl _ _).alloc _
  have bw3 := Blk.new w2 34 #[.int .i64 k0, .int .i64 tr, .int .i64 tt, .int .i64 un, .slice A1 n1 c1, .slice A2 n2 c2]
  rw [hw3, zw2] at bw3
  have HB1 := Lib.hid ((bw1.keep kw2 (fun h => h)).keep kw3 (fun h => h))
  have HB2 := Lib.hid (bw2.keep kw3 (fun h => h))
  have HB3 := Lib.hid bw3
  have HK := Lib.hid ((kw1.trans kw2).trans kw3)
  clear kw1 kw2 kw3 bw1 bw2 bw3
  have HA := Lib.hid (awake20_any w3)
  go_enter Tryz.func3, Tryz.ntmps3
  go_wp2_with fail
  refine HA.out.mono ?_
  rintro e w4 ⟨rfl, hk4⟩
  have HK4 := Lib.hid (HK.out.trans hk4)
  have HB14 := Lib.hid (HB1.out.keep hk4 (fun h => h))
  have HB24 := Lib.hid (HB2.out.keep hk4 (fun h => h))
  have HB34 := Lib.hid (HB3.out.keep hk4 (fun h => h))
  clear hk4 HA hw1 hw2 hw3
  have t0 : w4.cell? ⟨W.heap.size, 0, none⟩ = some (.slice Ae ne ce) := HB14.out.cell 0
  have t1 : w4.cell? ⟨W.heap.size, 1, none⟩ = some (.slice Aj nj cj) := HB14.out.cell 1
  have t2 : w4.cell? ⟨W.heap.size, 2, none⟩ = some (.slice Ab nb cb) := HB14.out.cell 2
  have t3 : w4.cell? ⟨W.heap.size, 3, none⟩ = some (.slice Ar nr cr) := HB14.out.cell 3
  go_wp2_with fail
  refine (HLt.out _ HK4.out).mono ?_
  rintro e w5 ⟨lt, rfl, hlt, hk5⟩
  have HK5 := Lib.hid (HK4.out.trans hk5)
  have HB15 := Lib.hid (HB14.out.keep hk5 (fun h => h))
  have HB25 := Lib.hid (HB24.out.keep hk5 (fun h => h))
  have HB35 := Lib.hid (HB34.out.keep hk5 (fun h => h))
  clear hk5 HLt t0 t1 t2 t3
  cases lt with
  | false =>
    clear hlt
    go_wp2_with fail
    go_ret
    exact ⟨rfl, HK5.out⟩
  | true =>
  have HLi := Lib.hid (hlt.out rfl)
  clear hlt
  have x0 : w5.cell? ⟨W.heap.size + 1, 0, none⟩ = some (.int .i64 sn) := HB25.out.cell 0
  have x1 : w5.cell? ⟨W.heap.size + 1, 1, none⟩ = some (.int .i64 gt) := HB25.out.cell 1
  have x2 : w5.cell? ⟨W.heap.size + 1, 2, none⟩ = some (.slice A n c) := HB25.out.cell 2
  have m0 : w5.cell? ⟨W.heap.size + 1 + 1, 0, none⟩ = some (.int .i64 k0) := HB35.out.cell 0
  have m1 : w5.cell? ⟨W.heap.size + 1 + 1, 1, none⟩ = some (.int .i64 tr) := HB35.out.cell 1
  have m2 : w5.cell? ⟨W.heap.size + 1 + 1, 2, none⟩ = some (.int .i64 tt) := HB35.out.cell 2
  have m3 : w5.cell? ⟨W.heap.size + 1 + 1, 3, none⟩ = some (.int .i64 un) := HB35.out.cell 3
  have m4 : w5.cell? ⟨W.heap.size + 1 + 1, 4, none⟩ = some (.slice A1 n1 c1) := HB35.out.cell 4
  have m5 : w5.cell? ⟨W.heap.size + 1 + 1, 5, none⟩ = some (.slice A2 n2 c2) := HB35.out.cell 5
  by_cases g1 : 100 < n
  · have v1 : decide ((n : Int) > 100) = true := decide_eq_true (by omega)
    clear g1
    go_wp2_with fail
    go_ret
    exact ⟨rfl, HK5.out⟩
  have v1 : decide ((n : Int) > 100) = false := decide_eq_false (by omega)
  by_cases g2 : 60 < n1
  · have v2 : decide ((n1 : Int) > 60) = true := decide_eq_true (by omega)
    clear g1 g2
    go_wp2_with fail
    go_ret
    exact ⟨rfl, HK5.out⟩
  have v2 : decide ((n1 : Int) > 60) = false := decide_eq_false (by omega)
  by_cases g3 : 60 < n2
  · have v3 : decide ((n2 : Int) > 60) = true := decide_eq_true (by omega)
    clear g1 g2 g3
    go_wp2_with fail
    go_ret
    exact ⟨rfl, HK5.out⟩
  have v3 : decide ((n2 : Int) > 60) = false := decide_eq_false (by omega)
  have HN : Hid (n ≤ 100 ∧ n1 ≤ 60 ∧ n2 ≤ 60) := Lib.hid (by omega)
  have HC := Lib.hid (HTa.out _ HK5.out HN.out.1 HN.out.2.1 HN.out.2.2)
  unfold TkRet at HC HTb
  obtain ⟨⟨⟨ys, yg, yh⟩, er⟩, hz⟩ : ∃ z, takeM (sn, gt, l) (k0, tr, tt, un, ln, h) = z := ⟨_, rfl⟩
  rw [hz] at HC HTb HLk
  dsimp only at HC HTb HLk
  clear hz g1 g2 g3 HTa
  go_wp2_with fail
  refine HC.out.mono ?_
  rintro e w6 ⟨Aa, na, ca, rfl, hoa, hk6⟩
  have HK6 := Lib.hid (HK5.out.trans hk6)
  have HB16 := Lib.hid (HB15.out.keep hk6 (fun h => h))
  have HB26 := Lib.hid (HB25.out.keep hk6 (fun h => h))
  have HB36 := Lib.hid (HB35.out.keep hk6 (fun h => h))
  have HYa6 := Lib.hid (LeAt.of_own hoa)
  clear hk6 hoa HC v1 v2 v3 x0 x1 x2 m0 m1 m2 m3 m4 m5
  have z0 : (w6.alloc (.cells #[.int .i64 0, .int .i64 0, .slice none 0 0] 30)).cell? ⟨w6.heap.size, 0, none⟩ = some (.int .i64 0) := (Blk.new w6 30 #[.int .i64 0, .int .i64 0, .slice none 0 0]).cell 0
  have zf0 := (Blk.new w6 30 #[.int .i64 0, .int .i64 0, .slice none 0 0]).frozen 0
  have z1 : (w6.alloc (.cells #[.int .i64 0, .int .i64 0, .slice none 0 0] 30)).cell? ⟨w6.heap.size, 1, none⟩ = some (.int .i64 0) := (Blk.new w6 30 #[.int .i64 0, .int .i64 0, .slice none 0 0]).cell 1
  have zf1 := (Blk.new w6 30 #[.int .i64 0, .int .i64 0, .slice none 0 0]).frozen 1
  have z2 : (w6.alloc (.cells #[.int .i64 0, .int .i64 0, .slice none 0 0] 30)).cell? ⟨w6.heap.size, 2, none⟩ = some (.slice none 0 0) := (Blk.new w6 30 #[.int .i64 0, .int .i64 0, .slice none 0 0]).cell 2
  have zf2 := (Blk.new w6 30 #[.int .i64 0, .int .i64 0, .slice none 0 0]).frozen 2
  go_upto_region 6 with (fail)
  clear z0 z1 z2 zf0 zf1 zf2
  obtain ⟨w7, hw7⟩ : ∃ V : World, w6.alloc (.cells #[.int .i64 ys, .int .i64 yg, .slice Aa na ca] 30) = V := ⟨_, rfl⟩
  have kx : Keep Never w6 w7 := (by rw [← hw7]; exact (Keep.refl _ _).alloc _)
  have bx := Blk.new w6 30 #[.int .i64 ys, .int .i64 yg, .slice Aa na ca]
  rw [hw7] at bx ⊢
  obtain ⟨ba, hbba⟩ : ∃ q, w6.heap.size = q := ⟨_, rfl⟩
  rw [hbba] at bx ⊢
  have HK7 := Lib.hid (HK6.out.trans kx)
  have HB17 := Lib.hid (HB16.out.keep kx (fun h => h))
  have HB27 := Lib.hid (HB26.out.keep kx (fun h => h))
  have HB37 := Lib.hid (HB36.out.keep kx (fun h => h))
  have HYa7 := Lib.hid (HYa6.out.here kx)
  have HBa7 := Lib.hid bx
  clear kx bx hw7 hbba
  have x0 : w7.cell? ⟨W.heap.size + 1, 0, none⟩ = some (.int .i64 sn) := HB27.out.cell 0
  have x1 : w7.cell? ⟨W.heap.size + 1, 1, none⟩ = some (.int .i64 gt) := HB27.out.cell 1
  have x2 : w7.cell? ⟨W.heap.size + 1, 2, none⟩ = some (.slice A n c) := HB27.out.cell 2
  have m0 : w7.cell? ⟨W.heap.size + 1 + 1, 0, none⟩ = some (.int .i64 k0) := HB37.out.cell 0
  have m1 : w7.cell? ⟨W.heap.size + 1 + 1, 1, none⟩ = some (.int .i64 tr) := HB37.out.cell 1
  have m2 : w7.cell? ⟨W.heap.size + 1 + 1, 2, none⟩ = some (.int .i64 tt) := HB37.out.cell 2
  have m3 : w7.cell? ⟨W.heap.size + 1 + 1, 3, none⟩ = some (.int .i64 un) := HB37.out.cell 3
  have m4 : w7.cell? ⟨W.heap.size + 1 + 1, 4, none⟩ = some (.slice A1 n1 c1) := HB37.out.cell 4
  have m5 : w7.cell? ⟨W.heap.size + 1 + 1, 5, none⟩ = some (.slice A2 n2 c2) := HB37.out.cell 5
  have HC := Lib.hid (HTb.out _ HK7.out HN.out.2.1 HN.out.2.2)
  clear HTb
  go_wp2_with fail
  refine HC.out.mono ?_
  rintro e w8 ⟨Ac, nc, cc, rfl, hoc, hk8⟩
  have HK8 := Lib.hid (HK7.out.trans hk8)
  have HB18 := Lib.hid (HB17.out.keep hk8 (fun h => h))
  have HB28 := Lib.hid (HB27.out.keep hk8 (fun h => h))
  have HYa8 := Lib.hid (HYa7.out.here hk8)
  have HBa8 := Lib.hid (HBa7.out.keep hk8 (fun h => h))
  have HYc8 := Lib.hid (LeAt.of_own hoc)
  clear hk8 hoc HC x0 x1 x2 m0 m1 m2 m3 m4 m5
  have z0 : (w8.alloc (.cells #[.int .i64 0, .int .i64 0, .slice none 0 0] 30)).cell? ⟨w8.heap.size, 0, none⟩ = some (.int .i64 0) := (Blk.new w8 30 #[.int .i64 0, .int .i64 0, .slice none 0 0]).cell 0
  have zf0 := (Blk.new w8 30 #[.int .i64 0, .int .i64 0, .slice none 0 0]).frozen 0
  have z1 : (w8.alloc (.cells #[.int .i64 0, .int .i64 0, .slice none 0 0] 30)).cell? ⟨w8.heap.size, 1, none⟩ = some (.int .i64 0) := (Blk.new w8 30 #[.int .i64 0, .int .i64 0, .slice none 0 0]).cell 1
  have zf1 := (Blk.new w8 30 #[.int .i64 0, .int .i64 0, .slice none 0 0]).frozen 1
  have z2 : (w8.alloc (.cells #[.int .i64 0, .int .i64 0, .slice none 0 0] 30)).cell? ⟨w8.heap.size, 2, none⟩ = some (.slice none 0 0) := (Blk.new w8 30 #[.int .i64 0, .int .i64 0, .slice none 0 0]).cell 2
  have zf2 := (Blk.new w8 30 #[.int .i64 0, .int .i64 0, .slice none 0 0]).frozen 2
  go_upto_region 7 with (fail)
  clear z0 z1 z2 zf0 zf1 zf2
  obtain ⟨w9, hw9⟩ : ∃ V : World, w8.alloc (.cells #[.int .i64 ys, .int .i64 yg, .slice Ac nc cc] 30) = V := ⟨_, rfl⟩
  have kx : Keep Never w8 w9 := (by rw [← hw9]; exact (Keep.refl _ _).alloc _)
  have bx := Blk.new w8 30 #[.int .i64 ys, .int .i64 yg, .slice Ac nc cc]
  rw [hw9] at bx ⊢
  obtain ⟨bc, hbbc⟩ : ∃ q, w8.heap.size = q := ⟨_, rfl⟩
  rw [hbbc] at bx ⊢
  have HK9 := Lib.hid (HK8.out.trans kx)
  have HB19 := Lib.hid (HB18.out.keep kx (fun h => h))
  have HB29 := Lib.hid (HB28.out.keep kx (fun h => h))
  have HBa9 := Lib.hid (HBa8.out.keep kx (fun h => h))
  have HBc9 := Lib.hid bx
  have HC := Lib.hid (sameT20 ys yg (HYa8.out.here kx) (HYc8.out.here kx) (by have := HLk.out; omega))
  clear kx bx hw9 hbbc
  have a0 : w9.cell? ⟨ba, 0, none⟩ = some (.int .i64 ys) := HBa9.out.cell 0
  have a1 : w9.cell? ⟨ba, 1, none⟩ = some (.int .i64 yg) := HBa9.out.cell 1
  have a2 : w9.cell? ⟨ba, 2, none⟩ = some (.slice Aa na ca) := HBa9.out.cell 2
  have e0 : w9.cell? ⟨bc, 0, none⟩ = some (.int .i64 ys) := HBc9.out.cell 0
  have e1 : w9.cell? ⟨bc, 1, none⟩ = some (.int .i64 yg) := HBc9.out.cell 1
  have e2 : w9.cell? ⟨bc, 2, none⟩ = some (.slice Ac nc cc) := HBc9.out.cell 2
  go_wp2_with fail
  refine HC.out.mono ?_
  rintro e w10 ⟨rfl, hk10⟩
  have HK10 := Lib.hid (HK9.out.trans hk10)
  have HB110 := Lib.hid (HB19.out.keep hk10 (fun h => h))
  have HB210 := Lib.hid (HB29.out.keep hk10 (fun h => h))
  clear hk10 HC a0 a1 a2 e0 e1 e2
  have t0 : w10.cell? ⟨W.heap.size, 0, none⟩ = some (.slice Ae ne ce) := HB110.out.cell 0
  have t1 : w10.cell? ⟨W.heap.size, 1, none⟩ = some (.slice Aj nj cj) := HB110.out.cell 1
  have t2 : w10.cell? ⟨W.heap.size, 2, none⟩ = some (.slice Ab nb cb) := HB110.out.cell 2
  have t3 : w10.cell? ⟨W.heap.size, 3, none⟩ = some (.slice Ar nr cr) := HB110.out.cell 3
  have x0 : w10.cell? ⟨W.heap.size + 1, 0, none⟩ = some (.int .i64 sn) := HB210.out.cell 0
  have x1 : w10.cell? ⟨W.heap.size + 1, 1, none⟩ = some (.int .i64 gt) := HB210.out.cell 1
  have x2 : w10.cell? ⟨W.heap.size + 1, 2, none⟩ = some (.slice A n c) := HB210.out.cell 2
  have HX1 := Lib.hid (fun V (h : Keep Never w10 V) => HUa.out V (HK10.out.trans h) HLi.out HN.out.1)
  have HX2 := Lib.hid (fun V (h : Keep Never w10 V) => HUb.out V (HK10.out.trans h) HLi.out HN.out.1)
  obtain ⟨UL, hUL⟩ : ∃ z, useM t (sn, gt, l) train now skew = z := ⟨_, rfl⟩
  have HUn : Hid (UL.length ≤ 100) := Lib.hid (by have h1 := use_len t (sn, gt, l) train now skew; rw [hUL] at h1; have h2 := HLn.out; have h3 := HN.out.1; simp only at h1; omega)
  rw [hUL] at HX1 HX2
  clear hUL HUa HUb
  have HSg : Hid (∀ W', Keep Never w10 W' → Keep Never w10 W' ∧ W'.cell? ⟨W.heap.size, 0, none⟩ = some (.slice Ae ne ce) ∧ W'.cell? ⟨W.heap.size, 1, none⟩ = some (.slice Aj nj cj) ∧ W'.cell? ⟨W.heap.size, 2, none⟩ = some (.slice Ab nb cb) ∧ W'.cell? ⟨W.heap.size, 3, none⟩ = some (.slice Ar nr cr) ∧ W'.cell? ⟨W.heap.size + 1, 0, none⟩ = some (.int .i64 sn) ∧ W'.cell? ⟨W.heap.size + 1, 1, none⟩ = some (.int .i64 gt) ∧ W'.cell? ⟨W.heap.size + 1, 2, none⟩ = some (.slice A n c)) := Lib.hid (fun W' h => ⟨h, keepT h t0, keepT h t1, keepT h t2, keepT h t3, keepT h x0, keepT h x1, keepT h x2⟩)
  go_wp2_with fail
  clear t0 t1 t2 t3 x0 x1 x2
  go_region_held3 (fun W' => Keep Never w10 W' ∧ W'.cell? ⟨W.heap.size, 0, none⟩ = some (.slice Ae ne ce) ∧ W'.cell? ⟨W.heap.size, 1, none⟩ = some (.slice Aj nj cj) ∧ W'.cell? ⟨W.heap.size, 2, none⟩ = some (.slice Ab nb cb) ∧ W'.cell? ⟨W.heap.size, 3, none⟩ = some (.slice Ar nr cr) ∧ W'.cell? ⟨W.heap.size + 1, 0, none⟩ = some (.int .i64 sn) ∧ W'.cell? ⟨W.heap.size + 1, 1, none⟩ = some (.int .i64 gt) ∧ W'.cell? ⟨W.heap.size + 1, 2, none⟩ = some (.slice A n c))
    (first | assumption | exact HSg.out _ ((Keep.refl Never w10).drew) | exact HSg.out _ (Keep.trans (And.left (by assumption)) hk3) | exact HSg.out _ (Keep.trans ((Keep.refl Never w10).drew) hk3))
    (first
      | (go_at_call 10; refine (HX1.out _ (by first | exact And.left (by assumption) | exact (Keep.refl Never w10).drew | exact Keep.refl Never w10)).mono ?_; rintro e w3 ⟨A6, n6, c6, rfl, ho6, hk3⟩; have HSa : Hid (∀ V, Keep Never w3 V → SpAt V V.heap.size A6 n6 c6 UL) := Lib.hid (fun V h => ((loAt_own ho6).keep h).more h.size); have HKa := Lib.hid (Keep.refl Never w3); (try have HKb := Lib.hid (HKb.out.trans hk3)))
      | (go_at_call 11; refine (HX2.out _ (by first | exact And.left (by assumption) | exact (Keep.refl Never w10).drew | exact Keep.refl Never w10)).mono ?_; rintro e w4 ⟨A7, n7, c7, rfl, ho7, hk3⟩; have HSb : Hid (∀ V, Keep Never w4 V → SpAt V V.heap.size A7 n7 c7 UL) := Lib.hid (fun V h => ((loAt_own ho7).keep h).more h.size); have HKb := Lib.hid (Keep.refl Never w4); (try have HKa := Lib.hid (HKa.out.trans hk3)))
      | (go_at_call 9; refine (locksT20 (HSa.out _ HKa.out) (HSb.out _ HKb.out) (by have := HUn.out; omega)).mono ?_; rintro e w8 ⟨rfl, hk3⟩))
  all_goals
    rename_i hS
    have HKe := Lib.hid (HK10.out.trans hS.1)
    have HBe2 := Lib.hid (HB210.out.keep hS.1 (fun h => h))
    rename World => w80
    clear hS HSg HX1 HX2 HSa HSb HKa HKb
    have x0 : w80.cell? ⟨W.heap.size + 1, 0, none⟩ = some (.int .i64 sn) := HBe2.out.cell 0
    have x1 : w80.cell? ⟨W.heap.size + 1, 1, none⟩ = some (.int .i64 gt) := HBe2.out.cell 1
    have x2 : w80.cell? ⟨W.heap.size + 1, 2, none⟩ = some (.slice A n c) := HBe2.out.cell 2
    have HX1 := Lib.hid (fun V (h : Keep Never w80 V) => HOa.out V (HKe.out.trans h) HN.out.1)
    have HX2 := Lib.hid (fun V (h : Keep Never w80 V) => HOb.out V (HKe.out.trans h) HN.out.1)
    have HOn : Hid ((overX (sn, gt, l) now).2.2.length ≤ 100) := Lib.hid (by have h1 : ((overX (sn, gt, l) now).2.2).length ≤ l.length := List.length_filter_le _ _; have h2 := HLn.out; have h3 := HN.out.1; omega)
    have HOx : Hid ((overX (sn, gt, l) now).1 = sn ∧ (overX (sn, gt, l) now).2.1 = gt) := Lib.hid ⟨rfl, rfl⟩
    unfold OvRet at HX1 HX2
    obtain ⟨⟨os, og, oh⟩, hov⟩ : ∃ z, overX (sn, gt, l) now = z := ⟨_, rfl⟩
    rw [hov] at HX1 HX2 HOn HOx
    dsimp only at HX1 HX2 HOn HOx
    clear hov
    have HSg : Hid (∀ W', Keep Never w80 W' → Keep Never w80 W' ∧ W'.cell? ⟨W.heap.size + 1, 0, none⟩ = some (.int .i64 sn) ∧ W'.cell? ⟨W.heap.size + 1, 1, none⟩ = some (.int .i64 gt) ∧ W'.cell? ⟨W.heap.size + 1, 2, none⟩ = some (.slice A n c)) := Lib.hid (fun W' h => ⟨h, keepT h x0, keepT h x1, keepT h x2⟩)
    go_wp2_with fail
    clear x0 x1 x2
    go_region_held3 (fun W' => Keep Never w80 W' ∧ W'.cell? ⟨W.heap.size + 1, 0, none⟩ = some (.int .i64 sn) ∧ W'.cell? ⟨W.heap.size + 1, 1, none⟩ = some (.int .i64 gt) ∧ W'.cell? ⟨W.heap.size + 1, 2, none⟩ = some (.slice A n c))
      (first | assumption | exact HSg.out _ ((Keep.refl Never w80).drew) | exact HSg.out _ (Keep.trans (And.left (by assumption)) hk3) | exact HSg.out _ (Keep.trans ((Keep.refl Never w80).drew) hk3))
      (first
        | (go_at_call 12; refine (HX1.out _ (by first | exact And.left (by assumption) | exact (Keep.refl Never w80).drew | exact Keep.refl Never w80)).mono ?_; rintro e w3 ⟨A6, n6, c6, rfl, ho6, hk3⟩; have HSa : Hid (∀ V, Keep Never w3 V → LeAt V V.heap.size A6 n6 c6 oh) := Lib.hid (fun V h => (LeAt.of_own ho6).here h); have HKa := Lib.hid (Keep.refl Never w3); (try have HKb := Lib.hid (HKb.out.trans hk3)))
        | (go_at_call 13; refine (HX2.out _ (by first | exact And.left (by assumption) | exact (Keep.refl Never w80).drew | exact Keep.refl Never w80)).mono ?_; rintro e w4 ⟨A7, n7, c7, rfl, ho7, hk3⟩; have HSb : Hid (∀ V, Keep Never w4 V → LeAt V V.heap.size A7 n7 c7 oh) := Lib.hid (fun V h => (LeAt.of_own ho7).here h); have HKb := Lib.hid (Keep.refl Never w4); (try have HKa := Lib.hid (HKa.out.trans hk3)))
        | (go_at_call 8; refine (sameT20 os og (HSa.out _ HKa.out) (HSb.out _ HKb.out) (by have := HOn.out; omega)).mono ?_; rintro e w8 ⟨rfl, hk3⟩))
    all_goals
      rename_i hS
      have HKf := Lib.hid (HKe.out.trans hS.1)
      have HBf2 := Lib.hid (HBe2.out.keep hS.1 (fun h => h))
      rename World => w90
      clear hS HSg HX1 HX2 HSa HSb HKa HKb
      have x0 : w90.cell? ⟨W.heap.size + 1, 0, none⟩ = some (.int .i64 sn) := HBf2.out.cell 0
      have x1 : w90.cell? ⟨W.heap.size + 1, 1, none⟩ = some (.int .i64 gt) := HBf2.out.cell 1
      have x2 : w90.cell? ⟨W.heap.size + 1, 2, none⟩ = some (.slice A n c) := HBf2.out.cell 2
      have HX1 := Lib.hid (fun V (h : Keep Never w90 V) => HRa.out V (HKf.out.trans h) HN.out.1)
      have HX2 := Lib.hid (fun V (h : Keep Never w90 V) => HRb.out V (HKf.out.trans h))
      obtain ⟨rx, hrx⟩ : ∃ y, rightX (sn, gt, l) = y := ⟨_, rfl⟩
      rw [hrx] at HX1 HX2
      clear hrx
      have ter : (er == er) = true := beq_self_eq_true er
      have trx : (rx == rx) = true := beq_self_eq_true rx
      have HSg : Hid (∀ W', Keep Never w90 W' → Keep Never w90 W' ∧ W'.cell? ⟨W.heap.size + 1, 0, none⟩ = some (.int .i64 sn) ∧ W'.cell? ⟨W.heap.size + 1, 1, none⟩ = some (.int .i64 gt) ∧ W'.cell? ⟨W.heap.size + 1, 2, none⟩ = some (.slice A n c)) := Lib.hid (fun W' h => ⟨h, keepT h x0, keepT h x1, keepT h x2⟩)
      go_wp2_with fail
      clear x0 x1 x2
      go_region_held3 (fun W' => Keep Never w90 W' ∧ W'.cell? ⟨W.heap.size + 1, 0, none⟩ = some (.int .i64 sn) ∧ W'.cell? ⟨W.heap.size + 1, 1, none⟩ = some (.int .i64 gt) ∧ W'.cell? ⟨W.heap.size + 1, 2, none⟩ = some (.slice A n c))
        (first | assumption | exact HSg.out _ ((Keep.refl Never w90).drew) | exact HSg.out _ (Keep.trans (And.left (by assumption)) hk3) | exact HSg.out _ (Keep.trans ((Keep.refl Never w90).drew) hk3))
        (first
          | (go_at_call 14; refine (HX1.out _ (by first | exact And.left (by assumption) | exact (Keep.refl Never w90).drew | exact Keep.refl Never w90)).mono ?_; rintro e w3 ⟨rfl, hk3⟩)
          | (go_at_call 15; refine (HX2.out _ (by first | exact And.left (by assumption) | exact (Keep.refl Never w90).drew | exact Keep.refl Never w90)).mono ?_; rintro e w4 ⟨rfl, hk3⟩))
      all_goals
        rename_i hS
        have HKg := Lib.hid (HKf.out.trans hS.1)
        clear hS HSg
        go_wp2_with fail
        go_ret
        exact ⟨rfl, HKg.out⟩

theorem nt_of {w : World} {B : Nat} {n : Nt} {cs : List Value} (h : repNt.cells w B n cs) : ∃ x : NA, cs = (x.cs n).toList ∧ NtAt w B x n ∧ -9223372036854775808 ≤ n.2.2.1 ∧ n.2.2.1 ≤ 9223372036854775807 := by
  obtain ⟨x, h1, h2⟩ := NtAt.of h
  obtain ⟨c1, d1, rfl, _, c2, d2, rfl, _, c3, d3, rfl, ⟨_, hb⟩, _⟩ := h
  exact ⟨x, h1, h2, hb⟩
theorem borderTakes_walk (W : World) (cs0 : Array Value) (t : Tp) (s0 : repTp.cells W W.heap.size t cs0.toList) (cs1 : Array Value) (x : Bdr) (s1 : repBd.cells W W.heap.size x cs1.toList) (cs2 : Array Value) (nt : Nt) (s2 : repNt.cells W W.heap.size nt cs2.toList) (train : Int) (_b3 : -9223372036854775808 ≤ train) (_c3 : train ≤ 9223372036854775807) (now : Int) (_b4 : -9223372036854775808 ≤ now) (_c4 : now ≤ 9223372036854775807) (skew : Int) (_b5 : -9223372036854775808 ≤ skew) (_c5 : skew ≤ 9223372036854775807) :
    Calls Tryz.prog 3 #[.agg cs0, .agg cs1, .agg cs2, .int .i64 train, .int .i64 now, .int .i64 skew] W fun e W' => e = .returned (.bool true) ∧ Keep Never W W' := by
  obtain ⟨y, hy, ht⟩ := TpAt.of s0
  obtain rfl : cs0 = y.cs := by apply Array.ext'; exact hy
  obtain ⟨A, n, c, hc, hx, r1, r2⟩ := BdAt.of s1
  obtain rfl : cs1 = #[.int .i64 x.1, .int .i64 x.2.1, .slice A n c] := by apply Array.ext'; exact hc
  obtain ⟨z, hz, hn, hb⟩ := nt_of s2
  obtain rfl : cs2 = z.cs nt := by apply Array.ext'; exact hz
  obtain ⟨sn, gt, l⟩ := x
  obtain ⟨k0, tr, tt, un, ln, h⟩ := nt
  obtain ⟨A1, n1, c1, A2, n2, c2⟩ := z
  exact takes20_any y t sn gt A n c l k0 tr tt un A1 A2 n1 c1 n2 c2 ln h train now skew W ht hx hn.l hn.h hb r1 r2

end Go.Proofs.YtpahfobijmmmmaaGreat
