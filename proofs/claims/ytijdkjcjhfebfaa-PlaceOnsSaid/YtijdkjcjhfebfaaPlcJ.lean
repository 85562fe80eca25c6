/- Chapter 14: the document's Walk, Locate. -/
import Derived.Test.YtijdkjcjhfebfaaPlcH
import Derived.Test.YtijdkjcjhfebfaaPlcI
import Derived.Test.YtijdkjcjhfebfaaPlcE
import Derived.Test.YtijdkjcjhfebfaaRf13A
namespace Go.Proofs.Ytijdkjcjhfebfaa
open Go.RowKit

theorem begin_at (t : Tp) (x : Stp) : (beginP t x).1 = x.1 ∧ (beginP t x).2.2 = x.2 ∧ alongP t (beginP t x) = 0 := by
  obtain ⟨e, r⟩ := x
  cases r <;> simp [beginP, alongP]
theorem begin_in {t : Tp} {x : Stp} (h : 0 ≤ edgeM t x.1) : 0 ≤ (beginP t x).2.1 ∧ (beginP t x).2.1 ≤ edgeM t x.1 := by
  obtain ⟨e, r⟩ := x
  cases r <;> simp [beginP] <;> exact h
theorem rw_in {t : Tp} {p : Ps} {m : Int} {f : Nat} (h : ¬ m > aheadP t p) : goM t f (p.1, p.2.2) (m + alongP t p) = (movedP p m, 0) := by
  rw [goM_in (by have := ahead_along t p; simp only; omega), moved_on t]
theorem rw_out {t : Tp} {p : Ps} {m : Int} (h : m > aheadP t p) : ¬ m + alongP t p ≤ edgeM t ((p.1, p.2.2) : Stp).1 := by
  have := ahead_along t p; simp only; omega
theorem rw_next {t : Tp} {p : Ps} {m : Int} {f : Nat} {x : Stp} {r : Ps × Int} (hg : goM t (f + 1) (p.1, p.2.2) (m + alongP t p) = r) (ha : afterM t (p.1, p.2.2) = [x]) (hm : m > aheadP t p) :
    goM t f ((beginP t x).1, (beginP t x).2.2) (m - aheadP t p + alongP t (beginP t x)) = r := by
  obtain ⟨h1, h2, h3⟩ := begin_at t x
  rw [goM_next (rw_out hm) ha] at hg
  rw [h1, h2, h3, ← hg]
  have := ahead_along t p
  simp only
  congr 1; omega
/-- between two rounds of the document's Walk -/
structure RwI (w4 : World) (bp : Nat) (t : Tp) (r : Ps × Int) (f : Nat) (p : Ps) (m : Int) (W : World) : Prop where
  far : Keep (fun q => q = bp) w4 W
  blk : Blk W bp 29 #[.int .i64 p.1, .int .i64 p.2.1, .bool p.2.2]
  go : goM t f (p.1, p.2.2) (m + alongP t p) = r
  there : thereB t.1.length p.1 = true
  lo : 0 ≤ p.2.1
  hi : p.2.1 ≤ edgeM t p.1
  pos : 0 ≤ m
  top : m ≤ 1099511627776

set_option maxHeartbeats 8000000 in
set_option maxRecDepth 100000 in
theorem rwalk_any (x : TA) (t : Tp) (B : Nat) (e a : Int) (r : Bool) (n : Int) (w : World) (h : TpAt w B x t) (hs : TpSmall x t) (hB : B ≤ w.heap.size) :
    Calls Try.prog 14 #[.agg x.cs, .agg #[.int .i64 e, .int .i64 a, .bool r], .int .i64 n] w (PsRet2 (walkP t (e, a, r) n) w) := by
  have HRi := Lib.hid (fun (W : World) (hk : Keep Never w W) => rright_any x t B e a r W (h.keep hk) hs (Nat.le_trans hB hk.size))
  have HEl : Hid (x.ne = t.1.length) := Lib.hid h.e.len
  have HAh := Lib.hid (fun (W : World) (hk : Keep Never w W) (e a : Int) (r : Bool) => rahead_any x t B e a r W (h.keep hk))
  have HBg := Lib.hid (fun (W : World) (hk : Keep Never w W) (e : Int) (r : Bool) => rbegin_any x t B e r W (h.keep hk))
  have HAf := Lib.hid (fun (W : World) (hk : Keep Never w W) (s : Stp) => rafter_any x t B s W (h.keep hk) hs.j hs.e)
  obtain ⟨Ae, ne, ce, Aj, nj, cj, Ab, nb, cb, Ar, nr, cr⟩ := x
  simp only [TA.cs] at HRi HEl HAh HBg HAf ⊢
  clear h hs hB
  obtain ⟨w1, hw1⟩ : ∃ V : World, w.alloc (.cells #[.slice Ae ne ce, .slice Aj nj cj, .slice Ab nb cb, .slice Ar nr cr] 27) = V := ⟨_, rfl⟩
  have zw1 : w1.heap.size = w.heap.size + 1 := by rw [← hw1]; simp
  have kw1 : Keep Never w w1 := by rw [← hw1]; exact (Keep.refl _ _).alloc _
  have bw1 := Blk.new w 27 #[.slice Ae ne ce, .slice Aj nj cj, .slice Ab nb cb, .slice Ar nr cr]
  rw [hw1] at bw1
  obtain ⟨w2, hw2⟩ : ∃ V : World, w1.alloc (.cells #[.int .i64 e, .int .i64 a, .bool r] 29) = V := ⟨_, rfl⟩
  have zw2 : w2.heap.size = w.heap.size + 1 + 1 := by rw [← hw2]; simp [zw1]
  have kw2 : Keep Never w1 w2 := by rw [← hw2]; exact (Keep.refl _ _).alloc _
  have bw2 := Blk.new w1 29 #[.int .i64 e, .int .i64 a, .bool r]
  rw [hw2, zw1] at bw2
  obtain ⟨w3, hw3⟩ : ∃ V : World, w2.alloc (.cells #[.int .i64 0, .int .i64 0, .bool false] 29) = V := ⟨_, rfl⟩
  have kw3 : Keep Never w2 w3 := by rw [← hw3]; exact (Keep.refl _ _).alloc _
  have bw3 := Blk.new w2 29 #[.int .i64 0, .int .i64 0, .bool false]
  rw [hw3, zw2] at bw3
  have HB1 := Lib.hid ((bw1.keep kw2 (fun h => h)).keep kw3 (fun h => h))
  have HB2 := Lib.hid (bw2.keep kw3 (fun h => h))
  have HB3 := Lib.hid bw3
  have HK := Lib.hid ((kw1.trans kw2).trans kw3)
  clear kw1 kw2 kw3 bw1 bw2 bw3
  have y0 : w3.cell? ⟨w.heap.size, 0, none⟩ = some (.slice Ae ne ce) := HB1.out.cell 0
  have y1 : w3.cell? ⟨w.heap.size, 1, none⟩ = some (.slice Aj nj cj) := HB1.out.cell 1
  have y2 : w3.cell? ⟨w.heap.size, 2, none⟩ = some (.slice Ab nb cb) := HB1.out.cell 2
  have y3 : w3.cell? ⟨w.heap.size, 3, none⟩ = some (.slice Ar nr cr) := HB1.out.cell 3
  have q0 : w3.cell? ⟨w.heap.size + 1, 0, none⟩ = some (.int .i64 e) := HB2.out.cell 0
  have q1 : w3.cell? ⟨w.heap.size + 1, 1, none⟩ = some (.int .i64 a) := HB2.out.cell 1
  have q2 : w3.cell? ⟨w.heap.size + 1, 2, none⟩ = some (.bool r) := HB2.out.cell 2
  have HC := Lib.hid (HRi.out w3 HK.out)
  clear HRi
  cases hr : rightB t (e, a, r) with
  | false =>
    have HF : Hid (walkP t (e, a, r) n = (noP, 1)) := Lib.hid (by unfold walkP; rw [if_neg (by rw [hr]; simp)])
    rw [hr] at HC
    clear hr
    go_enter Try.func14, Try.ntmps14
    go_wp2_with fail
    refine HC.out.mono ?_
    rintro en w4 ⟨rfl, hk4⟩
    have HK4 := Lib.hid (HK.out.trans hk4)
    have HT4 := Lib.hid (HB1.out.keep hk4 (fun h => h))
    have HP4 := Lib.hid (HB2.out.keep hk4 (fun h => h))
    have HZ4 := Lib.hid (HB3.out.keep hk4 (fun h => h))
    clear hk4 HC HB1 HB2 HB3 y0 y1 y2 y3 q0 q1 q2 hw1 hw2 hw3 zw1 zw2
    have z0 : w4.cell? ⟨w.heap.size + 1 + 1, 0, none⟩ = some (.int .i64 0) := HZ4.out.cell 0
    have z1 : w4.cell? ⟨w.heap.size + 1 + 1, 1, none⟩ = some (.int .i64 0) := HZ4.out.cell 1
    have z2 : w4.cell? ⟨w.heap.size + 1 + 1, 2, none⟩ = some (.bool false) := HZ4.out.cell 2
    have zf0 := HZ4.out.frozen 0
    have zf1 := HZ4.out.frozen 1
    have zf2 := HZ4.out.frozen 2
    go_wp2_with fail
    (try simp only [Exit.inBlock, Exit.then])
    have hp := ps3_keep HK4.out (b := w.heap.size + 1 + 1) (.inr (by omega)) (.int .i64 0) (.int .i64 0) (.bool false)
    refine bodyPost_ret (ps_results2 (fn := Try.f14) (r := 6) (s := 7) rfl (ps3_blk HZ4.out (.int .i64 0) (.int .i64 0) (.bool false)) _ rfl) rfl ⟨by rw [HF.out]; rfl, hp⟩
  | true =>
    rw [hr] at HC
    by_cases g0 : 0 ≤ n
    case neg =>
      have t0 : decide (n < 0) = true := by simp; omega
      have HF : Hid (walkP t (e, a, r) n = (noP, 1)) := Lib.hid (by unfold walkP; rw [if_neg (by rintro ⟨_, h, _⟩; exact g0 h)])
      clear hr g0
      go_enter Try.func14, Try.ntmps14
      go_wp2_with fail
      refine HC.out.mono ?_
      rintro en w4 ⟨rfl, hk4⟩
      have HK4 := Lib.hid (HK.out.trans hk4)
      have HT4 := Lib.hid (HB1.out.keep hk4 (fun h => h))
      have HP4 := Lib.hid (HB2.out.keep hk4 (fun h => h))
      have HZ4 := Lib.hid (HB3.out.keep hk4 (fun h => h))
      clear hk4 HC HB1 HB2 HB3 y0 y1 y2 y3 q0 q1 q2 hw1 hw2 hw3 zw1 zw2
      have z0 : w4.cell? ⟨w.heap.size + 1 + 1, 0, none⟩ = some (.int .i64 0) := HZ4.out.cell 0
      have z1 : w4.cell? ⟨w.heap.size + 1 + 1, 1, none⟩ = some (.int .i64 0) := HZ4.out.cell 1
      have z2 : w4.cell? ⟨w.heap.size + 1 + 1, 2, none⟩ = some (.bool false) := HZ4.out.cell 2
      have zf0 := HZ4.out.frozen 0
      have zf1 := HZ4.out.frozen 1
      have zf2 := HZ4.out.frozen 2
      go_wp2_with fail
      (try simp only [Exit.inBlock, Exit.then])
      have hp := ps3_keep HK4.out (b := w.heap.size + 1 + 1) (.inr (by omega)) (.int .i64 0) (.int .i64 0) (.bool false)
      refine bodyPost_ret (ps_results2 (fn := Try.f14) (r := 6) (s := 7) rfl (ps3_blk HZ4.out (.int .i64 0) (.int .i64 0) (.bool false)) _ rfl) rfl ⟨by rw [HF.out]; rfl, hp⟩
    have t0 : decide (n < 0) = false := by simp; omega
    by_cases g1 : n ≤ 1099511627776
    case neg =>
      have t1 : decide (n > 1099511627776) = true := by simp; omega
      have HF : Hid (walkP t (e, a, r) n = (noP, 1)) := Lib.hid (by unfold walkP; rw [if_neg (by rintro ⟨_, _, h⟩; exact g1 h)])
      clear hr g0 g1
      go_enter Try.func14, Try.ntmps14
      go_wp2_with fail
      refine HC.out.mono ?_
      rintro en w4 ⟨rfl, hk4⟩
      have HK4 := Lib.hid (HK.out.trans hk4)
      have HT4 := Lib.hid (HB1.out.keep hk4 (fun h => h))
      have HP4 := Lib.hid (HB2.out.keep hk4 (fun h => h))
      have HZ4 := Lib.hid (HB3.out.keep hk4 (fun h => h))
      clear hk4 HC HB1 HB2 HB3 y0 y1 y2 y3 q0 q1 q2 hw1 hw2 hw3 zw1 zw2
      have z0 : w4.cell? ⟨w.heap.size + 1 + 1, 0, none⟩ = some (.int .i64 0) := HZ4.out.cell 0
      have z1 : w4.cell? ⟨w.heap.size + 1 + 1, 1, none⟩ = some (.int .i64 0) := HZ4.out.cell 1
      have z2 : w4.cell? ⟨w.heap.size + 1 + 1, 2, none⟩ = some (.bool false) := HZ4.out.cell 2
      have zf0 := HZ4.out.frozen 0
      have zf1 := HZ4.out.frozen 1
      have zf2 := HZ4.out.frozen 2
      go_wp2_with fail
      (try simp only [Exit.inBlock, Exit.then])
      have hp := ps3_keep HK4.out (b := w.heap.size + 1 + 1) (.inr (by omega)) (.int .i64 0) (.int .i64 0) (.bool false)
      refine bodyPost_ret (ps_results2 (fn := Try.f14) (r := 6) (s := 7) rfl (ps3_blk HZ4.out (.int .i64 0) (.int .i64 0) (.bool false)) _ rfl) rfl ⟨by rw [HF.out]; rfl, hp⟩
    have t1 : decide (n > 1099511627776) = false := by simp; omega
    go_enter Try.func14, Try.ntmps14
    go_wp2_with fail
    refine HC.out.mono ?_
    rintro en w4 ⟨rfl, hk4⟩
    have HK4 := Lib.hid (HK.out.trans hk4)
    have HT4 := Lib.hid (HB1.out.keep hk4 (fun h => h))
    have HP4 := Lib.hid (HB2.out.keep hk4 (fun h => h))
    have HZ4 := Lib.hid (HB3.out.keep hk4 (fun h => h))
    clear hk4 HC HB1 HB2 HB3 y0 y1 y2 y3 q0 q1 q2 hw1 hw2 hw3 zw1 zw2
    obtain ⟨r1, r2, r3, r4⟩ := right_iff.1 hr
    simp only at r2 r3 r4
    have HCk := Lib.hid r1
    have HW : Hid (goM t 40 (e, r) (n + alongP t (e, a, r)) = walkP t (e, a, r) n) := Lib.hid (by unfold walkP; rw [if_pos ⟨hr, g0, g1⟩])
    have HI4 : Hid (RwI w4 (w.heap.size + 1) t (walkP t (e, a, r) n) 40 (e, a, r) n w4) := Lib.hid ⟨Keep.refl _ _, HP4.out, HW.out, r2, r3, r4, g0, g1⟩
    clear hr g0 g1 r1 r2 r3 r4 HW HP4
    go_wp2_with fail
    clear t0 t1
    go_loopw [2, 9, 10] (fun m l _ wr => ∃ (f : Nat) (p : Ps) (mm : Int), f ≤ 40 ∧ m = .int .i64 mm ∧ l = .int .i64 ((40 - f : Nat) : Int) ∧ Hid (RwI w4 (w.heap.size + 1) t (walkP t (e, a, r) n) f p mm wr)) (fun _ l _ _ => 40 - (intOf l).toNat)
    case atStart => exact ⟨40, (e, a, r), n, by omega, rfl, rfl, HI4⟩
    case round =>
      obtain ⟨f, ps, mm, hf, rfl, rfl, HH⟩ := hrel
      obtain ⟨pe, pa, pr⟩ := ps
      have HTr := Lib.hid (HT4.out.keep HH.out.far (by omega))
      have HZr := Lib.hid (HZ4.out.keep HH.out.far (by omega))
      have HKr := Lib.hid (HK4.out.then_ HH.out.far (fun i hi e => by omega))
      have HPr := Lib.hid HH.out.blk
      have HGo := Lib.hid HH.out.go
      have hpos := HH.out.pos
      have htop := HH.out.top
      have hin := edge_in HCk.out HH.out.there
      have hlo := HH.out.lo
      have hhi := HH.out.hi
      have hth := HH.out.there
      unfold thereB at hth
      simp only [Bool.and_eq_true, decide_eq_true_eq] at hth
      rw [← HEl.out] at hth
      simp only at hin HPr HGo hlo hhi hth
      have hal := ahead_along t (pe, pa, pr)
      have haz := along_in (t := t) (p := (pe, pa, pr)) hlo hhi
      simp only at hal haz
      have HA := Lib.hid (fun (V : World) (hk : Keep Never wr V) => HAh.out V (HKr.out.trans hk) pe pa pr hth.1 hth.2 (by omega) hin.2 hlo (by omega))
      have HIn := Lib.hid (fun (h : ¬ mm > aheadP t (pe, pa, pr)) => HGo.out.symm.trans (rw_in h))
      have HOu := Lib.hid (fun (h : mm > aheadP t (pe, pa, pr)) => rw_out h)
      have HNx := Lib.hid (fun (f' : Nat) (x : Stp) (hf : f = f' + 1) (ha : afterM t (pe, pr) = [x]) (h : mm > aheadP t (pe, pa, pr)) => rw_next (x := x) (r := walkP t (e, a, r) n) (by rw [← hf]; exact HGo.out) ha h)
      obtain ⟨ah, hah⟩ : ∃ z, aheadP t (pe, pa, pr) = z := ⟨_, rfl⟩
      rw [hah] at HA HIn HOu HNx hal
      have hah1 : 0 ≤ ah ∧ ah ≤ 1000000 := by omega
      have HC := Lib.hid (HA.out wr (Keep.refl _ _))
      have y0 : wr.cell? ⟨w.heap.size, 0, none⟩ = some (.slice Ae ne ce) := HTr.out.cell 0
      have y1 : wr.cell? ⟨w.heap.size, 1, none⟩ = some (.slice Aj nj cj) := HTr.out.cell 1
      have y2 : wr.cell? ⟨w.heap.size, 2, none⟩ = some (.slice Ab nb cb) := HTr.out.cell 2
      have y3 : wr.cell? ⟨w.heap.size, 3, none⟩ = some (.slice Ar nr cr) := HTr.out.cell 3
      have q0 : wr.cell? ⟨w.heap.size + 1, 0, none⟩ = some (.int .i64 pe) := HPr.out.cell 0
      have q1 : wr.cell? ⟨w.heap.size + 1, 1, none⟩ = some (.int .i64 pa) := HPr.out.cell 1
      have q2 : wr.cell? ⟨w.heap.size + 1, 2, none⟩ = some (.bool pr) := HPr.out.cell 2
      by_cases g : mm > ah
      case neg =>
        have t2 : decide (mm > ah) = false := by simpa using g
        have HF : Hid (walkP t (e, a, r) n = (movedP (pe, pa, pr) mm, 0)) := Lib.hid (HIn.out g)
        have HMv := Lib.hid (fun (V : World) => rmoved_any pe pa pr mm V hlo (by omega) hpos (by omega))
        obtain ⟨⟨o1, o2, o3⟩, hov⟩ : ∃ z, movedP (pe, pa, pr) mm = z := ⟨_, rfl⟩
        rw [hov] at HF HMv
        unfold PsRet psV at HMv
        dsimp only at HMv
        clear g hth hin hpos htop hlo hhi hal haz hah hah1 hov
        go_wp2_with fail
        refine HC.out.mono ?_
        rintro en w7 ⟨rfl, hk7⟩
        have HK7 := Lib.hid (HKr.out.trans hk7)
        have HP7 := Lib.hid (HPr.out.keep hk7 (fun h => h))
        have HZ7 := Lib.hid (HZr.out.keep hk7 (fun h => h))
        clear hk7 HC y0 y1 y2 y3 q0 q1 q2
        have q0 : w7.cell? ⟨w.heap.size + 1, 0, none⟩ = some (.int .i64 pe) := HP7.out.cell 0
        have q1 : w7.cell? ⟨w.heap.size + 1, 1, none⟩ = some (.int .i64 pa) := HP7.out.cell 1
        have q2 : w7.cell? ⟨w.heap.size + 1, 2, none⟩ = some (.bool pr) := HP7.out.cell 2
        go_wp2_with fail
        refine (HMv.out _).mono ?_
        rintro en w8 ⟨rfl, hk8⟩
        have HK8 := Lib.hid (HK7.out.trans hk8)
        have HZ8 := Lib.hid (HZ7.out.keep hk8 (fun h => h))
        clear hk8 HMv q0 q1 q2
        have z0 : w8.cell? ⟨w.heap.size + 1 + 1, 0, none⟩ = some (.int .i64 0) := HZ8.out.cell 0
        have z1 : w8.cell? ⟨w.heap.size + 1 + 1, 1, none⟩ = some (.int .i64 0) := HZ8.out.cell 1
        have z2 : w8.cell? ⟨w.heap.size + 1 + 1, 2, none⟩ = some (.bool false) := HZ8.out.cell 2
        have zf0 := HZ8.out.frozen 0
        have zf1 := HZ8.out.frozen 1
        have zf2 := HZ8.out.frozen 2
        go_wp2_with fail
        (try simp only [Exit.inBlock, Exit.then])
        have hp := ps3_keep HK8.out (b := w.heap.size + 1 + 1) (.inr (by omega)) (.int .i64 o1) (.int .i64 o2) (.bool o3)
        refine bodyPost_ret (ps_results2 (fn := Try.f14) (r := 6) (s := 7) rfl (ps3_blk HZ8.out (.int .i64 o1) (.int .i64 o2) (.bool o3)) _ rfl) rfl ⟨by rw [HF.out]; rfl, hp⟩
      have t2 : decide (mm > ah) = true := by simpa using g
      have HC2 := Lib.hid (fun (V : World) (hk : Keep Never wr V) => HAf.out V (HKr.out.trans hk) (pe, pr))
      dsimp only at HC2
      have HG := Lib.hid (HOu.out g)
      have Hg := Lib.hid g
      have Hth := Lib.hid HH.out.there
      have hwm : IntKind.i64.wrap (mm - ah) = mm - ah := IntWalk.i64_in _ (by omega)
      have hwm' : wrap64 (mm - ah) = mm - ah := by have := hwm; rwa [IntWalk.i64_left] at this
      have HBd : Hid (0 ≤ mm - ah ∧ mm - ah ≤ 1099511627776) := Lib.hid (by omega)
      clear g hth hin hpos htop hlo hhi hal haz hah hah1 HIn HOu
      go_wp2_with fail
      refine HC.out.mono ?_
      rintro en w7 ⟨rfl, hk7⟩
      have HKa7 := Lib.hid hk7
      have HC := Lib.hid (HC2.out w7 hk7)
      have HT7 := Lib.hid (HTr.out.keep hk7 (fun h => h))
      have HP7 := Lib.hid (HPr.out.keep hk7 (fun h => h))
      clear hk7 y0 y1 y2 y3 q0 q1 q2
      have y0 : w7.cell? ⟨w.heap.size, 0, none⟩ = some (.slice Ae ne ce) := HT7.out.cell 0
      have y1 : w7.cell? ⟨w.heap.size, 1, none⟩ = some (.slice Aj nj cj) := HT7.out.cell 1
      have y2 : w7.cell? ⟨w.heap.size, 2, none⟩ = some (.slice Ab nb cb) := HT7.out.cell 2
      have y3 : w7.cell? ⟨w.heap.size, 3, none⟩ = some (.slice Ar nr cr) := HT7.out.cell 3
      have q0 : w7.cell? ⟨w.heap.size + 1, 0, none⟩ = some (.int .i64 pe) := HP7.out.cell 0
      have q1 : w7.cell? ⟨w.heap.size + 1, 1, none⟩ = some (.int .i64 pa) := HP7.out.cell 1
      have q2 : w7.cell? ⟨w.heap.size + 1, 2, none⟩ = some (.bool pr) := HP7.out.cell 2
      clear HC2
      go_wp2_with fail
      refine HC.out.mono ?_
      rintro en w8 ⟨A8, n8, c8, rfl, hn8, ho8, hk8⟩
      have HKa8 := Lib.hid (HKa7.out.trans hk8)
      have HK8 := Lib.hid (HKr.out.trans HKa8.out)
      have HT8 := Lib.hid (HT7.out.keep hk8 (fun h => h))
      have HP8 := Lib.hid (HP7.out.keep hk8 (fun h => h))
      have HZ8 := Lib.hid (HZr.out.keep HKa8.out (fun h => h))
      have Ho8 := Lib.hid ho8
      clear ho8 hk8 HC y0 y1 y2 y3 q0 q1 q2
      rcases hl : afterM t (pe, pr) with _ | ⟨x, _ | ⟨y, l⟩⟩
      · have HF : Hid (walkP t (e, a, r) n = (noP, 141)) := Lib.hid (by rw [← HGo.out]; exact goM_end (by have := HG.out; simp only; omega) hl)
        rw [hl] at hn8
        obtain rfl : n8 = 0 := hn8.out
        clear hl hn8
        have z0 : w8.cell? ⟨w.heap.size + 1 + 1, 0, none⟩ = some (.int .i64 0) := HZ8.out.cell 0
        have z1 : w8.cell? ⟨w.heap.size + 1 + 1, 1, none⟩ = some (.int .i64 0) := HZ8.out.cell 1
        have z2 : w8.cell? ⟨w.heap.size + 1 + 1, 2, none⟩ = some (.bool false) := HZ8.out.cell 2
        have zf0 := HZ8.out.frozen 0
        have zf1 := HZ8.out.frozen 1
        have zf2 := HZ8.out.frozen 2
        go_wp2_with fail
        (try simp only [Exit.inBlock, Exit.then])
        have hp := ps3_keep HK8.out (b := w.heap.size + 1 + 1) (.inr (by omega)) (.int .i64 0) (.int .i64 0) (.bool false)
        refine bodyPost_ret (ps_results2 (fn := Try.f14) (r := 6) (s := 7) rfl (ps3_blk HZ8.out (.int .i64 0) (.int .i64 0) (.bool false)) _ rfl) rfl ⟨by rw [HF.out]; rfl, hp⟩
      · rw [hl] at hn8 Ho8
        obtain rfl : n8 = 1 := hn8.out
        have hmem : x ∈ afterM t (pe, pr) := by rw [hl]; simp
        have Hx := Lib.hid (after_there hmem)
        cases f with
        | zero =>
          have HF : Hid (walkP t (e, a, r) n = (noP, 2)) := Lib.hid (by rw [← HGo.out]; exact goM_long (by have := HG.out; simp only; omega) hl)
          clear hl hn8 hmem
          have z0 : w8.cell? ⟨w.heap.size + 1 + 1, 0, none⟩ = some (.int .i64 0) := HZ8.out.cell 0
          have z1 : w8.cell? ⟨w.heap.size + 1 + 1, 1, none⟩ = some (.int .i64 0) := HZ8.out.cell 1
          have z2 : w8.cell? ⟨w.heap.size + 1 + 1, 2, none⟩ = some (.bool false) := HZ8.out.cell 2
          have zf0 := HZ8.out.frozen 0
          have zf1 := HZ8.out.frozen 1
          have zf2 := HZ8.out.frozen 2
          go_wp2_with fail
          (try simp only [Exit.inBlock, Exit.then])
          have hp := ps3_keep HK8.out (b := w.heap.size + 1 + 1) (.inr (by omega)) (.int .i64 0) (.int .i64 0) (.bool false)
          refine bodyPost_ret (ps_results2 (fn := Try.f14) (r := 6) (s := 7) rfl (ps3_blk HZ8.out (.int .i64 0) (.int .i64 0) (.bool false)) _ rfl) rfl ⟨by rw [HF.out]; rfl, hp⟩
        | succ f =>
          have HG2 := Lib.hid (HNx.out f x rfl hl Hg.out)
          have t6 : (((40 - (f + 1) : Nat) : Int) == 40) = false := by simp; omega
          obtain ⟨ad2, x', hA2, hb2, hx', c0, c1⟩ := Ho8.out.rd.stp (k := 0) (by omega)
          obtain rfl : x = x' := by simpa using hx'
          subst hA2
          obtain ⟨x0, x1⟩ := x
          have hx1 := Hx.out
          unfold thereB at hx1
          simp only [Bool.and_eq_true, decide_eq_true_eq] at hx1
          rw [← HEl.out] at hx1
          have HBe := Lib.hid (fun (V : World) (hk : Keep Never w V) => HBg.out V hk x0 x1 hx1.1 hx1.2)
          have hb1 := begin_at t (x0, x1)
          have hb2 := begin_in (t := t) (x := (x0, x1)) (by have := edge_in HCk.out Hx.out; simp only at this ⊢; omega)
          obtain ⟨⟨b1, b2, b3⟩, hbv⟩ : ∃ z, beginP t (x0, x1) = z := ⟨_, rfl⟩
          rw [hbv] at HBe hb1 hb2 HG2
          unfold PsRet psV at HBe
          dsimp only at HBe hb1 hb2 HG2
          have Hb1 := Lib.hid hb1
          have Hb2 := Lib.hid hb2
          simp only [Nat.zero_mul] at c0 c1
          have ea : ad2.add 0 = ad2 := by unfold Addr.add; split <;> simp_all
          have c0' := c0
          have c1' := c1
          rw [ea] at c0' c1'
          have HCx := Lib.hid (And.intro c0 (And.intro c1 (And.intro c0' c1')))
          have HC := Lib.hid (HA.out w8 HKa8.out)
          have y0 : w8.cell? ⟨w.heap.size, 0, none⟩ = some (.slice Ae ne ce) := HT8.out.cell 0
          have y1 : w8.cell? ⟨w.heap.size, 1, none⟩ = some (.slice Aj nj cj) := HT8.out.cell 1
          have y2 : w8.cell? ⟨w.heap.size, 2, none⟩ = some (.slice Ab nb cb) := HT8.out.cell 2
          have y3 : w8.cell? ⟨w.heap.size, 3, none⟩ = some (.slice Ar nr cr) := HT8.out.cell 3
          have q0 : w8.cell? ⟨w.heap.size + 1, 0, none⟩ = some (.int .i64 pe) := HP8.out.cell 0
          have q1 : w8.cell? ⟨w.heap.size + 1, 1, none⟩ = some (.int .i64 pa) := HP8.out.cell 1
          have q2 : w8.cell? ⟨w.heap.size + 1, 2, none⟩ = some (.bool pr) := HP8.out.cell 2
          clear hl hn8 hmem hx' hx1 hb1 hb2 hbv c0 c1 c0' c1'
          go_wp2_with fail
          refine HC.out.mono ?_
          rintro en w9 ⟨rfl, hk9⟩
          obtain ⟨c0, c1, c0', c1'⟩ := HCx.out
          have c0 := keepT hk9 c0
          have c1 := keepT hk9 c1
          have c0' := keepT hk9 c0'
          have c1' := keepT hk9 c1'
          have HK9 := Lib.hid (HK8.out.trans hk9)
          have HKa9 := Lib.hid (HKa8.out.trans hk9)
          have HT9 := Lib.hid (HT8.out.keep hk9 (fun h => h))
          have HP9 := Lib.hid (HP8.out.keep hk9 (fun h => h))
          clear hk9 HC y0 y1 y2 y3 q0 q1 q2
          have y0 : w9.cell? ⟨w.heap.size, 0, none⟩ = some (.slice Ae ne ce) := HT9.out.cell 0
          have y1 : w9.cell? ⟨w.heap.size, 1, none⟩ = some (.slice Aj nj cj) := HT9.out.cell 1
          have y2 : w9.cell? ⟨w.heap.size, 2, none⟩ = some (.slice Ab nb cb) := HT9.out.cell 2
          have y3 : w9.cell? ⟨w.heap.size, 3, none⟩ = some (.slice Ar nr cr) := HT9.out.cell 3
          go_wp2_with fail
          (try rw [hwm'])
          go_region_law (first
            | (go_simp; go_at_call 42; refine (HBe.out _ (HK9.out.drew)).mono ?_; rintro en w10 ⟨rfl, hk10⟩; have HK10 := Lib.hid hk10.drewL; have HP10 := Lib.hid (HP9.out.keep HK10.out (fun h => h)); have q0 : w10.cell? ⟨w.heap.size + 1, 0, none⟩ = some (.int .i64 pe) := HP10.out.cell 0; have q1 : w10.cell? ⟨w.heap.size + 1, 1, none⟩ = some (.int .i64 pa) := HP10.out.cell 1; have q2 : w10.cell? ⟨w.heap.size + 1, 2, none⟩ = some (.bool pr) := HP10.out.cell 2; have qf0 := HP10.out.frozen 0; have qf1 := HP10.out.frozen 1; have qf2 := HP10.out.frozen 2))
          all_goals
            go_wp2_with fail
            have b11 := ps3_blk HP10.out (.int .i64 b1) (.int .i64 b2) (.bool b3)
            refine ⟨⟨f, (b1, b2, b3), mm - ah, by omega, rfl, by rw [show ((39 - f : Nat) : Int) + 1 = ((40 - f : Nat) : Int) by omega], Lib.hid ⟨HH.out.far.then_ (ps3_keep ((HKa9.out.trans HK10.out).mono (S' := fun q => q = w.heap.size + 1) (fun _ _ h => h.elim)) (b := w.heap.size + 1) (.inl rfl) _ _ _) (fun i hi h => h), b11, HG2.out, by have h1 := Hb1.out; rw [h1.1]; exact Hx.out, Hb2.out.1, by have h1 := Hb1.out; have h2 := Hb2.out; simp only; rw [h1.1]; exact h2.2, HBd.out.1, HBd.out.2⟩⟩, ?_⟩
            simp [intOf]; try omega
      · have HF : Hid (walkP t (e, a, r) n = (noP, 140)) := Lib.hid (by rw [← HGo.out]; exact goM_fork (by have := HG.out; simp only; omega) hl)
        rw [hl] at hn8
        have hn2 : n8 = l.length + 2 := hn8.out
        have t3 : ((n8 : Int) == 0) = false := by simp; omega
        have t4 : decide ((n8 : Int) > 1) = true := by simp; omega
        have t5 : decide (1 < n8) = true := by simp; omega
        clear hl hn8 hn2
        have z0 : w8.cell? ⟨w.heap.size + 1 + 1, 0, none⟩ = some (.int .i64 0) := HZ8.out.cell 0
        have z1 : w8.cell? ⟨w.heap.size + 1 + 1, 1, none⟩ = some (.int .i64 0) := HZ8.out.cell 1
        have z2 : w8.cell? ⟨w.heap.size + 1 + 1, 2, none⟩ = some (.bool false) := HZ8.out.cell 2
        have zf0 := HZ8.out.frozen 0
        have zf1 := HZ8.out.frozen 1
        have zf2 := HZ8.out.frozen 2
        go_wp2_with fail
        (try simp only [Exit.inBlock, Exit.then])
        have hp := ps3_keep HK8.out (b := w.heap.size + 1 + 1) (.inr (by omega)) (.int .i64 0) (.int .i64 0) (.bool false)
        refine bodyPost_ret (ps_results2 (fn := Try.f14) (r := 6) (s := 7) rfl (ps3_blk HZ8.out (.int .i64 0) (.int .i64 0) (.bool false)) _ rfl) rfl ⟨by rw [HF.out]; rfl, hp⟩

set_option maxHeartbeats 8000000 in
set_option maxRecDepth 100000 in
theorem rlocate_any (x : TA) (t : Tp) (B : Nat) (id : Int) (r : Bool) (n : Int) (w : World) (h : TpAt w B x t) (hs : TpSmall x t) (hB : B ≤ w.heap.size) :
    Calls Try.prog 16 #[.agg x.cs, .int .i64 id, .bool r, .int .i64 n] w (PsRet2 (locP t id r n) w) := by
  have HCh := Lib.hid (fun (W : World) (hk : Keep Never w W) => rcheck_any x t B W (h.keep hk) hs (Nat.le_trans hB hk.size))
  have HBa := Lib.hid (fun (W : World) (hk : Keep Never w W) => rbal_any x t B id W (h.keep hk) hs.b)
  have HWk := Lib.hid (fun (W : World) (hk : Keep Never w W) (e a : Int) => rwalk_any x t B e a r n W (h.keep hk) hs (Nat.le_trans hB hk.size))
  obtain ⟨Ae, ne, ce, Aj, nj, cj, Ab, nb, cb, Ar, nr, cr⟩ := x
  simp only [TA.cs] at HCh HBa HWk ⊢
  clear h hs hB
  obtain ⟨w1, hw1⟩ : ∃ V : World, w.alloc (.cells #[.slice Ae ne ce, .slice Aj nj cj, .slice Ab nb cb, .slice Ar nr cr] 27) = V := ⟨_, rfl⟩
  have zw1 : w1.heap.size = w.heap.size + 1 := by rw [← hw1]; simp
  have kw1 : Keep Never w w1 := by rw [← hw1]; exact (Keep.refl _ _).alloc _
  have bw1 := Blk.new w 27 #[.slice Ae ne ce, .slice Aj nj cj, .slice Ab nb cb, .slice Ar nr cr]
  rw [hw1] at bw1
  obtain ⟨w2, hw2⟩ : ∃ V : World, w1.alloc (.cells #[.int .i64 0, .int .i64 0, .bool false] 29) = V := ⟨_, rfl⟩
  have kw2 : Keep Never w1 w2 := by rw [← hw2]; exact (Keep.refl _ _).alloc _
  have bw2 := Blk.new w1 29 #[.int .i64 0, .int .i64 0, .bool false]
  rw [hw2, zw1] at bw2
  have HB1 := Lib.hid (bw1.keep kw2 (fun h => h))
  have HB2 := Lib.hid bw2
  have HK := Lib.hid (kw1.trans kw2)
  clear kw1 kw2 bw1 bw2
  have y0 : w2.cell? ⟨w.heap.size, 0, none⟩ = some (.slice Ae ne ce) := HB1.out.cell 0
  have y1 : w2.cell? ⟨w.heap.size, 1, none⟩ = some (.slice Aj nj cj) := HB1.out.cell 1
  have y2 : w2.cell? ⟨w.heap.size, 2, none⟩ = some (.slice Ab nb cb) := HB1.out.cell 2
  have y3 : w2.cell? ⟨w.heap.size, 3, none⟩ = some (.slice Ar nr cr) := HB1.out.cell 3
  have HC := Lib.hid (HCh.out w2 HK.out)
  obtain ⟨ck, hck⟩ : ∃ z, checkM t = z := ⟨_, rfl⟩
  rw [hck] at HC
  go_enter Try.func16, Try.ntmps16
  go_wp2_with fail
  refine HC.out.mono ?_
  rintro en w4 ⟨rfl, hk4⟩
  have HK4 := Lib.hid (HK.out.trans hk4)
  have HT4 := Lib.hid (HB1.out.keep hk4 (fun h => h))
  have HZ4 := Lib.hid (HB2.out.keep hk4 (fun h => h))
  clear hk4 HC HCh HB1 HB2 y0 y1 y2 y3 hw1 hw2 zw1
  by_cases g : ck = 0
  case neg =>
    have t0 : (ck != 0) = true := by simpa using g
    have HF : Hid (locP t id r n = (noP, 1)) := Lib.hid (by unfold locP; rw [if_neg (by rw [hck]; exact g)])
    clear g hck
    have z0 : w4.cell? ⟨w.heap.size + 1, 0, none⟩ = some (.int .i64 0) := HZ4.out.cell 0
    have z1 : w4.cell? ⟨w.heap.size + 1, 1, none⟩ = some (.int .i64 0) := HZ4.out.cell 1
    have z2 : w4.cell? ⟨w.heap.size + 1, 2, none⟩ = some (.bool false) := HZ4.out.cell 2
    have zf0 := HZ4.out.frozen 0
    have zf1 := HZ4.out.frozen 1
    have zf2 := HZ4.out.frozen 2
    go_wp2_with fail
    (try simp only [Exit.inBlock, Exit.then])
    have hp := ps3_keep HK4.out (b := w.heap.size + 1) (.inr (by omega)) (.int .i64 0) (.int .i64 0) (.bool false)
    refine bodyPost_ret (ps_results2 (fn := Try.f16) (r := 8) (s := 9) rfl (ps3_blk HZ4.out (.int .i64 0) (.int .i64 0) (.bool false)) _ rfl) rfl ⟨by rw [HF.out]; rfl, hp⟩
  have t0 : (ck != 0) = false := by simpa using g
  have HF0 : Hid (locP t id r n = match balM t.2.2.1 id with | none => (noP, 4) | some b => walkP t (b.2.1, b.2.2, r) n) := Lib.hid (by unfold locP; rw [if_pos (by rw [hck]; exact g)]; rfl)
  clear g hck
  have hC0 := HBa.out w4 HK4.out
  unfold BalRet at hC0
  obtain ⟨ob, hob⟩ : ∃ z, balM t.2.2.1 id = z := ⟨_, rfl⟩
  rw [hob] at hC0 HF0
  have HC := Lib.hid hC0
  clear hC0 hob HBa
  have y0 : w4.cell? ⟨w.heap.size, 0, none⟩ = some (.slice Ae ne ce) := HT4.out.cell 0
  have y1 : w4.cell? ⟨w.heap.size, 1, none⟩ = some (.slice Aj nj cj) := HT4.out.cell 1
  have y2 : w4.cell? ⟨w.heap.size, 2, none⟩ = some (.slice Ab nb cb) := HT4.out.cell 2
  have y3 : w4.cell? ⟨w.heap.size, 3, none⟩ = some (.slice Ar nr cr) := HT4.out.cell 3
  cases ob with
  | none =>
    have HF : Hid (locP t id r n = (noP, 4)) := Lib.hid HF0.out
    go_wp2_with fail
    refine HC.out.mono ?_
    rintro en w5 ⟨rfl, hk5⟩
    have HK5 := Lib.hid (HK4.out.trans hk5)
    have HZ5 := Lib.hid (HZ4.out.keep hk5 (fun h => h))
    clear hk5 HC y0 y1 y2 y3
    simp only [Option.getD, Option.isSome]
    have HK6 := Lib.hid (HK5.out.trans ((Keep.refl Never w5).alloc (.cells #[.int .i64 0, .int .i64 0, .int .i64 0] 82)))
    have HZ6 := Lib.hid (HZ5.out.alloc (.cells #[.int .i64 0, .int .i64 0, .int .i64 0] 82))
    have z0 : (w5.alloc (.cells #[.int .i64 0, .int .i64 0, .int .i64 0] 82)).cell? ⟨w.heap.size + 1, 0, none⟩ = some (.int .i64 0) := HZ6.out.cell 0
    have z1 : (w5.alloc (.cells #[.int .i64 0, .int .i64 0, .int .i64 0] 82)).cell? ⟨w.heap.size + 1, 1, none⟩ = some (.int .i64 0) := HZ6.out.cell 1
    have z2 : (w5.alloc (.cells #[.int .i64 0, .int .i64 0, .int .i64 0] 82)).cell? ⟨w.heap.size + 1, 2, none⟩ = some (.bool false) := HZ6.out.cell 2
    have zf0 := HZ6.out.frozen 0
    have zf1 := HZ6.out.frozen 1
    have zf2 := HZ6.out.frozen 2
    go_wp2_with fail
    (try simp only [Exit.inBlock, Exit.then])
    have hp := ps3_keep HK6.out (b := w.heap.size + 1) (.inr (by omega)) (.int .i64 0) (.int .i64 0) (.bool false)
    refine bodyPost_ret (ps_results2 (fn := Try.f16) (r := 8) (s := 9) rfl (ps3_blk HZ6.out (.int .i64 0) (.int .i64 0) (.bool false)) _ rfl) rfl ⟨by rw [HF.out]; rfl, hp⟩
  | some b =>
    obtain ⟨b1, b2, b3⟩ := b
    have HF : Hid (locP t id r n = walkP t (b2, b3, r) n) := Lib.hid HF0.out
    go_wp2_with fail
    refine HC.out.mono ?_
    rintro en w5 ⟨rfl, hk5⟩
    have HK5 := Lib.hid (HK4.out.trans hk5)
    have HT5 := Lib.hid (HT4.out.keep hk5 (fun h => h))
    have HZ5 := Lib.hid (HZ4.out.keep hk5 (fun h => h))
    clear hk5 HC y0 y1 y2 y3
    simp only [Option.getD, Option.isSome]
    obtain ⟨w6, hw6⟩ : ∃ V : World, w5.alloc (.cells #[.int .i64 b1, .int .i64 b2, .int .i64 b3] 82) = V := ⟨_, rfl⟩
    have K6 : Keep Never w5 w6 := by rw [← hw6]; exact (Keep.refl _ _).alloc _
    have B6 := Blk.new w5 82 #[.int .i64 b1, .int .i64 b2, .int .i64 b3]
    rw [hw6] at B6
    obtain ⟨bb, hbb⟩ : ∃ q, w5.heap.size = q := ⟨_, rfl⟩
    rw [hbb] at B6
    have HK6 := Lib.hid (HK5.out.trans K6)
    have HT6 := Lib.hid (HT5.out.keep K6 (fun h => h))
    have HZ6 := Lib.hid (HZ5.out.keep K6 (fun h => h))
    have HB6 := Lib.hid B6
    clear K6 B6
    have y0 : w6.cell? ⟨w.heap.size, 0, none⟩ = some (.slice Ae ne ce) := HT6.out.cell 0
    have y1 : w6.cell? ⟨w.heap.size, 1, none⟩ = some (.slice Aj nj cj) := HT6.out.cell 1
    have y2 : w6.cell? ⟨w.heap.size, 2, none⟩ = some (.slice Ab nb cb) := HT6.out.cell 2
    have y3 : w6.cell? ⟨w.heap.size, 3, none⟩ = some (.slice Ar nr cr) := HT6.out.cell 3
    have q0 : w6.cell? ⟨bb, 0, none⟩ = some (.int .i64 b1) := HB6.out.cell 0
    have q1 : w6.cell? ⟨bb, 1, none⟩ = some (.int .i64 b2) := HB6.out.cell 1
    have q2 : w6.cell? ⟨bb, 2, none⟩ = some (.int .i64 b3) := HB6.out.cell 2
    have HC := Lib.hid (HWk.out w6 HK6.out b2 b3)
    go_wp2_with fail
    refine HC.out.mono ?_
    clear hw6 hbb
    rintro en w7 ⟨rfl, hk7⟩
    have HK7 := Lib.hid (HK6.out.trans hk7)
    have HZ7 := Lib.hid (HZ6.out.keep hk7 (fun h => h))
    clear hk7 HC y0 y1 y2 y3 q0 q1 q2
    obtain ⟨⟨⟨o1, o2, o3⟩, oe⟩, hov⟩ : ∃ z, walkP t (b2, b3, r) n = z := ⟨_, rfl⟩
    rw [hov] at HF
    rw [hov]
    clear hov
    have z0 : w7.cell? ⟨w.heap.size + 1, 0, none⟩ = some (.int .i64 0) := HZ7.out.cell 0
    have z1 : w7.cell? ⟨w.heap.size + 1, 1, none⟩ = some (.int .i64 0) := HZ7.out.cell 1
    have z2 : w7.cell? ⟨w.heap.size + 1, 2, none⟩ = some (.bool false) := HZ7.out.cell 2
    have zf0 := HZ7.out.frozen 0
    have zf1 := HZ7.out.frozen 1
    have zf2 := HZ7.out.frozen 2
    go_wp2_with fail
    (try simp only [Exit.inBlock, Exit.then])
    have hp := ps3_keep HK7.out (b := w.heap.size + 1) (.inr (by omega)) (.int .i64 o1) (.int .i64 o2) (.bool o3)
    refine bodyPost_ret (ps_results2 (fn := Try.f16) (r := 8) (s := 9) rfl (ps3_blk HZ7.out (.int .i64 o1) (.int .i64 o2) (.bool o3)) _ rfl) rfl ⟨by rw [HF.out]; rfl, hp⟩
end Go.Proofs.Ytijdkjcjhfebfaa
