/- Chapter 14 (place): Walk. -/
import Derived.Test.YtijdkjcjhfebfaaPlcC
import Derived.Test.YtijdkjcjhfebfaaAftB
import Derived.WalkMore
namespace Go.Proofs.Ytijdkjcjhfebfaa
open Go.RowKit

theorem edge_in {t : Tp} (hc : checkM t = 0) {e : Int} (h : thereB t.1.length e = true) : 1 ≤ edgeM t e ∧ edgeM t e ≤ 1000000 := by
  unfold thereB at h
  simp only [Bool.and_eq_true, decide_eq_true_eq] at h
  have hl : e.toNat < t.1.length := by omega
  have hg : edgeM t e = t.1[e.toNat] := by unfold edgeM; rw [List.getD_eq_getElem?_getD, List.getElem?_eq_getElem hl]; rfl
  rw [hg]
  exact check_edges hc _ (List.getElem_mem hl)
/-- between two rounds of a walk -/
structure WkI (w5 : World) (bs : Nat) (t : Tp) (r : Ps × Int) (f : Nat) (s : Stp) (m : Int) (W : World) : Prop where
  far : Keep (fun q => q = bs) w5 W
  st : Blk W bs 45 #[.int .i64 s.1, .bool s.2]
  go : goM t f s m = r
  there : thereB t.1.length s.1 = true
  pos : 0 ≤ m
  top : m ≤ 2199023255552

set_option maxHeartbeats 8000000 in
set_option maxRecDepth 100000 in
theorem pwalk_any (x : TA) (t : Tp) (B : Nat) (e a : Int) (r : Bool) (n : Int) (w : World) (h : TpAt w B x t) (hs : TpSmall x t) (hB : B ≤ w.heap.size) :
    Calls Try.prog 12 #[.agg x.cs, .agg #[.int .i64 e, .int .i64 a, .bool r], .int .i64 n] w (PsRet2 (walkP t (e, a, r) n) w) := by
  have HRi := Lib.hid (fun (W : World) (hk : Keep Never w W) => pright_any x t B e a r W (h.keep hk) hs (Nat.le_trans hB hk.size))
  have HTp := Lib.hid h
  have HEl : Hid (x.ne = t.1.length) := Lib.hid h.e.len
  have HAl := Lib.hid (fun (W : World) (hk : Keep Never w W) => palong_any x t B e a r W (h.keep hk))
  have HOv := Lib.hid (fun (W : World) (hk : Keep Never w W) (e : Int) (r : Bool) (n : Int) => pover_any x t B e r n W (h.keep hk))
  have HAf := Lib.hid (fun (W : World) (hk : Keep Never w W) (s : Stp) => after_any x t B s W (h.keep hk) hs.j hs.e)
  have HED := Lib.hid (fun (W : World) (hk : Keep Never w W) (i : Int) (h0 : 0 ≤ i) (h1 : i < (x.ne : Int)) => edge_at (h.keep hk) h0 h1)
  obtain ⟨Ae, ne, ce, Aj, nj, cj, Ab, nb, cb, Ar, nr, cr⟩ := x
  simp only [TA.cs] at HRi HTp HEl HAl HOv HAf HED ⊢
  clear h hs hB
  obtain ⟨w1, hw1⟩ : ∃ V : World, w.alloc (.cells #[.slice Ae ne ce, .slice Aj nj cj, .slice Ab nb cb, .slice Ar nr cr] 27) = V := ⟨_, rfl⟩
  have zw1 : w1.heap.size = w.heap.size + 1 := by rw [← hw1]; simp
  have kw1 : Keep Never w w1 := by rw [← hw1]; exact (Keep.refl _ _).alloc _
  have bw1 := Blk.new w 27 #[.slice Ae ne ce, .slice Aj nj cj, .slice Ab nb cb, .slice Ar nr cr]
  rw [hw1] at bw1
  obtain ⟨w2, hw2⟩ : ∃ V : World, w1.alloc (.cells #[.int .i64 e, .int .i64 a, .bool r] 29) = V := ⟨_, rfl⟩
  have zw2 : w2.heap.size = w.heap.size + 1 + 1 := by rw [← hw2]; simp [zw1]
  have kw2 : Keep Never w1 w2 := by rw [← hw2]; exact (Keep.refl _ _).alloc _
  have bw2 := Blk.new w1 29 #[.int .i64 e, .int .i64 a, .bool r]
  rw [hw2, zw1] at bw2
  obtain ⟨w3, hw3⟩ : ∃ V : World, w2.alloc (.cells #[.int .i64 0, .int .i64 0, .bool false] 29) = V := ⟨_, rfl⟩
  have kw3 : Keep Never w2 w3 := by rw [← hw3]; exact (Keep.refl _ _).alloc _
  have bw3 := Blk.new w2 29 #[.int .i64 0, .int .i64 0, .bool false]
  rw [hw3, zw2] at bw3
  have HB1 := Lib.hid ((bw1.keep kw2 (fun h => h)).keep kw3 (fun h => h))
  have HB2 := Lib.hid (bw2.keep kw3 (fun h => h))
  have HB3 := Lib.hid bw3
  have HK := Lib.hid ((kw1.trans kw2).trans kw3)
  clear kw1 kw2 kw3 bw1 bw2 bw3
  have y0 : w3.cell? ⟨w.heap.size, 0, none⟩ = some (.slice Ae ne ce) := HB1.out.cell 0
  have y1 : w3.cell? ⟨w.heap.size, 1, none⟩ = some (.slice Aj nj cj) := HB1.out.cell 1
  have y2 : w3.cell? ⟨w.heap.size, 2, none⟩ = some (.slice Ab nb cb) := HB1.out.cell 2
  have y3 : w3.cell? ⟨w.heap.size, 3, none⟩ = some (.slice Ar nr cr) := HB1.out.cell 3
  have q0 : w3.cell? ⟨w.heap.size + 1, 0, none⟩ = some (.int .i64 e) := HB2.out.cell 0
  have q1 : w3.cell? ⟨w.heap.size + 1, 1, none⟩ = some (.int .i64 a) := HB2.out.cell 1
  have q2 : w3.cell? ⟨w.heap.size + 1, 2, none⟩ = some (.bool r) := HB2.out.cell 2
  have HC := Lib.hid (HRi.out w3 HK.out)
  clear HRi
  cases hr : rightB t (e, a, r) with
  | false =>
    have HF : Hid (walkP t (e, a, r) n = (noP, 1)) := Lib.hid (by unfold walkP; rw [if_neg (by rw [hr]; simp)])
    rw [hr] at HC
    clear hr
    go_enter Try.func12, Try.ntmps12
    go_wp2_with fail
    go_step3
    go_wp2_with fail
    refine HC.out.mono ?_
    rintro en w4 ⟨rfl, hk4⟩
    have HK4 := Lib.hid (HK.out.trans hk4)
    have HT4 := Lib.hid (HB1.out.keep hk4 (fun h => h))
    have HP4 := Lib.hid (HB2.out.keep hk4 (fun h => h))
    have HZ4 := Lib.hid (HB3.out.keep hk4 (fun h => h))
    clear hk4 HC HB1 HB2 HB3 y0 y1 y2 y3 q0 q1 q2 hw1 hw2 hw3 zw1 zw2
    have z0 : w4.cell? ⟨w.heap.size + 1 + 1, 0, none⟩ = some (.int .i64 0) := HZ4.out.cell 0
    have z1 : w4.cell? ⟨w.heap.size + 1 + 1, 1, none⟩ = some (.int .i64 0) := HZ4.out.cell 1
    have z2 : w4.cell? ⟨w.heap.size + 1 + 1, 2, none⟩ = some (.bool false) := HZ4.out.cell 2
    have zf0 := HZ4.out.frozen 0
    have zf1 := HZ4.out.frozen 1
    have zf2 := HZ4.out.frozen 2
    go_wp2_with fail
    (try simp only [Exit.inBlock, Exit.then])
    (try rw [Exit.noGoto_ret])
    have hp := ps3_keep HK4.out (b := w.heap.size + 1 + 1) (.inr (by omega)) (.int .i64 0) (.int .i64 0) (.bool false)
    refine bodyPost_ret (ps_results2 (fn := Try.f12) (r := 6) (s := 7) rfl (ps3_blk HZ4.out (.int .i64 0) (.int .i64 0) (.bool false)) _ rfl) rfl ⟨by rw [HF.out]; rfl, hp⟩
  | true =>
    rw [hr] at HC
    by_cases g0 : 0 ≤ n
    case neg =>
      have t0 : decide (n < 0) = true := by simp; omega
      have HF : Hid (walkP t (e, a, r) n = (noP, 1)) := Lib.hid (by unfold walkP; rw [if_neg (by rintro ⟨_, h, _⟩; exact g0 h)])
      clear hr g0
      go_enter Try.func12, Try.ntmps12
      go_wp2_with fail
      go_step3
      go_wp2_with fail
      refine HC.out.mono ?_
      rintro en w4 ⟨rfl, hk4⟩
      have HK4 := Lib.hid (HK.out.trans hk4)
      have HT4 := Lib.hid (HB1.out.keep hk4 (fun h => h))
      have HP4 := Lib.hid (HB2.out.keep hk4 (fun h => h))
      have HZ4 := Lib.hid (HB3.out.keep hk4 (fun h => h))
      clear hk4 HC HB1 HB2 HB3 y0 y1 y2 y3 q0 q1 q2 hw1 hw2 hw3 zw1 zw2
      have z0 : w4.cell? ⟨w.heap.size + 1 + 1, 0, none⟩ = some (.int .i64 0) := HZ4.out.cell 0
      have z1 : w4.cell? ⟨w.heap.size + 1 + 1, 1, none⟩ = some (.int .i64 0) := HZ4.out.cell 1
      have z2 : w4.cell? ⟨w.heap.size + 1 + 1, 2, none⟩ = some (.bool false) := HZ4.out.cell 2
      have zf0 := HZ4.out.frozen 0
      have zf1 := HZ4.out.frozen 1
      have zf2 := HZ4.out.frozen 2
      go_wp2_with fail
      (try simp only [Exit.inBlock, Exit.then])
      (try rw [Exit.noGoto_ret])
      have hp := ps3_keep HK4.out (b := w.heap.size + 1 + 1) (.inr (by omega)) (.int .i64 0) (.int .i64 0) (.bool false)
      refine bodyPost_ret (ps_results2 (fn := Try.f12) (r := 6) (s := 7) rfl (ps3_blk HZ4.out (.int .i64 0) (.int .i64 0) (.bool false)) _ rfl) rfl ⟨by rw [HF.out]; rfl, hp⟩
    have t0 : decide (n < 0) = false := by simp; omega
    by_cases g1 : n ≤ 1099511627776
    case neg =>
      have t1 : decide (n > 1099511627776) = true := by simp; omega
      have HF : Hid (walkP t (e, a, r) n = (noP, 1)) := Lib.hid (by unfold walkP; rw [if_neg (by rintro ⟨_, _, h⟩; exact g1 h)])
      clear hr g0 g1
      go_enter Try.func12, Try.ntmps12
      go_wp2_with fail
      go_step3
      go_wp2_with fail
      refine HC.out.mono ?_
      rintro en w4 ⟨rfl, hk4⟩
      have HK4 := Lib.hid (HK.out.trans hk4)
      have HT4 := Lib.hid (HB1.out.keep hk4 (fun h => h))
      have HP4 := Lib.hid (HB2.out.keep hk4 (fun h => h))
      have HZ4 := Lib.hid (HB3.out.keep hk4 (fun h => h))
      clear hk4 HC HB1 HB2 HB3 y0 y1 y2 y3 q0 q1 q2 hw1 hw2 hw3 zw1 zw2
      have z0 : w4.cell? ⟨w.heap.size + 1 + 1, 0, none⟩ = some (.int .i64 0) := HZ4.out.cell 0
      have z1 : w4.cell? ⟨w.heap.size + 1 + 1, 1, none⟩ = some (.int .i64 0) := HZ4.out.cell 1
      have z2 : w4.cell? ⟨w.heap.size + 1 + 1, 2, none⟩ = some (.bool false) := HZ4.out.cell 2
      have zf0 := HZ4.out.frozen 0
      have zf1 := HZ4.out.frozen 1
      have zf2 := HZ4.out.frozen 2
      go_wp2_with fail
      (try simp only [Exit.inBlock, Exit.then])
      (try rw [Exit.noGoto_ret])
      have hp := ps3_keep HK4.out (b := w.heap.size + 1 + 1) (.inr (by omega)) (.int .i64 0) (.int .i64 0) (.bool false)
      refine bodyPost_ret (ps_results2 (fn := Try.f12) (r := 6) (s := 7) rfl (ps3_blk HZ4.out (.int .i64 0) (.int .i64 0) (.bool false)) _ rfl) rfl ⟨by rw [HF.out]; rfl, hp⟩
    have t1 : decide (n > 1099511627776) = false := by simp; omega
    go_enter Try.func12, Try.ntmps12
    go_wp2_with fail
    go_step3
    go_wp2_with fail
    refine HC.out.mono ?_
    rintro en w4 ⟨rfl, hk4⟩
    have HK4 := Lib.hid (HK.out.trans hk4)
    have HT4 := Lib.hid (HB1.out.keep hk4 (fun h => h))
    have HP4 := Lib.hid (HB2.out.keep hk4 (fun h => h))
    have HZ4 := Lib.hid (HB3.out.keep hk4 (fun h => h))
    clear hk4 HC HB1 HB2 HB3 y0 y1 y2 y3 q0 q1 q2 hw1 hw2 hw3 zw1 zw2
    obtain ⟨r1, r2, r3, r4⟩ := right_iff.1 hr
    simp only at r2 r3 r4
    have HCk := Lib.hid r1
    have hin := edge_in r1 r2
    have hth := r2
    unfold thereB at hth
    simp only [Bool.and_eq_true, decide_eq_true_eq] at hth
    rw [← HEl.out] at hth
    have hal := along_in (t := t) (p := (e, a, r)) r3 r4
    simp only at hal
    have HW : Hid (goM t 40 (e, r) (n + alongP t (e, a, r)) = walkP t (e, a, r) n) := Lib.hid (by unfold walkP; rw [if_pos ⟨hr, g0, g1⟩])
    have HTh := Lib.hid r2
    obtain ⟨w5, hw5⟩ : ∃ V : World, w4.alloc (.cells #[.int .i64 e, .bool r] 45) = V := ⟨_, rfl⟩
    have K5 : Keep Never w4 w5 := by rw [← hw5]; exact (Keep.refl _ _).alloc _
    have B5 := Blk.new w4 45 #[.int .i64 e, .bool r]
    rw [hw5] at B5
    obtain ⟨bs, hbs⟩ : ∃ q, w4.heap.size = q := ⟨_, rfl⟩
    rw [hbs] at B5
    have HK5 := Lib.hid (HK4.out.trans K5)
    have HT5 := Lib.hid (HT4.out.keep K5 (fun h => h))
    have HP5 := Lib.hid (HP4.out.keep K5 (fun h => h))
    have HZ5 := Lib.hid (HZ4.out.keep K5 (fun h => h))
    have HS5 := Lib.hid B5
    have HLo : Hid (w.heap.size + 2 < bs) := Lib.hid (by rw [← hbs]; exact HZ4.out.lt)
    have HC := Lib.hid (HAl.out w5 HK5.out hth.1 hth.2 (by omega) hin.2 r3 (by omega))
    obtain ⟨al, hal'⟩ : ∃ z, alongP t (e, a, r) = z := ⟨_, rfl⟩
    rw [hal'] at HC HW hal
    have hw : IntKind.i64.wrap (n + al) = n + al := IntWalk.i64_in _ (by omega)
    have HN0 : Hid (0 ≤ n + al ∧ n + al ≤ 2199023255552) := Lib.hid (by omega)
    have p0 : w4.cell? ⟨w.heap.size + 1, 0, none⟩ = some (.int .i64 e) := HP4.out.cell 0
    have p1 : w4.cell? ⟨w.heap.size + 1, 1, none⟩ = some (.int .i64 a) := HP4.out.cell 1
    have p2 : w4.cell? ⟨w.heap.size + 1, 2, none⟩ = some (.bool r) := HP4.out.cell 2
    have y0 : w5.cell? ⟨w.heap.size, 0, none⟩ = some (.slice Ae ne ce) := HT5.out.cell 0
    have y1 : w5.cell? ⟨w.heap.size, 1, none⟩ = some (.slice Aj nj cj) := HT5.out.cell 1
    have y2 : w5.cell? ⟨w.heap.size, 2, none⟩ = some (.slice Ab nb cb) := HT5.out.cell 2
    have y3 : w5.cell? ⟨w.heap.size, 3, none⟩ = some (.slice Ar nr cr) := HT5.out.cell 3
    have q0 : w5.cell? ⟨w.heap.size + 1, 0, none⟩ = some (.int .i64 e) := HP5.out.cell 0
    have q1 : w5.cell? ⟨w.heap.size + 1, 1, none⟩ = some (.int .i64 a) := HP5.out.cell 1
    have q2 : w5.cell? ⟨w.heap.size + 1, 2, none⟩ = some (.bool r) := HP5.out.cell 2
    clear K5 B5 HT4 HP4 HZ4 hr g0 g1 r1 r2 r3 r4 hin hth hal hal' HAl
    go_wp2_with fail
    refine HC.out.mono ?_
    clear hw5 hbs
    rintro en w6 ⟨rfl, hk6⟩
    have HI6 : Hid (WkI w5 bs t (walkP t (e, a, r) n) 40 (e, r) (n + al) w6) := Lib.hid ⟨hk6.mono (fun _ _ h => h.elim), HS5.out.keep hk6 (fun h => h), HW.out, HTh.out, HN0.out.1, HN0.out.2⟩
    have HK56 := Lib.hid hk6
    have s0 : w6.cell? ⟨bs, 0, none⟩ = some (.int .i64 e) := HI6.out.st.cell 0
    have s1 : w6.cell? ⟨bs, 1, none⟩ = some (.bool r) := HI6.out.st.cell 1
    clear hk6 HC p0 p1 p2 q0 q1 q2 y0 y1 y2 y3
    have y0 : w6.cell? ⟨w.heap.size, 0, none⟩ = some (.slice Ae ne ce) := (HT5.out.keep HK56.out (fun h => h)).cell 0
    have hw' : wrap64 (n + al) = n + al := by have := hw; rwa [IntWalk.i64_left] at this
    go_wp2_with fail
    (try rw [hw'])
    obtain ⟨m0, hm0⟩ : ∃ z, n + al = z := ⟨_, rfl⟩
    rw [hm0] at HI6
    rw [hm0]
    clear hm0 hw hw' s0 s1 y0 HW HN0
    go_step3
    go_wp2_with fail
    go_loopw [2, 9, 10, 11, 46, 50, 54] (fun m er l _ _ _ _ wr => ∃ (f : Nat) (s : Stp) (mm : Int), f ≤ 40 ∧ m = .int .i64 mm ∧ er = .int .i64 0 ∧ l = .int .i64 ((40 - f : Nat) : Int) ∧ Hid (WkI w5 bs t (walkP t (e, a, r) n) f s mm wr)) (fun _ _ l _ _ _ _ _ => 40 - (intOf l).toNat)
    case atStart => exact ⟨40, (e, r), m0, by omega, rfl, rfl, rfl, HI6⟩
    case round =>
      obtain ⟨f, s, mm, hf, rfl, rfl, rfl, HH⟩ := hrel
      have HTr := Lib.hid (HT5.out.keep HH.out.far (by have := HLo.out; omega))
      have HZr := Lib.hid (HZ5.out.keep HH.out.far (by have := HLo.out; omega))
      have HKr := Lib.hid (HK5.out.then_ HH.out.far (fun i hi e => by have := HLo.out; omega))
      have HSr := Lib.hid HH.out.st
      have HGo := Lib.hid HH.out.go
      have hpos := HH.out.pos
      have htop := HH.out.top
      obtain ⟨es, er⟩ := s
      have hin := edge_in HCk.out HH.out.there
      have hth := HH.out.there
      unfold thereB at hth
      simp only [Bool.and_eq_true, decide_eq_true_eq] at hth
      rw [← HEl.out] at hth
      obtain ⟨ad, k, v, hA, he, hk, d0, hv⟩ := HED.out wr HKr.out es hth.1 hth.2
      subst hA
      subst he
      simp only at hin HSr HGo hth
      rw [hv] at hin
      have hkz : (k : Int) < (ne : Int) := by omega
      have HV := Lib.hid hv
      have y0 : wr.cell? ⟨w.heap.size, 0, none⟩ = some (.slice (some ad) ne ce) := HTr.out.cell 0
      have y1 : wr.cell? ⟨w.heap.size, 1, none⟩ = some (.slice Aj nj cj) := HTr.out.cell 1
      have y2 : wr.cell? ⟨w.heap.size, 2, none⟩ = some (.slice Ab nb cb) := HTr.out.cell 2
      have y3 : wr.cell? ⟨w.heap.size, 3, none⟩ = some (.slice Ar nr cr) := HTr.out.cell 3
      have s0 : wr.cell? ⟨bs, 0, none⟩ = some (.int .i64 ((k : Nat) : Int)) := HSr.out.cell 0
      have s1 : wr.cell? ⟨bs, 1, none⟩ = some (.bool er) := HSr.out.cell 1
      by_cases g : mm ≤ v
      · have t2 : decide (mm ≤ v) = true := by simpa using g
        have HF : Hid (walkP t (e, a, r) n = (overP t (((k : Nat) : Int), er) mm, 0)) := Lib.hid (by rw [← HGo.out]; exact goM_in (by rw [hv]; exact g))
        have HC := Lib.hid (HOv.out wr HKr.out ((k : Nat) : Int) er mm hth.1 hth.2 (by rw [hv]; omega) (by rw [hv]; omega) hpos (by omega))
        clear g hv hth hin hpos htop
        go_wp2_with fail
        refine HC.out.mono ?_
        rintro en w7 ⟨rfl, hk7⟩
        have HK7 := Lib.hid (HKr.out.trans hk7)
        have HZ7 := Lib.hid (HZr.out.keep hk7 (fun h => h))
        clear hk7 HC y0 y1 y2 y3 s0 s1
        obtain ⟨⟨o1, o2, o3⟩, hov⟩ : ∃ z, overP t (((k : Nat) : Int), er) mm = z := ⟨_, rfl⟩
        rw [hov] at HF
        rw [hov]
        clear hov
        have z0 : w7.cell? ⟨w.heap.size + 1 + 1, 0, none⟩ = some (.int .i64 0) := HZ7.out.cell 0
        have z1 : w7.cell? ⟨w.heap.size + 1 + 1, 1, none⟩ = some (.int .i64 0) := HZ7.out.cell 1
        have z2 : w7.cell? ⟨w.heap.size + 1 + 1, 2, none⟩ = some (.bool false) := HZ7.out.cell 2
        have zf0 := HZ7.out.frozen 0
        have zf1 := HZ7.out.frozen 1
        have zf2 := HZ7.out.frozen 2
        go_wp2_with fail
        (try simp only [Exit.inBlock, Exit.then])
        (try rw [Exit.noGoto_ret])
        have hp := ps3_keep HK7.out (b := w.heap.size + 1 + 1) (.inr (by omega)) (.int .i64 o1) (.int .i64 o2) (.bool o3)
        refine bodyPost_ret (ps_results2 (fn := Try.f12) (r := 6) (s := 7) rfl (ps3_blk HZ7.out (.int .i64 o1) (.int .i64 o2) (.bool o3)) _ rfl) rfl ⟨by rw [HF.out]; rfl, hp⟩
      · have t2 : decide (mm ≤ v) = false := by simpa using g
        have HC := Lib.hid (HAf.out wr HKr.out (((k : Nat) : Int), er))
        dsimp only at HC
        have HG : Hid (¬ mm ≤ edgeM t ((k : Nat) : Int)) := Lib.hid (by rw [hv]; exact g)
        clear hv hth
        go_wp2_with fail
        refine HC.out.mono ?_
        rintro en w7 ⟨A7, n7, c7, rfl, hn7, ho7, hk7⟩
        have HK7 := Lib.hid (HKr.out.trans hk7)
        have HKa := Lib.hid hk7
        have HT7 := Lib.hid (HTr.out.keep hk7 (fun h => h))
        have HZ7 := Lib.hid (HZr.out.keep hk7 (fun h => h))
        have HS7 := Lib.hid (HSr.out.keep hk7 (fun h => h))
        have HFa := Lib.hid (HH.out.far.then_ hk7 (fun _ _ h => h.elim))
        have Ho7 := Lib.hid ho7
        have Hth := Lib.hid HH.out.there
        clear ho7 hk7 HC y0 y1 y2 y3 s0 s1 HTr HZr HSr HKr
        rcases hl : afterM t (((k : Nat) : Int), er) with _ | ⟨x, _ | ⟨y, l⟩⟩
        · have HF : Hid (walkP t (e, a, r) n = (noP, 141)) := Lib.hid (by rw [← HGo.out]; exact goM_end (by have := HG.out; simp only; omega) hl)
          rw [hl] at hn7
          obtain rfl : n7 = 0 := hn7.out
          clear hl hn7
          have z0 : w7.cell? ⟨w.heap.size + 1 + 1, 0, none⟩ = some (.int .i64 0) := HZ7.out.cell 0
          have z1 : w7.cell? ⟨w.heap.size + 1 + 1, 1, none⟩ = some (.int .i64 0) := HZ7.out.cell 1
          have z2 : w7.cell? ⟨w.heap.size + 1 + 1, 2, none⟩ = some (.bool false) := HZ7.out.cell 2
          have zf0 := HZ7.out.frozen 0
          have zf1 := HZ7.out.frozen 1
          have zf2 := HZ7.out.frozen 2
          go_wp2_with fail
          (try simp only [Exit.inBlock, Exit.then])
          (try rw [Exit.noGoto_ret])
          have hp := ps3_keep HK7.out (b := w.heap.size + 1 + 1) (.inr (by omega)) (.int .i64 0) (.int .i64 0) (.bool false)
          refine bodyPost_ret (ps_results2 (fn := Try.f12) (r := 6) (s := 7) rfl (ps3_blk HZ7.out (.int .i64 0) (.int .i64 0) (.bool false)) _ rfl) rfl ⟨by rw [HF.out]; rfl, hp⟩
        · rw [hl] at hn7 Ho7
          obtain rfl : n7 = 1 := hn7.out
          have hmem : x ∈ afterM t (((k : Nat) : Int), er) := by rw [hl]; simp
          have Hx := Lib.hid (after_there hmem)
          cases f with
          | zero =>
            have HF : Hid (walkP t (e, a, r) n = (noP, 2)) := Lib.hid (by rw [← HGo.out]; exact goM_long (by have := HG.out; simp only; omega) hl)
            clear hl hn7 hmem
            have z0 : w7.cell? ⟨w.heap.size + 1 + 1, 0, none⟩ = some (.int .i64 0) := HZ7.out.cell 0
            have z1 : w7.cell? ⟨w.heap.size + 1 + 1, 1, none⟩ = some (.int .i64 0) := HZ7.out.cell 1
            have z2 : w7.cell? ⟨w.heap.size + 1 + 1, 2, none⟩ = some (.bool false) := HZ7.out.cell 2
            have zf0 := HZ7.out.frozen 0
            have zf1 := HZ7.out.frozen 1
            have zf2 := HZ7.out.frozen 2
            go_wp2_with fail
            (try simp only [Exit.inBlock, Exit.then])
            (try rw [Exit.noGoto_ret])
            have hp := ps3_keep HK7.out (b := w.heap.size + 1 + 1) (.inr (by omega)) (.int .i64 0) (.int .i64 0) (.bool false)
            refine bodyPost_ret (ps_results2 (fn := Try.f12) (r := 6) (s := 7) rfl (ps3_blk HZ7.out (.int .i64 0) (.int .i64 0) (.bool false)) _ rfl) rfl ⟨by rw [HF.out]; rfl, hp⟩
          | succ f =>
            have HG2 : Hid (goM t f x (mm - v) = walkP t (e, a, r) n) := Lib.hid (by rw [← HGo.out, goM_next (by have := HG.out; simp only; omega) hl]; simp only [HV.out])
            have t6 : (((40 - (f + 1) : Nat) : Int) == 40) = false := by simp; omega
            have hvm : v < mm := by omega
            have hw6 : IntKind.i64.wrap (mm - v) = mm - v := IntWalk.i64_in _ (by omega)
            have HB7 : Hid (0 ≤ mm - v ∧ mm - v ≤ 2199023255552) := Lib.hid (by omega)
            obtain ⟨ad2, x', hA2, hb2, hx', c0, c1⟩ := Ho7.out.rd.stp (k := 0) (by omega)
            obtain rfl : x = x' := by simpa using hx'
            subst hA2
            obtain ⟨x0, x1⟩ := x
            simp only [Nat.zero_mul] at c0 c1
            have ea : ad2.add 0 = ad2 := by unfold Addr.add; split <;> simp_all
            have c0' := c0
            have c1' := c1
            rw [ea] at c0' c1'
            have d7 := keepT HKa.out d0
            have y0 : w7.cell? ⟨w.heap.size, 0, none⟩ = some (.slice (some ad) ne ce) := HT7.out.cell 0
            have y1 : w7.cell? ⟨w.heap.size, 1, none⟩ = some (.slice Aj nj cj) := HT7.out.cell 1
            have y2 : w7.cell? ⟨w.heap.size, 2, none⟩ = some (.slice Ab nb cb) := HT7.out.cell 2
            have y3 : w7.cell? ⟨w.heap.size, 3, none⟩ = some (.slice Ar nr cr) := HT7.out.cell 3
            have s0 : w7.cell? ⟨bs, 0, none⟩ = some (.int .i64 ((k : Nat) : Int)) := HS7.out.cell 0
            have s1 : w7.cell? ⟨bs, 1, none⟩ = some (.bool er) := HS7.out.cell 1
            have sf0 := HS7.out.frozen 0
            have sf1 := HS7.out.frozen 1
            clear hl hn7 hmem hx' g hin hpos htop d0
            go_wp2_with fail
            have b8 : Blk ((w7.setCell ⟨bs, 0, none⟩ (.int .i64 x0)).setCell ⟨bs, 1, none⟩ (.bool x1)) bs 45 #[.int .i64 x0, .bool x1] := by have := (HS7.out.set_ 0 (.int .i64 x0)).set_ 1 (.bool x1); simpa using this
            refine ⟨⟨f, (x0, x1), mm - v, by omega, rfl, rfl, by rw [show ((39 - f : Nat) : Int) + 1 = ((40 - f : Nat) : Int) by omega], Lib.hid ⟨(HFa.out.set_ (p := ⟨bs, 0, none⟩) (.inl rfl) _).set_ (p := ⟨bs, 1, none⟩) (.inl rfl) _, b8, HG2.out, Hx.out, HB7.out.1, HB7.out.2⟩⟩, ?_⟩
            simp [intOf]; try omega
        · have HF : Hid (walkP t (e, a, r) n = (noP, 140)) := Lib.hid (by rw [← HGo.out]; exact goM_fork (by have := HG.out; simp only; omega) hl)
          rw [hl] at hn7
          have hn2 : n7 = l.length + 2 := hn7.out
          have t3 : ((n7 : Int) == 0) = false := by simp; omega
          have t4 : decide ((n7 : Int) > 1) = true := by simp; omega
          have t5 : decide (1 < n7) = true := by simp; omega
          clear hl hn7 hn2
          have z0 : w7.cell? ⟨w.heap.size + 1 + 1, 0, none⟩ = some (.int .i64 0) := HZ7.out.cell 0
          have z1 : w7.cell? ⟨w.heap.size + 1 + 1, 1, none⟩ = some (.int .i64 0) := HZ7.out.cell 1
          have z2 : w7.cell? ⟨w.heap.size + 1 + 1, 2, none⟩ = some (.bool false) := HZ7.out.cell 2
          have zf0 := HZ7.out.frozen 0
          have zf1 := HZ7.out.frozen 1
          have zf2 := HZ7.out.frozen 2
          go_wp2_with fail
          (try simp only [Exit.inBlock, Exit.then])
          (try rw [Exit.noGoto_ret])
          have hp := ps3_keep HK7.out (b := w.heap.size + 1 + 1) (.inr (by omega)) (.int .i64 0) (.int .i64 0) (.bool false)
          refine bodyPost_ret (ps_results2 (fn := Try.f12) (r := 6) (s := 7) rfl (ps3_blk HZ7.out (.int .i64 0) (.int .i64 0) (.bool false)) _ rfl) rfl ⟨by rw [HF.out]; rfl, hp⟩
end Go.Proofs.Ytijdkjcjhfebfaa
