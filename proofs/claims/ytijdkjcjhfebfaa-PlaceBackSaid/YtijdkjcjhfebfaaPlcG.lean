/- Chapter 14 (place): On, Off. -/
import Derived.Test.YtijdkjcjhfebfaaBdPlcA
import Derived.Test.YtijdkjcjhfebfaaPlcD
namespace Go.Proofs.Ytijdkjcjhfebfaa
open Go.RowKit

theorem way_there {t : Tp} {path : List Stp} (hl : (lenM t path).2 = 0) {k : Nat} {s : Stp} (h : path[k]? = some s) : thereB t.1.length s.1 = true := by
  have h1 := (len_way hl).1
  rw [List.all_eq_true] at h1
  exact h1 s (List.mem_of_getElem? h)
theorem take_not {path : List Stp} {u : Stp} {k : Nat} {s : Stp} (h : path[k]? = some s) (hn : ∀ x ∈ path.take k, x ≠ u) (hs : s ≠ u) : ∀ x ∈ path.take (k + 1), x ≠ u := by
  intro x hx
  obtain ⟨h2, h3⟩ := List.getElem?_eq_some_iff.1 h
  rw [List.take_succ_eq_append_getElem h2, h3, List.mem_append, List.mem_singleton] at hx
  rcases hx with hx | rfl
  · exact hn x hx
  · exact hs

set_option maxHeartbeats 8000000 in
set_option maxRecDepth 100000 in
theorem pon_any (x : TA) (t : Tp) (B : Nat) (A : Option Addr) (n c : Nat) (path : List Stp) (e a : Int) (r : Bool) (w : World) (h : TpAt w B x t) (hs : TpSmall x t) (hB : B ≤ w.heap.size) (hp : repStp.Sl w B A n c path) (hn : n ≤ 100000000) :
    Calls Try.prog 20 #[.agg x.cs, .slice A n c, .agg #[.int .i64 e, .int .i64 a, .bool r]] w fun en w' => en = .returned (.tuple #[.int .i64 (onP t path (e, a, r)).1, .int .i64 (onP t path (e, a, r)).2]) ∧ Keep Never w w' := by
  have qe : ∀ (w : World) (x1 : Int) (x2 : Bool) (y1 : Int) (y2 : Bool), (binOp .eql 45 (.agg #[.int .i64 x1, .bool x2]) (.agg #[.int .i64 y1, .bool y2])).run Try.prog w = .ok (.bool (sameS x1 x2 y1 y2)) w := run_eq_stp
  have HRi := Lib.hid (fun (W : World) (hk : Keep Never w W) => pright_any x t B e a r W (h.keep hk) hs (Nat.le_trans hB hk.size))
  have HLn := Lib.hid (fun (W : World) (hk : Keep Never w W) => length_any x t B A n c path W (h.keep hk) (hp.keep hk (fun _ h => h.elim)) hs.j hn)
  have HAl := Lib.hid (fun (W : World) (hk : Keep Never w W) => palong_any x t B e a r W (h.keep hk))
  have HED := Lib.hid (fun (W : World) (hk : Keep Never w W) (i : Int) (h0 : 0 ≤ i) (h1 : i < (x.ne : Int)) => edge_at (h.keep hk) h0 h1)
  have HEl : Hid (x.ne = t.1.length) := Lib.hid h.e.len
  have HPl : Hid (n = path.length) := Lib.hid hp.len
  have HP := Lib.hid hp
  obtain ⟨Ae, ne, ce, Aj, nj, cj, Ab, nb, cb, Ar, nr, cr⟩ := x
  simp only [TA.cs] at HRi HLn HAl HED HEl ⊢
  clear h hs hB hp
  obtain ⟨w1, hw1⟩ : ∃ V : World, w.alloc (.cells #[.slice Ae ne ce, .slice Aj nj cj, .slice Ab nb cb, .slice Ar nr cr] 27) = V := ⟨_, rfl⟩
  have zw1 : w1.heap.size = w.heap.size + 1 := by rw [← hw1]; simp
  have kw1 : Keep Never w w1 := by rw [← hw1]; exact (Keep.refl _ _).alloc _
  have bw1 := Blk.new w 27 #[.slice Ae ne ce, .slice Aj nj cj, .slice Ab nb cb, .slice Ar nr cr]
  rw [hw1] at bw1
  obtain ⟨w2, hw2⟩ : ∃ V : World, w1.alloc (.cells #[.int .i64 e, .int .i64 a, .bool r] 29) = V := ⟨_, rfl⟩
  have kw2 : Keep Never w1 w2 := by rw [← hw2]; exact (Keep.refl _ _).alloc _
  have bw2 := Blk.new w1 29 #[.int .i64 e, .int .i64 a, .bool r]
  rw [hw2, zw1] at bw2
  have HB1 := Lib.hid (bw1.keep kw2 (fun h => h))
  have HB2 := Lib.hid bw2
  have HK := Lib.hid (kw1.trans kw2)
  clear kw1 kw2 bw1 bw2
  have y0 : w2.cell? ⟨w.heap.size, 0, none⟩ = some (.slice Ae ne ce) := HB1.out.cell 0
  have y1 : w2.cell? ⟨w.heap.size, 1, none⟩ = some (.slice Aj nj cj) := HB1.out.cell 1
  have y2 : w2.cell? ⟨w.heap.size, 2, none⟩ = some (.slice Ab nb cb) := HB1.out.cell 2
  have y3 : w2.cell? ⟨w.heap.size, 3, none⟩ = some (.slice Ar nr cr) := HB1.out.cell 3
  have q0 : w2.cell? ⟨w.heap.size + 1, 0, none⟩ = some (.int .i64 e) := HB2.out.cell 0
  have q1 : w2.cell? ⟨w.heap.size + 1, 1, none⟩ = some (.int .i64 a) := HB2.out.cell 1
  have q2 : w2.cell? ⟨w.heap.size + 1, 2, none⟩ = some (.bool r) := HB2.out.cell 2
  have HC := Lib.hid (HRi.out w2 HK.out)
  clear HRi
  cases hr : rightB t (e, a, r) with
  | false =>
    have HF : Hid (onP t path (e, a, r) = (0, 1)) := Lib.hid (on_wrong hr)
    rw [hr] at HC
    clear hr
    go_enter Try.func20, Try.ntmps20
    go_wp2_with fail
    refine HC.out.mono ?_
    rintro en w4 ⟨rfl, hk4⟩
    have HK4 := Lib.hid (HK.out.trans hk4)
    clear hk4 HC y0 y1 y2 y3 q0 q1 q2 hw1 hw2 zw1
    go_wp2_with fail
    go_ret2
    exact ⟨by rw [HF.out]; rfl, HK4.out⟩
  | true =>
    have HR := Lib.hid hr
    rw [hr] at HC
    clear hr
    go_enter Try.func20, Try.ntmps20
    go_wp2_with fail
    refine HC.out.mono ?_
    rintro en w4 ⟨rfl, hk4⟩
    have HK4 := Lib.hid (HK.out.trans hk4)
    have HT4 := Lib.hid (HB1.out.keep hk4 (fun h => h))
    have HP4 := Lib.hid (HB2.out.keep hk4 (fun h => h))
    clear hk4 HC HB1 HB2 y0 y1 y2 y3 q0 q1 q2 hw1 hw2 zw1
    have HC := Lib.hid (HLn.out w4 HK4.out)
    obtain ⟨l1, hl1⟩ : ∃ z, (lenM t path).1 = z := ⟨_, rfl⟩
    obtain ⟨l2, hl2⟩ : ∃ z, (lenM t path).2 = z := ⟨_, rfl⟩
    rw [hl1, hl2] at HC
    have HL2 := Lib.hid hl2
    have y0 : w4.cell? ⟨w.heap.size, 0, none⟩ = some (.slice Ae ne ce) := HT4.out.cell 0
    have y1 : w4.cell? ⟨w.heap.size, 1, none⟩ = some (.slice Aj nj cj) := HT4.out.cell 1
    have y2 : w4.cell? ⟨w.heap.size, 2, none⟩ = some (.slice Ab nb cb) := HT4.out.cell 2
    have y3 : w4.cell? ⟨w.heap.size, 3, none⟩ = some (.slice Ar nr cr) := HT4.out.cell 3
    clear HLn hl1 hl2
    by_cases g : l2 = 0
    case neg =>
      have t0 : (l2 != 0) = true := by simpa using g
      have HF : Hid (onP t path (e, a, r) = (0, l2)) := Lib.hid (by rw [on_err HR.out (by rw [HL2.out]; exact g), HL2.out])
      clear g
      go_wp2_with fail
      refine HC.out.mono ?_
      rintro en w5 ⟨rfl, hk5⟩
      have HK5 := Lib.hid (HK4.out.trans hk5)
      clear hk5 HC y0 y1 y2 y3
      go_wp2_with fail
      go_ret2
      exact ⟨by rw [HF.out]; rfl, HK5.out⟩
    subst g
    go_wp2_with fail
    refine HC.out.mono ?_
    rintro en w5 ⟨rfl, hk5⟩
    have HK5 := Lib.hid (HK4.out.trans hk5)
    have HT5 := Lib.hid (HT4.out.keep hk5 (fun h => h))
    have HP5 := Lib.hid (HP4.out.keep hk5 (fun h => h))
    have HRr := right_iff.1 HR.out
    have HCk := Lib.hid HRr.1
    have HRin := Lib.hid HRr.2
    clear hk5 HC y0 y1 y2 y3 HT4 HP4 HRr
    go_wp2_with fail
    go_loopw [10, 12, 28] (fun sv _ i wr => ∃ k : Nat, k ≤ n ∧ i = .int .i64 k ∧ sv = .int .i64 (sumM t.1 (path.take k)) ∧ Hid (Keep Never w5 wr ∧ ∀ s ∈ path.take k, s ≠ ((e, r) : Stp))) (fun _ _ i _ => n - (intOf i).toNat)
    case atStart => exact ⟨0, by omega, rfl, rfl, Lib.hid ⟨Keep.refl _ _, by simp⟩⟩
    case round =>
      obtain ⟨k, hk, rfl, rfl, HH⟩ := hrel
      by_cases h0 : k < n
      · have hkz : (k : Int) < (n : Int) := by omega
        have HKr := Lib.hid (HK5.out.trans HH.out.1)
        obtain ⟨ad, s, hA, hab, hs, c0, c1, _⟩ := stp_at (HP.out.keep HKr.out (fun _ h => h.elim)) h0
        subst hA
        obtain ⟨s1, s2⟩ := s
        simp only at c0 c1
        have Hs := Lib.hid hs
        have hsum := sum_in HCk.out HL2.out (i := k) (by rw [← HPl.out]; omega)
        have hth := way_there HL2.out hs
        have hin := edge_in HCk.out hth
        unfold thereB at hth
        simp only [Bool.and_eq_true, decide_eq_true_eq] at hth
        rw [← HEl.out] at hth
        have HNx := Lib.hid (sum_next HCk.out HL2.out hs)
        have HHit := Lib.hid (fun (e1 : s1 = e) (e2 : s2 = r) => on_found (p := (e, a, r)) HR.out HL2.out (i := k) (by rw [hs, e1, e2]) HH.out.2)
        have HMis := Lib.hid (fun (hne : ((s1, s2) : Stp) ≠ (e, r)) => take_not hs HH.out.2 hne)
        obtain ⟨S, hS⟩ : ∃ z, sumM t.1 (path.take k) = z := ⟨_, rfl⟩
        rw [hS] at hsum HNx HHit
        rw [hS]
        obtain ⟨ad2, j, v, hA2, he, hj, d0, hv⟩ := HED.out wr HKr.out s1 hth.1 hth.2
        subst hA2
        simp only at hin HNx
        rw [hv] at hin HNx
        obtain ⟨w6, hw6⟩ : ∃ V : World, wr.alloc (.cells #[.int .i64 s1, .bool s2] 45) = V := ⟨_, rfl⟩
        have k6 : Keep Never wr w6 := by rw [← hw6]; exact (Keep.refl _ _).alloc _
        have b6 := Blk.new wr 45 #[.int .i64 s1, .bool s2]
        rw [hw6] at b6
        have HK6 := Lib.hid (HKr.out.trans k6)
        have HK56 := Lib.hid (HH.out.1.trans k6)
        have z0 : w6.cell? ⟨wr.heap.size, 0, none⟩ = some (.int .i64 s1) := b6.cell 0
        have z1 : w6.cell? ⟨wr.heap.size, 1, none⟩ = some (.bool s2) := b6.cell 1
        have HTr := Lib.hid ((HT5.out.keep HH.out.1 (fun h => h)).keep k6 (fun h => h))
        have HPr := Lib.hid ((HP5.out.keep HH.out.1 (fun h => h)).keep k6 (fun h => h))
        have d6 := keepT k6 d0
        have y0 : w6.cell? ⟨w.heap.size, 0, none⟩ = some (.slice (some ad2) ne ce) := HTr.out.cell 0
        have y1 : w6.cell? ⟨w.heap.size, 1, none⟩ = some (.slice Aj nj cj) := HTr.out.cell 1
        have y2 : w6.cell? ⟨w.heap.size, 2, none⟩ = some (.slice Ab nb cb) := HTr.out.cell 2
        have y3 : w6.cell? ⟨w.heap.size, 3, none⟩ = some (.slice Ar nr cr) := HTr.out.cell 3
        have q0 : w6.cell? ⟨w.heap.size + 1, 0, none⟩ = some (.int .i64 e) := HPr.out.cell 0
        have q1 : w6.cell? ⟨w.heap.size + 1, 1, none⟩ = some (.int .i64 a) := HPr.out.cell 1
        have q2 : w6.cell? ⟨w.heap.size + 1, 2, none⟩ = some (.bool r) := HPr.out.cell 2
        clear hs hS hab hv k6 b6 d0
        by_cases hq : ((s1, s2) : Stp) = (e, r)
        · have tq : sameS s1 s2 e r = true := decide_eq_true hq
          injection hq with hq1 hq2
          have HF : Hid (onP t path (e, a, r) = (S + alongP t (e, a, r), 0)) := Lib.hid (HHit.out hq1 hq2)
          have hr1 := HRin.out.1
          unfold thereB at hr1
          simp only [Bool.and_eq_true, decide_eq_true_eq] at hr1
          rw [← HEl.out] at hr1
          have hein := edge_in HCk.out HRin.out.1
          have hal := along_in (t := t) (p := (e, a, r)) HRin.out.2.1 HRin.out.2.2
          simp only at hal hein
          have hrt := HRin.out.2
          (try simp only at hrt)
          have HC := Lib.hid (HAl.out w6 HK6.out hr1.1 hr1.2 (by omega) hein.2 hrt.1 (by omega))
          obtain ⟨al, hal2⟩ : ∃ z, alongP t (e, a, r) = z := ⟨_, rfl⟩
          rw [hal2] at HC HF hal
          have hwa : wrap64 (S + al) = S + al := by have := IntWalk.i64_in (S + al) (by omega); rwa [IntWalk.i64_left] at this
          clear hq1 hq2 hr1 hein hrt hal2 hth hin he
          go_wp2_with fail
          refine HC.out.mono ?_
          rintro en w7 ⟨rfl, hk7⟩
          have HK7 := Lib.hid (HK6.out.trans hk7)
          clear hk7 HC
          go_wp2_with fail
          (try rw [hwa])
          go_ret2
          exact ⟨by rw [HF.out]; rfl, HK7.out⟩
        · have tq : sameS s1 s2 e r = false := decide_eq_false hq
          have HM := Lib.hid (HMis.out hq)
          have hw7 : wrap64 (S + v) = S + v := by have := IntWalk.i64_in (S + v) (by omega); rwa [IntWalk.i64_left] at this
          clear hq hin hsum HHit HMis
          subst he
          have hjz : (j : Int) < (ne : Int) := by omega
          clear hth
          go_wp2_with fail
          (try rw [hw7])
          refine ⟨⟨k + 1, by omega, by go_num, by rw [HNx.out], Lib.hid ⟨HK56.out, HM.out⟩⟩, ?_⟩
          simp [intOf]; try omega
      · obtain rfl : n = k := by omega
        have hkz : ¬ (n : Int) < (n : Int) := by omega
        have HF : Hid (onP t path (e, a, r) = (0, 4)) := Lib.hid (on_none HR.out HL2.out (fun s hs => HH.out.2 s (by rw [List.take_of_length_le (by rw [← HPl.out]; exact Nat.le_refl _)]; exact hs)))
        have HKr := Lib.hid (HK5.out.trans HH.out.1)
        go_wp2_with fail
        go_ret2
        exact ⟨by rw [HF.out]; rfl, HKr.out⟩

set_option maxHeartbeats 8000000 in
set_option maxRecDepth 100000 in
theorem poff_any (x : TA) (t : Tp) (B : Nat) (A : Option Addr) (n c : Nat) (path : List Stp) (N : Int) (w : World) (h : TpAt w B x t) (hs : TpSmall x t) (hB : B ≤ w.heap.size) (hp : repStp.Sl w B A n c path) (hn : n ≤ 100000000) :
    Calls Try.prog 22 #[.agg x.cs, .slice A n c, .int .i64 N] w (PsRet2 (offP t path N) w) := by
  have HCh := Lib.hid (fun (W : World) (hk : Keep Never w W) => check_any x t B W (h.keep hk) hs (Nat.le_trans hB hk.size))
  have HLn := Lib.hid (fun (W : World) (hk : Keep Never w W) => length_any x t B A n c path W (h.keep hk) (hp.keep hk (fun _ h => h.elim)) hs.j hn)
  have HOv := Lib.hid (fun (W : World) (hk : Keep Never w W) (e : Int) (r : Bool) (n : Int) => pover_any x t B e r n W (h.keep hk))
  have HED := Lib.hid (fun (W : World) (hk : Keep Never w W) (i : Int) (h0 : 0 ≤ i) (h1 : i < (x.ne : Int)) => edge_at (h.keep hk) h0 h1)
  have HEl : Hid (x.ne = t.1.length) := Lib.hid h.e.len
  have HPl : Hid (n = path.length) := Lib.hid hp.len
  have HP := Lib.hid hp
  obtain ⟨Ae, ne, ce, Aj, nj, cj, Ab, nb, cb, Ar, nr, cr⟩ := x
  simp only [TA.cs] at HCh HLn HOv HED HEl ⊢
  clear h hs hB hp
  obtain ⟨w1, hw1⟩ : ∃ V : World, w.alloc (.cells #[.slice Ae ne ce, .slice Aj nj cj, .slice Ab nb cb, .slice Ar nr cr] 27) = V := ⟨_, rfl⟩
  have zw1 : w1.heap.size = w.heap.size + 1 := by rw [← hw1]; simp
  have kw1 : Keep Never w w1 := by rw [← hw1]; exact (Keep.refl _ _).alloc _
  have bw1 := Blk.new w 27 #[.slice Ae ne ce, .slice Aj nj cj, .slice Ab nb cb, .slice Ar nr cr]
  rw [hw1] at bw1
  obtain ⟨w2, hw2⟩ : ∃ V : World, w1.alloc (.cells #[.int .i64 0, .int .i64 0, .bool false] 29) = V := ⟨_, rfl⟩
  have kw2 : Keep Never w1 w2 := by rw [← hw2]; exact (Keep.refl _ _).alloc _
  have bw2 := Blk.new w1 29 #[.int .i64 0, .int .i64 0, .bool false]
  rw [hw2, zw1] at bw2
  have HB1 := Lib.hid (bw1.keep kw2 (fun h => h))
  have HB2 := Lib.hid bw2
  have HK := Lib.hid (kw1.trans kw2)
  clear kw1 kw2 bw1 bw2
  have y0 : w2.cell? ⟨w.heap.size, 0, none⟩ = some (.slice Ae ne ce) := HB1.out.cell 0
  have y1 : w2.cell? ⟨w.heap.size, 1, none⟩ = some (.slice Aj nj cj) := HB1.out.cell 1
  have y2 : w2.cell? ⟨w.heap.size, 2, none⟩ = some (.slice Ab nb cb) := HB1.out.cell 2
  have y3 : w2.cell? ⟨w.heap.size, 3, none⟩ = some (.slice Ar nr cr) := HB1.out.cell 3
  have HC := Lib.hid (HCh.out w2 HK.out)
  clear HCh
  obtain ⟨ck, hck⟩ : ∃ z, checkM t = z := ⟨_, rfl⟩
  have HCk := Lib.hid hck
  rw [hck] at HC
  clear hck
  go_enter Try.func22, Try.ntmps22
  go_wp2_with fail
  refine HC.out.mono ?_
  rintro en w4 ⟨rfl, hk4⟩
  have HK4 := Lib.hid (HK.out.trans hk4)
  have HT4 := Lib.hid (HB1.out.keep hk4 (fun h => h))
  have HZ4 := Lib.hid (HB2.out.keep hk4 (fun h => h))
  clear hk4 HC HB1 HB2 y0 y1 y2 y3 hw1 hw2 zw1
  by_cases g : ck = 0
  case neg =>
    have t0 : (ck != 0) = true := by simpa using g
    have HF : Hid (offP t path N = (noP, 1)) := Lib.hid (by unfold offP; rw [if_neg (by rw [HCk.out]; exact g)])
    clear g
    have z0 : w4.cell? ⟨w.heap.size + 1, 0, none⟩ = some (.int .i64 0) := HZ4.out.cell 0
    have z1 : w4.cell? ⟨w.heap.size + 1, 1, none⟩ = some (.int .i64 0) := HZ4.out.cell 1
    have z2 : w4.cell? ⟨w.heap.size + 1, 2, none⟩ = some (.bool false) := HZ4.out.cell 2
    have zf0 := HZ4.out.frozen 0
    have zf1 := HZ4.out.frozen 1
    have zf2 := HZ4.out.frozen 2
    go_wp2_with fail
    (try simp only [Exit.inBlock, Exit.then])
    have hp := ps3_keep HK4.out (b := w.heap.size + 1) (.inr (by omega)) (.int .i64 0) (.int .i64 0) (.bool false)
    refine bodyPost_ret (ps_results2 (fn := Try.f22) (r := 6) (s := 7) rfl (ps3_blk HZ4.out (.int .i64 0) (.int .i64 0) (.bool false)) _ rfl) rfl ⟨by rw [HF.out]; rfl, hp⟩
  have t0 : (ck != 0) = false := by simpa using g
  have HC0 : Hid (checkM t = 0) := Lib.hid (HCk.out.trans g)
  clear g
  have HC := Lib.hid (HLn.out w4 HK4.out)
  obtain ⟨l1, hl1⟩ : ∃ z, (lenM t path).1 = z := ⟨_, rfl⟩
  obtain ⟨l2, hl2⟩ : ∃ z, (lenM t path).2 = z := ⟨_, rfl⟩
  rw [hl1, hl2] at HC
  have HL1 := Lib.hid hl1
  have HL2 := Lib.hid hl2
  have y0 : w4.cell? ⟨w.heap.size, 0, none⟩ = some (.slice Ae ne ce) := HT4.out.cell 0
  have y1 : w4.cell? ⟨w.heap.size, 1, none⟩ = some (.slice Aj nj cj) := HT4.out.cell 1
  have y2 : w4.cell? ⟨w.heap.size, 2, none⟩ = some (.slice Ab nb cb) := HT4.out.cell 2
  have y3 : w4.cell? ⟨w.heap.size, 3, none⟩ = some (.slice Ar nr cr) := HT4.out.cell 3
  clear HLn hl1 hl2
  go_wp2_with fail
  refine HC.out.mono ?_
  rintro en w5 ⟨rfl, hk5⟩
  have HK5 := Lib.hid (HK4.out.trans hk5)
  have HT5 := Lib.hid (HT4.out.keep hk5 (fun h => h))
  have HZ5 := Lib.hid (HZ4.out.keep hk5 (fun h => h))
  clear hk5 HC y0 y1 y2 y3 HT4 HZ4 t0
  by_cases g1 : l2 = 0
  case neg =>
    have t1 : (l2 != 0) = true := by simpa using g1
    have HF : Hid (offP t path N = (noP, l2)) := Lib.hid (by unfold offP; rw [if_pos HC0.out, if_neg (by rw [HL2.out]; exact g1), HL2.out])
    clear g1
    have z0 : w5.cell? ⟨w.heap.size + 1, 0, none⟩ = some (.int .i64 0) := HZ5.out.cell 0
    have z1 : w5.cell? ⟨w.heap.size + 1, 1, none⟩ = some (.int .i64 0) := HZ5.out.cell 1
    have z2 : w5.cell? ⟨w.heap.size + 1, 2, none⟩ = some (.bool false) := HZ5.out.cell 2
    have zf0 := HZ5.out.frozen 0
    have zf1 := HZ5.out.frozen 1
    have zf2 := HZ5.out.frozen 2
    go_wp2_with fail
    (try simp only [Exit.inBlock, Exit.then])
    have hp := ps3_keep HK5.out (b := w.heap.size + 1) (.inr (by omega)) (.int .i64 0) (.int .i64 0) (.bool false)
    refine bodyPost_ret (ps_results2 (fn := Try.f22) (r := 6) (s := 7) rfl (ps3_blk HZ5.out (.int .i64 0) (.int .i64 0) (.bool false)) _ rfl) rfl ⟨by rw [HF.out]; rfl, hp⟩
  have t1 : (l2 != 0) = false := by simpa using g1
  subst g1
  by_cases g2 : N < 0
  case pos =>
    have t2 : decide (N < 0) = true := by simpa using g2
    have HF : Hid (offP t path N = (noP, 1)) := Lib.hid (by unfold offP; rw [if_pos HC0.out, if_pos HL2.out, if_neg (by omega)])
    clear g2
    have z0 : w5.cell? ⟨w.heap.size + 1, 0, none⟩ = some (.int .i64 0) := HZ5.out.cell 0
    have z1 : w5.cell? ⟨w.heap.size + 1, 1, none⟩ = some (.int .i64 0) := HZ5.out.cell 1
    have z2 : w5.cell? ⟨w.heap.size + 1, 2, none⟩ = some (.bool false) := HZ5.out.cell 2
    have zf0 := HZ5.out.frozen 0
    have zf1 := HZ5.out.frozen 1
    have zf2 := HZ5.out.frozen 2
    go_wp2_with fail
    (try simp only [Exit.inBlock, Exit.then])
    have hp := ps3_keep HK5.out (b := w.heap.size + 1) (.inr (by omega)) (.int .i64 0) (.int .i64 0) (.bool false)
    refine bodyPost_ret (ps_results2 (fn := Try.f22) (r := 6) (s := 7) rfl (ps3_blk HZ5.out (.int .i64 0) (.int .i64 0) (.bool false)) _ rfl) rfl ⟨by rw [HF.out]; rfl, hp⟩
  have t2 : decide (N < 0) = false := by simpa using g2
  by_cases g3 : N > l1
  case pos =>
    have t3 : decide (N > l1) = true := by simpa using g3
    have HF : Hid (offP t path N = (noP, 1)) := Lib.hid (by unfold offP; rw [if_pos HC0.out, if_pos HL2.out, if_neg (by rw [HL1.out]; omega)])
    clear g2 g3
    have z0 : w5.cell? ⟨w.heap.size + 1, 0, none⟩ = some (.int .i64 0) := HZ5.out.cell 0
    have z1 : w5.cell? ⟨w.heap.size + 1, 1, none⟩ = some (.int .i64 0) := HZ5.out.cell 1
    have z2 : w5.cell? ⟨w.heap.size + 1, 2, none⟩ = some (.bool false) := HZ5.out.cell 2
    have zf0 := HZ5.out.frozen 0
    have zf1 := HZ5.out.frozen 1
    have zf2 := HZ5.out.frozen 2
    go_wp2_with fail
    (try simp only [Exit.inBlock, Exit.then])
    have hp := ps3_keep HK5.out (b := w.heap.size + 1) (.inr (by omega)) (.int .i64 0) (.int .i64 0) (.bool false)
    refine bodyPost_ret (ps_results2 (fn := Try.f22) (r := 6) (s := 7) rfl (ps3_blk HZ5.out (.int .i64 0) (.int .i64 0) (.bool false)) _ rfl) rfl ⟨by rw [HF.out]; rfl, hp⟩
  have t3 : decide (N > l1) = false := by simpa using g3
  have HF0 : Hid (offP t path N = (offK t path N, 0)) := Lib.hid (by unfold offP; rw [if_pos HC0.out, if_pos HL2.out, if_pos (by rw [HL1.out]; omega)])
  have hgd := good_of HC0.out HL2.out
  have HI0 : Hid (OffI t path N 0 N) := Lib.hid (OffI.start hgd.2.1 (by omega) (by rw [← sum_all hgd.1, ← hgd.2.2, HL1.out]; omega))
  have HNt : Hid (N ≤ 40000000) := Lib.hid (by
    have h1 := sum_in HC0.out HL2.out (i := path.length) (Nat.le_refl _)
    rw [List.take_length, ← hgd.2.2, HL1.out] at h1
    omega)
  clear g2 g3 hgd
  go_wp2_with fail
  clear t1 t2 t3
  go_loopw [2, 10] (fun m i wr => ∃ (k : Nat) (mm : Int), k < n ∧ i = .int .i64 k ∧ m = .int .i64 mm ∧ Hid (Keep Never w5 wr ∧ OffI t path N k mm ∧ mm ≤ 40000000)) (fun _ i _ => n - (intOf i).toNat)
  case atStart => exact ⟨0, N, by have := HI0.out.lt; rw [HPl.out]; exact this, rfl, rfl, Lib.hid ⟨Keep.refl _ _, HI0.out, HNt.out⟩⟩
  case round =>
    obtain ⟨k, mm, h0, rfl, rfl, HH⟩ := hrel
    have hkz : (k : Int) < (n : Int) := by omega
    have HKr := Lib.hid (HK5.out.trans HH.out.1)
    obtain ⟨ad, s, hA, hab, hs, c0, c1, _⟩ := stp_at (HP.out.keep HKr.out (fun _ h => h.elim)) h0
    subst hA
    obtain ⟨s1, s2⟩ := s
    simp only at c0 c1
    have hth := way_there HL2.out hs
    have hin := edge_in HC0.out hth
    unfold thereB at hth
    simp only [Bool.and_eq_true, decide_eq_true_eq] at hth
    rw [← HEl.out] at hth
    obtain ⟨ad2, j, v, hA2, he, hj, d0, hv⟩ := HED.out wr HKr.out s1 hth.1 hth.2
    subst hA2
    simp only at hin
    rw [hv] at hin
    have hpos := HH.out.2.1.pos
    have htop := HH.out.2.2
    have HTr := Lib.hid (HT5.out.keep HH.out.1 (fun h => h))
    have HZr := Lib.hid (HZ5.out.keep HH.out.1 (fun h => h))
    have hjz : (j : Int) < (ne : Int) := by omega
    by_cases g : mm > v
    · have t1 : decide (mm > v) = true := by simpa using g
      have HN := Lib.hid (HH.out.2.1.next hs (by simp only; rw [hv]; exact g))
      simp only at HN
      rw [hv] at HN
      have hlt : k + 1 < n := by have := HN.out.lt; rw [HPl.out]; exact this
      have hwv : IntKind.i64.wrap (mm - v) = mm - v := IntWalk.i64_in _ (by omega)
      have HBd : Hid (mm - v ≤ 40000000) := Lib.hid (by omega)
      have hwk : IntKind.i64.wrap ((k : Int) + 1) = (k : Int) + 1 := IntWalk.i64_in _ (by have := Nat.lt_trans h0 (Nat.lt_succ_self n); omega)
      subst he
      have y0 : wr.cell? ⟨w.heap.size, 0, none⟩ = some (.slice (some ad2) ne ce) := HTr.out.cell 0
      have y1 : wr.cell? ⟨w.heap.size, 1, none⟩ = some (.slice Aj nj cj) := HTr.out.cell 1
      have y2 : wr.cell? ⟨w.heap.size, 2, none⟩ = some (.slice Ab nb cb) := HTr.out.cell 2
      have y3 : wr.cell? ⟨w.heap.size, 3, none⟩ = some (.slice Ar nr cr) := HTr.out.cell 3
      clear g hin hth hv hs hab hpos htop
      go_wp2_with fail
      go_quiet (fail)
      go_wp2_with fail
      go_quiet (fail)
      go_wp2_with fail
      refine ⟨⟨k + 1, mm - v, hlt, by go_num, rfl, Lib.hid ⟨HH.out.1.drewN _, HN.out, HBd.out⟩⟩, ?_⟩
      simp [intOf]; try omega
    · have t1 : decide (mm > v) = false := by simpa using g
      have HF : Hid (offP t path N = (overP t (s1, s2) mm, 0)) := Lib.hid (by rw [HF0.out, HH.out.2.1.hit hs (by simp only; rw [hv]; omega)])
      have HC := Lib.hid (HOv.out (wr.drewN 1) (HKr.out.drewN 1) s1 s2 mm hth.1 hth.2 (by rw [hv]; omega) (by rw [hv]; omega) hpos (by omega))
      have HOv2 := Lib.hid (fun (W : World) (hk : Keep Never w W) => HOv.out W hk s1 s2 mm hth.1 hth.2 (by rw [hv]; omega) (by rw [hv]; omega) hpos (by omega))
      subst he
      have y0 : wr.cell? ⟨w.heap.size, 0, none⟩ = some (.slice (some ad2) ne ce) := HTr.out.cell 0
      have y1 : wr.cell? ⟨w.heap.size, 1, none⟩ = some (.slice Aj nj cj) := HTr.out.cell 1
      have y2 : wr.cell? ⟨w.heap.size, 2, none⟩ = some (.slice Ab nb cb) := HTr.out.cell 2
      have y3 : wr.cell? ⟨w.heap.size, 3, none⟩ = some (.slice Ar nr cr) := HTr.out.cell 3
      clear g hin hth hv hs hab hpos htop HC HOv
      go_wp2_with fail
      go_quiet (fail)
      go_wp2_with fail
      obtain ⟨⟨o1, o2, o3⟩, hov⟩ : ∃ z, overP t (((j : Nat) : Int), s2) mm = z := ⟨_, rfl⟩
      rw [hov] at HF HOv2
      unfold PsRet psV at HOv2
      dsimp only at HOv2
      clear hov
      go_region_law (first
        | (go_simp; go_at_call 38; refine (HOv2.out _ (by first | exact (HKr.out.drewN _).drew | exact HKr.out.drewN _)).mono ?_; rintro en w7 ⟨rfl, hk7⟩; have HK7 : Hid (Keep Never w w7) := Lib.hid (by first | exact ((HKr.out.drewN _).drew).trans hk7 | exact (HKr.out.drewN _).trans hk7); have HZ7 : Hid (Blk w7 (w.heap.size + 1) 29 #[.int .i64 0, .int .i64 0, .bool false]) := Lib.hid (by first | exact ((HZr.out.drewN _).drew).keep hk7 (fun h => h) | exact (HZr.out.drewN _).keep hk7 (fun h => h)); have z0 : w7.cell? ⟨w.heap.size + 1, 0, none⟩ = some (.int .i64 0) := HZ7.out.cell 0; have z1 : w7.cell? ⟨w.heap.size + 1, 1, none⟩ = some (.int .i64 0) := HZ7.out.cell 1; have z2 : w7.cell? ⟨w.heap.size + 1, 2, none⟩ = some (.bool false) := HZ7.out.cell 2; have zf0 := HZ7.out.frozen 0; have zf1 := HZ7.out.frozen 1; have zf2 := HZ7.out.frozen 2))
      all_goals
        go_wp2_with fail
        (try simp only [Exit.inBlock, Exit.then])
        have hp := ps3_keep HK7.out (b := w.heap.size + 1) (.inr (by omega)) (.int .i64 o1) (.int .i64 o2) (.bool o3)
        refine bodyPost_ret (ps_results2 (fn := Try.f22) (r := 6) (s := 7) rfl (ps3_blk HZ7.out (.int .i64 o1) (.int .i64 o2) (.bool o3)) _ rfl) rfl ⟨by rw [HF.out]; rfl, hp⟩
end Go.Proofs.Ytijdkjcjhfebfaa
