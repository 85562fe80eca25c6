/- Chapter 15: the document's Over. -/
import Derived.Test.YtijdkjcjhfebfaaGreatTopI
namespace Go.Proofs.YtijdkjcjhfebfaaGreat
open Go.RowKit

def overF (es : List Int) (lo hi : Int) (p : List Stp) (k : Nat) : List Sp := (overK es lo hi p k).filter fun s => decide (s.2.1 < s.2.2)
theorem overF_has (es : List Int) (lo hi : Int) (p : List Stp) (k : Nat) (e a : Int) : hasL (overF es lo hi p k) e a = hasL (overK es lo hi p k) e a := by
  apply bool_ext
  rw [hasL_iff, hasL_iff]
  unfold overF
  constructor
  · rintro ⟨s, hs, h⟩
    exact ⟨s, (List.mem_filter.1 hs).1, h⟩
  · rintro ⟨s, hs, h⟩
    exact ⟨s, List.mem_filter.2 ⟨hs, by have := (someS_iff.1 h.1); simp; omega⟩, h⟩
theorem overF_norm {es : List Int} {lo hi : Int} {p : List Stp} {k : Nat} {m : List Sp} (h : NormOf (overF es lo hi p k) m) : NormOf (overK es lo hi p k) m := ⟨h.1, fun e a => (h.2 e a).trans (overF_has es lo hi p k e a)⟩
theorem overF_len (es : List Int) (lo hi : Int) (p : List Stp) (k : Nat) : (overF es lo hi p k).length ≤ k := Nat.le_trans (List.length_filter_le _ _) (overK_len es lo hi p k)
theorem overF_yes {es : List Int} {lo hi : Int} {p : List Stp} {k : Nat} {s : Sp} (h : overK es lo hi p (k + 1) = overK es lo hi p k ++ [s]) (hs : s.2.1 < s.2.2) : overF es lo hi p (k + 1) = overF es lo hi p k ++ [s] := by
  unfold overF; rw [h, List.filter_append]; simp [hs]
theorem overF_no {es : List Int} {lo hi : Int} {p : List Stp} {k : Nat} {s : Sp} (h : overK es lo hi p (k + 1) = overK es lo hi p k ++ [s]) (hs : ¬ s.2.1 < s.2.2) : overF es lo hi p (k + 1) = overF es lo hi p k := by
  unfold overF; rw [h, List.filter_append]; simp [hs]

set_option maxHeartbeats 4000000 in
set_option maxRecDepth 100000 in
theorem rover_any (x : TA) (t : Tp) (B : Nat) (A : Option Addr) (n c : Nat) (p : List Stp) (lo hi : Int) (w : World) (ht : TpAt w B x t) (hp : repStp.Sl w B A n c p) (hn : x.nj ≤ 100000000) (hn1 : x.ne ≤ 100000000) (hn2 : n ≤ 100000000) (hB : B ≤ w.heap.size)
    (l1 : -9223372036854775808 ≤ lo) (l2 : lo ≤ 9223372036854775807) (l3 : -9223372036854775808 ≤ hi) (l4 : hi ≤ 9223372036854775807) :
    Calls Tryz.prog 42 #[.agg x.cs, .slice A n c, .int .i64 lo, .int .i64 hi] w (OverRet t p lo hi w) := by
  have HLn : Hid (∀ (w' : World), Keep Never w w' → Calls Tryz.prog 41 #[.agg x.cs, .slice A n c] w' fun e w'' => e = .returned (.tuple #[.int .i64 (lenM t p).1, .int .i64 (lenM t p).2]) ∧ Keep Never w' w'') := Lib.hid (fun w' h => rlength_any x t B A n c p w' (ht.keep h) (hp.keep h (fun _ h => h.elim)) hn hn2)
  have HE := Lib.hid ht.e
  have HPl : Hid (n = p.length) := Lib.hid hp.len
  obtain ⟨Ae, ne, ce, Aj, nj, cj, Ab, nb, cb, Ar, nr, cr⟩ := x
  simp only [TA.cs] at HLn HE hn1 ⊢
  obtain ⟨wb, hwb⟩ : ∃ wb : World, w.alloc (.cells #[.slice Ae ne ce, .slice Aj nj cj, .slice Ab nb cb, .slice Ar nr cr] 27) = wb := ⟨_, rfl⟩
  have k1 : Keep Never w wb := by rw [← hwb]; exact (Keep.refl _ _).alloc _
  have b1' := Blk.new w 27 #[.slice Ae ne ce, .slice Aj nj cj, .slice Ab nb cb, .slice Ar nr cr]
  rw [hwb] at b1'
  have y0 : wb.cell? ⟨w.heap.size, 0, none⟩ = some (.slice Ae ne ce) := b1'.cell 0
  have y1 : wb.cell? ⟨w.heap.size, 1, none⟩ = some (.slice Aj nj cj) := b1'.cell 1
  have y2 : wb.cell? ⟨w.heap.size, 2, none⟩ = some (.slice Ab nb cb) := b1'.cell 2
  have y3 : wb.cell? ⟨w.heap.size, 3, none⟩ = some (.slice Ar nr cr) := b1'.cell 3
  have HB := Lib.hid b1'
  have HK := Lib.hid k1
  have HP := Lib.hid (hp.keep k1 (fun _ h => h.elim))
  have HEb := Lib.hid (HE.out.keep k1 (fun _ h => h.elim))
  have HC := Lib.hid (HLn.out wb k1)
  obtain ⟨all, hall⟩ : ∃ z, (lenM t p).1 = z := ⟨_, rfl⟩
  obtain ⟨er, her⟩ : ∃ z, (lenM t p).2 = z := ⟨_, rfl⟩
  have HAl := Lib.hid hall
  have HEr := Lib.hid her
  rw [hall, her] at HC
  clear k1 b1' hp ht HE HLn hall her
  go_enter Tryz.func42, Tryz.ntmps42
  go_wp2_with fail
  refine HC.out.mono ?_
  rintro e w1 ⟨rfl, hk1⟩
  have HK1 := Lib.hid (HK.out.trans hk1)
  have HB1 := Lib.hid (HB.out.keep hk1 (fun h => h))
  have y0 : w1.cell? ⟨w.heap.size, 0, none⟩ = some (.slice Ae ne ce) := HB1.out.cell 0
  have HKb := Lib.hid hk1
  clear hk1 HC
  by_cases g0 : er = 0
  case neg =>
    have t0 : (er != 0) = true := by simpa using g0
    have t0' : (er == 0) = false := by simpa using g0
    have HF : Hid (overE t p lo hi = er ∧ er ≠ 0) := Lib.hid ⟨by unfold overE; rw [HEr.out, if_pos g0], g0⟩
    clear g0
    go_wp2_with fail
    go_ret2
    exact over_err HF.out.1 HF.out.2 HK1.out
  subst g0
  have HEl : Hid (ne = t.1.length) := Lib.hid HEb.out.len
  clear y0
  go_wp2_with fail
  go_loopw [12] (fun i wr => ∃ k : Nat, k ≤ ne ∧ i = .int .i64 k ∧ Hid (Keep Never w1 wr ∧ (t.1.take k).any wrongB = false)) (fun i _ => ne - (intOf i).toNat)
  case atStart => exact ⟨0, by omega, rfl, Lib.hid ⟨Keep.refl _ _, rfl⟩⟩
  case round =>
    obtain ⟨k, hk, rfl, HH⟩ := hrel
    have y0 : wr.cell? ⟨w.heap.size, 0, none⟩ = some (.slice Ae ne ce) := (HB1.out.keep HH.out.1 (fun h => h)).cell 0
    by_cases h0 : k < ne
    · have hkz : (k : Int) < (ne : Int) := by omega
      obtain ⟨ad2, v, hA2, _, hv, d0⟩ := (int_rd (HEb.out.keep (HKb.out.trans HH.out.1) (fun _ h => h.elim))).at1 h0
      subst hA2
      have HTk : Hid (t.1.take (k + 1) = t.1.take k ++ [v]) := Lib.hid (by
        obtain ⟨h2, h3⟩ := List.getElem?_eq_some_iff.1 hv
        rw [List.take_succ_eq_append_getElem h2, h3])
      have Hv := Lib.hid hv
      clear hv
      by_cases g1 : v < 1
      · have t1 : decide (v < 1) = true := by simpa using g1
        have hW : t.1.any wrongB = true := List.any_eq_true.2 ⟨v, List.mem_of_getElem? Hv.out, by unfold wrongB; rw [t1]; rfl⟩
        have HF : Hid (overE t p lo hi = 1) := Lib.hid (by unfold overE; rw [HEr.out, if_neg (by simp), if_pos (.inl hW)])
        clear g1 hW
        go_wp2_with fail
        go_ret2
        exact over_err HF.out (by omega) (HK1.out.trans HH.out.1)
      have t1 : decide (v < 1) = false := by simpa using g1
      by_cases g2 : v > 1000000
      · have t2 : decide (v > 1000000) = true := by simpa using g2
        have hW : t.1.any wrongB = true := List.any_eq_true.2 ⟨v, List.mem_of_getElem? Hv.out, by unfold wrongB; rw [t1, t2]; rfl⟩
        have HF : Hid (overE t p lo hi = 1) := Lib.hid (by unfold overE; rw [HEr.out, if_neg (by simp), if_pos (.inl hW)])
        clear g1 g2 hW
        go_wp2_with fail
        go_ret2
        exact over_err HF.out (by omega) (HK1.out.trans HH.out.1)
      have t2 : decide (v > 1000000) = false := by simpa using g2
      have HN : Hid ((t.1.take (k + 1)).any wrongB = false) := Lib.hid (by
        rw [HTk.out, List.any_append, HH.out.2]
        simp only [List.any_cons, List.any_nil, Bool.or_false, Bool.false_or]
        unfold wrongB; rw [t1, t2]; rfl)
      clear g1 g2
      go_wp2_with fail
      refine ⟨⟨k + 1, by omega, by go_num, Lib.hid ⟨HH.out.1, HN.out⟩⟩, ?_⟩
      simp [intOf]; try omega
    · obtain rfl : ne = k := by omega
      have hkz : ¬ (ne : Int) < (ne : Int) := by omega
      have HWf : Hid (t.1.any wrongB = false) := Lib.hid (by have := HH.out.2; rwa [List.take_of_length_le (by rw [HEl.out]; exact Nat.le_refl _)] at this)
      have HK2 := Lib.hid (HK1.out.trans HH.out.1)
      have HKb2 := Lib.hid (HKb.out.trans HH.out.1)
      clear HH h0
      by_cases g1 : lo < 0
      · have t1 : decide (lo < 0) = true := by simpa using g1
        have HF : Hid (overE t p lo hi = 1) := Lib.hid (by unfold overE; rw [HEr.out, if_neg (by simp), if_pos (.inr (.inl g1))])
        clear g1
        go_wp2_with fail
        go_ret2
        exact over_err HF.out (by omega) HK2.out
      have t1 : decide (lo < 0) = false := by simpa using g1
      by_cases g2 : lo > hi
      · have t2 : decide (lo > hi) = true := by simpa using g2
        have HF : Hid (overE t p lo hi = 1) := Lib.hid (by unfold overE; rw [HEr.out, if_neg (by simp), if_pos (.inr (.inr (.inl g2)))])
        clear g1 g2
        go_wp2_with fail
        go_ret2
        exact over_err HF.out (by omega) HK2.out
      have t2 : decide (lo > hi) = false := by simpa using g2
      by_cases g3 : hi > all
      · have t3 : decide (hi > all) = true := by simpa using g3
        have HF : Hid (overE t p lo hi = 1) := Lib.hid (by unfold overE; rw [HEr.out, if_neg (by simp), if_pos (.inr (.inr (.inr (by rw [HAl.out]; exact g3))))])
        clear g1 g2 g3
        go_wp2_with fail
        go_ret2
        exact over_err HF.out (by omega) HK2.out
      have t3 : decide (hi > all) = false := by simpa using g3
      have HF : Hid (overE t p lo hi = 0) := Lib.hid (by
        unfold overE
        rw [HEr.out, if_neg (by simp), if_neg]
        rintro (h | h | h | h)
        · rw [HWf.out] at h; cases h
        · exact g1 h
        · exact g2 h
        · exact g3 (by rw [← HAl.out]; exact h))
      obtain ⟨hgd, hsm⟩ := len_good HEr.out HWf.out
      have HGd := Lib.hid hgd
      have hn40 : n ≤ 40 := by have := hgd.2.2; have := HPl.out; omega
      have h00 : 0 ≤ lo := by omega
      have h01 : lo ≤ hi := by omega
      have h02 : hi ≤ 40000000 := by
        have h := (sum_good hgd p.length (Nat.le_refl _)).2
        rw [List.take_length, ← hsm, HAl.out] at h
        have := hgd.2.2
        omega
      clear g1 g2 g3 hgd hsm l1 l2 l3 l4
      go_wp2_with fail
      clear t1 t2 t3 hkz
      rename World => w2
      go_loopw [13, 14, 15, 16, 17, 18] (fun ov av i _ _ _ wr => ∃ (k no co : Nat) (Ao : Option Addr), k ≤ n ∧ i = .int .i64 k ∧ av = .int .i64 (sumM t.1 (p.take k)) ∧ ov = .slice Ao no co ∧ no ≤ k ∧
        Hid (Keep Never w2 wr ∧ Own wr w2.heap.size 68 3 Ao no co (spCells (overF t.1 lo hi p k)) ∧ no = (overF t.1 lo hi p k).length)) (fun _ _ i _ _ _ _ => n - (intOf i).toNat)
      case atStart => exact ⟨0, 0, 0, none, by omega, rfl, rfl, rfl, by omega, Lib.hid ⟨Keep.refl _ _, Own.nil _ _ _ _, rfl⟩⟩
      case round =>
        obtain ⟨k, no, co, Ao, hk, rfl, rfl, rfl, hno, HH⟩ := hrel
        obtain ⟨hkr, ho, hol⟩ := HH.out
        by_cases h0 : k < n
        · have hkz : (k : Int) < (n : Int) := by omega
          obtain ⟨ad, s, hA, hab, hs, c0, c1, _⟩ := stp_at (HP.out.keep (HKb2.out.trans hkr) (fun _ h => h.elim)) h0
          subst hA
          obtain ⟨j, hj, hjl, v, hv, v1, v2, hgv⟩ := good_at HGd.out hs
          have hst := sum_step HGd.out hs
          have hrg := sum_good HGd.out k (by have := HPl.out; omega)
          have hov := overK_at (es := t.1) (lo := lo) (hi := hi) hs
          rw [hgv] at hst
          obtain ⟨s1, rv⟩ := s
          simp only at c0 c1 hj
          subst hj
          have hcut : cutS t.1 lo hi (sumM t.1 (p.take k)) ((j : Int), rv) = if rv = true then ((j : Int), v - min (hi - sumM t.1 (p.take k)) v, v - max (lo - sumM t.1 (p.take k)) 0) else ((j : Int), max (lo - sumM t.1 (p.take k)) 0, min (hi - sumM t.1 (p.take k)) v) := by
            unfold cutS; simp only at hgv ⊢; rw [hgv]
          rw [hcut] at hov
          generalize sumM t.1 (p.take k) = S at *
          have hjn : j < ne := by have := HEb.out.len; omega
          obtain ⟨ad2, v', hA2, _, hv', d0⟩ := (int_rd (HEb.out.keep (HKb2.out.trans hkr) (fun _ h => h.elim))).at1 hjn
          subst hA2
          obtain rfl : v = v' := by rw [hv] at hv'; injection hv'
          have hjz : (j : Int) < (ne : Int) := by omega
          have hj0 : (0 : Int) ≤ (j : Int) := by omega
          have hS1 := hrg.1
          have hS2 : S ≤ 40000000 := by have := hrg.2; omega
          have HSt := Lib.hid hst
          have HO := Lib.hid ho
          have HOl := Lib.hid hol
          have HKr := Lib.hid hkr
          have y0 : wr.cell? ⟨w.heap.size, 0, none⟩ = some (.slice (some ad2) ne ce) := (HB.out.keep (HKb2.out.trans hkr) (fun h => h)).cell 0
          have w1' : IntKind.i64.wrap (lo - S) = lo - S := IntWalk.i64_in _ (by omega)
          clear w1' hs hab hv hv' hgv hcut hst hrg ho hol hkr HH
          go_wp2_with fail
          go_quiet (fail)
          obtain ⟨wq, hwq⟩ : ∃ W : World, wr.drewN nq = W := ⟨_, rfl⟩
          rw [hwq]
          have hkq : Keep Never wr wq := by rw [← hwq]; exact (Keep.refl Never wr).drewN nq
          have c0q := keepT hkq c0
          have c1q := keepT hkq c1
          have HOq := Lib.hid (HO.out.keep hkq (fun _ _ h => h))
          have HKq := Lib.hid (HKr.out.trans hkq)
          have hszq : w2.heap.size ≤ wq.heap.size := HKq.out.size
          clear hwq hkq c0 c1 d0 y0
          cases rv with
          | false =>
            by_cases q1 : lo - S < 0
            · have t1 : decide (lo - S < 0) = true := by simpa using q1
              by_cases q2 : hi - S > v
              · have t2 : decide (hi - S > v) = true := by simpa using q2
                have ha : max (lo - S) 0 = 0 := by omega
                have hb : min (hi - S) v = v := by omega
                rw [ha, hb] at hov
                simp only [Bool.false_eq_true, if_false] at hov
                by_cases q3 : (0 : Int) < v
                · have t3 : decide ((0 : Int) < v) = true := by simpa using q3
                  have HFy := Lib.hid (overF_yes hov (by show 0 < v; omega))
                  clear hov ha hb q1 q2 q3
                  go_wp2_with (refine wpList_app _ rfl (.tmp 116) (.tmp 125) _ rfl elemSp w2.heap.size (A := Ao) (n := no) (c := co) (by go_simp) (HOq.out.alloc _) _ (A' := some ⟨_, 0, none⟩) (m := 1) (c' := 1) (news := [.int .i64 (j : Int), .int .i64 (0), .int .i64 (v)]) (by go_simp) (Rd.of_blk (n := 1) (cs := [.int .i64 (j : Int), .int .i64 (0), .int .i64 (v)]) (Blk.new _ _ _) rfl) (by simp [Value.oneCell']) (by omega) (by unfold maxLen; omega) (by simp; omega) ?_; intro A10 c10 w10 hown10 hk10 hrow10)
                  have hkk : Keep Never w2 w10 := (HKq.out.alloc _).then_ hk10 (fun i hi h => by have := (HO.out.row h).1; omega)
                  refine ⟨⟨k + 1, no + 1, c10, A10, by omega, by go_num, by rw [HSt.out], rfl, by omega, Lib.hid ⟨hkk, ?_, ?_⟩⟩, ?_⟩
                  · rw [HFy.out]; simpa [spCells, spCell] using hown10
                  · rw [HFy.out, List.length_append, ← HOl.out]; rfl
                  · simp [intOf]; try omega
                · have t3 : decide ((0 : Int) < v) = false := by simpa using q3
                  have HFn := Lib.hid (overF_no hov (by show ¬ (0 < v); omega))
                  clear hov ha hb q1 q2 q3
                  go_wp2_with fail
                  refine ⟨⟨k + 1, no, co, Ao, by omega, by go_num, by rw [HSt.out], rfl, by omega, Lib.hid ⟨HKq.out, by rw [HFn.out]; exact HOq.out, by rw [HFn.out]; exact HOl.out⟩⟩, ?_⟩
                  simp [intOf]; try omega
              · have t2 : decide (hi - S > v) = false := by simpa using q2
                have ha : max (lo - S) 0 = 0 := by omega
                have hb : min (hi - S) v = (hi - S) := by omega
                rw [ha, hb] at hov
                simp only [Bool.false_eq_true, if_false] at hov
                by_cases q3 : (0 : Int) < (hi - S)
                · have t3 : decide ((0 : Int) < (hi - S)) = true := by simpa using q3
                  have t4 : decide (S < hi) = true := by simp; omega
                  have HFy := Lib.hid (overF_yes hov (by show 0 < (hi - S); omega))
                  clear hov ha hb q1 q2 q3
                  go_wp2_with (refine wpList_app _ rfl (.tmp 116) (.tmp 125) _ rfl elemSp w2.heap.size (A := Ao) (n := no) (c := co) (by go_simp) (HOq.out.alloc _) _ (A' := some ⟨_, 0, none⟩) (m := 1) (c' := 1) (news := [.int .i64 (j : Int), .int .i64 (0), .int .i64 ((hi - S))]) (by go_simp) (Rd.of_blk (n := 1) (cs := [.int .i64 (j : Int), .int .i64 (0), .int .i64 ((hi - S))]) (Blk.new _ _ _) rfl) (by simp [Value.oneCell']) (by omega) (by unfold maxLen; omega) (by simp; omega) ?_; intro A10 c10 w10 hown10 hk10 hrow10)
                  have hkk : Keep Never w2 w10 := (HKq.out.alloc _).then_ hk10 (fun i hi h => by have := (HO.out.row h).1; omega)
                  refine ⟨⟨k + 1, no + 1, c10, A10, by omega, by go_num, by rw [HSt.out], rfl, by omega, Lib.hid ⟨hkk, ?_, ?_⟩⟩, ?_⟩
                  · rw [HFy.out]; simpa [spCells, spCell] using hown10
                  · rw [HFy.out, List.length_append, ← HOl.out]; rfl
                  · simp [intOf]; try omega
                · have t3 : decide ((0 : Int) < (hi - S)) = false := by simpa using q3
                  have t4 : decide (S < hi) = false := by simp; omega
                  have HFn := Lib.hid (overF_no hov (by show ¬ (0 < (hi - S)); omega))
                  clear hov ha hb q1 q2 q3
                  go_wp2_with fail
                  refine ⟨⟨k + 1, no, co, Ao, by omega, by go_num, by rw [HSt.out], rfl, by omega, Lib.hid ⟨HKq.out, by rw [HFn.out]; exact HOq.out, by rw [HFn.out]; exact HOl.out⟩⟩, ?_⟩
                  simp [intOf]; try omega
            · have t1 : decide (lo - S < 0) = false := by simpa using q1
              by_cases q2 : hi - S > v
              · have t2 : decide (hi - S > v) = true := by simpa using q2
                have ha : max (lo - S) 0 = (lo - S) := by omega
                have hb : min (hi - S) v = v := by omega
                rw [ha, hb] at hov
                simp only [Bool.false_eq_true, if_false] at hov
                by_cases q3 : ((lo - S) : Int) < v
                · have t3 : decide (((lo - S) : Int) < v) = true := by simpa using q3
                  have HFy := Lib.hid (overF_yes hov (by show (lo - S) < v; omega))
                  clear hov ha hb q1 q2 q3
                  go_wp2_with (refine wpList_app _ rfl (.tmp 116) (.tmp 125) _ rfl elemSp w2.heap.size (A := Ao) (n := no) (c := co) (by go_simp) (HOq.out.alloc _) _ (A' := some ⟨_, 0, none⟩) (m := 1) (c' := 1) (news := [.int .i64 (j : Int), .int .i64 ((lo - S)), .int .i64 (v)]) (by go_simp) (Rd.of_blk (n := 1) (cs := [.int .i64 (j : Int), .int .i64 ((lo - S)), .int .i64 (v)]) (Blk.new _ _ _) rfl) (by simp [Value.oneCell']) (by omega) (by unfold maxLen; omega) (by simp; omega) ?_; intro A10 c10 w10 hown10 hk10 hrow10)
                  have hkk : Keep Never w2 w10 := (HKq.out.alloc _).then_ hk10 (fun i hi h => by have := (HO.out.row h).1; omega)
                  refine ⟨⟨k + 1, no + 1, c10, A10, by omega, by go_num, by rw [HSt.out], rfl, by omega, Lib.hid ⟨hkk, ?_, ?_⟩⟩, ?_⟩
                  · rw [HFy.out]; simpa [spCells, spCell] using hown10
                  · rw [HFy.out, List.length_append, ← HOl.out]; rfl
                  · simp [intOf]; try omega
                · have t3 : decide (((lo - S) : Int) < v) = false := by simpa using q3
                  have HFn := Lib.hid (overF_no hov (by show ¬ ((lo - S) < v); omega))
                  clear hov ha hb q1 q2 q3
                  go_wp2_with fail
                  refine ⟨⟨k + 1, no, co, Ao, by omega, by go_num, by rw [HSt.out], rfl, by omega, Lib.hid ⟨HKq.out, by rw [HFn.out]; exact HOq.out, by rw [HFn.out]; exact HOl.out⟩⟩, ?_⟩
                  simp [intOf]; try omega
              · have t2 : decide (hi - S > v) = false := by simpa using q2
                have ha : max (lo - S) 0 = (lo - S) := by omega
                have hb : min (hi - S) v = (hi - S) := by omega
                rw [ha, hb] at hov
                simp only [Bool.false_eq_true, if_false] at hov
                by_cases q3 : ((lo - S) : Int) < (hi - S)
                · have t3 : decide (((lo - S) : Int) < (hi - S)) = true := by simpa using q3
                  have t4 : decide (lo < hi) = true := by simp; omega
                  have HFy := Lib.hid (overF_yes hov (by show (lo - S) < (hi - S); omega))
                  clear hov ha hb q1 q2 q3
                  go_wp2_with (refine wpList_app _ rfl (.tmp 116) (.tmp 125) _ rfl elemSp w2.heap.size (A := Ao) (n := no) (c := co) (by go_simp) (HOq.out.alloc _) _ (A' := some ⟨_, 0, none⟩) (m := 1) (c' := 1) (news := [.int .i64 (j : Int), .int .i64 ((lo - S)), .int .i64 ((hi - S))]) (by go_simp) (Rd.of_blk (n := 1) (cs := [.int .i64 (j : Int), .int .i64 ((lo - S)), .int .i64 ((hi - S))]) (Blk.new _ _ _) rfl) (by simp [Value.oneCell']) (by omega) (by unfold maxLen; omega) (by simp; omega) ?_; intro A10 c10 w10 hown10 hk10 hrow10)
                  have hkk : Keep Never w2 w10 := (HKq.out.alloc _).then_ hk10 (fun i hi h => by have := (HO.out.row h).1; omega)
                  refine ⟨⟨k + 1, no + 1, c10, A10, by omega, by go_num, by rw [HSt.out], rfl, by omega, Lib.hid ⟨hkk, ?_, ?_⟩⟩, ?_⟩
                  · rw [HFy.out]; simpa [spCells, spCell] using hown10
                  · rw [HFy.out, List.length_append, ← HOl.out]; rfl
                  · simp [intOf]; try omega
                · have t3 : decide (((lo - S) : Int) < (hi - S)) = false := by simpa using q3
                  have t4 : decide (lo < hi) = false := by simp; omega
                  have HFn := Lib.hid (overF_no hov (by show ¬ ((lo - S) < (hi - S)); omega))
                  clear hov ha hb q1 q2 q3
                  go_wp2_with fail
                  refine ⟨⟨k + 1, no, co, Ao, by omega, by go_num, by rw [HSt.out], rfl, by omega, Lib.hid ⟨HKq.out, by rw [HFn.out]; exact HOq.out, by rw [HFn.out]; exact HOl.out⟩⟩, ?_⟩
                  simp [intOf]; try omega
          | true =>
            by_cases q1 : lo - S < 0
            · have t1 : decide (lo - S < 0) = true := by simpa using q1
              by_cases q2 : hi - S > v
              · have t2 : decide (hi - S > v) = true := by simpa using q2
                have ha : max (lo - S) 0 = 0 := by omega
                have hb : min (hi - S) v = v := by omega
                rw [ha, hb] at hov
                simp only [if_true, Int.sub_self, Int.sub_zero] at hov
                by_cases q3 : (0 : Int) < v
                · have t3 : decide ((0 : Int) < v) = true := by simpa using q3
                  have HFy := Lib.hid (overF_yes hov (by show 0 < v; omega))
                  clear hov ha hb q1 q2 q3
                  go_wp2_with (refine wpList_app _ rfl (.tmp 98) (.tmp 111) _ rfl elemSp w2.heap.size (A := Ao) (n := no) (c := co) (by go_simp) (HOq.out.alloc _) _ (A' := some ⟨_, 0, none⟩) (m := 1) (c' := 1) (news := [.int .i64 (j : Int), .int .i64 (0), .int .i64 (v)]) (by go_simp) (Rd.of_blk (n := 1) (cs := [.int .i64 (j : Int), .int .i64 (0), .int .i64 (v)]) (Blk.new _ _ _) rfl) (by simp [Value.oneCell']) (by omega) (by unfold maxLen; omega) (by simp; omega) ?_; intro A10 c10 w10 hown10 hk10 hrow10)
                  have hkk : Keep Never w2 w10 := (HKq.out.alloc _).then_ hk10 (fun i hi h => by have := (HO.out.row h).1; omega)
                  refine ⟨⟨k + 1, no + 1, c10, A10, by omega, by go_num, by rw [HSt.out], rfl, by omega, Lib.hid ⟨hkk, ?_, ?_⟩⟩, ?_⟩
                  · rw [HFy.out]; simpa [spCells, spCell] using hown10
                  · rw [HFy.out, List.length_append, ← HOl.out]; rfl
                  · simp [intOf]; try omega
                · have t3 : decide ((0 : Int) < v) = false := by simpa using q3
                  have HFn := Lib.hid (overF_no hov (by show ¬ (0 < v); omega))
                  clear hov ha hb q1 q2 q3
                  go_wp2_with fail
                  refine ⟨⟨k + 1, no, co, Ao, by omega, by go_num, by rw [HSt.out], rfl, by omega, Lib.hid ⟨HKq.out, by rw [HFn.out]; exact HOq.out, by rw [HFn.out]; exact HOl.out⟩⟩, ?_⟩
                  simp [intOf]; try omega
              · have t2 : decide (hi - S > v) = false := by simpa using q2
                have ha : max (lo - S) 0 = 0 := by omega
                have hb : min (hi - S) v = (hi - S) := by omega
                rw [ha, hb] at hov
                simp only [if_true, Int.sub_self, Int.sub_zero] at hov
                by_cases q3 : (0 : Int) < (hi - S)
                · have t3 : decide ((0 : Int) < (hi - S)) = true := by simpa using q3
                  have t4 : decide (S < hi) = true := by simp; omega
                  have HFy := Lib.hid (overF_yes hov (by show v - (hi - S) < v; omega))
                  clear hov ha hb q1 q2 q3
                  go_wp2_with (refine wpList_app _ rfl (.tmp 98) (.tmp 111) _ rfl elemSp w2.heap.size (A := Ao) (n := no) (c := co) (by go_simp) (HOq.out.alloc _) _ (A' := some ⟨_, 0, none⟩) (m := 1) (c' := 1) (news := [.int .i64 (j : Int), .int .i64 (v - (hi - S)), .int .i64 (v)]) (by go_simp) (Rd.of_blk (n := 1) (cs := [.int .i64 (j : Int), .int .i64 (v - (hi - S)), .int .i64 (v)]) (Blk.new _ _ _) rfl) (by simp [Value.oneCell']) (by omega) (by unfold maxLen; omega) (by simp; omega) ?_; intro A10 c10 w10 hown10 hk10 hrow10)
                  have hkk : Keep Never w2 w10 := (HKq.out.alloc _).then_ hk10 (fun i hi h => by have := (HO.out.row h).1; omega)
                  refine ⟨⟨k + 1, no + 1, c10, A10, by omega, by go_num, by rw [HSt.out], rfl, by omega, Lib.hid ⟨hkk, ?_, ?_⟩⟩, ?_⟩
                  · rw [HFy.out]; simpa [spCells, spCell] using hown10
                  · rw [HFy.out, List.length_append, ← HOl.out]; rfl
                  · simp [intOf]; try omega
                · have t3 : decide ((0 : Int) < (hi - S)) = false := by simpa using q3
                  have t4 : decide (S < hi) = false := by simp; omega
                  have HFn := Lib.hid (overF_no hov (by show ¬ (v - (hi - S) < v); omega))
                  clear hov ha hb q1 q2 q3
                  go_wp2_with fail
                  refine ⟨⟨k + 1, no, co, Ao, by omega, by go_num, by rw [HSt.out], rfl, by omega, Lib.hid ⟨HKq.out, by rw [HFn.out]; exact HOq.out, by rw [HFn.out]; exact HOl.out⟩⟩, ?_⟩
                  simp [intOf]; try omega
            · have t1 : decide (lo - S < 0) = false := by simpa using q1
              by_cases q2 : hi - S > v
              · have t2 : decide (hi - S > v) = true := by simpa using q2
                have ha : max (lo - S) 0 = (lo - S) := by omega
                have hb : min (hi - S) v = v := by omega
                rw [ha, hb] at hov
                simp only [if_true, Int.sub_self, Int.sub_zero] at hov
                by_cases q3 : ((lo - S) : Int) < v
                · have t3 : decide (((lo - S) : Int) < v) = true := by simpa using q3
                  have HFy := Lib.hid (overF_yes hov (by show 0 < v - (lo - S); omega))
                  clear hov ha hb q1 q2 q3
                  go_wp2_with (refine wpList_app _ rfl (.tmp 98) (.tmp 111) _ rfl elemSp w2.heap.size (A := Ao) (n := no) (c := co) (by go_simp) (HOq.out.alloc _) _ (A' := some ⟨_, 0, none⟩) (m := 1) (c' := 1) (news := [.int .i64 (j : Int), .int .i64 (0), .int .i64 (v - (lo - S))]) (by go_simp) (Rd.of_blk (n := 1) (cs := [.int .i64 (j : Int), .int .i64 (0), .int .i64 (v - (lo - S))]) (Blk.new _ _ _) rfl) (by simp [Value.oneCell']) (by omega) (by unfold maxLen; omega) (by simp; omega) ?_; intro A10 c10 w10 hown10 hk10 hrow10)
                  have hkk : Keep Never w2 w10 := (HKq.out.alloc _).then_ hk10 (fun i hi h => by have := (HO.out.row h).1; omega)
                  refine ⟨⟨k + 1, no + 1, c10, A10, by omega, by go_num, by rw [HSt.out], rfl, by omega, Lib.hid ⟨hkk, ?_, ?_⟩⟩, ?_⟩
                  · rw [HFy.out]; simpa [spCells, spCell] using hown10
                  · rw [HFy.out, List.length_append, ← HOl.out]; rfl
                  · simp [intOf]; try omega
                · have t3 : decide (((lo - S) : Int) < v) = false := by simpa using q3
                  have HFn := Lib.hid (overF_no hov (by show ¬ (0 < v - (lo - S)); omega))
                  clear hov ha hb q1 q2 q3
                  go_wp2_with fail
                  refine ⟨⟨k + 1, no, co, Ao, by omega, by go_num, by rw [HSt.out], rfl, by omega, Lib.hid ⟨HKq.out, by rw [HFn.out]; exact HOq.out, by rw [HFn.out]; exact HOl.out⟩⟩, ?_⟩
                  simp [intOf]; try omega
              · have t2 : decide (hi - S > v) = false := by simpa using q2
                have ha : max (lo - S) 0 = (lo - S) := by omega
                have hb : min (hi - S) v = (hi - S) := by omega
                rw [ha, hb] at hov
                simp only [if_true, Int.sub_self, Int.sub_zero] at hov
                by_cases q3 : ((lo - S) : Int) < (hi - S)
                · have t3 : decide (((lo - S) : Int) < (hi - S)) = true := by simpa using q3
                  have t4 : decide (lo < hi) = true := by simp; omega
                  have HFy := Lib.hid (overF_yes hov (by show v - (hi - S) < v - (lo - S); omega))
                  clear hov ha hb q1 q2 q3
                  go_wp2_with (refine wpList_app _ rfl (.tmp 98) (.tmp 111) _ rfl elemSp w2.heap.size (A := Ao) (n := no) (c := co) (by go_simp) (HOq.out.alloc _) _ (A' := some ⟨_, 0, none⟩) (m := 1) (c' := 1) (news := [.int .i64 (j : Int), .int .i64 (v - (hi - S)), .int .i64 (v - (lo - S))]) (by go_simp) (Rd.of_blk (n := 1) (cs := [.int .i64 (j : Int), .int .i64 (v - (hi - S)), .int .i64 (v - (lo - S))]) (Blk.new _ _ _) rfl) (by simp [Value.oneCell']) (by omega) (by unfold maxLen; omega) (by simp; omega) ?_; intro A10 c10 w10 hown10 hk10 hrow10)
                  have hkk : Keep Never w2 w10 := (HKq.out.alloc _).then_ hk10 (fun i hi h => by have := (HO.out.row h).1; omega)
                  refine ⟨⟨k + 1, no + 1, c10, A10, by omega, by go_num, by rw [HSt.out], rfl, by omega, Lib.hid ⟨hkk, ?_, ?_⟩⟩, ?_⟩
                  · rw [HFy.out]; simpa [spCells, spCell] using hown10
                  · rw [HFy.out, List.length_append, ← HOl.out]; rfl
                  · simp [intOf]; try omega
                · have t3 : decide (((lo - S) : Int) < (hi - S)) = false := by simpa using q3
                  have t4 : decide (lo < hi) = false := by simp; omega
                  have HFn := Lib.hid (overF_no hov (by show ¬ (v - (hi - S) < v - (lo - S)); omega))
                  clear hov ha hb q1 q2 q3
                  go_wp2_with fail
                  refine ⟨⟨k + 1, no, co, Ao, by omega, by go_num, by rw [HSt.out], rfl, by omega, Lib.hid ⟨HKq.out, by rw [HFn.out]; exact HOq.out, by rw [HFn.out]; exact HOl.out⟩⟩, ?_⟩
                  simp [intOf]; try omega
        · obtain rfl : k = n := by omega
          have hkz : ¬ (k : Int) < (k : Int) := by omega
          have HKr := Lib.hid (HK2.out.trans hkr)
          have hol2 : no ≤ 40 := by omega
          have hsp := SpAt.of_own ho
          have HN := Lib.hid (rnorm_any _ Ao no co (overF t.1 lo hi p k) wr hsp (by omega) (Nat.le_refl _))
          have HOl := Lib.hid hol
          clear hkr ho hsp HH hol
          go_wp2_with fail
          refine HN.out.mono ?_
          rintro e w5 ⟨m, A5, n5, c5, rfl, hn5, hs5, hk5, hp5, hl5⟩
          have HS5 := Lib.hid hs5
          have HK5 := Lib.hid (HKr.out.trans hk5)
          have HP5 := Lib.hid (overF_norm hp5)
          have hl6 : n5 ≤ 100000000 := by have := hn5.out; have := HOl.out; omega
          clear hs5 hk5 hp5 HN hl5
          go_wp2_with fail
          go_ret2
          exact ⟨m, A5, n5, c5, by rw [HF.out]; rfl, hn5, Lib.hid hl6, HS5.out, HK5.out, Lib.hid (by rw [if_pos HF.out, ← HPl.out]; exact HP5.out)⟩

end Go.Proofs.YtijdkjcjhfebfaaGreat
