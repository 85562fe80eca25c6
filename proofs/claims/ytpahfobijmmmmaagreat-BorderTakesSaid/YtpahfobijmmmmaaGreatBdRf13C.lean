/- Chapter 13: the document's route. -/
import Derived.Test.YtpahfobijmmmmaaGreatBdRf13A
import Derived.Test.YtpahfobijmmmmaaGreatTopI
import Derived.Test.YtpahfobijmmmmaaGreatTopO
namespace Go.Proofs.YtpahfobijmmmmaaGreat
open Go.RowKit

set_option maxHeartbeats 4000000 in
set_option maxRecDepth 100000 in
theorem rroute_any (x : TA) (t : Tp) (B : Nat) (r : Rt) (A : Option Addr) (n c : Nat) (w : World) (ht : TpAt w B x t) (hp : repStp.Sl w B A n c r.2.1) (hn : x.nj ≤ 100000000) (hn1 : x.nb ≤ 100000000) (hn2 : n ≤ 100000000) (hw : t.1.any wrongB = false) :
    Calls Tryz.prog 64 #[.agg x.cs, .agg #[.int .i64 r.1, .slice A n c, .int .i64 r.2.2.1, .int .i64 r.2.2.2]] w fun e w' => e = .returned (.int .i64 (routedM t r)) ∧ Keep Never w w' := by
  have HLn : Hid (∀ (w' : World), Keep Never w w' → Calls Tryz.prog 88 #[.agg x.cs, .slice A n c] w' fun e w'' => e = .returned (.tuple #[.int .i64 (lenM t r.2.1).1, .int .i64 (lenM t r.2.1).2]) ∧ Keep Never w' w'') := Lib.hid (fun w' h => rlength_any x t B A n c r.2.1 w' (ht.keep h) (hp.keep h (fun _ h => h.elim)) hn hn2)
  have HT := Lib.hid (fun i W => redge_any x i W)
  have HEl : Hid (x.ne = t.1.length) := Lib.hid ht.e.len
  have HBl := Lib.hid (bl_rd ht.b)
  have HP := Lib.hid hp
  have HPl : Hid (n = r.2.1.length) := Lib.hid hp.len
  have HBn : Hid (x.nb = t.2.2.1.length) := Lib.hid ht.b.len
  obtain ⟨Ae, ne, ce, Aj, nj, cj, Ab, nb, cb, Ar, nr, cr⟩ := x
  obtain ⟨r1, p, r3, r4⟩ := r
  simp only [TA.cs] at HLn HT HEl HBl HP HPl HBn hn1 ⊢
  have HWr := Lib.hid hw
  obtain ⟨w1, hw1⟩ : ∃ wb : World, w.alloc (.cells #[.slice Ae ne ce, .slice Aj nj cj, .slice Ab nb cb, .slice Ar nr cr] 27) = wb := ⟨_, rfl⟩
  obtain ⟨w2, hw2⟩ : ∃ wb : World, w1.alloc (.cells #[.int .i64 r1, .slice A n c, .int .i64 r3, .int .i64 r4] 53) = wb := ⟨_, rfl⟩
  have z1 : w1.heap.size = w.heap.size + 1 := by rw [← hw1]; simp
  have k1 : Keep Never w w1 := by rw [← hw1]; exact (Keep.refl _ _).alloc _
  have k2 : Keep Never w1 w2 := by rw [← hw2]; exact (Keep.refl _ _).alloc _
  have b1 := Blk.new w 27 #[.slice Ae ne ce, .slice Aj nj cj, .slice Ab nb cb, .slice Ar nr cr]
  rw [hw1] at b1
  have b2 := Blk.new w1 53 #[.int .i64 r1, .slice A n c, .int .i64 r3, .int .i64 r4]
  rw [hw2, z1] at b2
  have HB1 := Lib.hid (b1.keep k2 (fun h => h))
  have HB2 := Lib.hid b2
  have HK := Lib.hid (k1.trans k2)
  have v0 : w2.cell? ⟨w.heap.size + 1, 0, none⟩ = some (.int .i64 r1) := HB2.out.cell 0
  have v1 : w2.cell? ⟨w.heap.size + 1, 1, none⟩ = some (.slice A n c) := HB2.out.cell 1
  clear k1 k2 b1 b2 ht hp hw
  by_cases g1 : r1 < 1
  · have t1 : decide (r1 < 1) = true := by simpa using g1
    have HF : Hid (routedM t (r1, p, r3, r4) = 1) := Lib.hid (by unfold routedM; rw [if_pos (.inl g1)])
    clear g1
    go_enter Tryz.func64, Tryz.ntmps64
    go_wp2_with fail
    go_ret
    exact ⟨by rw [HF.out]; rfl, HK.out⟩
  have t1 : decide (r1 < 1) = false := by simpa using g1
  by_cases g2 : n < 1
  · have t2 : ((n : Int) == 0) = true := by simp; omega
    have HF : Hid (routedM t (r1, p, r3, r4) = 1) := Lib.hid (by unfold routedM; rw [if_pos (.inr (.inl (by rw [← HPl.out]; exact g2)))])
    clear g1 g2
    go_enter Tryz.func64, Tryz.ntmps64
    go_wp2_with fail
    go_ret
    exact ⟨by rw [HF.out]; rfl, HK.out⟩
  have t2 : ((n : Int) == 0) = false := by simp; omega
  by_cases g3 : 8 < n
  · have t3 : decide ((n : Int) > 8) = true := by simp; omega
    have HF : Hid (routedM t (r1, p, r3, r4) = 1) := Lib.hid (by unfold routedM; rw [if_pos (.inr (.inr (by rw [← HPl.out]; exact g3)))])
    clear g1 g2 g3
    go_enter Tryz.func64, Tryz.ntmps64
    go_wp2_with fail
    go_ret
    exact ⟨by rw [HF.out]; rfl, HK.out⟩
  have t3 : decide ((n : Int) > 8) = false := by simp; omega
  have HN1 : Hid (¬ (r1 < 1 ∨ p.length < 1 ∨ 8 < p.length)) := Lib.hid (by have := HPl.out; omega)
  have hn8 : n ≤ 8 := by omega
  clear g1 g2 g3
  go_enter Tryz.func64, Tryz.ntmps64
  go_wp2_with fail
  clear t1 t2 t3 v0 v1
  go_loopw [5] (fun i wr => ∃ k : Nat, k ≤ n ∧ i = .int .i64 k ∧ Hid (Keep Never w2 wr ∧ ∀ j, j < k → badAt ne p j = false)) (fun i _ => n - (intOf i).toNat)
  case atStart => exact ⟨0, by omega, rfl, Lib.hid ⟨Keep.refl _ _, fun j h => by omega⟩⟩
  case round =>
    obtain ⟨k, hk, rfl, HH⟩ := hrel
    have hb1 := HB1.out.keep HH.out.1 (fun h => h)
    have hb2 := HB2.out.keep HH.out.1 (fun h => h)
    have v1 : wr.cell? ⟨w.heap.size + 1, 1, none⟩ = some (.slice A n c) := hb2.cell 1
    by_cases h0 : k < n
    · have hkz : (k : Int) < (n : Int) := by omega
      obtain ⟨ad, s, hA, _, hs, c0, c1, _⟩ := stp_at (HP.out.keep (HK.out.trans HH.out.1) (fun _ h => h.elim)) h0
      subst hA
      obtain ⟨s1, s2⟩ := s
      simp only at c0 c1 hs
      have y0 : wr.cell? ⟨w.heap.size, 0, none⟩ = some (.slice Ae ne ce) := hb1.cell 0
      have y1 : wr.cell? ⟨w.heap.size, 1, none⟩ = some (.slice Aj nj cj) := hb1.cell 1
      have y2 : wr.cell? ⟨w.heap.size, 2, none⟩ = some (.slice Ab nb cb) := hb1.cell 2
      have y3 : wr.cell? ⟨w.heap.size, 3, none⟩ = some (.slice Ar nr cr) := hb1.cell 3
      have Hs := Lib.hid hs
      have HS2 : Hid (∀ W', Keep Never wr W' → Keep Never wr W' ∧ W'.cell? ⟨w.heap.size, 0, none⟩ = some (.slice Ae ne ce) ∧ W'.cell? ⟨w.heap.size, 1, none⟩ = some (.slice Aj nj cj) ∧ W'.cell? ⟨w.heap.size, 2, none⟩ = some (.slice Ab nb cb) ∧ W'.cell? ⟨w.heap.size, 3, none⟩ = some (.slice Ar nr cr) ∧ W'.cell? ⟨w.heap.size + 1, 1, none⟩ = some (.slice (some ad) n c) ∧ W'.cell? (ad.add (k * 2)) = some (.int .i64 s1)) := Lib.hid (fun W' h => ⟨h, keepT h y0, keepT h y1, keepT h y2, keepT h y3, keepT h v1, keepT h c0⟩)
      clear hs hb1 hb2 c1
      go_wp2_with fail
      clear y0 y1 y2 y3 v1 c0
      go_region_held3 (fun W' => Keep Never wr W' ∧ W'.cell? ⟨w.heap.size, 0, none⟩ = some (.slice Ae ne ce) ∧ W'.cell? ⟨w.heap.size, 1, none⟩ = some (.slice Aj nj cj) ∧ W'.cell? ⟨w.heap.size, 2, none⟩ = some (.slice Ab nb cb) ∧ W'.cell? ⟨w.heap.size, 3, none⟩ = some (.slice Ar nr cr) ∧ W'.cell? ⟨w.heap.size + 1, 1, none⟩ = some (.slice (some ad) n c) ∧ W'.cell? (ad.add (k * 2)) = some (.int .i64 s1))
        (first | assumption | exact HS2.out _ ((Keep.refl Never wr).drew) | exact HS2.out _ (Keep.trans (And.left (by assumption)) hk3) | exact HS2.out _ (Keep.trans ((Keep.refl Never wr).drew) hk3))
        (first
          | (go_at_call 63; refine (HT.out s1 _).mono ?_; rintro e w3 ⟨rfl, hk3⟩))
      rename_i hS
      have HK3 := Lib.hid (HH.out.1.trans hS.1)
      clear hS HS2 hk3
      cases htb : thereB ne s1 with
      | false =>
        have HBd : Hid (badAt ne p k = true) := Lib.hid (by unfold badAt; rw [Hs.out]; simp [htb])
        have HF : Hid (routedM t (r1, p, r3, r4) = 1) := Lib.hid (by unfold routedM; rw [if_neg HN1.out, if_pos (pathBad_t (k := k) (by show k < p.length; have := HPl.out; omega) (by rw [← HEl.out]; exact HBd.out))])
        clear htb
        go_wp2_with fail
        go_ret
        exact ⟨by rw [HF.out]; rfl, HK.out.trans HK3.out⟩
      | true =>
        have HTb := Lib.hid htb
        clear htb
        go_wp2_with fail
        go_loopw [7] (fun i wr => ∃ j : Nat, j ≤ k ∧ i = .int .i64 j ∧ Hid (Keep Never w2 wr ∧ ∀ (i : Nat) (u : Stp), i < j → p[i]? = some u → u.1 ≠ s1)) (fun i _ => k - (intOf i).toNat)
        case atStart => exact ⟨0, by omega, rfl, Lib.hid ⟨HK3.out, fun i u h => by omega⟩⟩
        case round =>
          obtain ⟨j, hj, rfl, HJ⟩ := hrel
          by_cases h1 : j < k
          · have hjz : (j : Int) < (k : Int) := by omega
            have hj1 : j < n := by omega
            have hjn : (j : Int) < (n : Int) := by omega
            have hpk := HP.out.keep (HK.out.trans HJ.out.1) (fun _ h => h.elim)
            obtain ⟨ad6, sj, hA6, _, hv, c0, _, _⟩ := stp_at hpk hj1
            obtain ⟨ad7, sk, hA7, _, hu, d0, _, _⟩ := stp_at hpk h0
            injection hA6 with hA6
            injection hA7 with hA7
            subst hA6 hA7
            rw [Hs.out] at hu
            injection hu with hu
            subst hu
            obtain ⟨o1, o2⟩ := sj
            simp only at c0 d0
            have Hv := Lib.hid hv
            have v1 : wr.cell? ⟨w.heap.size + 1, 1, none⟩ = some (.slice (some ad) n c) := (HB2.out.keep HJ.out.1 (fun h => h)).cell 1
            clear hv hpk
            by_cases gq : o1 = s1
            · have t1 : (o1 == s1) = true := by simpa using gq
              have HBd : Hid (badAt ne p k = true) := Lib.hid (by
                unfold badAt
                rw [Hs.out]
                simp only [Bool.or_eq_true]
                right
                rw [List.any_eq_true]
                refine ⟨(o1, o2), ?_, by simpa using gq⟩
                rw [List.mem_iff_getElem?]
                exact ⟨j, by rw [List.getElem?_take, if_pos h1]; exact Hv.out⟩)
              have HF : Hid (routedM t (r1, p, r3, r4) = 1) := Lib.hid (by unfold routedM; rw [if_neg HN1.out, if_pos (pathBad_t (k := k) (by show k < p.length; have := HPl.out; omega) (by rw [← HEl.out]; exact HBd.out))])
              clear gq
              go_wp2_with fail
              go_quiet (fail)
              go_wp2_with fail
              go_ret
              exact ⟨by rw [HF.out]; rfl, HK.out.trans (HJ.out.1.drewN _)⟩
            · have t1 : (o1 == s1) = false := by simpa using gq
              have HN : Hid (∀ (i : Nat) (u : Stp), i < j + 1 → p[i]? = some u → u.1 ≠ s1) := Lib.hid (fun i u hi hs => by
                by_cases e : i = j
                · rw [e, Hv.out] at hs; injection hs with hs; rw [← hs]; exact gq
                · exact HJ.out.2 i u (by omega) hs)
              clear gq
              go_wp2_with fail
              go_quiet (fail)
              go_wp2_with fail
              refine ⟨⟨j + 1, by omega, by go_num, Lib.hid ⟨HJ.out.1.drewN _, HN.out⟩⟩, ?_⟩
              simp [intOf]; try omega
          · obtain rfl : k = j := by omega
            have hjz : ¬ (k : Int) < (k : Int) := by omega
            have HBd : Hid (badAt ne p k = false) := Lib.hid (by
              unfold badAt
              rw [Hs.out]
              simp only
              rw [HTb.out]
              simp only [Bool.not_true, Bool.false_or]
              rw [List.any_eq_false]
              intro u hu
              obtain ⟨i, hi⟩ := List.mem_iff_getElem?.1 hu
              rw [List.getElem?_take] at hi
              split at hi
              · rename_i hik
                simpa using HJ.out.2 i u hik hi
              · cases hi)
            go_wp2_with fail
            refine ⟨⟨k + 1, by omega, by go_num, Lib.hid ⟨HJ.out.1, fun j hj => ?_⟩⟩, ?_⟩
            · by_cases e : j = k
              · rw [e]; exact HBd.out
              · exact HH.out.2 j (by omega)
            · simp [intOf]; try omega
    · obtain rfl : k = n := by omega
      have hkz : ¬ (k : Int) < (k : Int) := by omega
      have HN2 : Hid (¬ pathBad t.1.length p = true) := Lib.hid (by
        rw [pathBad_f (fun j hj => by rw [← HEl.out]; exact HH.out.2 j (by have := HPl.out; omega))]; simp)
      have HKr := Lib.hid HH.out.1
      have y0 : wr.cell? ⟨w.heap.size, 0, none⟩ = some (.slice Ae ne ce) := hb1.cell 0
      have y1 : wr.cell? ⟨w.heap.size, 1, none⟩ = some (.slice Aj nj cj) := hb1.cell 1
      have y2 : wr.cell? ⟨w.heap.size, 2, none⟩ = some (.slice Ab nb cb) := hb1.cell 2
      have y3 : wr.cell? ⟨w.heap.size, 3, none⟩ = some (.slice Ar nr cr) := hb1.cell 3
      have HC := Lib.hid (HLn.out wr (HK.out.trans HH.out.1))
      clear HH hb1 hb2 HT HLn
      obtain ⟨all, hall⟩ : ∃ z, (lenM t p).1 = z := ⟨_, rfl⟩
      obtain ⟨er, her⟩ : ∃ z, (lenM t p).2 = z := ⟨_, rfl⟩
      have HAl := Lib.hid hall
      have HEr := Lib.hid her
      rw [hall, her] at HC
      clear hall her
      go_wp2_with fail
      refine HC.out.mono ?_
      rintro e w3 ⟨rfl, hk3⟩
      have HK3 := Lib.hid (HKr.out.trans hk3)
      have HB2r := Lib.hid ((HB2.out.keep HKr.out (fun h => h)).keep hk3 (fun h => h))
      have HB1r := Lib.hid ((HB1.out.keep HKr.out (fun h => h)).keep hk3 (fun h => h))
      clear hk3 y0 y1 y2 y3 v1 HC
      by_cases g0 : er = 0
      case neg =>
        have t0 : (er != 0) = true := by simpa using g0
        have t0' : (er == 0) = false := by simpa using g0
        have HF : Hid (routedM t (r1, p, r3, r4) = er) := Lib.hid (by unfold routedM; rw [if_neg HN1.out, if_neg HN2.out, if_pos (by simp only; rw [HEr.out]; exact g0)]; exact HEr.out)
        clear g0
        go_wp2_with fail
        go_ret
        exact ⟨by rw [HF.out]; rfl, HK.out.trans HK3.out⟩
      subst g0
      have HN3 : Hid (¬ (lenM t p).2 ≠ 0) := Lib.hid (by rw [HEr.out]; simp)
      have hgl := len_good (HEr.out) HWr.out
      have hsg := sum_good hgl.1 p.length (Nat.le_refl _)
      rw [List.take_of_length_le (Nat.le_refl _), ← hgl.2] at hsg
      have hall0 : 0 ≤ all := by rw [← HAl.out]; exact hsg.1
      have hall1 : all ≤ 8000000 := by rw [← HAl.out]; have := hsg.2; have := HPl.out; omega
      clear hsg hgl
      have v1 : w3.cell? ⟨w.heap.size + 1, 1, none⟩ = some (.slice A k c) := HB2r.out.cell 1
      have v2 : w3.cell? ⟨w.heap.size + 1, 2, none⟩ = some (.int .i64 r3) := HB2r.out.cell 2
      have v3 : w3.cell? ⟨w.heap.size + 1, 3, none⟩ = some (.int .i64 r4) := HB2r.out.cell 3
      have hF1 : (r3 < 0 ∨ all ≤ r3 ∨ r4 < 1 ∨ 1000 < r4) → routedM t (r1, p, r3, r4) = 1 := fun h => by
        unfold routedM; rw [if_neg HN1.out, if_neg HN2.out, if_neg HN3.out, if_pos (by simp only; rw [HAl.out]; exact h)]
      have HF1 := Lib.hid hF1
      clear hF1
      by_cases g1 : r3 < 0
      · have t1 : decide (r3 < 0) = true := by simpa using g1
        have HF := Lib.hid (HF1.out (.inl g1))
        clear g1
        go_wp2_with fail
        go_ret
        exact ⟨by rw [HF.out]; rfl, HK.out.trans HK3.out⟩
      have t1 : decide (r3 < 0) = false := by simpa using g1
      by_cases g2 : all ≤ r3
      · have t2 : decide (r3 > all - 1) = true := by simp; omega
        have HF := Lib.hid (HF1.out (.inr (.inl g2)))
        clear g1 g2
        go_wp2_with fail
        go_ret
        exact ⟨by rw [HF.out]; rfl, HK.out.trans HK3.out⟩
      have t2 : decide (r3 > all - 1) = false := by simp; omega
      by_cases g3 : r4 < 1
      · have t3 : decide (r4 < 1) = true := by simpa using g3
        have HF := Lib.hid (HF1.out (.inr (.inr (.inl g3))))
        clear g1 g2 g3
        go_wp2_with fail
        go_ret
        exact ⟨by rw [HF.out]; rfl, HK.out.trans HK3.out⟩
      have t3 : decide (r4 < 1) = false := by simpa using g3
      by_cases g4 : 1000 < r4
      · have t4 : decide (r4 > 1000) = true := by simpa using g4
        have HF := Lib.hid (HF1.out (.inr (.inr (.inr g4))))
        clear g1 g2 g3 g4
        go_wp2_with fail
        go_ret
        exact ⟨by rw [HF.out]; rfl, HK.out.trans HK3.out⟩
      have t4 : decide (r4 > 1000) = false := by simpa using g4
      have HN4 : Hid (¬ (r3 < 0 ∨ (lenM t p).1 ≤ r3 ∨ r4 < 1 ∨ 1000 < r4)) := Lib.hid (by rw [HAl.out]; omega)
      clear g1 g2 g3 g4 HF1
      go_wp2_with fail
      clear t1 t2 t3 t4 v1 v2 v3 hall0 hall1
      rename World => w3
      go_loopw [10] (fun i wr => ∃ j : Nat, j ≤ k ∧ i = .int .i64 j ∧ Hid (Keep Never w2 wr ∧ ∀ s ∈ p.take j, noBal t.2.2.1 s = false)) (fun i _ => k - (intOf i).toNat)
      case atStart => exact ⟨0, by omega, rfl, Lib.hid ⟨HK3.out, by simp⟩⟩
      case round =>
        obtain ⟨j, hj, rfl, HH⟩ := hrel
        have v1 : wr.cell? ⟨w.heap.size + 1, 1, none⟩ = some (.slice A k c) := (HB2.out.keep HH.out.1 (fun h => h)).cell 1
        by_cases h0 : j < k
        · have hjz : (j : Int) < (k : Int) := by omega
          obtain ⟨wk, hwk⟩ : ∃ z, wr = z := ⟨_, rfl⟩
          rw [hwk] at HH v1
          rw [hwk]
          clear hwk
          go_wp2_with fail
          clear v1
          go_loopw [11, 12] (fun h q wr => ∃ q' : Nat, q' ≤ nb ∧ h = .bool ((t.2.2.1.take q').any (fun b => b.2.1 == (p.getD j (0, false)).1)) ∧ q = .int .i64 q' ∧ Hid (Keep Never wk wr)) (fun _ i _ => nb - (intOf i).toNat)
          case atStart => exact ⟨0, by omega, by simp, rfl, Lib.hid (Keep.refl _ _)⟩
          case round =>
            obtain ⟨q, hq, rfl, rfl, HH3⟩ := hrel
            have HK4 := Lib.hid (HH.out.1.trans HH3.out)
            have y2 : wr.cell? ⟨w.heap.size, 2, none⟩ = some (.slice Ab nb cb) := (HB1.out.keep HK4.out (fun h => h)).cell 2
            have v1 : wr.cell? ⟨w.heap.size + 1, 1, none⟩ = some (.slice A k c) := (HB2.out.keep HK4.out (fun h => h)).cell 1
            obtain ⟨ad, s, hA, _, hs, c0, _, _⟩ := stp_at (HP.out.keep (HK.out.trans HK4.out) (fun _ h => h.elim)) h0
            subst hA
            obtain ⟨s1, s2⟩ := s
            simp only at c0
            have hgd : (p.getD j (0, false)).1 = s1 := by rw [List.getD_eq_getElem?_getD, hs]; rfl
            rw [hgd]
            have Hs := Lib.hid hs
            clear hs hgd
            by_cases hqb : q < nb
            · have hqz : (q : Int) < (nb : Int) := by omega
              obtain ⟨ad6, b, hA6, _, hb, f0, f1, f2⟩ := (HBl.out.keep (HK.out.trans HK4.out) (fun _ h => h.elim)).sp hqb
              (try simp only at hA6)
              subst hA6
              obtain ⟨b1, b2, b3⟩ := b
              simp only at f0 f1 f2
              have HNx : Hid ((t.2.2.1.take (q + 1)).any (fun b => b.2.1 == s1) = ((t.2.2.1.take q).any (fun b => b.2.1 == s1) || (b2 == s1))) := Lib.hid (by
                obtain ⟨h2, h3⟩ := List.getElem?_eq_some_iff.1 hb
                rw [List.take_succ_eq_append_getElem h2, h3]
                simp [List.any_append])
              obtain ⟨hs, hhs⟩ : ∃ z, (t.2.2.1.take q).any (fun b => b.2.1 == s1) = z := ⟨_, rfl⟩
              obtain ⟨z, hz⟩ : ∃ z, (b2 == s1) = z := ⟨_, rfl⟩
              rw [hhs, hz] at HNx
              rw [hhs]
              clear hhs hb f0 f2
              cases hs with
              | true =>
                clear f1 hz
                go_wp2_with fail
                go_quiet (fail)
                go_wp2_with fail
                refine ⟨⟨q + 1, by omega, by rw [HNx.out]; rfl, by go_num, Lib.hid (HH3.out.drewN _)⟩, ?_⟩
                simp [intOf]; try omega
              | false =>
                go_wp2_with fail
                go_quiet (fail)
                go_wp2_with fail
                refine ⟨⟨q + 1, by omega, by rw [HNx.out]; rfl, by go_num, Lib.hid (HH3.out.drewN _)⟩, ?_⟩
                simp [intOf]; try omega
            · obtain rfl : nb = q := by omega
              have hqz : ¬ (nb : Int) < (nb : Int) := by omega
              have HTl : Hid (t.2.2.1.take nb = t.2.2.1) := Lib.hid (by rw [List.take_of_length_le (by rw [← HBn.out]; exact Nat.le_refl _)])
              rw [HTl.out]
              clear v1 c0
              cases hany : t.2.2.1.any (fun b => b.2.1 == s1) with
              | false =>
                have HF : Hid (routedM t (r1, p, r3, r4) = 4) := Lib.hid (by
                  unfold routedM
                  rw [if_neg HN1.out, if_neg HN2.out, if_neg HN3.out, if_neg HN4.out, if_pos]
                  exact List.any_eq_true.2 ⟨_, List.mem_of_getElem? Hs.out, by unfold noBal; simp only; rw [hany]; rfl⟩)
                clear hany
                go_wp2_with fail
                go_ret
                exact ⟨by rw [HF.out]; rfl, HK.out.trans HK4.out⟩
              | true =>
                have HNb : Hid (noBal t.2.2.1 (s1, s2) = false) := Lib.hid (by unfold noBal; simp only; rw [hany]; rfl)
                have HTk : Hid (p.take (j + 1) = p.take j ++ [(s1, s2)]) := Lib.hid (by
                  obtain ⟨h2, h3⟩ := List.getElem?_eq_some_iff.1 Hs.out
                  rw [List.take_succ_eq_append_getElem h2, h3])
                clear hany
                go_wp2_with fail
                refine ⟨⟨j + 1, by omega, by go_num, Lib.hid ⟨HK4.out, fun u hu => ?_⟩⟩, ?_⟩
                · rw [HTk.out] at hu
                  rcases List.mem_append.1 hu with hu | hu
                  · exact HH.out.2 u hu
                  · simp at hu; subst hu; exact HNb.out
                · simp [intOf]; try omega
        · obtain rfl : j = k := by omega
          have hjz : ¬ (j : Int) < (j : Int) := by omega
          have HF : Hid (routedM t (r1, p, r3, r4) = 0) := Lib.hid (by
            unfold routedM
            rw [if_neg HN1.out, if_neg HN2.out, if_neg HN3.out, if_neg HN4.out, if_neg]
            rw [List.any_eq_true]
            rintro ⟨s, hs, h⟩
            have := HH.out.2 s (by rw [List.take_of_length_le (by rw [HPl.out]; exact Nat.le_refl _)]; exact hs)
            rw [this] at h; cases h)
          have HKe := Lib.hid (HK.out.trans HH.out.1)
          go_wp2_with fail
          go_ret
          exact ⟨by rw [HF.out]; rfl, HKe.out⟩

end Go.Proofs.YtpahfobijmmmmaaGreat

namespace Go.Proofs.YtpahfobijmmmmaaGreat
open Go.RowKit

set_option maxHeartbeats 40000000 in
set_option maxRecDepth 100000 in
theorem rcheck_any (x : TA) (t : Tp) (B : Nat) (w : World) (ht : TpAt w B x t) (hs : TpSmall x t) (hB : B ≤ w.heap.size) :
    Calls Tryz.prog 26 #[.agg x.cs] w fun e w' => e = .returned (.int .i64 (checkM t)) ∧ Keep Never w w' := by
  have HT := Lib.hid (fun i W => redge_any x i W)
  have HEn : Hid (∀ (a1 a2 : Int) W, Calls Tryz.prog 61 #[.agg x.cs, .agg #[.int .i64 a1, .int .i64 a2]] W fun e w' => e = .returned (.bool (endB x.ne (a1, a2))) ∧ Keep Never W w') := Lib.hid (fun a1 a2 W => rend_any x (a1, a2) W)
  have HRd : Hid (∀ (r : Rt) A n c W, Keep Never w W → repStp.Sl W B A n c r.2.1 → n ≤ 100000000 → t.1.any wrongB = false → Calls Tryz.prog 64 #[.agg x.cs, .agg #[.int .i64 r.1, .slice A n c, .int .i64 r.2.2.1, .int .i64 r.2.2.2]] W fun e w' => e = .returned (.int .i64 (routedM t r)) ∧ Keep Never W w') := Lib.hid (fun r A n c W hk hr hn hw => rroute_any x t B r A n c W (ht.keep hk) hr hs.j hs.b hn hw)
  have HTp := Lib.hid ht
  have HSm := Lib.hid hs
  have HGB := Lib.hid hB
  have qe : ∀ (w : World) (x1 x2 y1 y2 : Int), (binOp .eql 91 (.agg #[.int .i64 x1, .int .i64 x2]) (.agg #[.int .i64 y1, .int .i64 y2])).run Tryz.prog w = .ok (.bool (sameE x1 x2 y1 y2)) w := run_eq_end
  have HL : Hid (x.ne = t.1.length ∧ x.nj = t.2.1.length ∧ x.nb = t.2.2.1.length ∧ x.nr = t.2.2.2.length) := Lib.hid ⟨ht.e.len, ht.j.len, ht.b.len, ht.r.len⟩
  obtain ⟨Ae, ne, ce, Aj, nj, cj, Ab, nb, cb, Ar, nr, cr⟩ := x
  simp only [TA.cs] at HT HEn HRd HL ⊢
  have hns := hs
  obtain ⟨hn1, hn2, hn3, hn4, hn5⟩ := hns
  simp only at hn1 hn2 hn3 hn4
  have HP5 := Lib.hid hn5
  have HJo : Hid (∀ (k : Nat) (A : Option Addr) (a1 a2 b1 b2 : Int) W, Keep Never w W → A = Aj → k ≤ nj → Calls Tryz.prog 62 #[.slice A k cj, .agg #[.int .i64 a1, .int .i64 a2], .agg #[.int .i64 b1, .int .i64 b2]] W fun e w' => e = .returned (.bool (joinB (t.2.1.take k) (a1, a2) (b1, b2))) ∧ Keep Never W w') := Lib.hid (fun k A a1 a2 b1 b2 W hk hA hkn => by subst hA; exact rjoined_any A k cj B (t.2.1.take k) (a1, a2) (b1, b2) W (Sl.front ((ht.keep hk).j) hkn) (by omega))
  obtain ⟨w1, hw1⟩ : ∃ wb : World, w.alloc (.cells #[.slice Ae ne ce, .slice Aj nj cj, .slice Ab nb cb, .slice Ar nr cr] 27) = wb := ⟨_, rfl⟩
  have k1 : Keep Never w w1 := by rw [← hw1]; exact (Keep.refl _ _).alloc _
  have b1 := Blk.new w 27 #[.slice Ae ne ce, .slice Aj nj cj, .slice Ab nb cb, .slice Ar nr cr]
  rw [hw1] at b1
  have HB1 := Lib.hid b1
  have HK := Lib.hid k1
  have y0 : w1.cell? ⟨w.heap.size, 0, none⟩ = some (.slice Ae ne ce) := HB1.out.cell 0
  have y1 : w1.cell? ⟨w.heap.size, 1, none⟩ = some (.slice Aj nj cj) := HB1.out.cell 1
  have y2 : w1.cell? ⟨w.heap.size, 2, none⟩ = some (.slice Ab nb cb) := HB1.out.cell 2
  have y3 : w1.cell? ⟨w.heap.size, 3, none⟩ = some (.slice Ar nr cr) := HB1.out.cell 3
  clear k1 b1 ht hs hB hn5
  by_cases g1 : 40 < ne
  · have t1 : decide ((ne : Int) > 40) = true := by simp; omega
    have HF : Hid (checkM t = 2) := Lib.hid (by unfold checkM; rw [if_pos (.inl (by rw [← HL.out.1]; exact g1))])
    clear g1
    go_enter Tryz.func26, Tryz.ntmps26
    go_wp2_with fail
    go_ret
    exact ⟨by rw [HF.out]; rfl, HK.out⟩
  have t1 : decide ((ne : Int) > 40) = false := by simp; omega
  by_cases g2 : 80 < nj
  · have t2 : decide ((nj : Int) > 80) = true := by simp; omega
    have HF : Hid (checkM t = 2) := Lib.hid (by unfold checkM; rw [if_pos (.inr (.inl (by rw [← HL.out.2.1]; exact g2)))])
    clear g1 g2
    go_enter Tryz.func26, Tryz.ntmps26
    go_wp2_with fail
    go_ret
    exact ⟨by rw [HF.out]; rfl, HK.out⟩
  have t2 : decide ((nj : Int) > 80) = false := by simp; omega
  by_cases g3 : 80 < nb
  · have t3 : decide ((nb : Int) > 80) = true := by simp; omega
    have HF : Hid (checkM t = 2) := Lib.hid (by unfold checkM; rw [if_pos (.inr (.inr (.inl (by rw [← HL.out.2.2.1]; exact g3))))])
    clear g1 g2 g3
    go_enter Tryz.func26, Tryz.ntmps26
    go_wp2_with fail
    go_ret
    exact ⟨by rw [HF.out]; rfl, HK.out⟩
  have t3 : decide ((nb : Int) > 80) = false := by simp; omega
  by_cases g4 : 30 < nr
  · have t4 : decide ((nr : Int) > 30) = true := by simp; omega
    have HF : Hid (checkM t = 2) := Lib.hid (by unfold checkM; rw [if_pos (.inr (.inr (.inr (by rw [← HL.out.2.2.2]; exact g4))))])
    clear g1 g2 g3 g4
    go_enter Tryz.func26, Tryz.ntmps26
    go_wp2_with fail
    go_ret
    exact ⟨by rw [HF.out]; rfl, HK.out⟩
  have t4 : decide ((nr : Int) > 30) = false := by simp; omega
  have HN1 : Hid (¬ (40 < t.1.length ∨ 80 < t.2.1.length ∨ 80 < t.2.2.1.length ∨ 30 < t.2.2.2.length)) := Lib.hid (by have := HL.out; omega)
  clear g1 g2 g3 g4
  go_enter Tryz.func26, Tryz.ntmps26
  go_wp2_with fail
  clear y0 y1 y2 y3 t1 t2 t3 t4
  go_loopw [3] (fun i wr => ∃ k : Nat, k ≤ ne ∧ i = .int .i64 k ∧ Hid (Keep Never w1 wr ∧ (t.1.take k).any wrongB = false)) (fun i _ => ne - (intOf i).toNat)
  case atStart => exact ⟨0, by omega, rfl, Lib.hid ⟨Keep.refl _ _, rfl⟩⟩
  case round =>
    obtain ⟨k, hk, rfl, HH⟩ := hrel
    have y0 : wr.cell? ⟨w.heap.size, 0, none⟩ = some (.slice Ae ne ce) := (HB1.out.keep HH.out.1 (fun h => h)).cell 0
    by_cases h0 : k < ne
    · have hkz : (k : Int) < (ne : Int) := by omega
      obtain ⟨ad2, v, hA2, _, hv, d0⟩ := (int_rd ((HTp.out.keep (HK.out.trans HH.out.1)).e)).at1 h0
      simp only at hA2
      subst hA2
      have HTk : Hid (t.1.take (k + 1) = t.1.take k ++ [v]) := Lib.hid (by
        obtain ⟨h2, h3⟩ := List.getElem?_eq_some_iff.1 hv
        rw [List.take_succ_eq_append_getElem h2, h3])
      have Hv := Lib.hid hv
      clear hv
      by_cases g1 : v < 1
      · have t1 : decide (v < 1) = true := by simpa using g1
        have hW : t.1.any wrongB = true := List.any_eq_true.2 ⟨v, List.mem_of_getElem? Hv.out, by unfold wrongB; rw [t1]; rfl⟩
        have HF : Hid (checkM t = 1) := Lib.hid (by unfold checkM; rw [if_neg HN1.out, if_pos hW])
        clear g1 hW
        go_wp2_with fail
        go_ret
        exact ⟨by rw [HF.out]; rfl, HK.out.trans HH.out.1⟩
      have t1 : decide (v < 1) = false := by simpa using g1
      by_cases g2 : v > 1000000
      · have t2 : decide (v > 1000000) = true := by simpa using g2
        have hW : t.1.any wrongB = true := List.any_eq_true.2 ⟨v, List.mem_of_getElem? Hv.out, by unfold wrongB; rw [t1, t2]; rfl⟩
        have HF : Hid (checkM t = 1) := Lib.hid (by unfold checkM; rw [if_neg HN1.out, if_pos hW])
        clear g1 g2 hW
        go_wp2_with fail
        go_ret
        exact ⟨by rw [HF.out]; rfl, HK.out.trans HH.out.1⟩
      have t2 : decide (v > 1000000) = false := by simpa using g2
      have HN : Hid ((t.1.take (k + 1)).any wrongB = false) := Lib.hid (by
        rw [HTk.out, List.any_append, HH.out.2]
        simp only [List.any_cons, List.any_nil, Bool.or_false, Bool.false_or]
        unfold wrongB; rw [t1, t2]; rfl)
      clear g1 g2
      go_wp2_with fail
      refine ⟨⟨k + 1, by omega, by go_num, Lib.hid ⟨HH.out.1, HN.out⟩⟩, ?_⟩
      simp [intOf]; try omega
    · obtain rfl : ne = k := by omega
      have hkz : ¬ (ne : Int) < (ne : Int) := by omega
      have HWf : Hid (t.1.any wrongB = false) := Lib.hid (by have := HH.out.2; rwa [List.take_of_length_le (by rw [← HL.out.1]; exact Nat.le_refl _)] at this)
      have HN2 : Hid (¬ t.1.any wrongB = true) := Lib.hid (by rw [HWf.out]; simp)
      have HK2 := Lib.hid HH.out.1
      clear HH h0
      go_wp2_with fail
      clear y0
      rename World => wz


      go_loopw [4] (fun i wr => ∃ k : Nat, k ≤ nj ∧ i = .int .i64 k ∧ Hid (Keep Never w1 wr ∧ ∀ j, j < k → jErr t j = 0)) (fun i _ => nj - (intOf i).toNat)
      case atStart => exact ⟨0, by omega, rfl, Lib.hid ⟨HK2.out, fun j h => by omega⟩⟩
      case round =>
        obtain ⟨k, hk, rfl, HH⟩ := hrel
        have hb1 := HB1.out.keep HH.out.1 (fun h => h)
        by_cases h0 : k < nj
        · have hkz : (k : Int) < (nj : Int) := by omega
          obtain ⟨ad, j, hA, _, hj, c0, c1, c2, c3⟩ := jt_at (HTp.out.keep (HK.out.trans HH.out.1)).j h0
          subst hA
          obtain ⟨⟨x1, x2⟩, x3, x4⟩ := j
          simp only at c0 c1 c2 c3
          have Hj := Lib.hid hj
          have y0 : wr.cell? ⟨w.heap.size, 0, none⟩ = some (.slice Ae ne ce) := hb1.cell 0
          have y1 : wr.cell? ⟨w.heap.size, 1, none⟩ = some (.slice (some ad) nj cj) := hb1.cell 1
          have y2 : wr.cell? ⟨w.heap.size, 2, none⟩ = some (.slice Ab nb cb) := hb1.cell 2
          have y3 : wr.cell? ⟨w.heap.size, 3, none⟩ = some (.slice Ar nr cr) := hb1.cell 3
          replace c3 : wr.cell? ⟨(ad.add (k * 4)).block, (ad.add (k * 4)).off + 2 + 1, none⟩ = some (.int .i64 x4) := c3
          have HS2 : Hid (∀ W', Keep Never wr W' → Keep Never wr W' ∧ W'.cell? ⟨w.heap.size, 0, none⟩ = some (.slice Ae ne ce) ∧ W'.cell? ⟨w.heap.size, 1, none⟩ = some (.slice (some ad) nj cj) ∧ W'.cell? ⟨w.heap.size, 2, none⟩ = some (.slice Ab nb cb) ∧ W'.cell? ⟨w.heap.size, 3, none⟩ = some (.slice Ar nr cr) ∧ W'.cell? (ad.add (k * 4)) = some (.int .i64 x1) ∧ W'.cell? ⟨(ad.add (k * 4)).block, (ad.add (k * 4)).off + 1, none⟩ = some (.int .i64 x2) ∧ W'.cell? ⟨(ad.add (k * 4)).block, (ad.add (k * 4)).off + 2, none⟩ = some (.int .i64 x3) ∧ W'.cell? ⟨(ad.add (k * 4)).block, (ad.add (k * 4)).off + 2 + 1, none⟩ = some (.int .i64 x4)) := Lib.hid (fun W' h => ⟨h, keepT h y0, keepT h y1, keepT h y2, keepT h y3, keepT h c0, keepT h c1, keepT h c2, keepT h c3⟩)
          clear hj hb1
          go_wp2_with fail
          clear y0 y1 y2 y3 c0 c1 c2 c3
          go_region_held3 (fun W' => Keep Never wr W' ∧ W'.cell? ⟨w.heap.size, 0, none⟩ = some (.slice Ae ne ce) ∧ W'.cell? ⟨w.heap.size, 1, none⟩ = some (.slice (some ad) nj cj) ∧ W'.cell? ⟨w.heap.size, 2, none⟩ = some (.slice Ab nb cb) ∧ W'.cell? ⟨w.heap.size, 3, none⟩ = some (.slice Ar nr cr) ∧ W'.cell? (ad.add (k * 4)) = some (.int .i64 x1) ∧ W'.cell? ⟨(ad.add (k * 4)).block, (ad.add (k * 4)).off + 1, none⟩ = some (.int .i64 x2) ∧ W'.cell? ⟨(ad.add (k * 4)).block, (ad.add (k * 4)).off + 2, none⟩ = some (.int .i64 x3) ∧ W'.cell? ⟨(ad.add (k * 4)).block, (ad.add (k * 4)).off + 2 + 1, none⟩ = some (.int .i64 x4))
            (first | assumption | exact HS2.out _ ((Keep.refl Never wr).drew) | exact HS2.out _ (Keep.trans (And.left (by assumption)) hk3) | exact HS2.out _ (Keep.trans ((Keep.refl Never wr).drew) hk3))
            (first
              | (go_at_call 61; refine (HEn.out x1 x2 _).mono ?_; rintro e w3 ⟨rfl, hk3⟩))
          rename_i hS
          (try rename World => w5)
          obtain ⟨hK5, y0, y1, y2, y3, c0, c1, c2, c3⟩ := hS
          have HK3 := Lib.hid (HH.out.1.trans hK5)
          clear HS2 hK5
          (try clear hk3)
          have HS2 : Hid (∀ W', Keep Never w5 W' → Keep Never w5 W' ∧ W'.cell? ⟨w.heap.size, 0, none⟩ = some (.slice Ae ne ce) ∧ W'.cell? ⟨w.heap.size, 1, none⟩ = some (.slice (some ad) nj cj) ∧ W'.cell? ⟨w.heap.size, 2, none⟩ = some (.slice Ab nb cb) ∧ W'.cell? ⟨w.heap.size, 3, none⟩ = some (.slice Ar nr cr) ∧ W'.cell? (ad.add (k * 4)) = some (.int .i64 x1) ∧ W'.cell? ⟨(ad.add (k * 4)).block, (ad.add (k * 4)).off + 1, none⟩ = some (.int .i64 x2) ∧ W'.cell? ⟨(ad.add (k * 4)).block, (ad.add (k * 4)).off + 2, none⟩ = some (.int .i64 x3) ∧ W'.cell? ⟨(ad.add (k * 4)).block, (ad.add (k * 4)).off + 2 + 1, none⟩ = some (.int .i64 x4)) := Lib.hid (fun W' h => ⟨h, keepT h y0, keepT h y1, keepT h y2, keepT h y3, keepT h c0, keepT h c1, keepT h c2, keepT h c3⟩)
          go_wp2_with fail
          clear y0 y1 y2 y3 c0 c1 c2 c3
          go_region_held3 (fun W' => Keep Never w5 W' ∧ W'.cell? ⟨w.heap.size, 0, none⟩ = some (.slice Ae ne ce) ∧ W'.cell? ⟨w.heap.size, 1, none⟩ = some (.slice (some ad) nj cj) ∧ W'.cell? ⟨w.heap.size, 2, none⟩ = some (.slice Ab nb cb) ∧ W'.cell? ⟨w.heap.size, 3, none⟩ = some (.slice Ar nr cr) ∧ W'.cell? (ad.add (k * 4)) = some (.int .i64 x1) ∧ W'.cell? ⟨(ad.add (k * 4)).block, (ad.add (k * 4)).off + 1, none⟩ = some (.int .i64 x2) ∧ W'.cell? ⟨(ad.add (k * 4)).block, (ad.add (k * 4)).off + 2, none⟩ = some (.int .i64 x3) ∧ W'.cell? ⟨(ad.add (k * 4)).block, (ad.add (k * 4)).off + 2 + 1, none⟩ = some (.int .i64 x4))
            (first | assumption | exact HS2.out _ ((Keep.refl Never w5).drew) | exact HS2.out _ (Keep.trans (And.left (by assumption)) hk3) | exact HS2.out _ (Keep.trans ((Keep.refl Never w5).drew) hk3))
            (first
              | (go_at_call 61; refine (HEn.out x3 x4 _).mono ?_; rintro e w3 ⟨rfl, hk3⟩))
          rename_i hS
          (try rename World => w6)
          obtain ⟨hK6, y0, y1, y2, y3, c0, c1, c2, c3⟩ := hS
          have HK4 := Lib.hid (HK3.out.trans hK6)
          clear HS2 hK6
          (try clear hk3)
          cases he1 : endB ne (x1, x2) with
          | false =>
            have HZ1 : Hid (jErr t k = 1) := Lib.hid (by unfold jErr; rw [Hj.out]; simp only; rw [← HL.out.1, if_pos (.inl he1)])
            have HF : Hid (checkM t = 1) := Lib.hid (by
              have h2 : firstE (jErr t) t.2.1.length = 1 := firstE_at (k := 0) (by rw [← HL.out.2.1]; exact h0) HH.out.2 HZ1.out (by decide)
              unfold checkM; rw [if_neg HN1.out, if_neg HN2.out, h2, if_pos (by decide)])
            clear he1
            go_wp2_with fail
            go_quiet (fail)
            go_wp2_with fail
            go_ret
            exact ⟨by rw [HF.out]; rfl, (HK.out.trans HK4.out).drewN _⟩
          | true =>
            cases he2 : endB ne (x3, x4) with
            | false =>
              have HZ1 : Hid (jErr t k = 1) := Lib.hid (by unfold jErr; rw [Hj.out]; simp only; rw [← HL.out.1, if_pos (.inr (.inl he2))])
              have HF : Hid (checkM t = 1) := Lib.hid (by
                have h2 : firstE (jErr t) t.2.1.length = 1 := firstE_at (k := 0) (by rw [← HL.out.2.1]; exact h0) HH.out.2 HZ1.out (by decide)
                unfold checkM; rw [if_neg HN1.out, if_neg HN2.out, h2, if_pos (by decide)])
              clear he1 he2
              go_wp2_with fail
              go_quiet (fail)
              go_wp2_with fail
              go_ret
              exact ⟨by rw [HF.out]; rfl, (HK.out.trans HK4.out).drewN _⟩
            | true =>
              cases he3 : sameE x1 x2 x3 x4 with
              | true =>
                have hxx : x1 = x3 ∧ x2 = x4 := by unfold sameE at he3; simpa using he3
                have HZ1 : Hid (jErr t k = 1) := Lib.hid (by unfold jErr; rw [Hj.out]; simp only; rw [← HL.out.1, if_pos (.inr (.inr (by rw [hxx.1, hxx.2])))])
                have HF : Hid (checkM t = 1) := Lib.hid (by
                  have h2 : firstE (jErr t) t.2.1.length = 1 := firstE_at (k := 0) (by rw [← HL.out.2.1]; exact h0) HH.out.2 HZ1.out (by decide)
                  unfold checkM; rw [if_neg HN1.out, if_neg HN2.out, h2, if_pos (by decide)])
                clear he1 he2 hxx
                go_wp2_with fail
                go_quiet (fail)
                go_wp2_with fail
                go_ret
                exact ⟨by rw [HF.out]; rfl, (HK.out.trans HK4.out).drewN _⟩
              | false =>
                have HNb : Hid (¬ (endB t.1.length (x1, x2) = false ∨ endB t.1.length (x3, x4) = false ∨ ((x1, x2) : En) = (x3, x4))) := Lib.hid (by
                  rw [← HL.out.1, he1, he2]
                  unfold sameE at he3
                  simp only [Bool.true_eq_false, false_or]
                  exact of_decide_eq_false he3)
                clear he1 he2
                have HFc := Lib.hid (And.intro c0 (And.intro c1 (And.intro c2 c3)))
                go_wp2_with fail
                go_quiet (fail)
                clear he3 y0 y1 y2 y3 c0 c1 c2 c3
                obtain ⟨w7, hw7⟩ : ∃ W, w6.drewN nq = W := ⟨_, rfl⟩
                rw [hw7]
                have hk7 : Keep Never w6 w7 := by rw [← hw7]; exact (Keep.refl Never w6).drewN _
                have HK7 := Lib.hid (HK4.out.trans hk7)
                have hb1 := HB1.out.keep HK7.out (fun h => h)
                have y0 : w7.cell? ⟨w.heap.size, 0, none⟩ = some (.slice Ae ne ce) := hb1.cell 0
                have y1 : w7.cell? ⟨w.heap.size, 1, none⟩ = some (.slice (some ad) nj cj) := hb1.cell 1
                have y2 : w7.cell? ⟨w.heap.size, 2, none⟩ = some (.slice Ab nb cb) := hb1.cell 2
                have y3 : w7.cell? ⟨w.heap.size, 3, none⟩ = some (.slice Ar nr cr) := hb1.cell 3
                have c0 := keepT hk7 HFc.out.1
                have c1 := keepT hk7 HFc.out.2.1
                have c2 := keepT hk7 HFc.out.2.2.1
                have c3 := keepT hk7 HFc.out.2.2.2
                have hq := run_front Tryz.underlying23 Tryz.sizeOf93 (some ad) nj cj k hk HTp.out.j.cap
                have HJk := Lib.hid (fun W (h : Keep Never w7 W) => HJo.out k (some ad) x1 x2 x3 x4 W (HK.out.trans (HK7.out.trans h)) rfl hk)
                clear hk7 hb1 hw7
                have HS2 : Hid (∀ W', Keep Never w7 W' → Keep Never w7 W' ∧ W'.cell? ⟨w.heap.size, 0, none⟩ = some (.slice Ae ne ce) ∧ W'.cell? ⟨w.heap.size, 1, none⟩ = some (.slice (some ad) nj cj) ∧ W'.cell? ⟨w.heap.size, 2, none⟩ = some (.slice Ab nb cb) ∧ W'.cell? ⟨w.heap.size, 3, none⟩ = some (.slice Ar nr cr) ∧ W'.cell? (ad.add (k * 4)) = some (.int .i64 x1) ∧ W'.cell? ⟨(ad.add (k * 4)).block, (ad.add (k * 4)).off + 1, none⟩ = some (.int .i64 x2) ∧ W'.cell? ⟨(ad.add (k * 4)).block, (ad.add (k * 4)).off + 2, none⟩ = some (.int .i64 x3) ∧ W'.cell? ⟨(ad.add (k * 4)).block, (ad.add (k * 4)).off + 2 + 1, none⟩ = some (.int .i64 x4)) := Lib.hid (fun W' h => ⟨h, keepT h y0, keepT h y1, keepT h y2, keepT h y3, keepT h c0, keepT h c1, keepT h c2, keepT h c3⟩)
                go_wp2_with fail
                clear y0 y1 y2 y3 c0 c1 c2 c3
                go_region_held3 (fun W' => Keep Never w7 W' ∧ W'.cell? ⟨w.heap.size, 0, none⟩ = some (.slice Ae ne ce) ∧ W'.cell? ⟨w.heap.size, 1, none⟩ = some (.slice (some ad) nj cj) ∧ W'.cell? ⟨w.heap.size, 2, none⟩ = some (.slice Ab nb cb) ∧ W'.cell? ⟨w.heap.size, 3, none⟩ = some (.slice Ar nr cr) ∧ W'.cell? (ad.add (k * 4)) = some (.int .i64 x1) ∧ W'.cell? ⟨(ad.add (k * 4)).block, (ad.add (k * 4)).off + 1, none⟩ = some (.int .i64 x2) ∧ W'.cell? ⟨(ad.add (k * 4)).block, (ad.add (k * 4)).off + 2, none⟩ = some (.int .i64 x3) ∧ W'.cell? ⟨(ad.add (k * 4)).block, (ad.add (k * 4)).off + 2 + 1, none⟩ = some (.int .i64 x4))
                  (first | assumption | exact HS2.out _ ((Keep.refl Never w7).drew) | exact HS2.out _ (Keep.trans (And.left (by assumption)) hk3) | exact HS2.out _ (Keep.trans ((Keep.refl Never w7).drew) hk3))
                  (first
                    | (go_at_call 62; refine (HJk.out _ (by first | exact And.left (by assumption) | exact (Keep.refl Never w7).drew | exact Keep.refl Never w7)).mono ?_; rintro e w3 ⟨rfl, hk3⟩))
                rename_i hS
                (try rename World => w8)
                have HK8 := Lib.hid (HK7.out.trans hS.1)
                clear HS2 hS hq HJk
                (try clear hk3)
                cases hjb : joinB (t.2.1.take k) (x1, x2) (x3, x4) with
                | true =>
                  have HZ1 : Hid (jErr t k = 5) := Lib.hid (by unfold jErr; rw [Hj.out]; simp only; rw [if_neg HNb.out, if_pos hjb])
                  have HF : Hid (checkM t = 5) := Lib.hid (by
                    have h2 : firstE (jErr t) t.2.1.length = 5 := firstE_at (k := 0) (by rw [← HL.out.2.1]; exact h0) HH.out.2 HZ1.out (by decide)
                    unfold checkM; rw [if_neg HN1.out, if_neg HN2.out, h2, if_pos (by decide)])
                  clear hjb
                  go_wp2_with fail
                  go_ret
                  exact ⟨by rw [HF.out]; rfl, HK.out.trans HK8.out⟩
                | false =>
                  have HZ1 : Hid (jErr t k = 0) := Lib.hid (by unfold jErr; rw [Hj.out]; simp only; rw [if_neg HNb.out, if_neg (by rw [hjb]; simp)])
                  clear hjb
                  go_wp2_with fail
                  refine ⟨⟨k + 1, by omega, by go_num, Lib.hid ⟨HK8.out, fun j hj => ?_⟩⟩, ?_⟩
                  · by_cases e : j = k
                    · rw [e]; exact HZ1.out
                    · exact HH.out.2 j (by omega)
                  · simp [intOf]; try omega
        · obtain rfl : nj = k := by omega
          have hkz : ¬ (nj : Int) < (nj : Int) := by omega
          have HN3 : Hid (¬ firstE (jErr t) t.2.1.length ≠ 0) := Lib.hid (by rw [firstE_zero (fun j hj => HH.out.2 j (by rw [HL.out.2.1]; exact hj))]; simp)
          have HK2 := Lib.hid HH.out.1
          have y1 : wr.cell? ⟨w.heap.size, 1, none⟩ = some (.slice Aj nj cj) := hb1.cell 1
          clear HH h0 hb1
          go_wp2_with fail
          clear y1
          rename World => wz

          go_loopw [8] (fun i wr => ∃ q : Nat, q ≤ nb ∧ i = .int .i64 q ∧ Hid (Keep Never w1 wr ∧ ∀ j, j < q → bErr t j = 0)) (fun i _ => nb - (intOf i).toNat)
          case atStart => exact ⟨0, by omega, rfl, Lib.hid ⟨HK2.out, fun j h => by omega⟩⟩
          case round =>
            obtain ⟨k, hk, rfl, HH⟩ := hrel
            have y2 : wr.cell? ⟨w.heap.size, 2, none⟩ = some (.slice Ab nb cb) := (HB1.out.keep HH.out.1 (fun h => h)).cell 2
            by_cases h0 : k < nb
            · have hkz : (k : Int) < (nb : Int) := by omega
              obtain ⟨ad, b, hA, _, hb, c0, c1, c2⟩ := (bl_rd (HTp.out.keep (HK.out.trans HH.out.1)).b).sp h0
              simp only at hA
              subst hA
              obtain ⟨x1, x2, x3⟩ := b
              simp only at c0 c1 c2
              obtain ⟨W1, hW1⟩ : ∃ W : World, wr.alloc (.cells #[.int .i64 x1, .int .i64 x2, .int .i64 x3] 97) = W := ⟨_, rfl⟩
              have K1 : Keep Never wr W1 := by rw [← hW1]; exact (Keep.refl _ _).alloc _
              have B1 := Blk.new wr 97 #[.int .i64 x1, .int .i64 x2, .int .i64 x3]
              rw [hW1] at B1
              obtain ⟨bq, hbq⟩ : ∃ q, wr.heap.size = q := ⟨_, rfl⟩
              rw [hbq] at B1
              have HKW := Lib.hid (HH.out.1.trans K1)
              have HBb := Lib.hid B1
              have d1 : W1.cell? ⟨bq, 1, none⟩ = some (.int .i64 x2) := B1.cell 1
              have d0 : W1.cell? ⟨bq, 0, none⟩ = some (.int .i64 x1) := B1.cell 0
              have d2 : W1.cell? ⟨bq, 2, none⟩ = some (.int .i64 x3) := B1.cell 2
              have hb1 := HB1.out.keep HKW.out (fun h => h)
              have y2o := y2
              clear y2
              have y0 : W1.cell? ⟨w.heap.size, 0, none⟩ = some (.slice Ae ne ce) := hb1.cell 0
              have y1 : W1.cell? ⟨w.heap.size, 1, none⟩ = some (.slice Aj nj cj) := hb1.cell 1
              have y2 : W1.cell? ⟨w.heap.size, 2, none⟩ = some (.slice (some ad) nb cb) := hb1.cell 2
              have y3 : W1.cell? ⟨w.heap.size, 3, none⟩ = some (.slice Ar nr cr) := hb1.cell 3
              have Hb := Lib.hid hb
              have HBe : Hid ((x1 < 0 ∨ 16777214 < x1 ∨ thereB ne x2 = false ∨ x3 < 0 ∨ t.1.getD x2.toNat 0 < x3) → checkM t = 1) := Lib.hid (fun h => by
                have h1 : bErr t k = 1 := by unfold bErr; rw [hb]; simp only; rw [← HL.out.1, if_pos h]
                have h2 : firstE (bErr t) t.2.2.1.length = 1 := firstE_at (k := 0) (by rw [← HL.out.2.2.1]; exact h0) HH.out.2 h1 (by decide)
                unfold checkM; rw [if_neg HN1.out, if_neg HN2.out, if_neg HN3.out, h2, if_pos (by decide)])
              have hTt := Lib.hid (HT.out x2 W1)
              clear hb K1 B1 hb1
              go_wp2_with fail
              refine hTt.out.mono ?_
              rintro e w4 ⟨rfl, hk4⟩
              have HK4 := Lib.hid (HKW.out.trans hk4)
              have HBb4 := Lib.hid (HBb.out.keep hk4 (fun h => h))
              clear hk4 hTt c0 c1 c2 hW1 y2o d0 d1 d2 y0 y1 y2 y3 hbq
              have d0 : w4.cell? ⟨bq, 0, none⟩ = some (.int .i64 x1) := HBb4.out.cell 0
              have d1 : w4.cell? ⟨bq, 1, none⟩ = some (.int .i64 x2) := HBb4.out.cell 1
              have d2 : w4.cell? ⟨bq, 2, none⟩ = some (.int .i64 x3) := HBb4.out.cell 2
              have y0 : w4.cell? ⟨w.heap.size, 0, none⟩ = some (.slice Ae ne ce) := (HB1.out.keep HK4.out (fun h => h)).cell 0
              by_cases g1 : x1 < 0
              · have t1 : decide (x1 < 0) = true := by simpa using g1
                have HF := Lib.hid (HBe.out (.inl g1))
                clear g1
                go_wp2_with fail
                go_quiet (fail)
                go_wp2_with fail
                go_ret
                exact ⟨by rw [HF.out]; rfl, (HK.out.trans HK4.out).drewN _⟩
              have t1' : decide (x1 < 0) = false := by simpa using g1
              by_cases g2 : 16777214 < x1
              · have t1 : decide (x1 > 16777214) = true := by simpa using g2
                have HF := Lib.hid (HBe.out (.inr (.inl g2)))
                clear g1 g2
                go_wp2_with fail
                go_quiet (fail)
                go_wp2_with fail
                go_ret
                exact ⟨by rw [HF.out]; rfl, (HK.out.trans HK4.out).drewN _⟩
              have t2' : decide (x1 > 16777214) = false := by simpa using g2
              cases g3 : thereB ne x2 with
              | false =>
                have t1 : True := trivial
                have HF := Lib.hid (HBe.out (.inr (.inr (.inl g3))))
                clear g1 g2 g3
                go_wp2_with fail
                go_quiet (fail)
                go_wp2_with fail
                go_ret
                exact ⟨by rw [HF.out]; rfl, (HK.out.trans HK4.out).drewN _⟩
              | true =>
                by_cases g4 : x3 < 0
                · have t1 : decide (x3 < 0) = true := by simpa using g4
                  have HF := Lib.hid (HBe.out (.inr (.inr (.inr (.inl g4)))))
                  clear g1 g2 g3 g4
                  go_wp2_with fail
                  go_quiet (fail)
                  go_wp2_with fail
                  go_ret
                  exact ⟨by rw [HF.out]; rfl, (HK.out.trans HK4.out).drewN _⟩
                have t4' : decide (x3 < 0) = false := by simpa using g4
                have hth : 0 ≤ x2 ∧ x2 < (ne : Int) := by unfold thereB at g3; simpa using g3
                obtain ⟨m, rfl⟩ : ∃ m : Nat, x2 = (m : Int) := ⟨x2.toNat, by omega⟩
                have hmn : m < ne := by omega
                have hmz : (m : Int) < (ne : Int) := by omega
                obtain ⟨ad2, v, hA2, _, hv, e0⟩ := (int_rd ((HTp.out.keep (HK.out.trans HK4.out)).e)).at1 hmn
                simp only at hA2
                subst hA2
                have hgd : t.1.getD (m : Int).toNat 0 = v := by rw [Int.toNat_natCast, List.getD_eq_getElem?_getD, hv]; rfl
                rw [hgd] at HBe
                clear hv
                by_cases g5 : v < x3
                · have t1 : decide (x3 > v) = true := by simpa using g5
                  have HF := Lib.hid (HBe.out (.inr (.inr (.inr (.inr g5)))))
                  clear g1 g2 g3 g4 g5 hth
                  go_wp2_with fail
                  go_quiet (fail)
                  go_wp2_with fail
                  go_ret
                  exact ⟨by rw [HF.out]; rfl, (HK.out.trans HK4.out).drewN _⟩
                have t5' : decide (x3 > v) = false := by simpa using g5
                have HNb : Hid (¬ (x1 < 0 ∨ 16777214 < x1 ∨ thereB t.1.length (m : Int) = false ∨ x3 < 0 ∨ t.1.getD (m : Int).toNat 0 < x3)) := Lib.hid (by
                  rw [hgd, ← HL.out.1, g3]
                  rintro (h | h | h | h | h)
                  · exact g1 h
                  · exact g2 h
                  · cases h
                  · exact g4 h
                  · exact g5 h)
                clear g1 g2 g3 g4 g5 hth hgd
                go_wp2_with fail
                go_quiet (fail)
                clear t1' t2' t4' t5' e0 y0 d0 d1 d2
                obtain ⟨w7, hw7⟩ : ∃ W, w4.drewN nq = W := ⟨_, rfl⟩
                rw [hw7]
                have hk7 : Keep Never w4 w7 := by rw [← hw7]; exact (Keep.refl Never w4).drewN _
                have HK7 := Lib.hid (HK4.out.trans hk7)
                have HBb7 := Lib.hid (HBb4.out.keep hk7 (fun h => h))
                clear hk7 hw7
                go_wp2_with fail
                go_loopw [11] (fun i wr => ∃ j : Nat, j ≤ k ∧ i = .int .i64 j ∧ Hid (Keep Never w7 wr ∧ ∀ y ∈ t.2.2.1.take j, y.1 ≠ x1)) (fun i _ => k - (intOf i).toNat)
                case atStart => exact ⟨0, by omega, rfl, Lib.hid ⟨Keep.refl _ _, by simp⟩⟩
                case round =>
                  obtain ⟨j, hj, rfl, HJ⟩ := hrel
                  by_cases h1 : j < k
                  · have hjz : (j : Int) < (k : Int) := by omega
                    have hj1 : j < nb := by omega
                    have hjn : (j : Int) < (nb : Int) := by omega
                    obtain ⟨ad6, b, hA6, _, hv, f0, _, _⟩ := (bl_rd (HTp.out.keep (HK.out.trans (HK7.out.trans HJ.out.1))).b).sp hj1
                    simp only at hA6
                    injection hA6 with hA6
                    subst hA6
                    obtain ⟨o1, o2, o3⟩ := b
                    simp only at f0
                    have Hv := Lib.hid hv
                    have d0 : wr.cell? ⟨bq, 0, none⟩ = some (.int .i64 x1) := (HBb7.out.keep HJ.out.1 (fun h => h)).cell 0
                    have y2 : wr.cell? ⟨w.heap.size, 2, none⟩ = some (.slice (some ad) nb cb) := (HB1.out.keep (HK7.out.trans HJ.out.1) (fun h => h)).cell 2
                    clear hv
                    by_cases gq : o1 = x1
                    · have t1 : (o1 == x1) = true := by simpa using gq
                      have HZ1 : Hid (bErr t k = 5) := Lib.hid (by
                        unfold bErr; rw [Hb.out]; simp only; rw [if_neg HNb.out, if_pos]
                        unfold balM
                        rw [List.find?_isSome]
                        refine ⟨(o1, o2, o3), ?_, by simpa using gq⟩
                        rw [List.mem_iff_getElem?]
                        exact ⟨j, by rw [List.getElem?_take, if_pos h1]; exact Hv.out⟩)
                      have HF : Hid (checkM t = 5) := Lib.hid (by
                        have h2 : firstE (bErr t) t.2.2.1.length = 5 := firstE_at (k := 0) (by rw [← HL.out.2.2.1]; exact h0) HH.out.2 HZ1.out (by decide)
                        unfold checkM; rw [if_neg HN1.out, if_neg HN2.out, if_neg HN3.out, h2, if_pos (by decide)])
                      clear gq
                      go_wp2_with fail
                      go_quiet (fail)
                      go_wp2_with fail
                      go_ret
                      exact ⟨by rw [HF.out]; rfl, (HK.out.trans (HK7.out.trans HJ.out.1)).drewN _⟩
                    · have t1 : (o1 == x1) = false := by simpa using gq
                      have HN : Hid (∀ y ∈ t.2.2.1.take (j + 1), y.1 ≠ x1) := Lib.hid (all_take Hv.out HJ.out.2 gq)
                      clear gq
                      go_wp2_with fail
                      go_quiet (fail)
                      go_wp2_with fail
                      refine ⟨⟨j + 1, by omega, by go_num, Lib.hid ⟨HJ.out.1.drewN _, HN.out⟩⟩, ?_⟩
                      simp [intOf]; try omega
                  · obtain rfl : j = k := by omega
                    have hjz : ¬ (j : Int) < (j : Int) := by omega
                    have HZ1 : Hid (bErr t j = 0) := Lib.hid (by
                      unfold bErr; rw [Hb.out]; simp only; rw [if_neg HNb.out, if_neg]
                      unfold balM
                      rw [List.find?_isSome]
                      rintro ⟨y, hy, e⟩
                      exact HJ.out.2 y hy (by simpa using e))
                    go_wp2_with fail
                    refine ⟨⟨j + 1, by omega, by go_num, Lib.hid ⟨HK7.out.trans HJ.out.1, fun i hi => ?_⟩⟩, ?_⟩
                    · by_cases e : i = j
                      · rw [e]; exact HZ1.out
                      · exact HH.out.2 i (by omega)
                    · simp [intOf]; try omega
            · obtain rfl : nb = k := by omega
              have hkz : ¬ (nb : Int) < (nb : Int) := by omega
              have HN4 : Hid (¬ firstE (bErr t) t.2.2.1.length ≠ 0) := Lib.hid (by rw [firstE_zero (fun j hj => HH.out.2 j (by rw [HL.out.2.2.1]; exact hj))]; simp)
              have HK2 := Lib.hid HH.out.1
              clear HH h0
              go_wp2_with fail
              clear y2
              rename World => wz

              go_loopw [12] (fun i wr => ∃ q : Nat, q ≤ nr ∧ i = .int .i64 q ∧ Hid (Keep Never w1 wr ∧ ∀ j, j < q → rErr t j = 0)) (fun i _ => nr - (intOf i).toNat)
              case atStart => exact ⟨0, by omega, rfl, Lib.hid ⟨HK2.out, fun j h => by omega⟩⟩
              case round =>
                obtain ⟨k, hk, rfl, HH⟩ := hrel
                have hb1 := HB1.out.keep HH.out.1 (fun h => h)
                by_cases h0 : k < nr
                · have hkz : (k : Int) < (nr : Int) := by omega
                  obtain ⟨ad, r, A2, n2, d2, hA, _, hr, c0, c1, c2, c3, hsl⟩ := rt_at2 (HTp.out.keep (HK.out.trans HH.out.1)).r h0
                  simp only at hA
                  subst hA
                  obtain ⟨x1, p, x2, x3⟩ := r
                  simp only at c0 c1 c2 c3 hsl
                  have hn2 : n2 ≤ 100000000 := by have h5 : p.length ≤ 100000000 := HP5.out _ (List.mem_of_getElem? hr); have := hsl.len; omega
                  have HRc := Lib.hid (fun W (h : Keep Never wr W) => HRd.out (x1, p, x2, x3) A2 n2 d2 W (HK.out.trans (HH.out.1.trans h)) (hsl.keep h (fun _ h => h.elim)) hn2 HWf.out)
                  obtain ⟨re, hre⟩ : ∃ z, routedM t (x1, p, x2, x3) = z := ⟨_, rfl⟩
                  rw [hre] at HRc
                  have HRe := Lib.hid hre
                  have Hr := Lib.hid hr
                  have y0 : wr.cell? ⟨w.heap.size, 0, none⟩ = some (.slice Ae ne ce) := hb1.cell 0
                  have y1 : wr.cell? ⟨w.heap.size, 1, none⟩ = some (.slice Aj nj cj) := hb1.cell 1
                  have y2 : wr.cell? ⟨w.heap.size, 2, none⟩ = some (.slice Ab nb cb) := hb1.cell 2
                  have y3 : wr.cell? ⟨w.heap.size, 3, none⟩ = some (.slice (some ad) nr cr) := hb1.cell 3
                  have HS2 : Hid (∀ W', Keep Never wr W' → Keep Never wr W' ∧ W'.cell? ⟨w.heap.size, 0, none⟩ = some (.slice Ae ne ce) ∧ W'.cell? ⟨w.heap.size, 1, none⟩ = some (.slice Aj nj cj) ∧ W'.cell? ⟨w.heap.size, 2, none⟩ = some (.slice Ab nb cb) ∧ W'.cell? ⟨w.heap.size, 3, none⟩ = some (.slice (some ad) nr cr) ∧ W'.cell? (ad.add (k * 4)) = some (.int .i64 x1) ∧ W'.cell? ⟨(ad.add (k * 4)).block, (ad.add (k * 4)).off + 1, none⟩ = some (.slice A2 n2 d2) ∧ W'.cell? ⟨(ad.add (k * 4)).block, (ad.add (k * 4)).off + 2, none⟩ = some (.int .i64 x2) ∧ W'.cell? ⟨(ad.add (k * 4)).block, (ad.add (k * 4)).off + 3, none⟩ = some (.int .i64 x3)) := Lib.hid (fun W' h => ⟨h, keepT h y0, keepT h y1, keepT h y2, keepT h y3, keepT h c0, keepT h c1, keepT h c2, keepT h c3⟩)
                  clear hr hre hsl hb1 hn2
                  go_wp2_with fail
                  clear y0 y1 y2 y3 c0 c1 c2 c3
                  go_region_held3 (fun W' => Keep Never wr W' ∧ W'.cell? ⟨w.heap.size, 0, none⟩ = some (.slice Ae ne ce) ∧ W'.cell? ⟨w.heap.size, 1, none⟩ = some (.slice Aj nj cj) ∧ W'.cell? ⟨w.heap.size, 2, none⟩ = some (.slice Ab nb cb) ∧ W'.cell? ⟨w.heap.size, 3, none⟩ = some (.slice (some ad) nr cr) ∧ W'.cell? (ad.add (k * 4)) = some (.int .i64 x1) ∧ W'.cell? ⟨(ad.add (k * 4)).block, (ad.add (k * 4)).off + 1, none⟩ = some (.slice A2 n2 d2) ∧ W'.cell? ⟨(ad.add (k * 4)).block, (ad.add (k * 4)).off + 2, none⟩ = some (.int .i64 x2) ∧ W'.cell? ⟨(ad.add (k * 4)).block, (ad.add (k * 4)).off + 3, none⟩ = some (.int .i64 x3))
                    (first | assumption | exact HS2.out _ ((Keep.refl Never wr).drew) | exact HS2.out _ (Keep.trans (And.left (by assumption)) hk3) | exact HS2.out _ (Keep.trans ((Keep.refl Never wr).drew) hk3))
                    (first
                      | (go_at_call 64; refine (HRc.out _ (by first | exact And.left (by assumption) | exact (Keep.refl Never wr).drew | exact Keep.refl Never wr)).mono ?_; rintro e w3 ⟨rfl, hk3⟩))
                  rename_i hS
                  (try rename World => w8)
                  have HK8 := Lib.hid (HH.out.1.trans hS.1)
                  clear HS2 hS HRc
                  (try clear hk3)
                  by_cases g0 : re = 0
                  case neg =>
                    have t0 : (re != 0) = true := by simpa using g0
                    have t0' : (re == 0) = false := by simpa using g0
                    have HF : Hid (checkM t = re) := Lib.hid (by
                      have h1 : rErr t k = re := by unfold rErr; rw [Hr.out]; simp only; rw [HRe.out, if_pos g0]
                      have h2 : firstE (rErr t) t.2.2.2.length = re := firstE_at (k := 0) (by rw [← HL.out.2.2.2]; exact h0) HH.out.2 h1 g0
                      unfold checkM; rw [if_neg HN1.out, if_neg HN2.out, if_neg HN3.out, if_neg HN4.out, h2])
                    clear g0
                    go_wp2_with fail
                    go_ret
                    exact ⟨by rw [HF.out]; rfl, HK.out.trans HK8.out⟩
                  subst g0
                  go_wp2_with fail
                  go_loopw [14] (fun i wr => ∃ j : Nat, j ≤ k ∧ i = .int .i64 j ∧ Hid (Keep Never w8 wr ∧ ∀ y ∈ t.2.2.2.take j, y.1 ≠ x1)) (fun i _ => k - (intOf i).toNat)
                  case atStart => exact ⟨0, by omega, rfl, Lib.hid ⟨Keep.refl _ _, by simp⟩⟩
                  case round =>
                    obtain ⟨j, hj, rfl, HJ⟩ := hrel
                    by_cases h1 : j < k
                    · have hjz : (j : Int) < (k : Int) := by omega
                      have hj1 : j < nr := by omega
                      have hjn : (j : Int) < (nr : Int) := by omega
                      have htp := (HTp.out.keep (HK.out.trans (HK8.out.trans HJ.out.1))).r
                      obtain ⟨ad6, b, _, _, _, hA6, _, hv, f0, _, _, _, _⟩ := rt_at2 htp hj1
                      obtain ⟨ad7, b7, _, _, _, hA7, _, hu, e0, _, _, _, _⟩ := rt_at2 htp h0
                      simp only at hA6 hA7
                      injection hA6 with hA6
                      injection hA7 with hA7
                      subst hA6 hA7
                      rw [Hr.out] at hu
                      injection hu with hu
                      subst hu
                      obtain ⟨o1, o2, o3, o4⟩ := b
                      simp only at f0 e0
                      have Hv := Lib.hid hv
                      have y3 : wr.cell? ⟨w.heap.size, 3, none⟩ = some (.slice (some ad) nr cr) := (HB1.out.keep (HK8.out.trans HJ.out.1) (fun h => h)).cell 3
                      clear hv htp
                      by_cases gq : o1 = x1
                      · have t1 : (o1 == x1) = true := by simpa using gq
                        have HZ1 : Hid (rErr t k = 5) := Lib.hid (by
                          unfold rErr; rw [Hr.out]; simp only; rw [if_neg (by rw [HRe.out]; simp), if_pos]
                          unfold rtM
                          rw [List.find?_isSome]
                          refine ⟨(o1, o2, o3, o4), ?_, by simpa using gq⟩
                          rw [List.mem_iff_getElem?]
                          exact ⟨j, by rw [List.getElem?_take, if_pos h1]; exact Hv.out⟩)
                        have HF : Hid (checkM t = 5) := Lib.hid (by
                          have h2 : firstE (rErr t) t.2.2.2.length = 5 := firstE_at (k := 0) (by rw [← HL.out.2.2.2]; exact h0) HH.out.2 HZ1.out (by decide)
                          unfold checkM; rw [if_neg HN1.out, if_neg HN2.out, if_neg HN3.out, if_neg HN4.out, h2])
                        clear gq
                        go_wp2_with fail
                        go_quiet (fail)
                        go_wp2_with fail
                        go_ret
                        exact ⟨by rw [HF.out]; rfl, (HK.out.trans (HK8.out.trans HJ.out.1)).drewN _⟩
                      · have t1 : (o1 == x1) = false := by simpa using gq
                        have HN : Hid (∀ y ∈ t.2.2.2.take (j + 1), y.1 ≠ x1) := Lib.hid (all_take Hv.out HJ.out.2 gq)
                        clear gq
                        go_wp2_with fail
                        go_quiet (fail)
                        go_wp2_with fail
                        refine ⟨⟨j + 1, by omega, by go_num, Lib.hid ⟨HJ.out.1.drewN _, HN.out⟩⟩, ?_⟩
                        simp [intOf]; try omega
                    · obtain rfl : j = k := by omega
                      have hjz : ¬ (j : Int) < (j : Int) := by omega
                      have HZ1 : Hid (rErr t j = 0) := Lib.hid (by
                        unfold rErr; rw [Hr.out]; simp only; rw [if_neg (by rw [HRe.out]; simp), if_neg]
                        unfold rtM
                        rw [List.find?_isSome]
                        rintro ⟨y, hy, e⟩
                        exact HJ.out.2 y hy (by simpa using e))
                      go_wp2_with fail
                      refine ⟨⟨j + 1, by omega, by go_num, Lib.hid ⟨HK8.out.trans HJ.out.1, fun i hi => ?_⟩⟩, ?_⟩
                      · by_cases e : i = j
                        · rw [e]; exact HZ1.out
                        · exact HH.out.2 i (by omega)
                      · simp [intOf]; try omega
                · obtain rfl : nr = k := by omega
                  have hkz : ¬ (nr : Int) < (nr : Int) := by omega
                  have HF : Hid (checkM t = 0) := Lib.hid (by unfold checkM; rw [if_neg HN1.out, if_neg HN2.out, if_neg HN3.out, if_neg HN4.out, firstE_zero (fun j hj => HH.out.2 j (by rw [HL.out.2.2.2]; exact hj))])
                  have HKe := Lib.hid (HK.out.trans HH.out.1)
                  have y3 : wr.cell? ⟨w.heap.size, 3, none⟩ = some (.slice Ar nr cr) := hb1.cell 3
                  clear HH hb1
                  go_wp2_with fail
                  go_ret
                  exact ⟨by rw [HF.out]; rfl, HKe.out⟩

end Go.Proofs.YtpahfobijmmmmaaGreat
