/- Chapter 13: the document's route. -/
import Derived.Test.YtijdkjcjhfebfaaGreatRf13B
import Derived.Test.YtijdkjcjhfebfaaGreatTopI
namespace Go.Proofs.YtijdkjcjhfebfaaGreat
open Go.RowKit

set_option maxHeartbeats 4000000 in
set_option maxRecDepth 100000 in
theorem rroute_any (x : TA) (t : Tp) (B : Nat) (r : Rt) (A : Option Addr) (n c : Nat) (w : World) (ht : TpAt w B x t) (hp : repStp.Sl w B A n c r.2.1) (hn : x.nj ≤ 100000000) (hn1 : x.nb ≤ 100000000) (hn2 : n ≤ 100000000) (hw : t.1.any wrongB = false) :
    Calls Tryz.prog 64 #[.agg x.cs, .agg #[.int .i64 r.1, .slice A n c, .int .i64 r.2.2.1, .int .i64 r.2.2.2]] w fun e w' => e = .returned (.int .i64 (routedM t r)) ∧ Keep Never w w' := by
  have HLn : Hid (∀ (w' : World), Keep Never w w' → Calls Tryz.prog 41 #[.agg x.cs, .slice A n c] w' fun e w'' => e = .returned (.tuple #[.int .i64 (lenM t r.2.1).1, .int .i64 (lenM t r.2.1).2]) ∧ Keep Never w' w'') := Lib.hid (fun w' h => rlength_any x t B A n c r.2.1 w' (ht.keep h) (hp.keep h (fun _ h => h.elim)) hn hn2)
  have HT := Lib.hid (fun i W => redge_any x i W)
  have HEl : Hid (x.ne = t.1.length) := Lib.hid ht.e.len
  have HBl := Lib.hid (bl_rd ht.b)
  have HP := Lib.hid hp
  have HPl : Hid (n = r.2.1.length) := Lib.hid hp.len
  have HBn : Hid (x.nb = t.2.2.1.length) := Lib.hid ht.b.len
  obtain ⟨Ae, ne, ce, Aj, nj, cj, Ab, nb, cb, Ar, nr, cr⟩ := x
  obtain ⟨r1, p, r3, r4⟩ := r
  simp only [TA.cs] at HLn HT HEl HBl HP HPl HBn hn1 ⊢
  have HWr := Lib.hid hw
  obtain ⟨w1, hw1⟩ : ∃ wb : World, w.alloc (.cells #[.slice Ae ne ce, .slice Aj nj cj, .slice Ab nb cb, .slice Ar nr cr] 27) = wb := ⟨_, rfl⟩
  obtain ⟨w2, hw2⟩ : ∃ wb : World, w1.alloc (.cells #[.int .i64 r1, .slice A n c, .int .i64 r3, .int .i64 r4] 57) = wb := ⟨_, rfl⟩
  have z1 : w1.heap.size = w.heap.size + 1 := by rw [← hw1]; simp
  have k1 : Keep Never w w1 := by rw [← hw1]; exact (Keep.refl _ _).alloc _
  have k2 : Keep Never w1 w2 := by rw [← hw2]; exact (Keep.refl _ _).alloc _
  have b1 := Blk.new w 27 #[.slice Ae ne ce, .slice Aj nj cj, .slice Ab nb cb, .slice Ar nr cr]
  rw [hw1] at b1
  have b2 := Blk.new w1 57 #[.int .i64 r1, .slice A n c, .int .i64 r3, .int .i64 r4]
  rw [hw2, z1] at b2
  have HB1 := Lib.hid (b1.keep k2 (fun h => h))
  have HB2 := Lib.hid b2
  have HK := Lib.hid (k1.trans k2)
  have v0 : w2.cell? ⟨w.heap.size + 1, 0, none⟩ = some (.int .i64 r1) := HB2.out.cell 0
  have v1 : w2.cell? ⟨w.heap.size + 1, 1, none⟩ = some (.slice A n c) := HB2.out.cell 1
  clear k1 k2 b1 b2 ht hp hw
  by_cases g1 : r1 < 1
  · have t1 : decide (r1 < 1) = true := by simpa using g1
    have HF : Hid (routedM t (r1, p, r3, r4) = 1) := Lib.hid (by unfold routedM; rw [if_pos (.inl g1)])
    clear g1
    go_enter Tryz.func64, Tryz.ntmps64
    go_wp2_with fail
    go_ret
    exact ⟨by rw [HF.out]; rfl, HK.out⟩
  have t1 : decide (r1 < 1) = false := by simpa using g1
  by_cases g2 : n < 1
  · have t2 : ((n : Int) == 0) = true := by simp; omega
    have HF : Hid (routedM t (r1, p, r3, r4) = 1) := Lib.hid (by unfold routedM; rw [if_pos (.inr (.inl (by rw [← HPl.out]; exact g2)))])
    clear g1 g2
    go_enter Tryz.func64, Tryz.ntmps64
    go_wp2_with fail
    go_ret
    exact ⟨by rw [HF.out]; rfl, HK.out⟩
  have t2 : ((n : Int) == 0) = false := by simp; omega
  by_cases g3 : 8 < n
  · have t3 : decide ((n : Int) > 8) = true := by simp; omega
    have HF : Hid (routedM t (r1, p, r3, r4) = 1) := Lib.hid (by unfold routedM; rw [if_pos (.inr (.inr (by rw [← HPl.out]; exact g3)))])
    clear g1 g2 g3
    go_enter Tryz.func64, Tryz.ntmps64
    go_wp2_with fail
    go_ret
    exact ⟨by rw [HF.out]; rfl, HK.out⟩
  have t3 : decide ((n : Int) > 8) = false := by simp; omega
  have HN1 : Hid (¬ (r1 < 1 ∨ p.length < 1 ∨ 8 < p.length)) := Lib.hid (by have := HPl.out; omega)
  have hn8 : n ≤ 8 := by omega
  clear g1 g2 g3
  go_enter Tryz.func64, Tryz.ntmps64
  go_wp2_with fail
  clear t1 t2 t3 v0 v1
  go_loopw [5] (fun i wr => ∃ k : Nat, k ≤ n ∧ i = .int .i64 k ∧ Hid (Keep Never w2 wr ∧ ∀ j, j < k → badAt ne p j = false)) (fun i _ => n - (intOf i).toNat)
  case atStart => exact ⟨0, by omega, rfl, Lib.hid ⟨Keep.refl _ _, fun j h => by omega⟩⟩
  case round =>
    obtain ⟨k, hk, rfl, HH⟩ := hrel
    have hb1 := HB1.out.keep HH.out.1 (fun h => h)
    have hb2 := HB2.out.keep HH.out.1 (fun h => h)
    have v1 : wr.cell? ⟨w.heap.size + 1, 1, none⟩ = some (.slice A n c) := hb2.cell 1
    by_cases h0 : k < n
    · have hkz : (k : Int) < (n : Int) := by omega
      obtain ⟨ad, s, hA, _, hs, c0, c1, _⟩ := stp_at (HP.out.keep (HK.out.trans HH.out.1) (fun _ h => h.elim)) h0
      subst hA
      obtain ⟨s1, s2⟩ := s
      simp only at c0 c1 hs
      have y0 : wr.cell? ⟨w.heap.size, 0, none⟩ = some (.slice Ae ne ce) := hb1.cell 0
      have y1 : wr.cell? ⟨w.heap.size, 1, none⟩ = some (.slice Aj nj cj) := hb1.cell 1
      have y2 : wr.cell? ⟨w.heap.size, 2, none⟩ = some (.slice Ab nb cb) := hb1.cell 2
      have y3 : wr.cell? ⟨w.heap.size, 3, none⟩ = some (.slice Ar nr cr) := hb1.cell 3
      have Hs := Lib.hid hs
      have HS2 : Hid (∀ W', Keep Never wr W' → Keep Never wr W' ∧ W'.cell? ⟨w.heap.size, 0, none⟩ = some (.slice Ae ne ce) ∧ W'.cell? ⟨w.heap.size, 1, none⟩ = some (.slice Aj nj cj) ∧ W'.cell? ⟨w.heap.size, 2, none⟩ = some (.slice Ab nb cb) ∧ W'.cell? ⟨w.heap.size, 3, none⟩ = some (.slice Ar nr cr) ∧ W'.cell? ⟨w.heap.size + 1, 1, none⟩ = some (.slice (some ad) n c) ∧ W'.cell? (ad.add (k * 2)) = some (.int .i64 s1)) := Lib.hid (fun W' h => ⟨h, keepT h y0, keepT h y1, keepT h y2, keepT h y3, keepT h v1, keepT h c0⟩)
      clear hs hb1 hb2 c1
      go_wp2_with fail
      clear y0 y1 y2 y3 v1 c0
      go_region_held3 (fun W' => Keep Never wr W' ∧ W'.cell? ⟨w.heap.size, 0, none⟩ = some (.slice Ae ne ce) ∧ W'.cell? ⟨w.heap.size, 1, none⟩ = some (.slice Aj nj cj) ∧ W'.cell? ⟨w.heap.size, 2, none⟩ = some (.slice Ab nb cb) ∧ W'.cell? ⟨w.heap.size, 3, none⟩ = some (.slice Ar nr cr) ∧ W'.cell? ⟨w.heap.size + 1, 1, none⟩ = some (.slice (some ad) n c) ∧ W'.cell? (ad.add (k * 2)) = some (.int .i64 s1))
        (first | assumption | exact HS2.out _ ((Keep.refl Never wr).drew) | exact HS2.out _ (Keep.trans (And.left (by assumption)) hk3) | exact HS2.out _ (Keep.trans ((Keep.refl Never wr).drew) hk3))
        (first
          | (go_at_call 63; refine (HT.out s1 _).mono ?_; rintro e w3 ⟨rfl, hk3⟩))
      rename_i hS
      have HK3 := Lib.hid (HH.out.1.trans hS.1)
      clear hS HS2 hk3
      cases htb : thereB ne s1 with
      | false =>
        have HBd : Hid (badAt ne p k = true) := Lib.hid (by unfold badAt; rw [Hs.out]; simp [htb])
        have HF : Hid (routedM t (r1, p, r3, r4) = 1) := Lib.hid (by unfold routedM; rw [if_neg HN1.out, if_pos (pathBad_t (k := k) (by show k < p.length; have := HPl.out; omega) (by rw [← HEl.out]; exact HBd.out))])
        clear htb
        go_wp2_with fail
        go_ret
        exact ⟨by rw [HF.out]; rfl, HK.out.trans HK3.out⟩
      | true =>
        have HTb := Lib.hid htb
        clear htb
        go_wp2_with fail
        go_loopw [7] (fun i wr => ∃ j : Nat, j ≤ k ∧ i = .int .i64 j ∧ Hid (Keep Never w2 wr ∧ ∀ (i : Nat) (u : Stp), i < j → p[i]? = some u → u.1 ≠ s1)) (fun i _ => k - (intOf i).toNat)
        case atStart => exact ⟨0, by omega, rfl, Lib.hid ⟨HK3.out, fun i u h => by omega⟩⟩
        case round =>
          obtain ⟨j, hj, rfl, HJ⟩ := hrel
          by_cases h1 : j < k
          · have hjz : (j : Int) < (k : Int) := by omega
            have hj1 : j < n := by omega
            have hjn : (j : Int) < (n : Int) := by omega
            have hpk := HP.out.keep (HK.out.trans HJ.out.1) (fun _ h => h.elim)
            obtain ⟨ad6, sj, hA6, _, hv, c0, _, _⟩ := stp_at hpk hj1
            obtain ⟨ad7, sk, hA7, _, hu, d0, _, _⟩ := stp_at hpk h0
            injection hA6 with hA6
            injection hA7 with hA7
            subst hA6 hA7
            rw [Hs.out] at hu
            injection hu with hu
            subst hu
            obtain ⟨o1, o2⟩ := sj
            simp only at c0 d0
            have Hv := Lib.hid hv
            have v1 : wr.cell? ⟨w.heap.size + 1, 1, none⟩ = some (.slice (some ad) n c) := (HB2.out.keep HJ.out.1 (fun h => h)).cell 1
            clear hv hpk
            by_cases gq : o1 = s1
            · have t1 : (o1 == s1) = true := by simpa using gq
              have HBd : Hid (badAt ne p k = true) := Lib.hid (by
                unfold badAt
                rw [Hs.out]
                simp only [Bool.or_eq_true]
                right
                rw [List.any_eq_true]
                refine ⟨(o1, o2), ?_, by simpa using gq⟩
                rw [List.mem_iff_getElem?]
                exact ⟨j, by rw [List.getElem?_take, if_pos h1]; exact Hv.out⟩)
              have HF : Hid (routedM t (r1, p, r3, r4) = 1) := Lib.hid (by unfold routedM; rw [if_neg HN1.out, if_pos (pathBad_t (k := k) (by show k < p.length; have := HPl.out; omega) (by rw [← HEl.out]; exact HBd.out))])
              clear gq
              go_wp2_with fail
              go_quiet (fail)
              go_wp2_with fail
              go_ret
              exact ⟨by rw [HF.out]; rfl, HK.out.trans (HJ.out.1.drewN _)⟩
            · have t1 : (o1 == s1) = false := by simpa using gq
              have HN : Hid (∀ (i : Nat) (u : Stp), i < j + 1 → p[i]? = some u → u.1 ≠ s1) := Lib.hid (fun i u hi hs => by
                by_cases e : i = j
                · rw [e, Hv.out] at hs; injection hs with hs; rw [← hs]; exact gq
                · exact HJ.out.2 i u (by omega) hs)
              clear gq
              go_wp2_with fail
              go_quiet (fail)
              go_wp2_with fail
              refine ⟨⟨j + 1, by omega, by go_num, Lib.hid ⟨HJ.out.1.drewN _, HN.out⟩⟩, ?_⟩
              simp [intOf]; try omega
          · obtain rfl : k = j := by omega
            have hjz : ¬ (k : Int) < (k : Int) := by omega
            have HBd : Hid (badAt ne p k = false) := Lib.hid (by
              unfold badAt
              rw [Hs.out]
              simp only
              rw [HTb.out]
              simp only [Bool.not_true, Bool.false_or]
              rw [List.any_eq_false]
              intro u hu
              obtain ⟨i, hi⟩ := List.mem_iff_getElem?.1 hu
              rw [List.getElem?_take] at hi
              split at hi
              · rename_i hik
                simpa using HJ.out.2 i u hik hi
              · cases hi)
            go_wp2_with fail
            refine ⟨⟨k + 1, by omega, by go_num, Lib.hid ⟨HJ.out.1, fun j hj => ?_⟩⟩, ?_⟩
            · by_cases e : j = k
              · rw [e]; exact HBd.out
              · exact HH.out.2 j (by omega)
            · simp [intOf]; try omega
    · obtain rfl : k = n := by omega
      have hkz : ¬ (k : Int) < (k : Int) := by omega
      have HN2 : Hid (¬ pathBad t.1.length p = true) := Lib.hid (by
        rw [pathBad_f (fun j hj => by rw [← HEl.out]; exact HH.out.2 j (by have := HPl.out; omega))]; simp)
      have HKr := Lib.hid HH.out.1
      have y0 : wr.cell? ⟨w.heap.size, 0, none⟩ = some (.slice Ae ne ce) := hb1.cell 0
      have y1 : wr.cell? ⟨w.heap.size, 1, none⟩ = some (.slice Aj nj cj) := hb1.cell 1
      have y2 : wr.cell? ⟨w.heap.size, 2, none⟩ = some (.slice Ab nb cb) := hb1.cell 2
      have y3 : wr.cell? ⟨w.heap.size, 3, none⟩ = some (.slice Ar nr cr) := hb1.cell 3
      have HC := Lib.hid (HLn.out wr (HK.out.trans HH.out.1))
      clear HH hb1 hb2 HT HLn
      obtain ⟨all, hall⟩ : ∃ z, (lenM t p).1 = z := ⟨_, rfl⟩
      obtain ⟨er, her⟩ : ∃ z, (lenM t p).2 = z := ⟨_, rfl⟩
      have HAl := Lib.hid hall
      have HEr := Lib.hid her
      rw [hall, her] at HC
      clear hall her
      go_wp2_with fail
      refine HC.out.mono ?_
      rintro e w3 ⟨rfl, hk3⟩
      have HK3 := Lib.hid (HKr.out.trans hk3)
      have HB2r := Lib.hid ((HB2.out.keep HKr.out (fun h => h)).keep hk3 (fun h => h))
      have HB1r := Lib.hid ((HB1.out.keep HKr.out (fun h => h)).keep hk3 (fun h => h))
      clear hk3 y0 y1 y2 y3 v1 HC
      by_cases g0 : er = 0
      case neg =>
        have t0 : (er != 0) = true := by simpa using g0
        have t0' : (er == 0) = false := by simpa using g0
        have HF : Hid (routedM t (r1, p, r3, r4) = er) := Lib.hid (by unfold routedM; rw [if_neg HN1.out, if_neg HN2.out, if_pos (by simp only; rw [HEr.out]; exact g0)]; exact HEr.out)
        clear g0
        go_wp2_with fail
        go_ret
        exact ⟨by rw [HF.out]; rfl, HK.out.trans HK3.out⟩
      subst g0
      have HN3 : Hid (¬ (lenM t p).2 ≠ 0) := Lib.hid (by rw [HEr.out]; simp)
      have hgl := len_good (HEr.out) HWr.out
      have hsg := sum_good hgl.1 p.length (Nat.le_refl _)
      rw [List.take_of_length_le (Nat.le_refl _), ← hgl.2] at hsg
      have hall0 : 0 ≤ all := by rw [← HAl.out]; exact hsg.1
      have hall1 : all ≤ 8000000 := by rw [← HAl.out]; have := hsg.2; have := HPl.out; omega
      clear hsg hgl
      have v1 : w3.cell? ⟨w.heap.size + 1, 1, none⟩ = some (.slice A k c) := HB2r.out.cell 1
      have v2 : w3.cell? ⟨w.heap.size + 1, 2, none⟩ = some (.int .i64 r3) := HB2r.out.cell 2
      have v3 : w3.cell? ⟨w.heap.size + 1, 3, none⟩ = some (.int .i64 r4) := HB2r.out.cell 3
      have hF1 : (r3 < 0 ∨ all ≤ r3 ∨ r4 < 1 ∨ 1000 < r4) → routedM t (r1, p, r3, r4) = 1 := fun h => by
        unfold routedM; rw [if_neg HN1.out, if_neg HN2.out, if_neg HN3.out, if_pos (by simp only; rw [HAl.out]; exact h)]
      have HF1 := Lib.hid hF1
      clear hF1
      by_cases g1 : r3 < 0
      · have t1 : decide (r3 < 0) = true := by simpa using g1
        have HF := Lib.hid (HF1.out (.inl g1))
        clear g1
        go_wp2_with fail
        go_ret
        exact ⟨by rw [HF.out]; rfl, HK.out.trans HK3.out⟩
      have t1 : decide (r3 < 0) = false := by simpa using g1
      by_cases g2 : all ≤ r3
      · have t2 : decide (r3 > all - 1) = true := by simp; omega
        have HF := Lib.hid (HF1.out (.inr (.inl g2)))
        clear g1 g2
        go_wp2_with fail
        go_ret
        exact ⟨by rw [HF.out]; rfl, HK.out.trans HK3.out⟩
      have t2 : decide (r3 > all - 1) = false := by simp; omega
      by_cases g3 : r4 < 1
      · have t3 : decide (r4 < 1) = true := by simpa using g3
        have HF := Lib.hid (HF1.out (.inr (.inr (.inl g3))))
        clear g1 g2 g3
        go_wp2_with fail
        go_ret
        exact ⟨by rw [HF.out]; rfl, HK.out.trans HK3.out⟩
      have t3 : decide (r4 < 1) = false := by simpa using g3
      by_cases g4 : 1000 < r4
      · have t4 : decide (r4 > 1000) = true := by simpa using g4
        have HF := Lib.hid (HF1.out (.inr (.inr (.inr g4))))
        clear g1 g2 g3 g4
        go_wp2_with fail
        go_ret
        exact ⟨by rw [HF.out]; rfl, HK.out.trans HK3.out⟩
      have t4 : decide (r4 > 1000) = false := by simpa using g4
      have HN4 : Hid (¬ (r3 < 0 ∨ (lenM t p).1 ≤ r3 ∨ r4 < 1 ∨ 1000 < r4)) := Lib.hid (by rw [HAl.out]; omega)
      clear g1 g2 g3 g4 HF1
      go_wp2_with fail
      clear t1 t2 t3 t4 v1 v2 v3 hall0 hall1
      rename World => w3
      go_loopw [10] (fun i wr => ∃ j : Nat, j ≤ k ∧ i = .int .i64 j ∧ Hid (Keep Never w2 wr ∧ ∀ s ∈ p.take j, noBal t.2.2.1 s = false)) (fun i _ => k - (intOf i).toNat)
      case atStart => exact ⟨0, by omega, rfl, Lib.hid ⟨HK3.out, by simp⟩⟩
      case round =>
        obtain ⟨j, hj, rfl, HH⟩ := hrel
        have v1 : wr.cell? ⟨w.heap.size + 1, 1, none⟩ = some (.slice A k c) := (HB2.out.keep HH.out.1 (fun h => h)).cell 1
        by_cases h0 : j < k
        · have hjz : (j : Int) < (k : Int) := by omega
          obtain ⟨wk, hwk⟩ : ∃ z, wr = z := ⟨_, rfl⟩
          rw [hwk] at HH v1
          rw [hwk]
          clear hwk
          go_wp2_with fail
          clear v1
          go_loopw [11, 12] (fun h q wr => ∃ q' : Nat, q' ≤ nb ∧ h = .bool ((t.2.2.1.take q').any (fun b => b.2.1 == (p.getD j (0, false)).1)) ∧ q = .int .i64 q' ∧ Hid (Keep Never wk wr)) (fun _ i _ => nb - (intOf i).toNat)
          case atStart => exact ⟨0, by omega, by simp, rfl, Lib.hid (Keep.refl _ _)⟩
          case round =>
            obtain ⟨q, hq, rfl, rfl, HH3⟩ := hrel
            have HK4 := Lib.hid (HH.out.1.trans HH3.out)
            have y2 : wr.cell? ⟨w.heap.size, 2, none⟩ = some (.slice Ab nb cb) := (HB1.out.keep HK4.out (fun h => h)).cell 2
            have v1 : wr.cell? ⟨w.heap.size + 1, 1, none⟩ = some (.slice A k c) := (HB2.out.keep HK4.out (fun h => h)).cell 1
            obtain ⟨ad, s, hA, _, hs, c0, _, _⟩ := stp_at (HP.out.keep (HK.out.trans HK4.out) (fun _ h => h.elim)) h0
            subst hA
            obtain ⟨s1, s2⟩ := s
            simp only at c0
            have hgd : (p.getD j (0, false)).1 = s1 := by rw [List.getD_eq_getElem?_getD, hs]; rfl
            rw [hgd]
            have Hs := Lib.hid hs
            clear hs hgd
            by_cases hqb : q < nb
            · have hqz : (q : Int) < (nb : Int) := by omega
              obtain ⟨ad6, b, hA6, _, hb, f0, f1, f2⟩ := (HBl.out.keep (HK.out.trans HK4.out) (fun _ h => h.elim)).sp hqb
              (try simp only at hA6)
              subst hA6
              obtain ⟨b1, b2, b3⟩ := b
              simp only at f0 f1 f2
              have HNx : Hid ((t.2.2.1.take (q + 1)).any (fun b => b.2.1 == s1) = ((t.2.2.1.take q).any (fun b => b.2.1 == s1) || (b2 == s1))) := Lib.hid (by
                obtain ⟨h2, h3⟩ := List.getElem?_eq_some_iff.1 hb
                rw [List.take_succ_eq_append_getElem h2, h3]
                simp [List.any_append])
              obtain ⟨hs, hhs⟩ : ∃ z, (t.2.2.1.take q).any (fun b => b.2.1 == s1) = z := ⟨_, rfl⟩
              obtain ⟨z, hz⟩ : ∃ z, (b2 == s1) = z := ⟨_, rfl⟩
              rw [hhs, hz] at HNx
              rw [hhs]
              clear hhs hb f0 f2
              cases hs with
              | true =>
                clear f1 hz
                go_wp2_with fail
                go_quiet (fail)
                go_wp2_with fail
                refine ⟨⟨q + 1, by omega, by rw [HNx.out]; rfl, by go_num, Lib.hid (HH3.out.drewN _)⟩, ?_⟩
                simp [intOf]; try omega
              | false =>
                go_wp2_with fail
                go_quiet (fail)
                go_wp2_with fail
                refine ⟨⟨q + 1, by omega, by rw [HNx.out]; rfl, by go_num, Lib.hid (HH3.out.drewN _)⟩, ?_⟩
                simp [intOf]; try omega
            · obtain rfl : nb = q := by omega
              have hqz : ¬ (nb : Int) < (nb : Int) := by omega
              have HTl : Hid (t.2.2.1.take nb = t.2.2.1) := Lib.hid (by rw [List.take_of_length_le (by rw [← HBn.out]; exact Nat.le_refl _)])
              rw [HTl.out]
              clear v1 c0
              cases hany : t.2.2.1.any (fun b => b.2.1 == s1) with
              | false =>
                have HF : Hid (routedM t (r1, p, r3, r4) = 4) := Lib.hid (by
                  unfold routedM
                  rw [if_neg HN1.out, if_neg HN2.out, if_neg HN3.out, if_neg HN4.out, if_pos]
                  exact List.any_eq_true.2 ⟨_, List.mem_of_getElem? Hs.out, by unfold noBal; simp only; rw [hany]; rfl⟩)
                clear hany
                go_wp2_with fail
                go_ret
                exact ⟨by rw [HF.out]; rfl, HK.out.trans HK4.out⟩
              | true =>
                have HNb : Hid (noBal t.2.2.1 (s1, s2) = false) := Lib.hid (by unfold noBal; simp only; rw [hany]; rfl)
                have HTk : Hid (p.take (j + 1) = p.take j ++ [(s1, s2)]) := Lib.hid (by
                  obtain ⟨h2, h3⟩ := List.getElem?_eq_some_iff.1 Hs.out
                  rw [List.take_succ_eq_append_getElem h2, h3])
                clear hany
                go_wp2_with fail
                refine ⟨⟨j + 1, by omega, by go_num, Lib.hid ⟨HK4.out, fun u hu => ?_⟩⟩, ?_⟩
                · rw [HTk.out] at hu
                  rcases List.mem_append.1 hu with hu | hu
                  · exact HH.out.2 u hu
                  · simp at hu; subst hu; exact HNb.out
                · simp [intOf]; try omega
        · obtain rfl : j = k := by omega
          have hjz : ¬ (j : Int) < (j : Int) := by omega
          have HF : Hid (routedM t (r1, p, r3, r4) = 0) := Lib.hid (by
            unfold routedM
            rw [if_neg HN1.out, if_neg HN2.out, if_neg HN3.out, if_neg HN4.out, if_neg]
            rw [List.any_eq_true]
            rintro ⟨s, hs, h⟩
            have := HH.out.2 s (by rw [List.take_of_length_le (by rw [HPl.out]; exact Nat.le_refl _)]; exact hs)
            rw [this] at h; cases h)
          have HKe := Lib.hid (HK.out.trans HH.out.1)
          go_wp2_with fail
          go_ret
          exact ⟨by rw [HF.out]; rfl, HKe.out⟩

end Go.Proofs.YtijdkjcjhfebfaaGreat
