/- Chapter 13: the document's Length. -/
import Derived.Test.YtpahfobijmmmmaaGreatTopE
import Derived.Test.YtpahfobijmmmmaaGreatBdSpnR
namespace Go.Proofs.YtpahfobijmmmmaaGreat
open Go.RowKit

theorem held2_next {W0 w w' : World} {a b : Addr} {ua ub : Value} (H : Keep Never W0 w ∧ w.cell? a = some ua ∧ w.cell? b = some ub) (hk : Keep Never w w') : Keep Never W0 w' ∧ w'.cell? a = some ua ∧ w'.cell? b = some ub :=
  ⟨H.1.trans hk, keepT hk H.2.1, keepT hk H.2.2⟩
theorem held5_next {W0 w w' : World} {a b c d e : Addr} {ua ub uc ud ue : Value} (H : Keep Never W0 w ∧ w.cell? a = some ua ∧ w.cell? b = some ub ∧ w.cell? c = some uc ∧ w.cell? d = some ud ∧ w.cell? e = some ue) (hk : Keep Never w w') :
    Keep Never W0 w' ∧ w'.cell? a = some ua ∧ w'.cell? b = some ub ∧ w'.cell? c = some uc ∧ w'.cell? d = some ud ∧ w'.cell? e = some ue :=
  ⟨H.1.trans hk, keepT hk H.2.1, keepT hk H.2.2.1, keepT hk H.2.2.2.1, keepT hk H.2.2.2.2.1, keepT hk H.2.2.2.2.2⟩

set_option maxHeartbeats 4000000 in
set_option maxRecDepth 100000 in
theorem rlength_any (x : TA) (t : Tp) (B : Nat) (A : Option Addr) (n c : Nat) (p : List Stp) (w : World) (ht : TpAt w B x t) (hp : repStp.Sl w B A n c p) (hn : x.nj ≤ 100000000) (hn2 : n ≤ 100000000) :
    Calls Tryz.prog 88 #[.agg x.cs, .slice A n c] w fun e w' => e = .returned (.tuple #[.int .i64 (lenM t p).1, .int .i64 (lenM t p).2]) ∧ Keep Never w w' := by
  have HM : Hid (∀ (a b : Stp) (w' : World), Keep Never w w' → Calls Tryz.prog 99 #[.agg x.cs, .agg #[.int .i64 a.1, .bool a.2], .agg #[.int .i64 b.1, .bool b.2]] w' fun e w'' => e = .returned (.bool (mayJ t.2.1 a b)) ∧ Keep Never w' w'') := Lib.hid (fun a b w' h => rmay_any x t B a b w' (ht.keep h) hn)
  have HT := Lib.hid (fun i W => redge_any x i W)
  have HE := Lib.hid ht.e
  have HPl : Hid (n = p.length) := Lib.hid hp.len
  have HEl : Hid (x.ne = t.1.length) := Lib.hid ht.e.len
  obtain ⟨Ae, ne, ce, Aj, nj, cj, Ab, nb, cb, Ar, nr, cr⟩ := x
  simp only [TA.cs] at HM HT HE HEl ⊢
  obtain ⟨wb, hwb⟩ : ∃ wb : World, w.alloc (.cells #[.slice Ae ne ce, .slice Aj nj cj, .slice Ab nb cb, .slice Ar nr cr] 27) = wb := ⟨_, rfl⟩
  have k1 : Keep Never w wb := by rw [← hwb]; exact (Keep.refl _ _).alloc _
  have b1' := Blk.new w 27 #[.slice Ae ne ce, .slice Aj nj cj, .slice Ab nb cb, .slice Ar nr cr]
  rw [hwb] at b1'
  have HB := Lib.hid b1'
  have HK := Lib.hid k1
  have HP := Lib.hid (hp.keep k1 (fun _ h => h.elim))
  have HEb := Lib.hid (HE.out.keep k1 (fun _ h => h.elim))
  clear k1 b1' hp ht HE
  by_cases hz : n = 0 ∨ 40 < n
  · have HF : Hid (lenM t p = (0, 1)) := Lib.hid (by unfold lenM; rw [if_pos (by rw [← HPl.out]; exact hz)])
    rw [HF.out]
    by_cases h0 : n = 0
    · have t0 : ((n : Int) == 0) = true := by simp [h0]
      clear hz h0
      go_enter Tryz.func88, Tryz.ntmps88
      go_wp2_with fail
      go_ret2
      exact ⟨rfl, HK.out⟩
    · have t0 : ((n : Int) == 0) = false := by simp; omega
      have t1 : decide ((n : Int) > 40) = true := by simp; omega
      clear hz h0
      go_enter Tryz.func88, Tryz.ntmps88
      go_wp2_with fail
      go_ret2
      exact ⟨rfl, HK.out⟩
  · have t0 : ((n : Int) == 0) = false := by simp; omega
    have t1 : decide ((n : Int) > 40) = false := by simp; omega
    have HNz := Lib.hid hz
    clear hz
    go_enter Tryz.func88, Tryz.ntmps88
    go_wp2_with fail
    go_loopw [6, 7, 8] (fun sv i _ wr => ∃ k : Nat, k ≤ n ∧ i = .int .i64 k ∧ sv = .int .i64 (sumM t.1 (p.take k)) ∧ Hid (Keep Never wb wr ∧ ∀ s ∈ p.take k, thereB ne s.1 = true)) (fun _ i _ _ => n - (intOf i).toNat)
    case atStart => exact ⟨0, by omega, rfl, rfl, Lib.hid ⟨Keep.refl _ _, by simp⟩⟩
    case round =>
      obtain ⟨k, hk, rfl, rfl, HH⟩ := hrel
      by_cases h0 : k < n
      · have hkz : (k : Int) < (n : Int) := by omega
        obtain ⟨ad, s, hA, hab, hs, c0, c1, _⟩ := stp_at (HP.out.keep HH.out.1 (fun _ h => h.elim)) h0
        subst hA
        obtain ⟨s1, s2⟩ := s
        simp only at c0 c1
        have HSm : Hid (sumM t.1 (p.take (k + 1)) = IntKind.i64.wrap (sumM t.1 (p.take k) + t.1.getD s1.toNat 0)) := Lib.hid (sumM_take hs)
        have HSk := Lib.hid hs
        have HTk : Hid (p.take (k + 1) = p.take k ++ [(s1, s2)]) := Lib.hid (by
          obtain ⟨h2, h3⟩ := List.getElem?_eq_some_iff.1 hs
          rw [List.take_succ_eq_append_getElem h2, h3])
        generalize sumM t.1 (p.take k) = S at *
        have HK2 := Lib.hid HH.out.1
        have HAl := Lib.hid HH.out.2
        have hbb := HB.out.keep HK2.out (fun h => h)
        have y0 : wr.cell? ⟨w.heap.size, 0, none⟩ = some (.slice Ae ne ce) := hbb.cell 0
        have y1 : wr.cell? ⟨w.heap.size, 1, none⟩ = some (.slice Aj nj cj) := hbb.cell 1
        have y2 : wr.cell? ⟨w.heap.size, 2, none⟩ = some (.slice Ab nb cb) := hbb.cell 2
        have y3 : wr.cell? ⟨w.heap.size, 3, none⟩ = some (.slice Ar nr cr) := hbb.cell 3
        have HTs := Lib.hid (fun W => HT.out s1 W)
        cases htb : thereB ne s1 with
        | false =>
          have HF : Hid (lenM t p = (0, 1)) := Lib.hid (by
            unfold lenM
            rw [if_neg (by rw [← HPl.out]; exact HNz.out), if_neg]
            rw [List.all_eq_true]
            intro h
            have := h _ (List.mem_of_getElem? HSk.out)
            rw [← HEl.out, htb] at this
            cases this)
          have HTf : Hid (∀ W : World, Calls Tryz.prog 63 #[.agg #[.slice Ae ne ce, .slice Aj nj cj, .slice Ab nb cb, .slice Ar nr cr], .int .i64 s1] W fun e w' => e = .returned (.bool false) ∧ Keep Never W w') := by have h := HTs.out; rw [htb] at h; exact h
          clear hs hab hbb HTs htb HSm
          go_wp2_with fail
          go_region_held3 (fun w' => Keep Never wr w' ∧ w'.cell? ⟨w.heap.size, 0, none⟩ = some (.slice Ae ne ce) ∧ w'.cell? ⟨w.heap.size, 1, none⟩ = some (.slice Aj nj cj) ∧ w'.cell? ⟨w.heap.size, 2, none⟩ = some (.slice Ab nb cb) ∧ w'.cell? ⟨w.heap.size, 3, none⟩ = some (.slice Ar nr cr) ∧ w'.cell? (ad.add (k * 2)) = some (.int .i64 s1))
            (first | assumption | exact ⟨(Keep.refl Never wr).drew, y0, y1, y2, y3, c0⟩ | exact held5_next (by assumption) hk')
            (first
              | (go_at_call 63; refine (HTf.out _).mono ?_; rintro e w' ⟨rfl, hk'⟩))
          rename_i hS
          have HK3 := Lib.hid (HK2.out.trans (And.left hS))
          clear hS
          go_wp2_with fail
          go_ret2
          exact ⟨by rw [HF.out]; rfl, HK.out.trans HK3.out⟩
        | true =>
          have HTf : Hid (∀ W : World, Calls Tryz.prog 63 #[.agg #[.slice Ae ne ce, .slice Aj nj cj, .slice Ab nb cb, .slice Ar nr cr], .int .i64 s1] W fun e w' => e = .returned (.bool true) ∧ Keep Never W w') := by have h := HTs.out; rw [htb] at h; exact h
          have HTb := Lib.hid htb
          unfold thereB at htb
          rw [Bool.and_eq_true, decide_eq_true_eq, decide_eq_true_eq] at htb
          obtain ⟨j, rfl⟩ : ∃ j : Nat, s1 = (j : Int) := ⟨s1.toNat, by omega⟩
          have hj : j < ne := by omega
          obtain ⟨ad2, v, hA2, hab2, hv, g0⟩ := (int_rd (HEb.out.keep HK2.out (fun _ h => h.elim))).at1 hj
          subst hA2
          have HSm2 : Hid (sumM t.1 (p.take (k + 1)) = IntKind.i64.wrap (S + v)) := Lib.hid (by rw [HSm.out]; congr 2; rw [List.getD_eq_getElem?_getD, Int.toNat_natCast, hv]; rfl)
          have hjz : (j : Int) < (ne : Int) := by omega
          have hj0 : (0 : Int) ≤ (j : Int) := by omega
          have HG := Lib.hid g0
          clear hs hab hbb HTs htb HSm hv hab2 g0
          go_wp2_with fail
          go_region_held3 (fun w' => Keep Never wr w' ∧ w'.cell? ⟨w.heap.size, 0, none⟩ = some (.slice (some ad2) ne ce) ∧ w'.cell? ⟨w.heap.size, 1, none⟩ = some (.slice Aj nj cj) ∧ w'.cell? ⟨w.heap.size, 2, none⟩ = some (.slice Ab nb cb) ∧ w'.cell? ⟨w.heap.size, 3, none⟩ = some (.slice Ar nr cr) ∧ w'.cell? (ad.add (k * 2)) = some (.int .i64 (j : Int)))
            (first | assumption | exact ⟨(Keep.refl Never wr).drew, y0, y1, y2, y3, c0⟩ | exact held5_next (by assumption) hk')
            (first
              | (go_at_call 63; refine (HTf.out _).mono ?_; rintro e w' ⟨rfl, hk'⟩))
          rename_i hS
          have HK3 := Lib.hid (HK2.out.trans (And.left hS))
          have x0 := keepT (And.left hS) y0
          have x2 := keepT (And.left hS) HG.out
          have x3 := keepT (And.left hS) c0
          clear hS y0 y1 y2 y3 c0 c1
          go_wp2_with fail
          go_quiet (fail)
          go_wp2_with fail
          refine ⟨⟨k + 1, by omega, by go_num, by rw [HSm2.out, IntWalk.i64_left], Lib.hid ⟨HK3.out.drewN _, fun s hs => ?_⟩⟩, ?_⟩
          · rw [HTk.out, List.mem_append, List.mem_singleton] at hs
            rcases hs with hs | rfl
            · exact HAl.out s hs
            · exact HTb.out
          · simp [intOf]; try omega
      · obtain rfl : k = n := by omega
        have hkz : ¬ (k : Int) < (k : Int) := by omega
        have HTk : Hid (p.take k = p) := Lib.hid (List.take_of_length_le (by rw [HPl.out]; exact Nat.le_refl _))
        rw [HTk.out] at HH ⊢
        have HAl : Hid (p.all (fun s => thereB t.1.length s.1) = true) := Lib.hid (by
          rw [List.all_eq_true]
          intro s hs
          rw [← HEl.out]
          exact HH.out.2 s hs)
        have hbb := HB.out.keep HH.out.1 (fun h => h)
        have y0 : wr.cell? ⟨w.heap.size, 0, none⟩ = some (.slice Ae ne ce) := hbb.cell 0
        have y1 : wr.cell? ⟨w.heap.size, 1, none⟩ = some (.slice Aj nj cj) := hbb.cell 1
        have y2 : wr.cell? ⟨w.heap.size, 2, none⟩ = some (.slice Ab nb cb) := hbb.cell 2
        have y3 : wr.cell? ⟨w.heap.size, 3, none⟩ = some (.slice Ar nr cr) := hbb.cell 3
        have HKr := Lib.hid HH.out.1
        have HF : Hid (lenM t p = if wayM t.2.1 p = true then (sumM t.1 p, 0) else (0, 141)) := Lib.hid (by
          unfold lenM
          rw [if_neg (by rw [← HPl.out]; exact HNz.out), if_pos HAl.out])
        generalize sumM t.1 p = S at *
        clear hbb HH hkz y0 y1 y2 y3
        rename World => wz
        go_wp2_with fail
        go_loopw [9, 10] (fun i _ wr => ∃ q : Nat, 1 ≤ q ∧ q ≤ k + 1 ∧ i = .int .i64 q ∧ Hid (Keep Never wb wr ∧ ∀ m, m + 1 < q → m + 1 < k → okAt t.2.1 p m = true)) (fun i _ _ => k + 1 - (intOf i).toNat)
        case atStart => exact ⟨1, by omega, by omega, rfl, Lib.hid ⟨HKr.out, fun m h => by omega⟩⟩
        case round =>
          obtain ⟨q, hq1, hq, rfl, HH⟩ := hrel
          by_cases h0 : q < k
          · obtain ⟨q0, hq0⟩ : ∃ q0, q = q0 + 1 := ⟨q - 1, by omega⟩
            obtain ⟨ad, s, hA, hab, hs, c0, c1, _⟩ := stp_at (HP.out.keep HH.out.1 (fun _ h => h.elim)) (i := q0) (by omega)
            obtain ⟨ad', u, hA', hab', hu, d0, d1, _⟩ := stp_at (HP.out.keep HH.out.1 (fun _ h => h.elim)) h0
            subst hA
            obtain rfl : ad = ad' := by injection hA'
            have hqz : (q : Int) < (k : Int) := by omega
            have HOk : Hid (okAt t.2.1 p q0 = mayJ t.2.1 s u) := Lib.hid (okAt_eq hs (by rw [← hq0]; exact hu))
            have hbb := HB.out.keep HH.out.1 (fun h => h)
            have y0 : wr.cell? ⟨w.heap.size, 0, none⟩ = some (.slice Ae ne ce) := hbb.cell 0
            have y1 : wr.cell? ⟨w.heap.size, 1, none⟩ = some (.slice Aj nj cj) := hbb.cell 1
            have y2 : wr.cell? ⟨w.heap.size, 2, none⟩ = some (.slice Ab nb cb) := hbb.cell 2
            have y3 : wr.cell? ⟨w.heap.size, 3, none⟩ = some (.slice Ar nr cr) := hbb.cell 3
            have HMa := Lib.hid (HM.out s u)
            obtain ⟨s1, s2⟩ := s
            obtain ⟨u1, u2⟩ := u
            simp only at c0 c1 d0 d1 HMa
            have HKw := Lib.hid (HK.out.trans HH.out.1)
            have Hq0 := Lib.hid hq0
            have z1 : q0 < k := by omega
            have z2 : (q0 : Int) < (k : Int) := by omega
            have z3 : (0 : Int) ≤ (q0 : Int) := by omega
            have z4 : (q : Int) - 1 = (q0 : Int) := by omega
            have z5 : IntKind.i64.wrap ((q : Int) - 1) = (q0 : Int) := by rw [z4]; exact IntWalk.i64_in _ (by omega)
            have z6 : IntKind.i64.wrap (q0 : Int) = (q0 : Int) := IntWalk.i64_in _ (by omega)
            generalize mayJ t.2.1 (s1, s2) (u1, u2) = mb at HMa HOk
            clear hs hu hab hab' hbb hq0 HM
            go_wp2_with fail
            go_region_held3 (fun w' => Keep Never wr w' ∧ w'.cell? ⟨w.heap.size, 0, none⟩ = some (.slice Ae ne ce) ∧ w'.cell? ⟨w.heap.size, 1, none⟩ = some (.slice Aj nj cj) ∧ w'.cell? ⟨w.heap.size, 2, none⟩ = some (.slice Ab nb cb) ∧ w'.cell? ⟨w.heap.size, 3, none⟩ = some (.slice Ar nr cr) ∧ w'.cell? (ad.add (q0 * 2)) = some (.int .i64 s1) ∧ w'.cell? ⟨(ad.add (q0 * 2)).block, (ad.add (q0 * 2)).off + 1, none⟩ = some (.bool s2) ∧ w'.cell? (ad.add (q * 2)) = some (.int .i64 u1) ∧ w'.cell? ⟨(ad.add (q * 2)).block, (ad.add (q * 2)).off + 1, none⟩ = some (.bool u2))
              (first | assumption | exact ⟨(Keep.refl Never wr).drew, y0, y1, y2, y3, c0, c1, d0, d1⟩ | exact held8_next (by assumption) hk')
              (first
                | (go_at_call 99; refine (HMa.out _ (HKw.out.trans (by first | exact (Keep.refl Never wr).drew | exact And.left (by assumption)))).mono ?_; rintro e w' ⟨rfl, hk'⟩))
            rename_i hS
            have HKe := Lib.hid (HH.out.1.trans (And.left hS))
            have HHo := Lib.hid HH.out.2
            clear hS y0 y1 y2 y3 c0 c1 d0 d1 z1 z2 z3 z4 z5 z6 HMa HH
            cases mb with
            | true =>
              go_wp2_with fail
              refine ⟨⟨q + 1, by omega, by omega, by go_num, Lib.hid ⟨HKe.out, fun m h1 h2 => ?_⟩⟩, ?_⟩
              · by_cases hm : m + 1 < q
                · exact HHo.out m hm h2
                · obtain rfl : m = q0 := by have := Hq0.out; omega
                  exact HOk.out
              · simp [intOf]; try omega
            | false =>
              have HF2 : Hid (wayM t.2.1 p = false) := Lib.hid (wayM_f (k := q0) (by rw [← Hq0.out, ← HPl.out]; exact h0) HOk.out)
              go_wp2_with fail
              go_ret2
              exact ⟨by rw [HF.out, HF2.out]; rfl, HK.out.trans HKe.out⟩
          · have hqz : ¬ (q : Int) < (k : Int) := by omega
            have HF2 : Hid (wayM t.2.1 p = true) := Lib.hid (wayM_t fun m h => HH.out.2 m (by have := HPl.out; omega) (by have := HPl.out; omega))
            go_wp2_with fail
            go_ret2
            exact ⟨by rw [HF.out, HF2.out]; rfl, HK.out.trans HH.out.1⟩

end Go.Proofs.YtpahfobijmmmmaaGreat

namespace Go.Proofs.YtpahfobijmmmmaaGreat
open Go.RowKit

theorem rt_at {w : World} {B n c i : Nat} {A : Option Addr} {l : List Rt} (h : repRt.Sl w B A n c l) (hi : i < n) : ∃ ad A2 n2 c2, A = some ad ∧ w.cell? ⟨(ad.add (i * 4)).block, (ad.add (i * 4)).off + 1, none⟩ = some (.slice A2 n2 c2) ∧ n2 ≤ maxLen := by
  obtain ⟨ad, s, cs, e, hb, hs, ⟨c1, d1, rfl, ⟨rfl, _⟩, ⟨c2, d2, rfl, ⟨A2, n2, cc, rfl, hsl⟩, _⟩⟩, hc⟩ := h.at_ hi
  have c1 := hc 1 (by decide)
  have hsz : repRt.size = 4 := rfl
  rw [hsz] at c1
  rw [fld _ _ (by omega)] at c1
  exact ⟨ad, A2, n2, cc, e, c1, by have := hsl.2.1; have := hsl.2.2.1; omega⟩

set_option maxHeartbeats 4000000 in
set_option maxRecDepth 100000 in
theorem light13_any (x : TA) (t : Tp) (B : Nat) (w : World) (ht : TpAt w B x t) :
    Calls Tryz.prog 5 #[.agg x.cs] w fun e w' => ∃ b, e = .returned (.bool b) ∧ Hid (b = true → x.ne ≤ 100 ∧ x.nj ≤ 100) ∧ Keep Never w w' := by
  have HR := Lib.hid ht.r
  obtain ⟨Ae, ne, ce, Aj, nj, cj, Ab, nb, cb, Ar, nr, cr⟩ := x
  simp only [TA.cs] at HR ⊢
  obtain ⟨wb, hwb⟩ : ∃ wb : World, w.alloc (.cells #[.slice Ae ne ce, .slice Aj nj cj, .slice Ab nb cb, .slice Ar nr cr] 27) = wb := ⟨_, rfl⟩
  have k1 : Keep Never w wb := by rw [← hwb]; exact (Keep.refl _ _).alloc _
  have b1' := Blk.new w 27 #[.slice Ae ne ce, .slice Aj nj cj, .slice Ab nb cb, .slice Ar nr cr]
  rw [hwb] at b1'
  have y0 : wb.cell? ⟨w.heap.size, 0, none⟩ = some (.slice Ae ne ce) := b1'.cell 0
  have y1 : wb.cell? ⟨w.heap.size, 1, none⟩ = some (.slice Aj nj cj) := b1'.cell 1
  have y2 : wb.cell? ⟨w.heap.size, 2, none⟩ = some (.slice Ab nb cb) := b1'.cell 2
  have y3 : wb.cell? ⟨w.heap.size, 3, none⟩ = some (.slice Ar nr cr) := b1'.cell 3
  have HB := Lib.hid b1'
  have HK := Lib.hid k1
  have HRb := Lib.hid (HR.out.keep k1 (fun _ h => h.elim))
  clear k1 b1' ht HR
  by_cases g1 : ne ≤ 100
  case neg =>
    have t1 : decide ((ne : Int) > 100) = true := by simp; omega
    clear g1
    go_enter Tryz.func5, Tryz.ntmps5
    go_wp2_with fail
    go_ret
    exact ⟨false, rfl, Lib.hid (fun h => (by cases h)), HK.out⟩
  have t1 : decide ((ne : Int) > 100) = false := by simp; omega
  by_cases g2 : nj ≤ 100
  case neg =>
    have t2 : decide ((nj : Int) > 100) = true := by simp; omega
    clear g1 g2
    go_enter Tryz.func5, Tryz.ntmps5
    go_wp2_with fail
    go_ret
    exact ⟨false, rfl, Lib.hid (fun h => (by cases h)), HK.out⟩
  have t2 : decide ((nj : Int) > 100) = false := by simp; omega
  by_cases g3 : nb ≤ 100
  case neg =>
    have t3 : decide ((nb : Int) > 100) = true := by simp; omega
    clear g1 g2 g3
    go_enter Tryz.func5, Tryz.ntmps5
    go_wp2_with fail
    go_ret
    exact ⟨false, rfl, Lib.hid (fun h => (by cases h)), HK.out⟩
  have t3 : decide ((nb : Int) > 100) = false := by simp; omega
  by_cases g4 : nr ≤ 100
  case neg =>
    have t4 : decide ((nr : Int) > 100) = true := by simp; omega
    clear g1 g2 g3 g4
    go_enter Tryz.func5, Tryz.ntmps5
    go_wp2_with fail
    go_ret
    exact ⟨false, rfl, Lib.hid (fun h => (by cases h)), HK.out⟩
  have t4 : decide ((nr : Int) > 100) = false := by simp; omega
  have HG : Hid (ne ≤ 100 ∧ nj ≤ 100) := Lib.hid ⟨g1, g2⟩
  clear g1 g2 g3
  go_enter Tryz.func5, Tryz.ntmps5
  go_wp2_with fail
  clear y0 y1 y2 y3
  go_loopw [3] (fun i wr => ∃ k : Nat, k ≤ nr ∧ i = .int .i64 k ∧ Hid (Keep Never wb wr)) (fun i _ => nr - (intOf i).toNat)
  case atStart => exact ⟨0, by omega, rfl, Lib.hid (Keep.refl _ _)⟩
  case round =>
    obtain ⟨k, hk, rfl, HH⟩ := hrel
    have hbb := HB.out.keep HH.out (fun h => h)
    have y3 : wr.cell? ⟨w.heap.size, 3, none⟩ = some (.slice Ar nr cr) := hbb.cell 3
    clear hbb
    by_cases h0 : k < nr
    · have hkz : (k : Int) < (nr : Int) := by omega
      obtain ⟨ad, A2, n2, c2, hA, hc, hn2⟩ := rt_at (HRb.out.keep HH.out (fun _ h => h.elim)) h0
      subst hA
      by_cases g5 : n2 ≤ 100
      · have t5 : decide ((n2 : Int) > 100) = false := by simp; omega
        clear g5
        go_wp2_with fail
        refine ⟨⟨k + 1, by omega, by go_num, Lib.hid HH.out⟩, ?_⟩
        simp [intOf]; try omega
      · have t5 : decide ((n2 : Int) > 100) = true := by simp; omega
        clear g5
        go_wp2_with fail
        go_ret
        exact ⟨false, rfl, Lib.hid (fun h => (by cases h)), HK.out.trans HH.out⟩
    · obtain rfl : k = nr := by omega
      have hkz : ¬ (k : Int) < (k : Int) := by omega
      go_wp2_with fail
      go_ret
      exact .inr ⟨rfl, HK.out.trans HH.out⟩

end Go.Proofs.YtpahfobijmmmmaaGreat

namespace Go.Proofs.YtpahfobijmmmmaaGreat
open Go.RowKit

/-- what is asked of a predicate of ints -/
def PredInt (g : Nat) (lb : Array Value) (p : Int → Bool) (w : World) : Prop :=
  ∀ (W : World) (s : Int), Keep Never w W → Calls Tryz.prog g (#[.int .i64 s] ++ lb) W fun e w' => e = .returned (.bool (p s)) ∧ Keep Never W w'
/-- what IndexFunc leaves -/
def IdxRetI (p : Int → Bool) (l : List Int) (w : World) (e : Ending) (w' : World) : Prop :=
  ((∃ (i : Nat) (s : Int), e = .returned (.int .i64 i) ∧ l[i]? = some s ∧ p s = true ∧ ∀ x ∈ l.take i, p x = false) ∨ (e = .returned (.int .i64 (-1)) ∧ ∀ x ∈ l, p x = false)) ∧ Keep Never w w'
set_option maxHeartbeats 1000000 in
set_option maxRecDepth 100000 in
theorem indexfi_any (g : Nat) (lb : Array Value) (p : Int → Bool) (eg : ∀ args w, (callFunc g args).run Tryz.prog w = .ok (.enter g args) w) (A : Option Addr) (n c B : Nat) (l : List Int) (w : World) (hr : Rd w B 1 A n (l.map (.int .i64))) (hp : PredInt g lb p w) (hn : n ≤ 100000000000) :
    Calls Tryz.prog 79 #[.slice A n c, .func (.func g) #[] lb] w (IdxRetI p l w) := by
  have HL : Hid (l.length = n) := Lib.hid (by have := hr.1; rw [List.length_map] at this; omega)
  have HR := Lib.hid hr
  have HP := Lib.hid hp
  clear hr hp
  go_enter Tryz.func79, Tryz.ntmps79
  go_wp2_with fail
  go_loopw [5, 8] (fun _ s8 wr => ∃ k : Nat, k ≤ n ∧ s8 = .int .i64 k ∧ Hid (Keep Never w wr ∧ ∀ x ∈ l.take k, p x = false)) (fun _ i _ => n - (intOf i).toNat)
  case atStart => exact ⟨0, by omega, rfl, Lib.hid ⟨Keep.refl _ _, by simp⟩⟩
  case round =>
    obtain ⟨k, hk, rfl, HH⟩ := hrel
    by_cases h0 : k < n
    · have hki : (k : Int) < (n : Int) := by omega
      obtain ⟨ad, s, hA, _, hs, c0⟩ := (HR.out.keep HH.out.1 (fun _ h => h.elim)).at1 h0
      subst hA
      have hcall := HP.out wr s HH.out.1
      have Hs := Lib.hid hs
      have htk : Hid (l.take (k + 1) = l.take k ++ [s]) := Lib.hid (by
        obtain ⟨h2, h3⟩ := List.getElem?_eq_some_iff.1 hs
        rw [List.take_succ_eq_append_getElem h2, h3])
      clear hs
      cases hps : p s with
      | true =>
        rw [hps] at hcall
        have Hps := Lib.hid hps
        clear hps
        go_wp2_with (go_at_fn g; refine hcall.mono ?_; rintro e w' ⟨rfl, hk'⟩)
        go_ret
        exact ⟨.inl ⟨k, _, rfl, Hs.out, Hps.out, HH.out.2⟩, HH.out.1.trans hk'⟩
      | false =>
        rw [hps] at hcall
        have Hps := Lib.hid hps
        clear hps
        go_wp2_with (go_at_fn g; refine hcall.mono ?_; rintro e w' ⟨rfl, hk'⟩)
        go_roundw
        case measure => simp [intOf]; try omega
        case rel =>
          refine ⟨k + 1, by omega, by go_num, Lib.hid ⟨HH.out.1.trans hk', fun x hx => ?_⟩⟩
          rw [htk.out] at hx
          rcases List.mem_append.1 hx with hx | hx
          · exact HH.out.2 x hx
          · simp at hx; subst hx; exact Hps.out
    · obtain rfl : k = n := by omega
      have hki : ¬ (k : Int) < (k : Int) := by omega
      have HN : Hid (∀ x ∈ l, p x = false) := Lib.hid (by have := HH.out.2; rwa [List.take_of_length_le (by have := HL.out; omega)] at this)
      go_wp2_with fail
      go_ret
      exact ⟨.inr ⟨rfl, HN.out⟩, HH.out.1⟩
set_option maxHeartbeats 1000000 in
set_option maxRecDepth 100000 in
theorem containsfi_any (g : Nat) (lb : Array Value) (p : Int → Bool) (eg : ∀ args w, (callFunc g args).run Tryz.prog w = .ok (.enter g args) w) (A : Option Addr) (n c B : Nat) (l : List Int) (w : World) (hr : Rd w B 1 A n (l.map (.int .i64))) (hp : PredInt g lb p w) (hn : n ≤ 100000000000) :
    Calls Tryz.prog 51 #[.slice A n c, .func (.func g) #[] lb] w fun e w' => e = .returned (.bool (l.any p)) ∧ Keep Never w w' := by
  have HI := Lib.hid (indexfi_any g lb p eg A n c B l w hr hp hn)
  clear hr hp
  go_enter Tryz.func51, Tryz.ntmps51
  go_wp2_with fail
  refine HI.out.mono ?_
  rintro e w' ⟨⟨i, s, rfl, h1, h2, h3⟩ | ⟨rfl, h1⟩, hk⟩
  · have HA : Hid (l.any p = true) := Lib.hid (List.any_eq_true.2 ⟨s, List.mem_of_getElem? h1, h2⟩)
    have HK := Lib.hid hk
    have hi : decide ((i : Int) ≥ 0) = true := by simp
    clear h1 h2 h3 hk
    go_wp2_with fail
    go_ret
    exact ⟨by rw [HA.out]; rfl, HK.out⟩
  · have HA : Hid (l.any p = false) := Lib.hid (by rw [List.any_eq_false]; intro x hx; rw [h1 x hx]; simp)
    have HK := Lib.hid hk
    clear h1 hk
    go_wp2_with fail
    go_ret
    exact ⟨by rw [HA.out]; rfl, HK.out⟩


def wrongB (n : Int) : Bool := decide (n < 1) || decide (n > 1000000)
/-- the places along a way: a step's span -/
def cutS (es : List Int) (lo hi : Int) (at_ : Int) (s : Stp) : Sp :=
  if s.2 = true then (s.1, es.getD s.1.toNat 0 - min (hi - at_) (es.getD s.1.toNat 0), es.getD s.1.toNat 0 - max (lo - at_) 0) else (s.1, max (lo - at_) 0, min (hi - at_) (es.getD s.1.toNat 0))
def overL (es : List Int) (lo hi : Int) : Int → List Stp → List Sp
  | _, [] => []
  | a, s :: r => cutS es lo hi a s :: overL es lo hi (a + es.getD s.1.toNat 0) r
/-- the error of Over -/
def overE (t : Tp) (p : List Stp) (lo hi : Int) : Int :=
  if (lenM t p).2 ≠ 0 then (lenM t p).2 else if t.1.any wrongB = true ∨ lo < 0 ∨ lo > hi ∨ hi > (lenM t p).1 then 1 else 0

end Go.Proofs.YtpahfobijmmmmaaGreat
