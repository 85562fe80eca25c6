/- Chapter 18 (grant): GrantAdds. -/
import Derived.Test.YtlcbajdckgcopaaGrP
namespace Go.Proofs.Ytlcbajdckgcopaa
open Go.RowKit

theorem opens_ops : Rep.Opens Try.prog 78 repOp.list := Rep.opens_list Try.underlying78 (by kernel_rfl) (by decide) opens_op
theorem op_at {N : Nat} {w : World} {B n c i : Nat} {A : Option Addr} {l : List Op18} (h : repOp.Sl w B A n c l) (hB : B ≤ N) (hi : i < n) : ∃ ad o, ∃ x : OA, A = some ad ∧ l[i]? = some o ∧ w.cell? (ad.add (i * 5)) = some (.int .i64 x.k) ∧ w.cell? ⟨(ad.add (i * 5)).block, (ad.add (i * 5)).off + 1, none⟩ = some (.int .i64 x.t) ∧
    w.cell? ⟨(ad.add (i * 5)).block, (ad.add (i * 5)).off + 2, none⟩ = some (.slice x.A x.n x.c) ∧ w.cell? ⟨(ad.add (i * 5)).block, (ad.add (i * 5)).off + 3, none⟩ = some (.slice x.X x.xn x.xc) ∧ w.cell? ⟨(ad.add (i * 5)).block, (ad.add (i * 5)).off + 4, none⟩ = some (.slice x.Y x.yn x.yc) ∧ OpG N w x o := by
  obtain ⟨ad, s, cs, e, hb, hs, hx, hc⟩ := h.at_ hi
  obtain ⟨x, rfl, hg⟩ := OpG.of (N := N) hx hB
  have c0 := hc 0 (by decide)
  have c1 := hc 1 (by decide)
  have c2 := hc 2 (by decide)
  have c3 := hc 3 (by decide)
  have c4 := hc 4 (by decide)
  have hsz : repOp.size = 5 := rfl
  rw [hsz] at c0 c1 c2 c3 c4
  rw [fld _ _ (by omega)] at c1 c2 c3 c4
  exact ⟨ad, s, x, e, hs, c0, c1, c2, c3, c4, hg⟩
/-- what holds between two rounds of the laws' loops: m lies in block b -/
structure MI (N : Nat) (W : World) (b k : Nat) (x : LA) (m : Ldg) (wr : World) : Prop where
  keep : Keep Never W wr
  blk : Blk wr b 53 #[.slice x.A x.n x.c, .slice x.A2 x.n2 x.c2, .bool x.k]
  g : LdG N wr x m
  may : mayL m = true
  bnd : Bnd (20 * k) m
  low : N ≤ b ∧ W.heap.size ≤ b

set_option maxHeartbeats 16000000 in
set_option maxRecDepth 100000 in
theorem grantAdds_walk (W : World) (C : Option Addr) (cn cc : Nat) (cl : List Op18) (s0 : repOp.Sl W W.heap.size C cn cc cl) (ed : Int) (_b1 : -9223372036854775808 ≤ ed) (_c1 : ed ≤ 9223372036854775807) (at_ : Int) (_b2 : -9223372036854775808 ≤ at_) (_c2 : at_ ≤ 9223372036854775807) :
    Calls Try.prog 13 #[.slice C cn cc, .int .i64 ed, .int .i64 at_] W fun e W' => e = .returned (.bool true) ∧ Keep Never W W' := by
  have HS := Lib.hid s0
  have hcap : cn ≤ 9223372036854775807 := by have h3 := s0.cap; have h4 := s0.2.2.1; unfold maxLen at h4; omega
  clear s0
  have HA := Lib.hid (awake18_any W)
  go_enter Try.func13, Try.ntmps13
  go_wp2_with fail
  refine HA.out.mono ?_
  rintro e w2 ⟨rfl, hk2⟩
  have HK2 := Lib.hid hk2
  clear hk2 HA
  by_cases g40 : 40 < cn
  · have t0 : decide ((cn : Int) > 40) = true := by simp; omega
    clear g40
    go_wp2_with fail
    go_ret
    exact ⟨rfl, HK2.out⟩
  have t0 : decide ((cn : Int) > 40) = false := by simp; omega
  go_wp2_with fail
  obtain ⟨w3, hw3⟩ : ∃ V : World, w2.alloc (.cells #[.slice none 0 0, .slice none 0 0, .bool false] 53) = V := ⟨_, rfl⟩
  have K3 : Keep Never w2 w3 := by rw [← hw3]; exact (Keep.refl _ _).alloc _
  have B3 := Blk.new w2 53 #[.slice none 0 0, .slice none 0 0, .bool false]
  rw [hw3] at B3
  obtain ⟨b8, hb8⟩ : ∃ q, w2.heap.size = q := ⟨_, rfl⟩
  rw [hb8] at B3
  rw [hw3, hb8]
  have HI0 : Hid (MI W.heap.size W b8 0 ⟨none, 0, 0, none, 0, 0, false⟩ noL w3) := Lib.hid ⟨HK2.out.trans K3, B3, LdG.no _ _, noL_may, Bnd.no _, by rw [← hb8]; exact ⟨HK2.out.size, HK2.out.size⟩⟩
  clear K3 B3
  clear hw3 hb8 t0
  go_loopw [9, 10] (fun nv i wr => ∃ (q : Nat) (nb : Bool) (x : LA) (m : Ldg), q ≤ cn ∧ nv = .bool nb ∧ i = .int .i64 q ∧ Hid (MI W.heap.size W b8 q x m wr) ∧ Hid (nb = false → NotX ed at_ m)) (fun _ i _ => cn - (intOf i).toNat)
  case atStart => exact ⟨0, false, _, _, by omega, rfl, rfl, HI0, Lib.hid (fun _ => ⟨rfl, by simp [noL]⟩)⟩
  case round =>
    obtain ⟨q, nb, x, m, hq, rfl, rfl, HI, HNx⟩ := hrel
    by_cases h0 : q < cn
    · have hqz : (q : Int) < (cn : Int) := by omega
      obtain ⟨ad, o, y, hA, _, c0, c1, c2', c3', c4', hog⟩ := op_at (N := W.heap.size) (HS.out.keep HI.out.keep (fun _ h => h.elim)) (Nat.le_refl _) h0
      subst hA
      have hok := hog.k
      have hot := hog.t
      have hkn := HI.out.g.k
      obtain ⟨ok, ot, Oa, on, oc, X, xn, xc, Y, yn, yc⟩ := y
      obtain ⟨ok', ot', oe, ox, oy⟩ := o
      obtain ⟨A, n, c, A2, n2, c2, k⟩ := x
      obtain ⟨es, hr, k'⟩ := m
      simp only at hok hot hkn c0 c1 c2' c3' c4'
      subst hok hot hkn
      obtain ⟨w5, hw5⟩ : ∃ V : World, wr.alloc (.cells #[.int .i64 ok, .int .i64 ot, .slice Oa on oc, .slice X xn xc, .slice Y yn yc] 56) = V := ⟨_, rfl⟩
      have K5 : Keep Never wr w5 := by rw [← hw5]; exact (Keep.refl _ _).alloc _
      have B5 := Blk.new wr 56 #[.int .i64 ok, .int .i64 ot, .slice Oa on oc, .slice X xn xc, .slice Y yn yc]
      rw [hw5] at B5
      obtain ⟨bo, hbo⟩ : ∃ z, wr.heap.size = z := ⟨_, rfl⟩
      rw [hbo] at B5
      have HOx0 := Lib.hid B5
      have HK50 := Lib.hid (HI.out.keep.trans K5)
      have HOp0 := Lib.hid (hog.never K5)
      have HMi0 : Hid (MI W.heap.size W b8 q ⟨A, n, c, A2, n2, c2, k⟩ (es, hr, k) w5) := Lib.hid ⟨HI.out.keep.trans K5, HI.out.blk.keep K5 (fun h => h), HI.out.g.never K5, HI.out.may, HI.out.bnd, HI.out.low⟩
      have HC := Lib.hid (light_any ⟨none, 0, 0, none, 0, 0, false⟩ noL ⟨ok, ot, Oa, on, oc, X, xn, xc, Y, yn, yc⟩ (ok, ot, oe, ox, oy) W.heap.size w5 (LdG.no _ _) HOp0.out)
      dsimp only [LA.cs, OA.cs] at HC
      have d0 : w5.cell? ⟨bo, 0, none⟩ = some (.int .i64 ok) := B5.cell 0
      have d1 : w5.cell? ⟨bo, 1, none⟩ = some (.int .i64 ot) := B5.cell 1
      have d2 : w5.cell? ⟨bo, 2, none⟩ = some (.slice Oa on oc) := B5.cell 2
      have d3 : w5.cell? ⟨bo, 3, none⟩ = some (.slice X xn xc) := B5.cell 3
      have d4 : w5.cell? ⟨bo, 4, none⟩ = some (.slice Y yn yc) := B5.cell 4
      clear hog K5 B5 HI
      go_wp2_with fail
      refine HC.out.mono ?_
      rintro e w6 ⟨lb, rfl, hlb, hk6⟩
      have HK5 := Lib.hid (HK50.out.trans hk6)
      have HOx := Lib.hid (HOx0.out.keep hk6 (fun h => h))
      have HOp := Lib.hid (HOp0.out.never hk6)
      have HMi : Hid (MI W.heap.size W b8 q ⟨A, n, c, A2, n2, c2, k⟩ (es, hr, k) w6) := Lib.hid ⟨HMi0.out.keep.trans hk6, HMi0.out.blk.keep hk6 (fun h => h), HMi0.out.g.never hk6, HMi0.out.may, HMi0.out.bnd, HMi0.out.low⟩
      clear hk6 HC d0 d1 d2 d3 d4 c0 c1 c2' c3' c4' hw5 hbo HOx0 HK50 HOp0 HMi0
      cases lb with
      | false =>
        go_wp2_with fail
        go_ret
        exact ⟨rfl, HK5.out⟩
      | true =>
        have HOb := Lib.hid (hlb.out rfl).2
        have HG := Lib.hid HMi.out.g
        have HLb := Lib.hid (HMi.out.bnd.ld HMi.out.g (by omega))
        have HLo : Hid (on = oe.length) := Lib.hid HOp.out.e.len
        have honl : on ≤ 40 := by have h1 := HOb.out.n; have h2 := HLo.out; simp only at h1; omega
        clear hlb
        go_wp2_with fail
        go_loopw [9, 13] (fun nv i wr => ∃ (j : Nat), j ≤ on ∧ nv = .bool (nb || (oe.take j).any fun e => hasL e.2.2.1 ed at_) ∧ i = .int .i64 j ∧ Hid (Keep Never w6 wr ∧ (ok ≠ 0 → j = 0))) (fun _ i _ => on - (intOf i).toNat)
        case atStart => exact ⟨0, by omega, by simp, rfl, Lib.hid ⟨Keep.refl _ _, fun _ => rfl⟩⟩
        case round =>
          obtain ⟨j, hj, rfl, rfl, HJ⟩ := hrel
          obtain ⟨v7, hv7⟩ : ∃ z, wr = z := ⟨_, rfl⟩
          rw [hv7] at HJ
          rw [hv7]
          clear hv7
          have HKv := Lib.hid HJ.out.1
          have o0 : v7.cell? ⟨bo, 0, none⟩ = some (.int .i64 ok) := (HOx.out.keep HKv.out (fun h => h)).cell 0
          have o2 : v7.cell? ⟨bo, 2, none⟩ = some (.slice Oa on oc) := (HOx.out.keep HKv.out (fun h => h)).cell 2
          obtain ⟨nj, hnj⟩ : ∃ z, (nb || (oe.take j).any fun e => hasL e.2.2.1 ed at_) = z := ⟨_, rfl⟩
          rw [hnj]
          by_cases gx : j < on ∧ ok = 0
          · obtain ⟨h1, rfl⟩ := gx
            have hjz : (j : Int) < (on : Int) := by omega
            obtain ⟨ad6, e, A6, n6, c6, hA6, he, _, _, e2, _, hsp⟩ := ent_g (HOp.out.e.never HKv.out) h1
            (try simp only at hA6)
            subst hA6
            (try simp only at e2)
            have HT : Hid ((nb || (oe.take (j + 1)).any fun e => hasL e.2.2.1 ed at_) = (nj || hasL e.2.2.1 ed at_)) := Lib.hid (by rw [take_ent he, List.any_append, ← hnj]; simp [Bool.or_assoc])
            have hn6 : n6 ≤ 100000000000 := by have h2 := HOb.out.e e (List.mem_of_getElem? he); have h3 := hsp.at_.len; omega
            have HC := Lib.hid (has_any A6 n6 c6 _ e.2.2.1 ed at_ v7 hsp.at_.rd hn6)
            obtain ⟨hb, hhb⟩ : ∃ z, hasL e.2.2.1 ed at_ = z := ⟨_, rfl⟩
            rw [hhb] at HC HT
            clear hnj he hsp hn6 hhb
            cases nj with
            | true =>
              clear e2
              go_wp2_with fail
              refine ⟨⟨j + 1, by omega, by rw [HT.out]; rfl, by go_num, Lib.hid ⟨HKv.out, fun h => absurd rfl h⟩⟩, ?_⟩
              simp [intOf]; try omega
            | false =>
              go_wp2_with fail
              refine HC.out.mono ?_
              rintro e' v8 ⟨rfl, hk8⟩
              have HK8 := Lib.hid (HKv.out.trans hk8)
              clear hk8 HC e2 o0 o2
              go_wp2_with fail
              refine ⟨⟨j + 1, by omega, by rw [HT.out]; rfl, by go_num, Lib.hid ⟨HK8.out, fun h => absurd rfl h⟩⟩, ?_⟩
              simp [intOf]; try omega
          · have HNe : Hid (nj = (nb || (decide (ok = 0) && oe.any fun e => hasL e.2.2.1 ed at_))) := Lib.hid (by
              rw [← hnj]
              by_cases g0 : ok = 0
              · have : on = j := by omega
                rw [List.take_of_length_le (by rw [← HLo.out]; omega), decide_eq_true g0, Bool.true_and]
              · rw [HJ.out.2 g0, decide_eq_false g0]; simp)
            have hex : (j < on ∧ (ok == 0) = false) ∨ j = on := by
              by_cases h1 : j < on
              · left; exact ⟨h1, by simp; exact fun h => gx ⟨h1, h⟩⟩
              · right; omega
            clear hnj gx
            have hstep : ∀ (P : Prop), P → P := fun _ h => h
            clear hstep
            rcases hex with ⟨h1, t0⟩ | hjo
            · have hjz : (j : Int) < (on : Int) := by omega
              have hjd : decide ((j : Int) < (on : Int)) = true := by simp; omega
              clear h1
              cases nj with
              | true =>
                go_upto_region 18 with (fail)
                clear o0 o2
                have HC := Lib.hid (done_any ⟨A, n, c, A2, n2, c2, k⟩ (es, hr, k) ⟨ok, ot, Oa, on, oc, X, xn, xc, Y, yn, yc⟩ (ok, ot, oe, ox, oy) W.heap.size v7 (HG.out.never HKv.out) (HOp.out.never HKv.out) HLb.out HOb.out (Nat.le_trans HK5.out.size HKv.out.size))
                dsimp only [LA.cs, OA.cs] at HC
                have HMb := Lib.hid (HMi.out.blk.keep HKv.out (fun h => h))
                have HOb7 := Lib.hid (HOx.out.keep HKv.out (fun h => h))
                have y0 : v7.cell? ⟨b8, 0, none⟩ = some (.slice A n c) := HMb.out.cell 0
                have y1 : v7.cell? ⟨b8, 1, none⟩ = some (.slice A2 n2 c2) := HMb.out.cell 1
                have y2 : v7.cell? ⟨b8, 2, none⟩ = some (.bool k) := HMb.out.cell 2
                have o0 : v7.cell? ⟨bo, 0, none⟩ = some (.int .i64 ok) := HOb7.out.cell 0
                have o1 : v7.cell? ⟨bo, 1, none⟩ = some (.int .i64 ot) := HOb7.out.cell 1
                have o2 : v7.cell? ⟨bo, 2, none⟩ = some (.slice Oa on oc) := HOb7.out.cell 2
                have o3 : v7.cell? ⟨bo, 3, none⟩ = some (.slice X xn xc) := HOb7.out.cell 3
                have o4 : v7.cell? ⟨bo, 4, none⟩ = some (.slice Y yn yc) := HOb7.out.cell 4
                go_wp2_with fail
                refine HC.out.mono ?_
                rintro e v8 ⟨⟨A3, n3, c3, A4, n4, c4, k4⟩, rfl, hg8, hk8⟩
                dsimp only [LA.cs]
                have HG8 := Lib.hid hg8
                have HK8 := Lib.hid ((HK5.out.trans HKv.out).trans hk8)
                have HM8 := Lib.hid (HMb.out.keep hk8 (fun h => h))
                clear hg8 hk8 HC y0 y1 y2 o0 o1 o2 o3 o4
                have y0 : v8.cell? ⟨b8, 0, none⟩ = some (.slice A n c) := HM8.out.cell 0
                have y1 : v8.cell? ⟨b8, 1, none⟩ = some (.slice A2 n2 c2) := HM8.out.cell 1
                have y2 : v8.cell? ⟨b8, 2, none⟩ = some (.bool k) := HM8.out.cell 2
                have yf0 := HM8.out.frozen 0
                have yf1 := HM8.out.frozen 1
                have yf2 := HM8.out.frozen 2
                go_upto_region 19 with (fail)
                obtain ⟨v9, hv9⟩ : ∃ W : World, ((v8.setCell ⟨b8, 0, none⟩ (.slice A3 n3 c3)).setCell ⟨b8, 1, none⟩ (.slice A4 n4 c4)).setCell ⟨b8, 2, none⟩ (.bool k4) = W := ⟨_, rfl⟩
                rw [hv9]
                have k9 : Keep (fun q => q = b8) v8 v9 := by rw [← hv9]; exact putL_keep (Keep.refl (fun q => q = b8) v8) (.inl rfl) _ _ _
                have HM9 : Hid (Blk v9 (b8) 53 #[.slice A3 n3 c3, .slice A4 n4 c4, .bool k4]) := Lib.hid (by rw [← hv9]; exact putL_blk HM8.out _ _ _)
                clear hv9
                have HG9 := Lib.hid (HG8.out.keep k9 (Far2.blk HM8.out (by decide) (by decide) HMi.out.low.1))
                have HK9 := Lib.hid (HK8.out.then_ k9 (fun i hi e => by have := HMi.out.low.2; omega))
                clear k9 y0 y1 y2 yf0 yf1 yf2
                have HB9 := Lib.hid (done_bnd HMi.out.may HMi.out.bnd HOb.out)
                have HY9 := Lib.hid (done_may HMi.out.may (ok, ot, oe, ox, oy))
                have HL9 := Lib.hid (HB9.out.ld HG9.out (by omega))
                have HC := Lib.hid (gMay_any _ _ _ v9 HG9.out.ld HL9.out.small (Nat.le_refl _))
                rw [HY9.out] at HC
                dsimp only [LA.cs] at HC
                have y0 : v9.cell? ⟨b8, 0, none⟩ = some (.slice A3 n3 c3) := HM9.out.cell 0
                have y1 : v9.cell? ⟨b8, 1, none⟩ = some (.slice A4 n4 c4) := HM9.out.cell 1
                have y2 : v9.cell? ⟨b8, 2, none⟩ = some (.bool k4) := HM9.out.cell 2
                go_wp2_with fail
                refine HC.out.mono ?_
                rintro e v12 ⟨rfl, hk12⟩
                have HI' : Hid (MI W.heap.size W b8 (q + 1) ⟨A3, n3, c3, A4, n4, c4, k4⟩ (doneM (es, hr, k) (ok, ot, oe, ox, oy)) v12) := Lib.hid ⟨HK9.out.trans hk12, HM9.out.keep hk12 (fun h => h), HG9.out.never hk12, HY9.out, by have := HB9.out; exact this, HMi.out.low⟩
                clear hk12 HC y0 y1 y2
                go_wp2_with fail
                refine ⟨⟨q + 1, true, _, _, by omega, rfl, by go_num, HI', Lib.hid (fun h => by cases h)⟩, ?_⟩
                simp [intOf]; try omega
              | false =>
                have HNb : Hid (nb = false ∧ (decide (ok = 0) && oe.any fun e => hasL e.2.2.1 ed at_) = false) := Lib.hid (by have h := HNe.out.symm; rw [Bool.or_eq_false_iff] at h; exact h)
                by_cases g3 : ok = 3
                · have t3 : (ok == 3) = true := by simpa using g3
                  clear g3
                  have o3 : v7.cell? ⟨bo, 3, none⟩ = some (.slice X xn xc) := (HOx.out.keep HKv.out (fun h => h)).cell 3
                  have hsx := (HOp.out.never HKv.out).sx.at_
                  have hxn : xn ≤ 100000000000 := by have h1 := hsx.len; have h2 := HOb.out.x; simp only at h1 h2; omega
                  have HC := Lib.hid (has_any X xn xc _ ox ed at_ v7 hsx.rd hxn)
                  clear hsx hxn
                  go_wp2_with fail
                  refine HC.out.mono ?_
                  rintro e' v8 ⟨rfl, hk8⟩
                  have HKv8 := Lib.hid (HKv.out.trans hk8)
                  clear hk8 HC o0 o2 o3 HKv HJ
                  obtain ⟨v7, hv7⟩ : ∃ z, v8 = z := ⟨_, rfl⟩
                  rw [hv7] at HKv8
                  rw [hv7]
                  clear hv7
                  have HKv := HKv8
                  clear HKv8
                  cases hb : hasL ox ed at_ with
                  | true =>
                    clear hb
                    go_upto_region 18 with (fail)
                    have HC := Lib.hid (done_any ⟨A, n, c, A2, n2, c2, k⟩ (es, hr, k) ⟨ok, ot, Oa, on, oc, X, xn, xc, Y, yn, yc⟩ (ok, ot, oe, ox, oy) W.heap.size v7 (HG.out.never HKv.out) (HOp.out.never HKv.out) HLb.out HOb.out (Nat.le_trans HK5.out.size HKv.out.size))
                    dsimp only [LA.cs, OA.cs] at HC
                    have HMb := Lib.hid (HMi.out.blk.keep HKv.out (fun h => h))
                    have HOb7 := Lib.hid (HOx.out.keep HKv.out (fun h => h))
                    have y0 : v7.cell? ⟨b8, 0, none⟩ = some (.slice A n c) := HMb.out.cell 0
                    have y1 : v7.cell? ⟨b8, 1, none⟩ = some (.slice A2 n2 c2) := HMb.out.cell 1
                    have y2 : v7.cell? ⟨b8, 2, none⟩ = some (.bool k) := HMb.out.cell 2
                    have o0 : v7.cell? ⟨bo, 0, none⟩ = some (.int .i64 ok) := HOb7.out.cell 0
                    have o1 : v7.cell? ⟨bo, 1, none⟩ = some (.int .i64 ot) := HOb7.out.cell 1
                    have o2 : v7.cell? ⟨bo, 2, none⟩ = some (.slice Oa on oc) := HOb7.out.cell 2
                    have o3 : v7.cell? ⟨bo, 3, none⟩ = some (.slice X xn xc) := HOb7.out.cell 3
                    have o4 : v7.cell? ⟨bo, 4, none⟩ = some (.slice Y yn yc) := HOb7.out.cell 4
                    go_wp2_with fail
                    refine HC.out.mono ?_
                    rintro e v8 ⟨⟨A3, n3, c3, A4, n4, c4, k4⟩, rfl, hg8, hk8⟩
                    dsimp only [LA.cs]
                    have HG8 := Lib.hid hg8
                    have HK8 := Lib.hid ((HK5.out.trans HKv.out).trans hk8)
                    have HM8 := Lib.hid (HMb.out.keep hk8 (fun h => h))
                    clear hg8 hk8 HC y0 y1 y2 o0 o1 o2 o3 o4
                    have y0 : v8.cell? ⟨b8, 0, none⟩ = some (.slice A n c) := HM8.out.cell 0
                    have y1 : v8.cell? ⟨b8, 1, none⟩ = some (.slice A2 n2 c2) := HM8.out.cell 1
                    have y2 : v8.cell? ⟨b8, 2, none⟩ = some (.bool k) := HM8.out.cell 2
                    have yf0 := HM8.out.frozen 0
                    have yf1 := HM8.out.frozen 1
                    have yf2 := HM8.out.frozen 2
                    go_upto_region 19 with (fail)
                    obtain ⟨v9, hv9⟩ : ∃ W : World, ((v8.setCell ⟨b8, 0, none⟩ (.slice A3 n3 c3)).setCell ⟨b8, 1, none⟩ (.slice A4 n4 c4)).setCell ⟨b8, 2, none⟩ (.bool k4) = W := ⟨_, rfl⟩
                    rw [hv9]
                    have k9 : Keep (fun q => q = b8) v8 v9 := by rw [← hv9]; exact putL_keep (Keep.refl (fun q => q = b8) v8) (.inl rfl) _ _ _
                    have HM9 : Hid (Blk v9 (b8) 53 #[.slice A3 n3 c3, .slice A4 n4 c4, .bool k4]) := Lib.hid (by rw [← hv9]; exact putL_blk HM8.out _ _ _)
                    clear hv9
                    have HG9 := Lib.hid (HG8.out.keep k9 (Far2.blk HM8.out (by decide) (by decide) HMi.out.low.1))
                    have HK9 := Lib.hid (HK8.out.then_ k9 (fun i hi e => by have := HMi.out.low.2; omega))
                    clear k9 y0 y1 y2 yf0 yf1 yf2
                    have HB9 := Lib.hid (done_bnd HMi.out.may HMi.out.bnd HOb.out)
                    have HY9 := Lib.hid (done_may HMi.out.may (ok, ot, oe, ox, oy))
                    have HL9 := Lib.hid (HB9.out.ld HG9.out (by omega))
                    have HC := Lib.hid (gMay_any _ _ _ v9 HG9.out.ld HL9.out.small (Nat.le_refl _))
                    rw [HY9.out] at HC
                    dsimp only [LA.cs] at HC
                    have y0 : v9.cell? ⟨b8, 0, none⟩ = some (.slice A3 n3 c3) := HM9.out.cell 0
                    have y1 : v9.cell? ⟨b8, 1, none⟩ = some (.slice A4 n4 c4) := HM9.out.cell 1
                    have y2 : v9.cell? ⟨b8, 2, none⟩ = some (.bool k4) := HM9.out.cell 2
                    go_wp2_with fail
                    refine HC.out.mono ?_
                    rintro e v12 ⟨rfl, hk12⟩
                    have HI' : Hid (MI W.heap.size W b8 (q + 1) ⟨A3, n3, c3, A4, n4, c4, k4⟩ (doneM (es, hr, k) (ok, ot, oe, ox, oy)) v12) := Lib.hid ⟨HK9.out.trans hk12, HM9.out.keep hk12 (fun h => h), HG9.out.never hk12, HY9.out, by have := HB9.out; exact this, HMi.out.low⟩
                    clear hk12 HC y0 y1 y2
                    go_wp2_with fail
                    refine ⟨⟨q + 1, true, _, _, by omega, rfl, by go_num, HI', Lib.hid (fun h => by cases h)⟩, ?_⟩
                    simp [intOf]; try omega
                  | false =>
                    have HNf : Hid (nb = false ∧ namedB ed at_ (ok, ot, oe, ox, oy) = false) := Lib.hid ⟨HNb.out.1, by unfold namedB; simp only; rw [HNb.out.2, hb]; simp⟩
                    clear hb
                    go_upto_region 18 with (fail)
                    have HC := Lib.hid (done_any ⟨A, n, c, A2, n2, c2, k⟩ (es, hr, k) ⟨ok, ot, Oa, on, oc, X, xn, xc, Y, yn, yc⟩ (ok, ot, oe, ox, oy) W.heap.size v7 (HG.out.never HKv.out) (HOp.out.never HKv.out) HLb.out HOb.out (Nat.le_trans HK5.out.size HKv.out.size))
                    dsimp only [LA.cs, OA.cs] at HC
                    have HMb := Lib.hid (HMi.out.blk.keep HKv.out (fun h => h))
                    have HOb7 := Lib.hid (HOx.out.keep HKv.out (fun h => h))
                    have y0 : v7.cell? ⟨b8, 0, none⟩ = some (.slice A n c) := HMb.out.cell 0
                    have y1 : v7.cell? ⟨b8, 1, none⟩ = some (.slice A2 n2 c2) := HMb.out.cell 1
                    have y2 : v7.cell? ⟨b8, 2, none⟩ = some (.bool k) := HMb.out.cell 2
                    have o0 : v7.cell? ⟨bo, 0, none⟩ = some (.int .i64 ok) := HOb7.out.cell 0
                    have o1 : v7.cell? ⟨bo, 1, none⟩ = some (.int .i64 ot) := HOb7.out.cell 1
                    have o2 : v7.cell? ⟨bo, 2, none⟩ = some (.slice Oa on oc) := HOb7.out.cell 2
                    have o3 : v7.cell? ⟨bo, 3, none⟩ = some (.slice X xn xc) := HOb7.out.cell 3
                    have o4 : v7.cell? ⟨bo, 4, none⟩ = some (.slice Y yn yc) := HOb7.out.cell 4
                    go_wp2_with fail
                    refine HC.out.mono ?_
                    rintro e v8 ⟨⟨A3, n3, c3, A4, n4, c4, k4⟩, rfl, hg8, hk8⟩
                    dsimp only [LA.cs]
                    have HG8 := Lib.hid hg8
                    have HK8 := Lib.hid ((HK5.out.trans HKv.out).trans hk8)
                    have HM8 := Lib.hid (HMb.out.keep hk8 (fun h => h))
                    clear hg8 hk8 HC y0 y1 y2 o0 o1 o2 o3 o4
                    have y0 : v8.cell? ⟨b8, 0, none⟩ = some (.slice A n c) := HM8.out.cell 0
                    have y1 : v8.cell? ⟨b8, 1, none⟩ = some (.slice A2 n2 c2) := HM8.out.cell 1
                    have y2 : v8.cell? ⟨b8, 2, none⟩ = some (.bool k) := HM8.out.cell 2
                    have yf0 := HM8.out.frozen 0
                    have yf1 := HM8.out.frozen 1
                    have yf2 := HM8.out.frozen 2
                    go_upto_region 19 with (fail)
                    obtain ⟨v9, hv9⟩ : ∃ W : World, ((v8.setCell ⟨b8, 0, none⟩ (.slice A3 n3 c3)).setCell ⟨b8, 1, none⟩ (.slice A4 n4 c4)).setCell ⟨b8, 2, none⟩ (.bool k4) = W := ⟨_, rfl⟩
                    rw [hv9]
                    have k9 : Keep (fun q => q = b8) v8 v9 := by rw [← hv9]; exact putL_keep (Keep.refl (fun q => q = b8) v8) (.inl rfl) _ _ _
                    have HM9 : Hid (Blk v9 (b8) 53 #[.slice A3 n3 c3, .slice A4 n4 c4, .bool k4]) := Lib.hid (by rw [← hv9]; exact putL_blk HM8.out _ _ _)
                    clear hv9
                    have HG9 := Lib.hid (HG8.out.keep k9 (Far2.blk HM8.out (by decide) (by decide) HMi.out.low.1))
                    have HK9 := Lib.hid (HK8.out.then_ k9 (fun i hi e => by have := HMi.out.low.2; omega))
                    clear k9 y0 y1 y2 yf0 yf1 yf2
                    have HB9 := Lib.hid (done_bnd HMi.out.may HMi.out.bnd HOb.out)
                    have HY9 := Lib.hid (done_may HMi.out.may (ok, ot, oe, ox, oy))
                    have HL9 := Lib.hid (HB9.out.ld HG9.out (by omega))
                    have HX9 := Lib.hid (adds_step HMi.out.may (HNx.out (HNf.out.1)) (ok, ot, oe, ox, oy) HNf.out.2)
                    have HC := Lib.hid (gheld_any _ _ W.heap.size v9 HG9.out HL9.out.small (HB9.out.all (by omega)) HK9.out.size)
                    dsimp only [LA.cs] at HC
                    have y0 : v9.cell? ⟨b8, 0, none⟩ = some (.slice A3 n3 c3) := HM9.out.cell 0
                    have y1 : v9.cell? ⟨b8, 1, none⟩ = some (.slice A4 n4 c4) := HM9.out.cell 1
                    have y2 : v9.cell? ⟨b8, 2, none⟩ = some (.bool k4) := HM9.out.cell 2
                    go_wp2_with fail
                    refine HC.out.mono ?_
                    rintro e v10 ⟨A5, n5, c5, rfl, hs10, hk10⟩
                    have HK10 := Lib.hid (HK9.out.trans hk10)
                    have HM10 := Lib.hid (HM9.out.keep hk10 (fun h => h))
                    have HG10 := Lib.hid (HG9.out.never hk10)
                    have hn5 : n5 ≤ 100000000000 := by have h1 := hs10.at_.len; have h2 := held_len HB9.out (by omega); omega
                    have HC := Lib.hid (has_any A5 n5 c5 _ _ ed at_ v10 hs10.at_.rd hn5)
                    rw [adds_held HY9.out HX9.out] at HC
                    clear hs10 hk10 hn5 y0 y1 y2
                    go_wp2_with fail
                    refine HC.out.mono ?_
                    rintro e v11 ⟨rfl, hk11⟩
                    have HK11 := Lib.hid (HK10.out.trans hk11)
                    have HM11 := Lib.hid (HM10.out.keep hk11 (fun h => h))
                    have HG11 := Lib.hid (HG10.out.never hk11)
                    clear hk11 HC
                    have HC := Lib.hid (gMay_any _ _ _ v11 HG11.out.ld HL9.out.small (Nat.le_refl _))
                    rw [HY9.out] at HC
                    dsimp only [LA.cs] at HC
                    have y0 : v11.cell? ⟨b8, 0, none⟩ = some (.slice A3 n3 c3) := HM11.out.cell 0
                    have y1 : v11.cell? ⟨b8, 1, none⟩ = some (.slice A4 n4 c4) := HM11.out.cell 1
                    have y2 : v11.cell? ⟨b8, 2, none⟩ = some (.bool k4) := HM11.out.cell 2
                    go_wp2_with fail
                    refine HC.out.mono ?_
                    rintro e v12 ⟨rfl, hk12⟩
                    have HI' : Hid (MI W.heap.size W b8 (q + 1) ⟨A3, n3, c3, A4, n4, c4, k4⟩ (doneM (es, hr, k) (ok, ot, oe, ox, oy)) v12) := Lib.hid ⟨HK11.out.trans hk12, HM11.out.keep hk12 (fun h => h), HG11.out.never hk12, HY9.out, by have := HB9.out; exact this, HMi.out.low⟩
                    clear hk12 HC y0 y1 y2
                    go_wp2_with fail
                    refine ⟨⟨q + 1, false, _, _, by omega, rfl, by go_num, HI', Lib.hid (fun _ => HX9.out)⟩, ?_⟩
                    simp [intOf]; try omega
                · have t3 : (ok == 3) = false := by simpa using g3
                  have HNf : Hid (nb = false ∧ namedB ed at_ (ok, ot, oe, ox, oy) = false) := Lib.hid ⟨HNb.out.1, by unfold namedB; simp only; rw [HNb.out.2, decide_eq_false g3]; rfl⟩
                  go_upto_region 18 with (fail)
                  clear o0 o2
                  have HC := Lib.hid (done_any ⟨A, n, c, A2, n2, c2, k⟩ (es, hr, k) ⟨ok, ot, Oa, on, oc, X, xn, xc, Y, yn, yc⟩ (ok, ot, oe, ox, oy) W.heap.size v7 (HG.out.never HKv.out) (HOp.out.never HKv.out) HLb.out HOb.out (Nat.le_trans HK5.out.size HKv.out.size))
                  dsimp only [LA.cs, OA.cs] at HC
                  have HMb := Lib.hid (HMi.out.blk.keep HKv.out (fun h => h))
                  have HOb7 := Lib.hid (HOx.out.keep HKv.out (fun h => h))
                  have y0 : v7.cell? ⟨b8, 0, none⟩ = some (.slice A n c) := HMb.out.cell 0
                  have y1 : v7.cell? ⟨b8, 1, none⟩ = some (.slice A2 n2 c2) := HMb.out.cell 1
                  have y2 : v7.cell? ⟨b8, 2, none⟩ = some (.bool k) := HMb.out.cell 2
                  have o0 : v7.cell? ⟨bo, 0, none⟩ = some (.int .i64 ok) := HOb7.out.cell 0
                  have o1 : v7.cell? ⟨bo, 1, none⟩ = some (.int .i64 ot) := HOb7.out.cell 1
                  have o2 : v7.cell? ⟨bo, 2, none⟩ = some (.slice Oa on oc) := HOb7.out.cell 2
                  have o3 : v7.cell? ⟨bo, 3, none⟩ = some (.slice X xn xc) := HOb7.out.cell 3
                  have o4 : v7.cell? ⟨bo, 4, none⟩ = some (.slice Y yn yc) := HOb7.out.cell 4
                  go_wp2_with fail
                  refine HC.out.mono ?_
                  rintro e v8 ⟨⟨A3, n3, c3, A4, n4, c4, k4⟩, rfl, hg8, hk8⟩
                  dsimp only [LA.cs]
                  have HG8 := Lib.hid hg8
                  have HK8 := Lib.hid ((HK5.out.trans HKv.out).trans hk8)
                  have HM8 := Lib.hid (HMb.out.keep hk8 (fun h => h))
                  clear hg8 hk8 HC y0 y1 y2 o0 o1 o2 o3 o4
                  have y0 : v8.cell? ⟨b8, 0, none⟩ = some (.slice A n c) := HM8.out.cell 0
                  have y1 : v8.cell? ⟨b8, 1, none⟩ = some (.slice A2 n2 c2) := HM8.out.cell 1
                  have y2 : v8.cell? ⟨b8, 2, none⟩ = some (.bool k) := HM8.out.cell 2
                  have yf0 := HM8.out.frozen 0
                  have yf1 := HM8.out.frozen 1
                  have yf2 := HM8.out.frozen 2
                  go_upto_region 19 with (fail)
                  obtain ⟨v9, hv9⟩ : ∃ W : World, ((v8.setCell ⟨b8, 0, none⟩ (.slice A3 n3 c3)).setCell ⟨b8, 1, none⟩ (.slice A4 n4 c4)).setCell ⟨b8, 2, none⟩ (.bool k4) = W := ⟨_, rfl⟩
                  rw [hv9]
                  have k9 : Keep (fun q => q = b8) v8 v9 := by rw [← hv9]; exact putL_keep (Keep.refl (fun q => q = b8) v8) (.inl rfl) _ _ _
                  have HM9 : Hid (Blk v9 (b8) 53 #[.slice A3 n3 c3, .slice A4 n4 c4, .bool k4]) := Lib.hid (by rw [← hv9]; exact putL_blk HM8.out _ _ _)
                  clear hv9
                  have HG9 := Lib.hid (HG8.out.keep k9 (Far2.blk HM8.out (by decide) (by decide) HMi.out.low.1))
                  have HK9 := Lib.hid (HK8.out.then_ k9 (fun i hi e => by have := HMi.out.low.2; omega))
                  clear k9 y0 y1 y2 yf0 yf1 yf2
                  have HB9 := Lib.hid (done_bnd HMi.out.may HMi.out.bnd HOb.out)
                  have HY9 := Lib.hid (done_may HMi.out.may (ok, ot, oe, ox, oy))
                  have HL9 := Lib.hid (HB9.out.ld HG9.out (by omega))
                  have HX9 := Lib.hid (adds_step HMi.out.may (HNx.out (HNf.out.1)) (ok, ot, oe, ox, oy) HNf.out.2)
                  have HC := Lib.hid (gheld_any _ _ W.heap.size v9 HG9.out HL9.out.small (HB9.out.all (by omega)) HK9.out.size)
                  dsimp only [LA.cs] at HC
                  have y0 : v9.cell? ⟨b8, 0, none⟩ = some (.slice A3 n3 c3) := HM9.out.cell 0
                  have y1 : v9.cell? ⟨b8, 1, none⟩ = some (.slice A4 n4 c4) := HM9.out.cell 1
                  have y2 : v9.cell? ⟨b8, 2, none⟩ = some (.bool k4) := HM9.out.cell 2
                  go_wp2_with fail
                  refine HC.out.mono ?_
                  rintro e v10 ⟨A5, n5, c5, rfl, hs10, hk10⟩
                  have HK10 := Lib.hid (HK9.out.trans hk10)
                  have HM10 := Lib.hid (HM9.out.keep hk10 (fun h => h))
                  have HG10 := Lib.hid (HG9.out.never hk10)
                  have hn5 : n5 ≤ 100000000000 := by have h1 := hs10.at_.len; have h2 := held_len HB9.out (by omega); omega
                  have HC := Lib.hid (has_any A5 n5 c5 _ _ ed at_ v10 hs10.at_.rd hn5)
                  rw [adds_held HY9.out HX9.out] at HC
                  clear hs10 hk10 hn5 y0 y1 y2
                  go_wp2_with fail
                  refine HC.out.mono ?_
                  rintro e v11 ⟨rfl, hk11⟩
                  have HK11 := Lib.hid (HK10.out.trans hk11)
                  have HM11 := Lib.hid (HM10.out.keep hk11 (fun h => h))
                  have HG11 := Lib.hid (HG10.out.never hk11)
                  clear hk11 HC
                  have HC := Lib.hid (gMay_any _ _ _ v11 HG11.out.ld HL9.out.small (Nat.le_refl _))
                  rw [HY9.out] at HC
                  dsimp only [LA.cs] at HC
                  have y0 : v11.cell? ⟨b8, 0, none⟩ = some (.slice A3 n3 c3) := HM11.out.cell 0
                  have y1 : v11.cell? ⟨b8, 1, none⟩ = some (.slice A4 n4 c4) := HM11.out.cell 1
                  have y2 : v11.cell? ⟨b8, 2, none⟩ = some (.bool k4) := HM11.out.cell 2
                  go_wp2_with fail
                  refine HC.out.mono ?_
                  rintro e v12 ⟨rfl, hk12⟩
                  have HI' : Hid (MI W.heap.size W b8 (q + 1) ⟨A3, n3, c3, A4, n4, c4, k4⟩ (doneM (es, hr, k) (ok, ot, oe, ox, oy)) v12) := Lib.hid ⟨HK11.out.trans hk12, HM11.out.keep hk12 (fun h => h), HG11.out.never hk12, HY9.out, by have := HB9.out; exact this, HMi.out.low⟩
                  clear hk12 HC y0 y1 y2
                  go_wp2_with fail
                  refine ⟨⟨q + 1, false, _, _, by omega, rfl, by go_num, HI', Lib.hid (fun _ => HX9.out)⟩, ?_⟩
                  simp [intOf]; try omega
            · obtain rfl : on = j := hjo.symm
              have hjz : ¬ (on : Int) < (on : Int) := by omega
              cases nj with
              | true =>
                go_upto_region 18 with (fail)
                clear o0 o2
                have HC := Lib.hid (done_any ⟨A, n, c, A2, n2, c2, k⟩ (es, hr, k) ⟨ok, ot, Oa, on, oc, X, xn, xc, Y, yn, yc⟩ (ok, ot, oe, ox, oy) W.heap.size v7 (HG.out.never HKv.out) (HOp.out.never HKv.out) HLb.out HOb.out (Nat.le_trans HK5.out.size HKv.out.size))
                dsimp only [LA.cs, OA.cs] at HC
                have HMb := Lib.hid (HMi.out.blk.keep HKv.out (fun h => h))
                have HOb7 := Lib.hid (HOx.out.keep HKv.out (fun h => h))
                have y0 : v7.cell? ⟨b8, 0, none⟩ = some (.slice A n c) := HMb.out.cell 0
                have y1 : v7.cell? ⟨b8, 1, none⟩ = some (.slice A2 n2 c2) := HMb.out.cell 1
                have y2 : v7.cell? ⟨b8, 2, none⟩ = some (.bool k) := HMb.out.cell 2
                have o0 : v7.cell? ⟨bo, 0, none⟩ = some (.int .i64 ok) := HOb7.out.cell 0
                have o1 : v7.cell? ⟨bo, 1, none⟩ = some (.int .i64 ot) := HOb7.out.cell 1
                have o2 : v7.cell? ⟨bo, 2, none⟩ = some (.slice Oa on oc) := HOb7.out.cell 2
                have o3 : v7.cell? ⟨bo, 3, none⟩ = some (.slice X xn xc) := HOb7.out.cell 3
                have o4 : v7.cell? ⟨bo, 4, none⟩ = some (.slice Y yn yc) := HOb7.out.cell 4
                go_wp2_with fail
                refine HC.out.mono ?_
                rintro e v8 ⟨⟨A3, n3, c3, A4, n4, c4, k4⟩, rfl, hg8, hk8⟩
                dsimp only [LA.cs]
                have HG8 := Lib.hid hg8
                have HK8 := Lib.hid ((HK5.out.trans HKv.out).trans hk8)
                have HM8 := Lib.hid (HMb.out.keep hk8 (fun h => h))
                clear hg8 hk8 HC y0 y1 y2 o0 o1 o2 o3 o4
                have y0 : v8.cell? ⟨b8, 0, none⟩ = some (.slice A n c) := HM8.out.cell 0
                have y1 : v8.cell? ⟨b8, 1, none⟩ = some (.slice A2 n2 c2) := HM8.out.cell 1
                have y2 : v8.cell? ⟨b8, 2, none⟩ = some (.bool k) := HM8.out.cell 2
                have yf0 := HM8.out.frozen 0
                have yf1 := HM8.out.frozen 1
                have yf2 := HM8.out.frozen 2
                go_upto_region 19 with (fail)
                obtain ⟨v9, hv9⟩ : ∃ W : World, ((v8.setCell ⟨b8, 0, none⟩ (.slice A3 n3 c3)).setCell ⟨b8, 1, none⟩ (.slice A4 n4 c4)).setCell ⟨b8, 2, none⟩ (.bool k4) = W := ⟨_, rfl⟩
                rw [hv9]
                have k9 : Keep (fun q => q = b8) v8 v9 := by rw [← hv9]; exact putL_keep (Keep.refl (fun q => q = b8) v8) (.inl rfl) _ _ _
                have HM9 : Hid (Blk v9 (b8) 53 #[.slice A3 n3 c3, .slice A4 n4 c4, .bool k4]) := Lib.hid (by rw [← hv9]; exact putL_blk HM8.out _ _ _)
                clear hv9
                have HG9 := Lib.hid (HG8.out.keep k9 (Far2.blk HM8.out (by decide) (by decide) HMi.out.low.1))
                have HK9 := Lib.hid (HK8.out.then_ k9 (fun i hi e => by have := HMi.out.low.2; omega))
                clear k9 y0 y1 y2 yf0 yf1 yf2
                have HB9 := Lib.hid (done_bnd HMi.out.may HMi.out.bnd HOb.out)
                have HY9 := Lib.hid (done_may HMi.out.may (ok, ot, oe, ox, oy))
                have HL9 := Lib.hid (HB9.out.ld HG9.out (by omega))
                have HC := Lib.hid (gMay_any _ _ _ v9 HG9.out.ld HL9.out.small (Nat.le_refl _))
                rw [HY9.out] at HC
                dsimp only [LA.cs] at HC
                have y0 : v9.cell? ⟨b8, 0, none⟩ = some (.slice A3 n3 c3) := HM9.out.cell 0
                have y1 : v9.cell? ⟨b8, 1, none⟩ = some (.slice A4 n4 c4) := HM9.out.cell 1
                have y2 : v9.cell? ⟨b8, 2, none⟩ = some (.bool k4) := HM9.out.cell 2
                go_wp2_with fail
                refine HC.out.mono ?_
                rintro e v12 ⟨rfl, hk12⟩
                have HI' : Hid (MI W.heap.size W b8 (q + 1) ⟨A3, n3, c3, A4, n4, c4, k4⟩ (doneM (es, hr, k) (ok, ot, oe, ox, oy)) v12) := Lib.hid ⟨HK9.out.trans hk12, HM9.out.keep hk12 (fun h => h), HG9.out.never hk12, HY9.out, by have := HB9.out; exact this, HMi.out.low⟩
                clear hk12 HC y0 y1 y2
                go_wp2_with fail
                refine ⟨⟨q + 1, true, _, _, by omega, rfl, by go_num, HI', Lib.hid (fun h => by cases h)⟩, ?_⟩
                simp [intOf]; try omega
              | false =>
                have HNb : Hid (nb = false ∧ (decide (ok = 0) && oe.any fun e => hasL e.2.2.1 ed at_) = false) := Lib.hid (by have h := HNe.out.symm; rw [Bool.or_eq_false_iff] at h; exact h)
                by_cases g3 : ok = 3
                · have t3 : (ok == 3) = true := by simpa using g3
                  clear g3
                  have o3 : v7.cell? ⟨bo, 3, none⟩ = some (.slice X xn xc) := (HOx.out.keep HKv.out (fun h => h)).cell 3
                  have hsx := (HOp.out.never HKv.out).sx.at_
                  have hxn : xn ≤ 100000000000 := by have h1 := hsx.len; have h2 := HOb.out.x; simp only at h1 h2; omega
                  have HC := Lib.hid (has_any X xn xc _ ox ed at_ v7 hsx.rd hxn)
                  clear hsx hxn
                  go_wp2_with fail
                  refine HC.out.mono ?_
                  rintro e' v8 ⟨rfl, hk8⟩
                  have HKv8 := Lib.hid (HKv.out.trans hk8)
                  clear hk8 HC o0 o2 o3 HKv HJ
                  obtain ⟨v7, hv7⟩ : ∃ z, v8 = z := ⟨_, rfl⟩
                  rw [hv7] at HKv8
                  rw [hv7]
                  clear hv7
                  have HKv := HKv8
                  clear HKv8
                  cases hb : hasL ox ed at_ with
                  | true =>
                    clear hb
                    go_upto_region 18 with (fail)
                    have HC := Lib.hid (done_any ⟨A, n, c, A2, n2, c2, k⟩ (es, hr, k) ⟨ok, ot, Oa, on, oc, X, xn, xc, Y, yn, yc⟩ (ok, ot, oe, ox, oy) W.heap.size v7 (HG.out.never HKv.out) (HOp.out.never HKv.out) HLb.out HOb.out (Nat.le_trans HK5.out.size HKv.out.size))
                    dsimp only [LA.cs, OA.cs] at HC
                    have HMb := Lib.hid (HMi.out.blk.keep HKv.out (fun h => h))
                    have HOb7 := Lib.hid (HOx.out.keep HKv.out (fun h => h))
                    have y0 : v7.cell? ⟨b8, 0, none⟩ = some (.slice A n c) := HMb.out.cell 0
                    have y1 : v7.cell? ⟨b8, 1, none⟩ = some (.slice A2 n2 c2) := HMb.out.cell 1
                    have y2 : v7.cell? ⟨b8, 2, none⟩ = some (.bool k) := HMb.out.cell 2
                    have o0 : v7.cell? ⟨bo, 0, none⟩ = some (.int .i64 ok) := HOb7.out.cell 0
                    have o1 : v7.cell? ⟨bo, 1, none⟩ = some (.int .i64 ot) := HOb7.out.cell 1
                    have o2 : v7.cell? ⟨bo, 2, none⟩ = some (.slice Oa on oc) := HOb7.out.cell 2
                    have o3 : v7.cell? ⟨bo, 3, none⟩ = some (.slice X xn xc) := HOb7.out.cell 3
                    have o4 : v7.cell? ⟨bo, 4, none⟩ = some (.slice Y yn yc) := HOb7.out.cell 4
                    go_wp2_with fail
                    refine HC.out.mono ?_
                    rintro e v8 ⟨⟨A3, n3, c3, A4, n4, c4, k4⟩, rfl, hg8, hk8⟩
                    dsimp only [LA.cs]
                    have HG8 := Lib.hid hg8
                    have HK8 := Lib.hid ((HK5.out.trans HKv.out).trans hk8)
                    have HM8 := Lib.hid (HMb.out.keep hk8 (fun h => h))
                    clear hg8 hk8 HC y0 y1 y2 o0 o1 o2 o3 o4
                    have y0 : v8.cell? ⟨b8, 0, none⟩ = some (.slice A n c) := HM8.out.cell 0
                    have y1 : v8.cell? ⟨b8, 1, none⟩ = some (.slice A2 n2 c2) := HM8.out.cell 1
                    have y2 : v8.cell? ⟨b8, 2, none⟩ = some (.bool k) := HM8.out.cell 2
                    have yf0 := HM8.out.frozen 0
                    have yf1 := HM8.out.frozen 1
                    have yf2 := HM8.out.frozen 2
                    go_upto_region 19 with (fail)
                    obtain ⟨v9, hv9⟩ : ∃ W : World, ((v8.setCell ⟨b8, 0, none⟩ (.slice A3 n3 c3)).setCell ⟨b8, 1, none⟩ (.slice A4 n4 c4)).setCell ⟨b8, 2, none⟩ (.bool k4) = W := ⟨_, rfl⟩
                    rw [hv9]
                    have k9 : Keep (fun q => q = b8) v8 v9 := by rw [← hv9]; exact putL_keep (Keep.refl (fun q => q = b8) v8) (.inl rfl) _ _ _
                    have HM9 : Hid (Blk v9 (b8) 53 #[.slice A3 n3 c3, .slice A4 n4 c4, .bool k4]) := Lib.hid (by rw [← hv9]; exact putL_blk HM8.out _ _ _)
                    clear hv9
                    have HG9 := Lib.hid (HG8.out.keep k9 (Far2.blk HM8.out (by decide) (by decide) HMi.out.low.1))
                    have HK9 := Lib.hid (HK8.out.then_ k9 (fun i hi e => by have := HMi.out.low.2; omega))
                    clear k9 y0 y1 y2 yf0 yf1 yf2
                    have HB9 := Lib.hid (done_bnd HMi.out.may HMi.out.bnd HOb.out)
                    have HY9 := Lib.hid (done_may HMi.out.may (ok, ot, oe, ox, oy))
                    have HL9 := Lib.hid (HB9.out.ld HG9.out (by omega))
                    have HC := Lib.hid (gMay_any _ _ _ v9 HG9.out.ld HL9.out.small (Nat.le_refl _))
                    rw [HY9.out] at HC
                    dsimp only [LA.cs] at HC
                    have y0 : v9.cell? ⟨b8, 0, none⟩ = some (.slice A3 n3 c3) := HM9.out.cell 0
                    have y1 : v9.cell? ⟨b8, 1, none⟩ = some (.slice A4 n4 c4) := HM9.out.cell 1
                    have y2 : v9.cell? ⟨b8, 2, none⟩ = some (.bool k4) := HM9.out.cell 2
                    go_wp2_with fail
                    refine HC.out.mono ?_
                    rintro e v12 ⟨rfl, hk12⟩
                    have HI' : Hid (MI W.heap.size W b8 (q + 1) ⟨A3, n3, c3, A4, n4, c4, k4⟩ (doneM (es, hr, k) (ok, ot, oe, ox, oy)) v12) := Lib.hid ⟨HK9.out.trans hk12, HM9.out.keep hk12 (fun h => h), HG9.out.never hk12, HY9.out, by have := HB9.out; exact this, HMi.out.low⟩
                    clear hk12 HC y0 y1 y2
                    go_wp2_with fail
                    refine ⟨⟨q + 1, true, _, _, by omega, rfl, by go_num, HI', Lib.hid (fun h => by cases h)⟩, ?_⟩
                    simp [intOf]; try omega
                  | false =>
                    have HNf : Hid (nb = false ∧ namedB ed at_ (ok, ot, oe, ox, oy) = false) := Lib.hid ⟨HNb.out.1, by unfold namedB; simp only; rw [HNb.out.2, hb]; simp⟩
                    clear hb
                    go_upto_region 18 with (fail)
                    have HC := Lib.hid (done_any ⟨A, n, c, A2, n2, c2, k⟩ (es, hr, k) ⟨ok, ot, Oa, on, oc, X, xn, xc, Y, yn, yc⟩ (ok, ot, oe, ox, oy) W.heap.size v7 (HG.out.never HKv.out) (HOp.out.never HKv.out) HLb.out HOb.out (Nat.le_trans HK5.out.size HKv.out.size))
                    dsimp only [LA.cs, OA.cs] at HC
                    have HMb := Lib.hid (HMi.out.blk.keep HKv.out (fun h => h))
                    have HOb7 := Lib.hid (HOx.out.keep HKv.out (fun h => h))
                    have y0 : v7.cell? ⟨b8, 0, none⟩ = some (.slice A n c) := HMb.out.cell 0
                    have y1 : v7.cell? ⟨b8, 1, none⟩ = some (.slice A2 n2 c2) := HMb.out.cell 1
                    have y2 : v7.cell? ⟨b8, 2, none⟩ = some (.bool k) := HMb.out.cell 2
                    have o0 : v7.cell? ⟨bo, 0, none⟩ = some (.int .i64 ok) := HOb7.out.cell 0
                    have o1 : v7.cell? ⟨bo, 1, none⟩ = some (.int .i64 ot) := HOb7.out.cell 1
                    have o2 : v7.cell? ⟨bo, 2, none⟩ = some (.slice Oa on oc) := HOb7.out.cell 2
                    have o3 : v7.cell? ⟨bo, 3, none⟩ = some (.slice X xn xc) := HOb7.out.cell 3
                    have o4 : v7.cell? ⟨bo, 4, none⟩ = some (.slice Y yn yc) := HOb7.out.cell 4
                    go_wp2_with fail
                    refine HC.out.mono ?_
                    rintro e v8 ⟨⟨A3, n3, c3, A4, n4, c4, k4⟩, rfl, hg8, hk8⟩
                    dsimp only [LA.cs]
                    have HG8 := Lib.hid hg8
                    have HK8 := Lib.hid ((HK5.out.trans HKv.out).trans hk8)
                    have HM8 := Lib.hid (HMb.out.keep hk8 (fun h => h))
                    clear hg8 hk8 HC y0 y1 y2 o0 o1 o2 o3 o4
                    have y0 : v8.cell? ⟨b8, 0, none⟩ = some (.slice A n c) := HM8.out.cell 0
                    have y1 : v8.cell? ⟨b8, 1, none⟩ = some (.slice A2 n2 c2) := HM8.out.cell 1
                    have y2 : v8.cell? ⟨b8, 2, none⟩ = some (.bool k) := HM8.out.cell 2
                    have yf0 := HM8.out.frozen 0
                    have yf1 := HM8.out.frozen 1
                    have yf2 := HM8.out.frozen 2
                    go_upto_region 19 with (fail)
                    obtain ⟨v9, hv9⟩ : ∃ W : World, ((v8.setCell ⟨b8, 0, none⟩ (.slice A3 n3 c3)).setCell ⟨b8, 1, none⟩ (.slice A4 n4 c4)).setCell ⟨b8, 2, none⟩ (.bool k4) = W := ⟨_, rfl⟩
                    rw [hv9]
                    have k9 : Keep (fun q => q = b8) v8 v9 := by rw [← hv9]; exact putL_keep (Keep.refl (fun q => q = b8) v8) (.inl rfl) _ _ _
                    have HM9 : Hid (Blk v9 (b8) 53 #[.slice A3 n3 c3, .slice A4 n4 c4, .bool k4]) := Lib.hid (by rw [← hv9]; exact putL_blk HM8.out _ _ _)
                    clear hv9
                    have HG9 := Lib.hid (HG8.out.keep k9 (Far2.blk HM8.out (by decide) (by decide) HMi.out.low.1))
                    have HK9 := Lib.hid (HK8.out.then_ k9 (fun i hi e => by have := HMi.out.low.2; omega))
                    clear k9 y0 y1 y2 yf0 yf1 yf2
                    have HB9 := Lib.hid (done_bnd HMi.out.may HMi.out.bnd HOb.out)
                    have HY9 := Lib.hid (done_may HMi.out.may (ok, ot, oe, ox, oy))
                    have HL9 := Lib.hid (HB9.out.ld HG9.out (by omega))
                    have HX9 := Lib.hid (adds_step HMi.out.may (HNx.out (HNf.out.1)) (ok, ot, oe, ox, oy) HNf.out.2)
                    have HC := Lib.hid (gheld_any _ _ W.heap.size v9 HG9.out HL9.out.small (HB9.out.all (by omega)) HK9.out.size)
                    dsimp only [LA.cs] at HC
                    have y0 : v9.cell? ⟨b8, 0, none⟩ = some (.slice A3 n3 c3) := HM9.out.cell 0
                    have y1 : v9.cell? ⟨b8, 1, none⟩ = some (.slice A4 n4 c4) := HM9.out.cell 1
                    have y2 : v9.cell? ⟨b8, 2, none⟩ = some (.bool k4) := HM9.out.cell 2
                    go_wp2_with fail
                    refine HC.out.mono ?_
                    rintro e v10 ⟨A5, n5, c5, rfl, hs10, hk10⟩
                    have HK10 := Lib.hid (HK9.out.trans hk10)
                    have HM10 := Lib.hid (HM9.out.keep hk10 (fun h => h))
                    have HG10 := Lib.hid (HG9.out.never hk10)
                    have hn5 : n5 ≤ 100000000000 := by have h1 := hs10.at_.len; have h2 := held_len HB9.out (by omega); omega
                    have HC := Lib.hid (has_any A5 n5 c5 _ _ ed at_ v10 hs10.at_.rd hn5)
                    rw [adds_held HY9.out HX9.out] at HC
                    clear hs10 hk10 hn5 y0 y1 y2
                    go_wp2_with fail
                    refine HC.out.mono ?_
                    rintro e v11 ⟨rfl, hk11⟩
                    have HK11 := Lib.hid (HK10.out.trans hk11)
                    have HM11 := Lib.hid (HM10.out.keep hk11 (fun h => h))
                    have HG11 := Lib.hid (HG10.out.never hk11)
                    clear hk11 HC
                    have HC := Lib.hid (gMay_any _ _ _ v11 HG11.out.ld HL9.out.small (Nat.le_refl _))
                    rw [HY9.out] at HC
                    dsimp only [LA.cs] at HC
                    have y0 : v11.cell? ⟨b8, 0, none⟩ = some (.slice A3 n3 c3) := HM11.out.cell 0
                    have y1 : v11.cell? ⟨b8, 1, none⟩ = some (.slice A4 n4 c4) := HM11.out.cell 1
                    have y2 : v11.cell? ⟨b8, 2, none⟩ = some (.bool k4) := HM11.out.cell 2
                    go_wp2_with fail
                    refine HC.out.mono ?_
                    rintro e v12 ⟨rfl, hk12⟩
                    have HI' : Hid (MI W.heap.size W b8 (q + 1) ⟨A3, n3, c3, A4, n4, c4, k4⟩ (doneM (es, hr, k) (ok, ot, oe, ox, oy)) v12) := Lib.hid ⟨HK11.out.trans hk12, HM11.out.keep hk12 (fun h => h), HG11.out.never hk12, HY9.out, by have := HB9.out; exact this, HMi.out.low⟩
                    clear hk12 HC y0 y1 y2
                    go_wp2_with fail
                    refine ⟨⟨q + 1, false, _, _, by omega, rfl, by go_num, HI', Lib.hid (fun _ => HX9.out)⟩, ?_⟩
                    simp [intOf]; try omega
                · have t3 : (ok == 3) = false := by simpa using g3
                  have HNf : Hid (nb = false ∧ namedB ed at_ (ok, ot, oe, ox, oy) = false) := Lib.hid ⟨HNb.out.1, by unfold namedB; simp only; rw [HNb.out.2, decide_eq_false g3]; rfl⟩
                  go_upto_region 18 with (fail)
                  clear o0 o2
                  have HC := Lib.hid (done_any ⟨A, n, c, A2, n2, c2, k⟩ (es, hr, k) ⟨ok, ot, Oa, on, oc, X, xn, xc, Y, yn, yc⟩ (ok, ot, oe, ox, oy) W.heap.size v7 (HG.out.never HKv.out) (HOp.out.never HKv.out) HLb.out HOb.out (Nat.le_trans HK5.out.size HKv.out.size))
                  dsimp only [LA.cs, OA.cs] at HC
                  have HMb := Lib.hid (HMi.out.blk.keep HKv.out (fun h => h))
                  have HOb7 := Lib.hid (HOx.out.keep HKv.out (fun h => h))
                  have y0 : v7.cell? ⟨b8, 0, none⟩ = some (.slice A n c) := HMb.out.cell 0
                  have y1 : v7.cell? ⟨b8, 1, none⟩ = some (.slice A2 n2 c2) := HMb.out.cell 1
                  have y2 : v7.cell? ⟨b8, 2, none⟩ = some (.bool k) := HMb.out.cell 2
                  have o0 : v7.cell? ⟨bo, 0, none⟩ = some (.int .i64 ok) := HOb7.out.cell 0
                  have o1 : v7.cell? ⟨bo, 1, none⟩ = some (.int .i64 ot) := HOb7.out.cell 1
                  have o2 : v7.cell? ⟨bo, 2, none⟩ = some (.slice Oa on oc) := HOb7.out.cell 2
                  have o3 : v7.cell? ⟨bo, 3, none⟩ = some (.slice X xn xc) := HOb7.out.cell 3
                  have o4 : v7.cell? ⟨bo, 4, none⟩ = some (.slice Y yn yc) := HOb7.out.cell 4
                  go_wp2_with fail
                  refine HC.out.mono ?_
                  rintro e v8 ⟨⟨A3, n3, c3, A4, n4, c4, k4⟩, rfl, hg8, hk8⟩
                  dsimp only [LA.cs]
                  have HG8 := Lib.hid hg8
                  have HK8 := Lib.hid ((HK5.out.trans HKv.out).trans hk8)
                  have HM8 := Lib.hid (HMb.out.keep hk8 (fun h => h))
                  clear hg8 hk8 HC y0 y1 y2 o0 o1 o2 o3 o4
                  have y0 : v8.cell? ⟨b8, 0, none⟩ = some (.slice A n c) := HM8.out.cell 0
                  have y1 : v8.cell? ⟨b8, 1, none⟩ = some (.slice A2 n2 c2) := HM8.out.cell 1
                  have y2 : v8.cell? ⟨b8, 2, none⟩ = some (.bool k) := HM8.out.cell 2
                  have yf0 := HM8.out.frozen 0
                  have yf1 := HM8.out.frozen 1
                  have yf2 := HM8.out.frozen 2
                  go_upto_region 19 with (fail)
                  obtain ⟨v9, hv9⟩ : ∃ W : World, ((v8.setCell ⟨b8, 0, none⟩ (.slice A3 n3 c3)).setCell ⟨b8, 1, none⟩ (.slice A4 n4 c4)).setCell ⟨b8, 2, none⟩ (.bool k4) = W := ⟨_, rfl⟩
                  rw [hv9]
                  have k9 : Keep (fun q => q = b8) v8 v9 := by rw [← hv9]; exact putL_keep (Keep.refl (fun q => q = b8) v8) (.inl rfl) _ _ _
                  have HM9 : Hid (Blk v9 (b8) 53 #[.slice A3 n3 c3, .slice A4 n4 c4, .bool k4]) := Lib.hid (by rw [← hv9]; exact putL_blk HM8.out _ _ _)
                  clear hv9
                  have HG9 := Lib.hid (HG8.out.keep k9 (Far2.blk HM8.out (by decide) (by decide) HMi.out.low.1))
                  have HK9 := Lib.hid (HK8.out.then_ k9 (fun i hi e => by have := HMi.out.low.2; omega))
                  clear k9 y0 y1 y2 yf0 yf1 yf2
                  have HB9 := Lib.hid (done_bnd HMi.out.may HMi.out.bnd HOb.out)
                  have HY9 := Lib.hid (done_may HMi.out.may (ok, ot, oe, ox, oy))
                  have HL9 := Lib.hid (HB9.out.ld HG9.out (by omega))
                  have HX9 := Lib.hid (adds_step HMi.out.may (HNx.out (HNf.out.1)) (ok, ot, oe, ox, oy) HNf.out.2)
                  have HC := Lib.hid (gheld_any _ _ W.heap.size v9 HG9.out HL9.out.small (HB9.out.all (by omega)) HK9.out.size)
                  dsimp only [LA.cs] at HC
                  have y0 : v9.cell? ⟨b8, 0, none⟩ = some (.slice A3 n3 c3) := HM9.out.cell 0
                  have y1 : v9.cell? ⟨b8, 1, none⟩ = some (.slice A4 n4 c4) := HM9.out.cell 1
                  have y2 : v9.cell? ⟨b8, 2, none⟩ = some (.bool k4) := HM9.out.cell 2
                  go_wp2_with fail
                  refine HC.out.mono ?_
                  rintro e v10 ⟨A5, n5, c5, rfl, hs10, hk10⟩
                  have HK10 := Lib.hid (HK9.out.trans hk10)
                  have HM10 := Lib.hid (HM9.out.keep hk10 (fun h => h))
                  have HG10 := Lib.hid (HG9.out.never hk10)
                  have hn5 : n5 ≤ 100000000000 := by have h1 := hs10.at_.len; have h2 := held_len HB9.out (by omega); omega
                  have HC := Lib.hid (has_any A5 n5 c5 _ _ ed at_ v10 hs10.at_.rd hn5)
                  rw [adds_held HY9.out HX9.out] at HC
                  clear hs10 hk10 hn5 y0 y1 y2
                  go_wp2_with fail
                  refine HC.out.mono ?_
                  rintro e v11 ⟨rfl, hk11⟩
                  have HK11 := Lib.hid (HK10.out.trans hk11)
                  have HM11 := Lib.hid (HM10.out.keep hk11 (fun h => h))
                  have HG11 := Lib.hid (HG10.out.never hk11)
                  clear hk11 HC
                  have HC := Lib.hid (gMay_any _ _ _ v11 HG11.out.ld HL9.out.small (Nat.le_refl _))
                  rw [HY9.out] at HC
                  dsimp only [LA.cs] at HC
                  have y0 : v11.cell? ⟨b8, 0, none⟩ = some (.slice A3 n3 c3) := HM11.out.cell 0
                  have y1 : v11.cell? ⟨b8, 1, none⟩ = some (.slice A4 n4 c4) := HM11.out.cell 1
                  have y2 : v11.cell? ⟨b8, 2, none⟩ = some (.bool k4) := HM11.out.cell 2
                  go_wp2_with fail
                  refine HC.out.mono ?_
                  rintro e v12 ⟨rfl, hk12⟩
                  have HI' : Hid (MI W.heap.size W b8 (q + 1) ⟨A3, n3, c3, A4, n4, c4, k4⟩ (doneM (es, hr, k) (ok, ot, oe, ox, oy)) v12) := Lib.hid ⟨HK11.out.trans hk12, HM11.out.keep hk12 (fun h => h), HG11.out.never hk12, HY9.out, by have := HB9.out; exact this, HMi.out.low⟩
                  clear hk12 HC y0 y1 y2
                  go_wp2_with fail
                  refine ⟨⟨q + 1, false, _, _, by omega, rfl, by go_num, HI', Lib.hid (fun _ => HX9.out)⟩, ?_⟩
                  simp [intOf]; try omega
    · obtain rfl : cn = q := by omega
      have hqz : ¬ (cn : Int) < (cn : Int) := by omega
      go_wp2_with fail
      go_ret
      exact ⟨rfl, HI.out.keep⟩
end Go.Proofs.Ytlcbajdckgcopaa
