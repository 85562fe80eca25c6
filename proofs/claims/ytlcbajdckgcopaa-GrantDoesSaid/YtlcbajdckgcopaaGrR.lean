/- Chapter 18 (grant): GrantKeeps. -/
import Derived.Test.YtlcbajdckgcopaaGrQ
namespace Go.Proofs.Ytlcbajdckgcopaa
open Go.RowKit

theorem add_bnd {l : Ldg} {x : Ent} (h : Bnd 20 l) (hx : x.2.2.1.length ≤ 20) (h0 : (addM l [x]).2 = 0) : Bnd 20 (addM l [x]).1 := by
  unfold addM at h0 ⊢
  split at h0
  · rename_i hp
    rw [if_pos hp]
    split at h0
    · simp at h0
    · rename_i hl
      rw [if_neg hl]
      refine ⟨?_, fun e he => ?_, h.h⟩
      · simp only [List.length_append, List.length_cons, List.length_nil] at hl ⊢; omega
      · rcases List.mem_append.1 he with he | he
        · exact h.e e he
        · simp at he; subst he; exact hx
  · simp at h0

set_option maxHeartbeats 16000000 in
set_option maxRecDepth 100000 in
theorem grantKeeps_walk (W : World) (cs0 : Array Value) (l0 : Ldg) (s0 : repLdg.cells W W.heap.size l0 cs0.toList) (cs1 : Array Value) (x : Ent) (s1 : repEnt.cells W W.heap.size x cs1.toList) (C : Option Addr) (cn cc : Nat) (cl : List Op18) (s2 : repOp.Sl W W.heap.size C cn cc cl) (ed : Int) (_b1 : -9223372036854775808 ≤ ed) (_c1 : ed ≤ 9223372036854775807) (at_ : Int) (_b2 : -9223372036854775808 ≤ at_) (_c2 : at_ ≤ 9223372036854775807) :
    Calls Try.prog 12 #[.agg cs0, .agg cs1, .slice C cn cc, .int .i64 ed, .int .i64 at_] W fun e W' => e = .returned (.bool true) ∧ Keep Never W W' := by
  obtain ⟨z, hz, hl⟩ := LdAt.of s0
  obtain rfl : cs0 = z.cs := by apply Array.ext'; exact hz
  have hgl : LdG W.heap.size W z l0 := LdG.old hl (Nat.le_refl _)
  obtain ⟨Ea, en, ec, hce, hse⟩ := ent_cells s1
  obtain ⟨e0, e1, ex, e3⟩ := x
  obtain rfl : cs1 = #[.int .i64 e0, .int .i64 e1, .slice Ea en ec, .bool e3] := by apply Array.ext'; exact hce
  have HEx := Lib.hid (SpG.old (N := W.heap.size) hse (Nat.le_refl _))
  clear s0 hz hl s1 hce hse
  have HS := Lib.hid s2
  have hcap : cn ≤ 9223372036854775807 := by have h3 := s2.cap; have h4 := s2.2.2.1; unfold maxLen at h4; omega
  clear s2
  have HG0 := Lib.hid hgl
  have HKn := Lib.hid hgl.k
  clear hgl
  obtain ⟨A, n, c, A2, n2, c2, k⟩ := z
  obtain ⟨es, hr, kn⟩ := l0
  simp only [LA.cs] at HG0 HKn HEx ⊢
  obtain rfl := HKn.out
  clear HKn
  obtain ⟨w1, hw1⟩ : ∃ V : World, W.alloc (.cells #[.slice A n c, .slice A2 n2 c2, .bool k] 53) = V := ⟨_, rfl⟩
  have zw1 : w1.heap.size = W.heap.size + 1 := by rw [← hw1]; simp
  have kw1 : Keep Never W w1 := by rw [← hw1]; exact (Keep.refl _ _).alloc _
  have bw1 := Blk.new W 53 #[.slice A n c, .slice A2 n2 c2, .bool k]
  rw [hw1] at bw1
  obtain ⟨w2, hw2⟩ : ∃ V : World, w1.alloc (.cells #[.int .i64 e0, .int .i64 e1, .slice Ea en ec, .bool e3] 77) = V := ⟨_, rfl⟩
  have kw2 : Keep Never w1 w2 := by rw [← hw2]; exact (Keep.refl _ _).alloc _
  have bw2 := Blk.new w1 77 #[.int .i64 e0, .int .i64 e1, .slice Ea en ec, .bool e3]
  rw [hw2, zw1] at bw2
  have HB1 := Lib.hid (bw1.keep kw2 (fun h => h))
  have HB2 := Lib.hid bw2
  have HK := Lib.hid (kw1.trans kw2)
  clear kw1 kw2 bw1 bw2
  have HA := Lib.hid (awake18_any w2)
  go_enter Try.func12, Try.ntmps12
  go_wp2_with fail
  refine HA.out.mono ?_
  rintro e w3 ⟨rfl, hk3⟩
  have HK3 := Lib.hid (HK.out.trans hk3)
  have HB3 := Lib.hid (HB1.out.keep hk3 (fun h => h))
  have HBe3 := Lib.hid (HB2.out.keep hk3 (fun h => h))
  clear hk3 HA hw1 hw2 zw1
  have y0 : w3.cell? ⟨W.heap.size, 0, none⟩ = some (.slice A n c) := HB3.out.cell 0
  have y1 : w3.cell? ⟨W.heap.size, 1, none⟩ = some (.slice A2 n2 c2) := HB3.out.cell 1
  have y2 : w3.cell? ⟨W.heap.size, 2, none⟩ = some (.bool k) := HB3.out.cell 2
  have x0 : w3.cell? ⟨W.heap.size + 1, 0, none⟩ = some (.int .i64 e0) := HBe3.out.cell 0
  have x1 : w3.cell? ⟨W.heap.size + 1, 1, none⟩ = some (.int .i64 e1) := HBe3.out.cell 1
  have x2 : w3.cell? ⟨W.heap.size + 1, 2, none⟩ = some (.slice Ea en ec) := HBe3.out.cell 2
  have x3 : w3.cell? ⟨W.heap.size + 1, 3, none⟩ = some (.bool e3) := HBe3.out.cell 3
  obtain ⟨w4, hw4⟩ : ∃ V : World, w3.alloc (.cells #[.int .i64 e0, .int .i64 e1, .slice Ea en ec, .bool e3] 77) = V := ⟨_, rfl⟩
  have K4 : Keep Never w3 w4 := by rw [← hw4]; exact (Keep.refl _ _).alloc _
  have B4 := Blk.new w3 77 #[.int .i64 e0, .int .i64 e1, .slice Ea en ec, .bool e3]
  rw [hw4] at B4
  obtain ⟨b4, hb4⟩ : ∃ q, w3.heap.size = q := ⟨_, rfl⟩
  rw [hb4] at B4
  have HK4 := Lib.hid (HK3.out.trans K4)
  have HEs4 : Hid (EsG W.heap.size w4 (some ⟨b4, 0, none⟩) 1 1 [(e0, e1, ex, e3)]) := Lib.hid (EsG.lit B4 (HEx.out.never (HK3.out.trans K4)))
  have HC := Lib.hid (light_any ⟨A, n, c, A2, n2, c2, k⟩ (es, hr, k) ⟨0, 0, some ⟨b4, 0, none⟩, 1, 1, none, 0, 0, none, 0, 0⟩ (0, 0, [(e0, e1, ex, e3)], [], []) W.heap.size w4 (HG0.out.never HK4.out) ⟨rfl, rfl, HEs4.out, SpG.nil _ _, SpG.nil _ _⟩)
  dsimp only [LA.cs, OA.cs] at HC
  have HB4 := Lib.hid (HB3.out.keep K4 (fun h => h))
  have HBe4 := Lib.hid (HBe3.out.keep K4 (fun h => h))
  clear K4 B4
  go_wp2_with fail
  refine HC.out.mono ?_
  rintro e w5 ⟨lb, rfl, hlb, hk5⟩
  have HK5 := Lib.hid (HK4.out.trans hk5)
  have HB5 := Lib.hid (HB4.out.keep hk5 (fun h => h))
  have HBe := Lib.hid (HBe4.out.keep hk5 (fun h => h))
  clear hk5 HC y0 y1 y2 x0 x1 x2 x3 hw4 hb4
  cases lb with
  | false =>
    go_wp2_with fail
    go_ret
    exact ⟨rfl, HK5.out⟩
  | true =>
    by_cases g40 : 40 < cn
    · have t0 : decide ((cn : Int) > 40) = true := by simp; omega
      clear g40
      go_wp2_with fail
      go_ret
      exact ⟨rfl, HK5.out⟩
    have t0 : decide ((cn : Int) > 40) = false := by simp; omega
    have HBd0 := Lib.hid (hlb.out rfl).1
    have HEl : Hid (ex.length ≤ 20) := Lib.hid ((hlb.out rfl).2.e (e0, e1, ex, e3) (by simp))
    have HLd0 := Lib.hid (HBd0.out.ld (HG0.out.never HK5.out) (by omega))
    clear hlb
    obtain ⟨w6, hw6⟩ : ∃ V : World, w5.alloc (.cells #[.int .i64 e0, .int .i64 e1, .slice Ea en ec, .bool e3] 77) = V := ⟨_, rfl⟩
    have K6 : Keep Never w5 w6 := by rw [← hw6]; exact (Keep.refl _ _).alloc _
    have B6 := Blk.new w5 77 #[.int .i64 e0, .int .i64 e1, .slice Ea en ec, .bool e3]
    rw [hw6] at B6
    obtain ⟨b6, hb6⟩ : ∃ q, w5.heap.size = q := ⟨_, rfl⟩
    rw [hb6] at B6
    have HK6 := Lib.hid (HK5.out.trans K6)
    have HC := Lib.hid (gadd_any ⟨A, n, c, A2, n2, c2, k⟩ (es, hr, k) W.heap.size [(e0, e1, ex, e3)] (some ⟨b6, 0, none⟩) 1 1 w6 (HG0.out.never HK6.out) (EsG.lit B6 (HEx.out.never HK6.out)) HLd0.out (by omega) (fun e he => by simp at he; subst he; have := HEl.out; simp only; omega) HK6.out.size)
    dsimp only [LA.cs] at HC
    have HBe6 := Lib.hid (HBe.out.keep K6 (fun h => h))
    have y0 : w5.cell? ⟨W.heap.size, 0, none⟩ = some (.slice A n c) := HB5.out.cell 0
    have y1 : w5.cell? ⟨W.heap.size, 1, none⟩ = some (.slice A2 n2 c2) := HB5.out.cell 1
    have y2 : w5.cell? ⟨W.heap.size, 2, none⟩ = some (.bool k) := HB5.out.cell 2
    have x0 : w5.cell? ⟨W.heap.size + 1, 0, none⟩ = some (.int .i64 e0) := HBe.out.cell 0
    have x1 : w5.cell? ⟨W.heap.size + 1, 1, none⟩ = some (.int .i64 e1) := HBe.out.cell 1
    have x2 : w5.cell? ⟨W.heap.size + 1, 2, none⟩ = some (.slice Ea en ec) := HBe.out.cell 2
    have x3 : w5.cell? ⟨W.heap.size + 1, 3, none⟩ = some (.bool e3) := HBe.out.cell 3
    clear K6 B6
    go_wp2_with fail
    refine HC.out.mono ?_
    rintro e w7 ⟨⟨A3, n3, c3, A4, n4, c4, k4⟩, rfl, hg7, hk7⟩
    dsimp only [LA.cs]
    obtain ⟨w8, hw8⟩ : ∃ V : World, w7.alloc (.cells #[.slice A3 n3 c3, .slice A4 n4 c4, .bool k4] 53) = V := ⟨_, rfl⟩
    have K8 : Keep Never w7 w8 := by rw [← hw8]; exact (Keep.refl _ _).alloc _
    have B8 := Blk.new w7 53 #[.slice A3 n3 c3, .slice A4 n4 c4, .bool k4]
    rw [hw8] at B8
    obtain ⟨bm, hbm⟩ : ∃ q, w7.heap.size = q := ⟨_, rfl⟩
    rw [hbm] at B8
    have HK8 := Lib.hid (HK6.out.trans (hk7.trans K8))
    have HBe8 := Lib.hid (HBe6.out.keep (hk7.trans K8) (fun h => h))
    have HM8 := Lib.hid B8
    have HG8 := Lib.hid (hg7.never K8)
    have HLw : Hid (W.heap.size ≤ bm) := Lib.hid (by rw [← hbm]; exact (HK6.out.trans hk7).size)
    have x2' : w8.cell? ⟨W.heap.size + 1, 2, none⟩ = some (.slice Ea en ec) := HBe8.out.cell 2
    clear hg7 hk7 K8 B8 HC y0 y1 y2 x0 x1 x2 x3
    obtain ⟨ra, hra⟩ : ∃ r, addM (es, hr, k) [(e0, e1, ex, e3)] = r := ⟨_, rfl⟩
    have HRa := Lib.hid hra
    rw [hra] at HG8
    rw [hra]
    clear hra
    obtain ⟨m0, er⟩ := ra
    simp only at HG8 ⊢
    by_cases ge : er = 0
    case neg =>
      have t1 : (er != 0) = true := by simpa using ge
      clear ge
      go_wp2_with fail
      go_ret
      exact ⟨rfl, HK8.out⟩
    subst ge
    have hsx := (HEx.out.never HK8.out).at_
    have hxn : en ≤ 100000000000 := by have h1 := hsx.len; have h2 := HEl.out; omega
    have HC := Lib.hid (has_any Ea en ec _ ex ed at_ w8 hsx.rd hxn)
    clear hsx hxn
    go_wp2_with fail
    refine HC.out.mono ?_
    rintro e w9 ⟨rfl, hk9⟩
    have HK9 := Lib.hid (HK8.out.trans hk9)
    have HBe9 := Lib.hid (HBe8.out.keep hk9 (fun h => h))
    have HM9 := Lib.hid (HM8.out.keep hk9 (fun h => h))
    have HG9 := Lib.hid (HG8.out.never hk9)
    clear hk9 HC x2' hw8 hbm hw6 hb6
    cases hhx : hasL ex ed at_ with
    | false =>
      clear hhx
      go_wp2_with fail
      go_ret
      exact ⟨rfl, HK9.out⟩
    | true =>
      have hx0 : HasX (e0, e1, ex, e3) ed at_ (addM (es, hr, k) [(e0, e1, ex, e3)]).1 := keeps_add (by rw [HRa.out]) hhx
      have hb0 := add_bnd HBd0.out (x := (e0, e1, ex, e3)) HEl.out (by rw [HRa.out])
      rw [HRa.out] at hx0 hb0
      have HX0 := Lib.hid hx0
      have HI0 : Hid (MI W.heap.size W bm 1 ⟨A3, n3, c3, A4, n4, c4, k4⟩ m0 w9) := Lib.hid ⟨HK9.out, HM9.out, HG9.out, hx0.1, hb0, HLw.out, HLw.out⟩
      clear hhx hx0 hb0 HBd0 HLd0 HG0 HG8 HG9 HM8 HM9 HB1 HB2 HB3 HB4 HB5 HBe3 HBe4 HBe6 HBe8 HRa
      go_wp2_with fail
      clear t0 HBe
      go_loopw [15] (fun i wr => ∃ (q : Nat) (x : LA) (m : Ldg), q ≤ cn ∧ i = .int .i64 q ∧ Hid (MI W.heap.size W bm (q + 1) x m wr) ∧ Hid (HasX (e0, e1, ex, e3) ed at_ m) ∧ Hid (Blk wr (W.heap.size + 1) 77 #[.int .i64 e0, .int .i64 e1, .slice Ea en ec, .bool e3])) (fun i _ => cn - (intOf i).toNat)
      case atStart => exact ⟨0, _, _, by omega, rfl, HI0, HX0, HBe9⟩
      case round =>
        obtain ⟨q, x, m, hq, rfl, HI, HXx, HBe⟩ := hrel
        by_cases h0 : q < cn
        · have hqz : (q : Int) < (cn : Int) := by omega
          obtain ⟨ad, o, y, hA, _, c0, c1, c2', c3', c4', hog⟩ := op_at (N := W.heap.size) (HS.out.keep HI.out.keep (fun _ h => h.elim)) (Nat.le_refl _) h0
          subst hA
          have hok := hog.k
          have hot := hog.t
          have hkn := HI.out.g.k
          obtain ⟨ok, ot, Oa, on, oc, X, xn, xc, Y, yn, yc⟩ := y
          obtain ⟨ok', ot', oe, ox, oy⟩ := o
          obtain ⟨A, n, c, A2, n2, c2, k⟩ := x
          obtain ⟨es, hr, k'⟩ := m
          simp only at hok hot hkn c0 c1 c2' c3' c4'
          subst hok hot hkn
          obtain ⟨w5, hw5⟩ : ∃ V : World, wr.alloc (.cells #[.int .i64 ok, .int .i64 ot, .slice Oa on oc, .slice X xn xc, .slice Y yn yc] 56) = V := ⟨_, rfl⟩
          have K5 : Keep Never wr w5 := by rw [← hw5]; exact (Keep.refl _ _).alloc _
          have B5 := Blk.new wr 56 #[.int .i64 ok, .int .i64 ot, .slice Oa on oc, .slice X xn xc, .slice Y yn yc]
          rw [hw5] at B5
          obtain ⟨bo, hbo⟩ : ∃ z, wr.heap.size = z := ⟨_, rfl⟩
          rw [hbo] at B5
          have HOx0 := Lib.hid B5
          have HK50 := Lib.hid (HI.out.keep.trans K5)
          have HOp0 := Lib.hid (hog.never K5)
          have HBe5 := Lib.hid (HBe.out.keep K5 (fun h => h))
          have HMi0 : Hid (MI W.heap.size W bm (q + 1) ⟨A, n, c, A2, n2, c2, k⟩ (es, hr, k) w5) := Lib.hid ⟨HI.out.keep.trans K5, HI.out.blk.keep K5 (fun h => h), HI.out.g.never K5, HI.out.may, HI.out.bnd, HI.out.low⟩
          have HC := Lib.hid (light_any ⟨none, 0, 0, none, 0, 0, false⟩ noL ⟨ok, ot, Oa, on, oc, X, xn, xc, Y, yn, yc⟩ (ok, ot, oe, ox, oy) W.heap.size w5 (LdG.no _ _) HOp0.out)
          dsimp only [LA.cs, OA.cs] at HC
          have d0 : w5.cell? ⟨bo, 0, none⟩ = some (.int .i64 ok) := B5.cell 0
          have d1 : w5.cell? ⟨bo, 1, none⟩ = some (.int .i64 ot) := B5.cell 1
          have d2 : w5.cell? ⟨bo, 2, none⟩ = some (.slice Oa on oc) := B5.cell 2
          have d3 : w5.cell? ⟨bo, 3, none⟩ = some (.slice X xn xc) := B5.cell 3
          have d4 : w5.cell? ⟨bo, 4, none⟩ = some (.slice Y yn yc) := B5.cell 4
          clear hog K5 B5 HI
          go_wp2_with fail
          refine HC.out.mono ?_
          rintro e w6 ⟨lb, rfl, hlb, hk6⟩
          have HK5 := Lib.hid (HK50.out.trans hk6)
          have HOx := Lib.hid (HOx0.out.keep hk6 (fun h => h))
          have HOp := Lib.hid (HOp0.out.never hk6)
          have HBe6 := Lib.hid (HBe5.out.keep hk6 (fun h => h))
          have HMi : Hid (MI W.heap.size W bm (q + 1) ⟨A, n, c, A2, n2, c2, k⟩ (es, hr, k) w6) := Lib.hid ⟨HMi0.out.keep.trans hk6, HMi0.out.blk.keep hk6 (fun h => h), HMi0.out.g.never hk6, HMi0.out.may, HMi0.out.bnd, HMi0.out.low⟩
          clear hk6 HC d0 d1 d2 d3 d4 c0 c1 c2' c3' c4' hw5 hbo HOx0 HK50 HOp0 HMi0
          cases lb with
          | false =>
            go_wp2_with fail
            go_ret
            exact ⟨rfl, HK5.out⟩
          | true =>
            have HOb := Lib.hid (hlb.out rfl).2
            have HG := Lib.hid HMi.out.g
            have HLb := Lib.hid (HMi.out.bnd.ld HMi.out.g (by omega))
            clear hlb
            have HC := Lib.hid (gheld_any _ _ W.heap.size w6 HG.out HLb.out.small (HMi.out.bnd.all (by omega)) HK5.out.size)
            dsimp only [LA.cs] at HC
            have y0 : w6.cell? ⟨bm, 0, none⟩ = some (.slice A n c) := HMi.out.blk.cell 0
            have y1 : w6.cell? ⟨bm, 1, none⟩ = some (.slice A2 n2 c2) := HMi.out.blk.cell 1
            have y2 : w6.cell? ⟨bm, 2, none⟩ = some (.bool k) := HMi.out.blk.cell 2
            go_wp2_with fail
            refine HC.out.mono ?_
            rintro e v5 ⟨A5, n5, c5, rfl, hs5, hk5⟩
            have HKw5 := Lib.hid hk5
            have hn5 : n5 ≤ 100000000000 := by have h1 := hs5.at_.len; have h2 := held_len HMi.out.bnd (by omega); omega
            have HC := Lib.hid (has_any A5 n5 c5 _ _ ed at_ v5 hs5.at_.rd hn5)
            rw [keeps_held HXx.out] at HC
            clear hs5 hk5 hn5 y0 y1 y2
            go_wp2_with fail
            refine HC.out.mono ?_
            rintro e v7 ⟨rfl, hk7⟩
            have HKv := Lib.hid (HKw5.out.trans hk7)
            clear hk7 HC HKw5
            have o0 : v7.cell? ⟨bo, 0, none⟩ = some (.int .i64 ok) := (HOx.out.keep HKv.out (fun h => h)).cell 0
            have o1 : v7.cell? ⟨bo, 1, none⟩ = some (.int .i64 ot) := (HOx.out.keep HKv.out (fun h => h)).cell 1
            have x0 : v7.cell? ⟨W.heap.size + 1, 0, none⟩ = some (.int .i64 e0) := (HBe6.out.keep HKv.out (fun h => h)).cell 0
            have x1 : v7.cell? ⟨W.heap.size + 1, 1, none⟩ = some (.int .i64 e1) := (HBe6.out.keep HKv.out (fun h => h)).cell 1
            have x3 : v7.cell? ⟨W.heap.size + 1, 3, none⟩ = some (.bool e3) := (HBe6.out.keep HKv.out (fun h => h)).cell 3
            by_cases g1 : ok = 1
            · have t1 : (ok == 1) = true := by simpa using g1
              have t2 : (ok == 2) = false := by simp; omega
              have t3 : (ok == 3) = false := by simp; omega
              by_cases g4 : ot ≥ e1
              · have t4 : decide (ot ≥ e1) = true := by simpa using g4
                clear g1 g4
                go_wp2_with fail
                go_ret
                exact ⟨rfl, HK5.out.trans HKv.out⟩
              · have t4 : decide (ot ≥ e1) = false := by simpa using g4
                have HGo : Hid (goneB (e0, e1, ex, e3) ed at_ (ok, ot, oe, ox, oy) = false) := Lib.hid (by unfold goneB; simp [g1]; omega)

                clear g1 g4
                go_upto_region 20 with (fail)
                clear o0 o1 x0 x1 x3
                have HC := Lib.hid (done_any ⟨A, n, c, A2, n2, c2, k⟩ (es, hr, k) ⟨ok, ot, Oa, on, oc, X, xn, xc, Y, yn, yc⟩ (ok, ot, oe, ox, oy) W.heap.size v7 (HG.out.never HKv.out) (HOp.out.never HKv.out) HLb.out HOb.out (Nat.le_trans HK5.out.size HKv.out.size))
                dsimp only [LA.cs, OA.cs] at HC
                have HMb := Lib.hid (HMi.out.blk.keep HKv.out (fun h => h))
                have HOb7 := Lib.hid (HOx.out.keep HKv.out (fun h => h))
                have y0 : v7.cell? ⟨bm, 0, none⟩ = some (.slice A n c) := HMb.out.cell 0
                have y1 : v7.cell? ⟨bm, 1, none⟩ = some (.slice A2 n2 c2) := HMb.out.cell 1
                have y2 : v7.cell? ⟨bm, 2, none⟩ = some (.bool k) := HMb.out.cell 2
                have o0 : v7.cell? ⟨bo, 0, none⟩ = some (.int .i64 ok) := HOb7.out.cell 0
                have o1 : v7.cell? ⟨bo, 1, none⟩ = some (.int .i64 ot) := HOb7.out.cell 1
                have o2 : v7.cell? ⟨bo, 2, none⟩ = some (.slice Oa on oc) := HOb7.out.cell 2
                have o3 : v7.cell? ⟨bo, 3, none⟩ = some (.slice X xn xc) := HOb7.out.cell 3
                have o4 : v7.cell? ⟨bo, 4, none⟩ = some (.slice Y yn yc) := HOb7.out.cell 4
                go_wp2_with fail
                refine HC.out.mono ?_
                rintro e v8 ⟨⟨A3, n3, c3, A4, n4, c4, k4⟩, rfl, hg8, hk8⟩
                dsimp only [LA.cs]
                have HG8 := Lib.hid hg8
                have HK8 := Lib.hid ((HK5.out.trans HKv.out).trans hk8)
                have HM8 := Lib.hid (HMb.out.keep hk8 (fun h => h))
                have HBe8 := Lib.hid ((HBe6.out.keep HKv.out (fun h => h)).keep hk8 (fun h => h))
                clear hg8 hk8 HC y0 y1 y2 o0 o1 o2 o3 o4
                have y0 : v8.cell? ⟨bm, 0, none⟩ = some (.slice A n c) := HM8.out.cell 0
                have y1 : v8.cell? ⟨bm, 1, none⟩ = some (.slice A2 n2 c2) := HM8.out.cell 1
                have y2 : v8.cell? ⟨bm, 2, none⟩ = some (.bool k) := HM8.out.cell 2
                have yf0 := HM8.out.frozen 0
                have yf1 := HM8.out.frozen 1
                have yf2 := HM8.out.frozen 2
                go_upto_region 21 with (fail)
                obtain ⟨v9, hv9⟩ : ∃ W : World, ((v8.setCell ⟨bm, 0, none⟩ (.slice A3 n3 c3)).setCell ⟨bm, 1, none⟩ (.slice A4 n4 c4)).setCell ⟨bm, 2, none⟩ (.bool k4) = W := ⟨_, rfl⟩
                rw [hv9]
                have k9 : Keep (fun q => q = bm) v8 v9 := by rw [← hv9]; exact putL_keep (Keep.refl (fun q => q = bm) v8) (.inl rfl) _ _ _
                have HM9 : Hid (Blk v9 (bm) 53 #[.slice A3 n3 c3, .slice A4 n4 c4, .bool k4]) := Lib.hid (by rw [← hv9]; exact putL_blk HM8.out _ _ _)
                clear hv9
                have HG9 := Lib.hid (HG8.out.keep k9 (Far2.blk HM8.out (by decide) (by decide) HMi.out.low.1))
                have HK9 := Lib.hid (HK8.out.then_ k9 (fun i hi e => by have := HMi.out.low.2; omega))
                have HBe9 := Lib.hid (HBe8.out.keep k9 (fun e => Blk.ne_ HBe8.out HM8.out (by decide) e))
                clear k9 y0 y1 y2 yf0 yf1 yf2
                have HB9 := Lib.hid (done_bnd HMi.out.may HMi.out.bnd HOb.out)
                have HY9 := Lib.hid (done_may HMi.out.may (ok, ot, oe, ox, oy))
                have HL9 := Lib.hid (HB9.out.ld HG9.out (by omega))
                have HX9 := Lib.hid (keeps_step HXx.out (ok, ot, oe, ox, oy) HGo.out)
                have HC := Lib.hid (gMay_any _ _ _ v9 HG9.out.ld HL9.out.small (Nat.le_refl _))
                rw [HY9.out] at HC
                dsimp only [LA.cs] at HC
                have y0 : v9.cell? ⟨bm, 0, none⟩ = some (.slice A3 n3 c3) := HM9.out.cell 0
                have y1 : v9.cell? ⟨bm, 1, none⟩ = some (.slice A4 n4 c4) := HM9.out.cell 1
                have y2 : v9.cell? ⟨bm, 2, none⟩ = some (.bool k4) := HM9.out.cell 2
                go_wp2_with fail
                refine HC.out.mono ?_
                rintro e v12 ⟨rfl, hk12⟩
                have HI' : Hid (MI W.heap.size W bm (q + 1 + 1) ⟨A3, n3, c3, A4, n4, c4, k4⟩ (doneM (es, hr, k) (ok, ot, oe, ox, oy)) v12) := Lib.hid ⟨HK9.out.trans hk12, HM9.out.keep hk12 (fun h => h), HG9.out.never hk12, HY9.out, by have := HB9.out; exact this, HMi.out.low⟩
                have HBe12 := Lib.hid (HBe9.out.keep hk12 (fun h => h))
                clear hk12 HC y0 y1 y2
                go_wp2_with fail
                refine ⟨⟨q + 1, _, _, by omega, by go_num, HI', HX9, HBe12⟩, ?_⟩
                simp [intOf]; try omega
            have t1 : (ok == 1) = false := by simpa using g1
            by_cases g2 : ok = 2
            · have t2 : (ok == 2) = true := by simpa using g2
              have t3 : (ok == 3) = false := by simp; omega
              cases e3 with
              | true =>
                have HGo : Hid (goneB (e0, e1, ex, true) ed at_ (ok, ot, oe, ox, oy) = false) := Lib.hid (by unfold goneB; simp [g2])

                clear g1 g2
                go_upto_region 20 with (fail)
                clear o0 o1 x0 x1 x3
                have HC := Lib.hid (done_any ⟨A, n, c, A2, n2, c2, k⟩ (es, hr, k) ⟨ok, ot, Oa, on, oc, X, xn, xc, Y, yn, yc⟩ (ok, ot, oe, ox, oy) W.heap.size v7 (HG.out.never HKv.out) (HOp.out.never HKv.out) HLb.out HOb.out (Nat.le_trans HK5.out.size HKv.out.size))
                dsimp only [LA.cs, OA.cs] at HC
                have HMb := Lib.hid (HMi.out.blk.keep HKv.out (fun h => h))
                have HOb7 := Lib.hid (HOx.out.keep HKv.out (fun h => h))
                have y0 : v7.cell? ⟨bm, 0, none⟩ = some (.slice A n c) := HMb.out.cell 0
                have y1 : v7.cell? ⟨bm, 1, none⟩ = some (.slice A2 n2 c2) := HMb.out.cell 1
                have y2 : v7.cell? ⟨bm, 2, none⟩ = some (.bool k) := HMb.out.cell 2
                have o0 : v7.cell? ⟨bo, 0, none⟩ = some (.int .i64 ok) := HOb7.out.cell 0
                have o1 : v7.cell? ⟨bo, 1, none⟩ = some (.int .i64 ot) := HOb7.out.cell 1
                have o2 : v7.cell? ⟨bo, 2, none⟩ = some (.slice Oa on oc) := HOb7.out.cell 2
                have o3 : v7.cell? ⟨bo, 3, none⟩ = some (.slice X xn xc) := HOb7.out.cell 3
                have o4 : v7.cell? ⟨bo, 4, none⟩ = some (.slice Y yn yc) := HOb7.out.cell 4
                go_wp2_with fail
                refine HC.out.mono ?_
                rintro e v8 ⟨⟨A3, n3, c3, A4, n4, c4, k4⟩, rfl, hg8, hk8⟩
                dsimp only [LA.cs]
                have HG8 := Lib.hid hg8
                have HK8 := Lib.hid ((HK5.out.trans HKv.out).trans hk8)
                have HM8 := Lib.hid (HMb.out.keep hk8 (fun h => h))
                have HBe8 := Lib.hid ((HBe6.out.keep HKv.out (fun h => h)).keep hk8 (fun h => h))
                clear hg8 hk8 HC y0 y1 y2 o0 o1 o2 o3 o4
                have y0 : v8.cell? ⟨bm, 0, none⟩ = some (.slice A n c) := HM8.out.cell 0
                have y1 : v8.cell? ⟨bm, 1, none⟩ = some (.slice A2 n2 c2) := HM8.out.cell 1
                have y2 : v8.cell? ⟨bm, 2, none⟩ = some (.bool k) := HM8.out.cell 2
                have yf0 := HM8.out.frozen 0
                have yf1 := HM8.out.frozen 1
                have yf2 := HM8.out.frozen 2
                go_upto_region 21 with (fail)
                obtain ⟨v9, hv9⟩ : ∃ W : World, ((v8.setCell ⟨bm, 0, none⟩ (.slice A3 n3 c3)).setCell ⟨bm, 1, none⟩ (.slice A4 n4 c4)).setCell ⟨bm, 2, none⟩ (.bool k4) = W := ⟨_, rfl⟩
                rw [hv9]
                have k9 : Keep (fun q => q = bm) v8 v9 := by rw [← hv9]; exact putL_keep (Keep.refl (fun q => q = bm) v8) (.inl rfl) _ _ _
                have HM9 : Hid (Blk v9 (bm) 53 #[.slice A3 n3 c3, .slice A4 n4 c4, .bool k4]) := Lib.hid (by rw [← hv9]; exact putL_blk HM8.out _ _ _)
                clear hv9
                have HG9 := Lib.hid (HG8.out.keep k9 (Far2.blk HM8.out (by decide) (by decide) HMi.out.low.1))
                have HK9 := Lib.hid (HK8.out.then_ k9 (fun i hi e => by have := HMi.out.low.2; omega))
                have HBe9 := Lib.hid (HBe8.out.keep k9 (fun e => Blk.ne_ HBe8.out HM8.out (by decide) e))
                clear k9 y0 y1 y2 yf0 yf1 yf2
                have HB9 := Lib.hid (done_bnd HMi.out.may HMi.out.bnd HOb.out)
                have HY9 := Lib.hid (done_may HMi.out.may (ok, ot, oe, ox, oy))
                have HL9 := Lib.hid (HB9.out.ld HG9.out (by omega))
                have HX9 := Lib.hid (keeps_step HXx.out (ok, ot, oe, ox, oy) HGo.out)
                have HC := Lib.hid (gMay_any _ _ _ v9 HG9.out.ld HL9.out.small (Nat.le_refl _))
                rw [HY9.out] at HC
                dsimp only [LA.cs] at HC
                have y0 : v9.cell? ⟨bm, 0, none⟩ = some (.slice A3 n3 c3) := HM9.out.cell 0
                have y1 : v9.cell? ⟨bm, 1, none⟩ = some (.slice A4 n4 c4) := HM9.out.cell 1
                have y2 : v9.cell? ⟨bm, 2, none⟩ = some (.bool k4) := HM9.out.cell 2
                go_wp2_with fail
                refine HC.out.mono ?_
                rintro e v12 ⟨rfl, hk12⟩
                have HI' : Hid (MI W.heap.size W bm (q + 1 + 1) ⟨A3, n3, c3, A4, n4, c4, k4⟩ (doneM (es, hr, k) (ok, ot, oe, ox, oy)) v12) := Lib.hid ⟨HK9.out.trans hk12, HM9.out.keep hk12 (fun h => h), HG9.out.never hk12, HY9.out, by have := HB9.out; exact this, HMi.out.low⟩
                have HBe12 := Lib.hid (HBe9.out.keep hk12 (fun h => h))
                clear hk12 HC y0 y1 y2
                go_wp2_with fail
                refine ⟨⟨q + 1, _, _, by omega, by go_num, HI', HX9, HBe12⟩, ?_⟩
                simp [intOf]; try omega
              | false =>
                by_cases g4 : ot > e0
                case neg =>
                  have t4 : decide (ot > e0) = false := by simpa using g4
                  have HGo : Hid (goneB (e0, e1, ex, false) ed at_ (ok, ot, oe, ox, oy) = false) := Lib.hid (by unfold goneB; simp [g2]; intros; omega)

                  clear g1 g2 g4
                  go_upto_region 20 with (fail)
                  clear o0 o1 x0 x1 x3
                  have HC := Lib.hid (done_any ⟨A, n, c, A2, n2, c2, k⟩ (es, hr, k) ⟨ok, ot, Oa, on, oc, X, xn, xc, Y, yn, yc⟩ (ok, ot, oe, ox, oy) W.heap.size v7 (HG.out.never HKv.out) (HOp.out.never HKv.out) HLb.out HOb.out (Nat.le_trans HK5.out.size HKv.out.size))
                  dsimp only [LA.cs, OA.cs] at HC
                  have HMb := Lib.hid (HMi.out.blk.keep HKv.out (fun h => h))
                  have HOb7 := Lib.hid (HOx.out.keep HKv.out (fun h => h))
                  have y0 : v7.cell? ⟨bm, 0, none⟩ = some (.slice A n c) := HMb.out.cell 0
                  have y1 : v7.cell? ⟨bm, 1, none⟩ = some (.slice A2 n2 c2) := HMb.out.cell 1
                  have y2 : v7.cell? ⟨bm, 2, none⟩ = some (.bool k) := HMb.out.cell 2
                  have o0 : v7.cell? ⟨bo, 0, none⟩ = some (.int .i64 ok) := HOb7.out.cell 0
                  have o1 : v7.cell? ⟨bo, 1, none⟩ = some (.int .i64 ot) := HOb7.out.cell 1
                  have o2 : v7.cell? ⟨bo, 2, none⟩ = some (.slice Oa on oc) := HOb7.out.cell 2
                  have o3 : v7.cell? ⟨bo, 3, none⟩ = some (.slice X xn xc) := HOb7.out.cell 3
                  have o4 : v7.cell? ⟨bo, 4, none⟩ = some (.slice Y yn yc) := HOb7.out.cell 4
                  go_wp2_with fail
                  refine HC.out.mono ?_
                  rintro e v8 ⟨⟨A3, n3, c3, A4, n4, c4, k4⟩, rfl, hg8, hk8⟩
                  dsimp only [LA.cs]
                  have HG8 := Lib.hid hg8
                  have HK8 := Lib.hid ((HK5.out.trans HKv.out).trans hk8)
                  have HM8 := Lib.hid (HMb.out.keep hk8 (fun h => h))
                  have HBe8 := Lib.hid ((HBe6.out.keep HKv.out (fun h => h)).keep hk8 (fun h => h))
                  clear hg8 hk8 HC y0 y1 y2 o0 o1 o2 o3 o4
                  have y0 : v8.cell? ⟨bm, 0, none⟩ = some (.slice A n c) := HM8.out.cell 0
                  have y1 : v8.cell? ⟨bm, 1, none⟩ = some (.slice A2 n2 c2) := HM8.out.cell 1
                  have y2 : v8.cell? ⟨bm, 2, none⟩ = some (.bool k) := HM8.out.cell 2
                  have yf0 := HM8.out.frozen 0
                  have yf1 := HM8.out.frozen 1
                  have yf2 := HM8.out.frozen 2
                  go_upto_region 21 with (fail)
                  obtain ⟨v9, hv9⟩ : ∃ W : World, ((v8.setCell ⟨bm, 0, none⟩ (.slice A3 n3 c3)).setCell ⟨bm, 1, none⟩ (.slice A4 n4 c4)).setCell ⟨bm, 2, none⟩ (.bool k4) = W := ⟨_, rfl⟩
                  rw [hv9]
                  have k9 : Keep (fun q => q = bm) v8 v9 := by rw [← hv9]; exact putL_keep (Keep.refl (fun q => q = bm) v8) (.inl rfl) _ _ _
                  have HM9 : Hid (Blk v9 (bm) 53 #[.slice A3 n3 c3, .slice A4 n4 c4, .bool k4]) := Lib.hid (by rw [← hv9]; exact putL_blk HM8.out _ _ _)
                  clear hv9
                  have HG9 := Lib.hid (HG8.out.keep k9 (Far2.blk HM8.out (by decide) (by decide) HMi.out.low.1))
                  have HK9 := Lib.hid (HK8.out.then_ k9 (fun i hi e => by have := HMi.out.low.2; omega))
                  have HBe9 := Lib.hid (HBe8.out.keep k9 (fun e => Blk.ne_ HBe8.out HM8.out (by decide) e))
                  clear k9 y0 y1 y2 yf0 yf1 yf2
                  have HB9 := Lib.hid (done_bnd HMi.out.may HMi.out.bnd HOb.out)
                  have HY9 := Lib.hid (done_may HMi.out.may (ok, ot, oe, ox, oy))
                  have HL9 := Lib.hid (HB9.out.ld HG9.out (by omega))
                  have HX9 := Lib.hid (keeps_step HXx.out (ok, ot, oe, ox, oy) HGo.out)
                  have HC := Lib.hid (gMay_any _ _ _ v9 HG9.out.ld HL9.out.small (Nat.le_refl _))
                  rw [HY9.out] at HC
                  dsimp only [LA.cs] at HC
                  have y0 : v9.cell? ⟨bm, 0, none⟩ = some (.slice A3 n3 c3) := HM9.out.cell 0
                  have y1 : v9.cell? ⟨bm, 1, none⟩ = some (.slice A4 n4 c4) := HM9.out.cell 1
                  have y2 : v9.cell? ⟨bm, 2, none⟩ = some (.bool k4) := HM9.out.cell 2
                  go_wp2_with fail
                  refine HC.out.mono ?_
                  rintro e v12 ⟨rfl, hk12⟩
                  have HI' : Hid (MI W.heap.size W bm (q + 1 + 1) ⟨A3, n3, c3, A4, n4, c4, k4⟩ (doneM (es, hr, k) (ok, ot, oe, ox, oy)) v12) := Lib.hid ⟨HK9.out.trans hk12, HM9.out.keep hk12 (fun h => h), HG9.out.never hk12, HY9.out, by have := HB9.out; exact this, HMi.out.low⟩
                  have HBe12 := Lib.hid (HBe9.out.keep hk12 (fun h => h))
                  clear hk12 HC y0 y1 y2
                  go_wp2_with fail
                  refine ⟨⟨q + 1, _, _, by omega, by go_num, HI', HX9, HBe12⟩, ?_⟩
                  simp [intOf]; try omega
                have t4 : decide (ot > e0) = true := by simpa using g4
                have HGg : Hid (hasL ox ed at_ = true → goneB (e0, e1, ex, false) ed at_ (ok, ot, oe, ox, oy) = false) := Lib.hid (fun hh => by unfold goneB; simp [g2, hh])
                clear g1 g2 g4
                have o3' : v7.cell? ⟨bo, 3, none⟩ = some (.slice X xn xc) := (HOx.out.keep HKv.out (fun h => h)).cell 3
                have hsx := (HOp.out.never HKv.out).sx.at_
                have hxn : xn ≤ 100000000000 := by have h1 := hsx.len; have h2 := HOb.out.x; simp only at h1 h2; omega
                have HC := Lib.hid (has_any X xn xc _ ox ed at_ v7 hsx.rd hxn)
                clear hsx hxn
                go_wp2_with fail
                refine HC.out.mono ?_
                rintro e' v8 ⟨rfl, hk8⟩
                have HKv8 := Lib.hid (HKv.out.trans hk8)
                clear hk8 HC o0 o1 x0 x1 x3 o3' HKv
                obtain ⟨v7, hv7⟩ : ∃ z, v8 = z := ⟨_, rfl⟩
                rw [hv7] at HKv8
                rw [hv7]
                clear hv7
                have HKv := HKv8
                clear HKv8
                have o0 : v7.cell? ⟨bo, 0, none⟩ = some (.int .i64 ok) := (HOx.out.keep HKv.out (fun h => h)).cell 0
                cases hb : hasL ox ed at_ with
                | false =>
                  clear hb
                  go_wp2_with fail
                  go_ret
                  exact ⟨rfl, HK5.out.trans HKv.out⟩
                | true =>
                  have HGo := Lib.hid (HGg.out hb)
                  clear hb HGg
                  go_upto_region 20 with (fail)
                  clear o0
                  have HC := Lib.hid (done_any ⟨A, n, c, A2, n2, c2, k⟩ (es, hr, k) ⟨ok, ot, Oa, on, oc, X, xn, xc, Y, yn, yc⟩ (ok, ot, oe, ox, oy) W.heap.size v7 (HG.out.never HKv.out) (HOp.out.never HKv.out) HLb.out HOb.out (Nat.le_trans HK5.out.size HKv.out.size))
                  dsimp only [LA.cs, OA.cs] at HC
                  have HMb := Lib.hid (HMi.out.blk.keep HKv.out (fun h => h))
                  have HOb7 := Lib.hid (HOx.out.keep HKv.out (fun h => h))
                  have y0 : v7.cell? ⟨bm, 0, none⟩ = some (.slice A n c) := HMb.out.cell 0
                  have y1 : v7.cell? ⟨bm, 1, none⟩ = some (.slice A2 n2 c2) := HMb.out.cell 1
                  have y2 : v7.cell? ⟨bm, 2, none⟩ = some (.bool k) := HMb.out.cell 2
                  have o0 : v7.cell? ⟨bo, 0, none⟩ = some (.int .i64 ok) := HOb7.out.cell 0
                  have o1 : v7.cell? ⟨bo, 1, none⟩ = some (.int .i64 ot) := HOb7.out.cell 1
                  have o2 : v7.cell? ⟨bo, 2, none⟩ = some (.slice Oa on oc) := HOb7.out.cell 2
                  have o3 : v7.cell? ⟨bo, 3, none⟩ = some (.slice X xn xc) := HOb7.out.cell 3
                  have o4 : v7.cell? ⟨bo, 4, none⟩ = some (.slice Y yn yc) := HOb7.out.cell 4
                  go_wp2_with fail
                  refine HC.out.mono ?_
                  rintro e v8 ⟨⟨A3, n3, c3, A4, n4, c4, k4⟩, rfl, hg8, hk8⟩
                  dsimp only [LA.cs]
                  have HG8 := Lib.hid hg8
                  have HK8 := Lib.hid ((HK5.out.trans HKv.out).trans hk8)
                  have HM8 := Lib.hid (HMb.out.keep hk8 (fun h => h))
                  have HBe8 := Lib.hid ((HBe6.out.keep HKv.out (fun h => h)).keep hk8 (fun h => h))
                  clear hg8 hk8 HC y0 y1 y2 o0 o1 o2 o3 o4
                  have y0 : v8.cell? ⟨bm, 0, none⟩ = some (.slice A n c) := HM8.out.cell 0
                  have y1 : v8.cell? ⟨bm, 1, none⟩ = some (.slice A2 n2 c2) := HM8.out.cell 1
                  have y2 : v8.cell? ⟨bm, 2, none⟩ = some (.bool k) := HM8.out.cell 2
                  have yf0 := HM8.out.frozen 0
                  have yf1 := HM8.out.frozen 1
                  have yf2 := HM8.out.frozen 2
                  go_upto_region 21 with (fail)
                  obtain ⟨v9, hv9⟩ : ∃ W : World, ((v8.setCell ⟨bm, 0, none⟩ (.slice A3 n3 c3)).setCell ⟨bm, 1, none⟩ (.slice A4 n4 c4)).setCell ⟨bm, 2, none⟩ (.bool k4) = W := ⟨_, rfl⟩
                  rw [hv9]
                  have k9 : Keep (fun q => q = bm) v8 v9 := by rw [← hv9]; exact putL_keep (Keep.refl (fun q => q = bm) v8) (.inl rfl) _ _ _
                  have HM9 : Hid (Blk v9 (bm) 53 #[.slice A3 n3 c3, .slice A4 n4 c4, .bool k4]) := Lib.hid (by rw [← hv9]; exact putL_blk HM8.out _ _ _)
                  clear hv9
                  have HG9 := Lib.hid (HG8.out.keep k9 (Far2.blk HM8.out (by decide) (by decide) HMi.out.low.1))
                  have HK9 := Lib.hid (HK8.out.then_ k9 (fun i hi e => by have := HMi.out.low.2; omega))
                  have HBe9 := Lib.hid (HBe8.out.keep k9 (fun e => Blk.ne_ HBe8.out HM8.out (by decide) e))
                  clear k9 y0 y1 y2 yf0 yf1 yf2
                  have HB9 := Lib.hid (done_bnd HMi.out.may HMi.out.bnd HOb.out)
                  have HY9 := Lib.hid (done_may HMi.out.may (ok, ot, oe, ox, oy))
                  have HL9 := Lib.hid (HB9.out.ld HG9.out (by omega))
                  have HX9 := Lib.hid (keeps_step HXx.out (ok, ot, oe, ox, oy) HGo.out)
                  have HC := Lib.hid (gMay_any _ _ _ v9 HG9.out.ld HL9.out.small (Nat.le_refl _))
                  rw [HY9.out] at HC
                  dsimp only [LA.cs] at HC
                  have y0 : v9.cell? ⟨bm, 0, none⟩ = some (.slice A3 n3 c3) := HM9.out.cell 0
                  have y1 : v9.cell? ⟨bm, 1, none⟩ = some (.slice A4 n4 c4) := HM9.out.cell 1
                  have y2 : v9.cell? ⟨bm, 2, none⟩ = some (.bool k4) := HM9.out.cell 2
                  go_wp2_with fail
                  refine HC.out.mono ?_
                  rintro e v12 ⟨rfl, hk12⟩
                  have HI' : Hid (MI W.heap.size W bm (q + 1 + 1) ⟨A3, n3, c3, A4, n4, c4, k4⟩ (doneM (es, hr, k) (ok, ot, oe, ox, oy)) v12) := Lib.hid ⟨HK9.out.trans hk12, HM9.out.keep hk12 (fun h => h), HG9.out.never hk12, HY9.out, by have := HB9.out; exact this, HMi.out.low⟩
                  have HBe12 := Lib.hid (HBe9.out.keep hk12 (fun h => h))
                  clear hk12 HC y0 y1 y2
                  go_wp2_with fail
                  refine ⟨⟨q + 1, _, _, by omega, by go_num, HI', HX9, HBe12⟩, ?_⟩
                  simp [intOf]; try omega
            have t2 : (ok == 2) = false := by simpa using g2
            by_cases g3 : ok = 3
            · have t3 : (ok == 3) = true := by simpa using g3
              have HGg : Hid (hasL oy ed at_ = false → goneB (e0, e1, ex, e3) ed at_ (ok, ot, oe, ox, oy) = false) := Lib.hid (fun hh => by unfold goneB; simp [g3, hh])
              clear g1 g2 g3
              have o4' : v7.cell? ⟨bo, 4, none⟩ = some (.slice Y yn yc) := (HOx.out.keep HKv.out (fun h => h)).cell 4
              have hsx := (HOp.out.never HKv.out).sy.at_
              have hxn : yn ≤ 100000000000 := by have h1 := hsx.len; have h2 := HOb.out.y; simp only at h1 h2; omega
              have HC := Lib.hid (has_any Y yn yc _ oy ed at_ v7 hsx.rd hxn)
              clear hsx hxn
              go_wp2_with fail
              refine HC.out.mono ?_
              rintro e' v8 ⟨rfl, hk8⟩
              have HKv8 := Lib.hid (HKv.out.trans hk8)
              clear hk8 HC o0 o1 x0 x1 x3 o4' HKv
              obtain ⟨v7, hv7⟩ : ∃ z, v8 = z := ⟨_, rfl⟩
              rw [hv7] at HKv8
              rw [hv7]
              clear hv7
              have HKv := HKv8
              clear HKv8
              cases hb : hasL oy ed at_ with
              | true =>
                clear hb
                go_wp2_with fail
                go_ret
                exact ⟨rfl, HK5.out.trans HKv.out⟩
              | false =>
                have HGo := Lib.hid (HGg.out hb)
                clear hb HGg
                go_upto_region 20 with (fail)
                have HC := Lib.hid (done_any ⟨A, n, c, A2, n2, c2, k⟩ (es, hr, k) ⟨ok, ot, Oa, on, oc, X, xn, xc, Y, yn, yc⟩ (ok, ot, oe, ox, oy) W.heap.size v7 (HG.out.never HKv.out) (HOp.out.never HKv.out) HLb.out HOb.out (Nat.le_trans HK5.out.size HKv.out.size))
                dsimp only [LA.cs, OA.cs] at HC
                have HMb := Lib.hid (HMi.out.blk.keep HKv.out (fun h => h))
                have HOb7 := Lib.hid (HOx.out.keep HKv.out (fun h => h))
                have y0 : v7.cell? ⟨bm, 0, none⟩ = some (.slice A n c) := HMb.out.cell 0
                have y1 : v7.cell? ⟨bm, 1, none⟩ = some (.slice A2 n2 c2) := HMb.out.cell 1
                have y2 : v7.cell? ⟨bm, 2, none⟩ = some (.bool k) := HMb.out.cell 2
                have o0 : v7.cell? ⟨bo, 0, none⟩ = some (.int .i64 ok) := HOb7.out.cell 0
                have o1 : v7.cell? ⟨bo, 1, none⟩ = some (.int .i64 ot) := HOb7.out.cell 1
                have o2 : v7.cell? ⟨bo, 2, none⟩ = some (.slice Oa on oc) := HOb7.out.cell 2
                have o3 : v7.cell? ⟨bo, 3, none⟩ = some (.slice X xn xc) := HOb7.out.cell 3
                have o4 : v7.cell? ⟨bo, 4, none⟩ = some (.slice Y yn yc) := HOb7.out.cell 4
                go_wp2_with fail
                refine HC.out.mono ?_
                rintro e v8 ⟨⟨A3, n3, c3, A4, n4, c4, k4⟩, rfl, hg8, hk8⟩
                dsimp only [LA.cs]
                have HG8 := Lib.hid hg8
                have HK8 := Lib.hid ((HK5.out.trans HKv.out).trans hk8)
                have HM8 := Lib.hid (HMb.out.keep hk8 (fun h => h))
                have HBe8 := Lib.hid ((HBe6.out.keep HKv.out (fun h => h)).keep hk8 (fun h => h))
                clear hg8 hk8 HC y0 y1 y2 o0 o1 o2 o3 o4
                have y0 : v8.cell? ⟨bm, 0, none⟩ = some (.slice A n c) := HM8.out.cell 0
                have y1 : v8.cell? ⟨bm, 1, none⟩ = some (.slice A2 n2 c2) := HM8.out.cell 1
                have y2 : v8.cell? ⟨bm, 2, none⟩ = some (.bool k) := HM8.out.cell 2
                have yf0 := HM8.out.frozen 0
                have yf1 := HM8.out.frozen 1
                have yf2 := HM8.out.frozen 2
                go_upto_region 21 with (fail)
                obtain ⟨v9, hv9⟩ : ∃ W : World, ((v8.setCell ⟨bm, 0, none⟩ (.slice A3 n3 c3)).setCell ⟨bm, 1, none⟩ (.slice A4 n4 c4)).setCell ⟨bm, 2, none⟩ (.bool k4) = W := ⟨_, rfl⟩
                rw [hv9]
                have k9 : Keep (fun q => q = bm) v8 v9 := by rw [← hv9]; exact putL_keep (Keep.refl (fun q => q = bm) v8) (.inl rfl) _ _ _
                have HM9 : Hid (Blk v9 (bm) 53 #[.slice A3 n3 c3, .slice A4 n4 c4, .bool k4]) := Lib.hid (by rw [← hv9]; exact putL_blk HM8.out _ _ _)
                clear hv9
                have HG9 := Lib.hid (HG8.out.keep k9 (Far2.blk HM8.out (by decide) (by decide) HMi.out.low.1))
                have HK9 := Lib.hid (HK8.out.then_ k9 (fun i hi e => by have := HMi.out.low.2; omega))
                have HBe9 := Lib.hid (HBe8.out.keep k9 (fun e => Blk.ne_ HBe8.out HM8.out (by decide) e))
                clear k9 y0 y1 y2 yf0 yf1 yf2
                have HB9 := Lib.hid (done_bnd HMi.out.may HMi.out.bnd HOb.out)
                have HY9 := Lib.hid (done_may HMi.out.may (ok, ot, oe, ox, oy))
                have HL9 := Lib.hid (HB9.out.ld HG9.out (by omega))
                have HX9 := Lib.hid (keeps_step HXx.out (ok, ot, oe, ox, oy) HGo.out)
                have HC := Lib.hid (gMay_any _ _ _ v9 HG9.out.ld HL9.out.small (Nat.le_refl _))
                rw [HY9.out] at HC
                dsimp only [LA.cs] at HC
                have y0 : v9.cell? ⟨bm, 0, none⟩ = some (.slice A3 n3 c3) := HM9.out.cell 0
                have y1 : v9.cell? ⟨bm, 1, none⟩ = some (.slice A4 n4 c4) := HM9.out.cell 1
                have y2 : v9.cell? ⟨bm, 2, none⟩ = some (.bool k4) := HM9.out.cell 2
                go_wp2_with fail
                refine HC.out.mono ?_
                rintro e v12 ⟨rfl, hk12⟩
                have HI' : Hid (MI W.heap.size W bm (q + 1 + 1) ⟨A3, n3, c3, A4, n4, c4, k4⟩ (doneM (es, hr, k) (ok, ot, oe, ox, oy)) v12) := Lib.hid ⟨HK9.out.trans hk12, HM9.out.keep hk12 (fun h => h), HG9.out.never hk12, HY9.out, by have := HB9.out; exact this, HMi.out.low⟩
                have HBe12 := Lib.hid (HBe9.out.keep hk12 (fun h => h))
                clear hk12 HC y0 y1 y2
                go_wp2_with fail
                refine ⟨⟨q + 1, _, _, by omega, by go_num, HI', HX9, HBe12⟩, ?_⟩
                simp [intOf]; try omega
            · have t3 : (ok == 3) = false := by simpa using g3
              have HGo : Hid (goneB (e0, e1, ex, e3) ed at_ (ok, ot, oe, ox, oy) = false) := Lib.hid (by unfold goneB; simp [g1, g2, g3])

              clear g1 g2 g3
              go_upto_region 20 with (fail)
              clear o0 o1 x0 x1 x3
              have HC := Lib.hid (done_any ⟨A, n, c, A2, n2, c2, k⟩ (es, hr, k) ⟨ok, ot, Oa, on, oc, X, xn, xc, Y, yn, yc⟩ (ok, ot, oe, ox, oy) W.heap.size v7 (HG.out.never HKv.out) (HOp.out.never HKv.out) HLb.out HOb.out (Nat.le_trans HK5.out.size HKv.out.size))
              dsimp only [LA.cs, OA.cs] at HC
              have HMb := Lib.hid (HMi.out.blk.keep HKv.out (fun h => h))
              have HOb7 := Lib.hid (HOx.out.keep HKv.out (fun h => h))
              have y0 : v7.cell? ⟨bm, 0, none⟩ = some (.slice A n c) := HMb.out.cell 0
              have y1 : v7.cell? ⟨bm, 1, none⟩ = some (.slice A2 n2 c2) := HMb.out.cell 1
              have y2 : v7.cell? ⟨bm, 2, none⟩ = some (.bool k) := HMb.out.cell 2
              have o0 : v7.cell? ⟨bo, 0, none⟩ = some (.int .i64 ok) := HOb7.out.cell 0
              have o1 : v7.cell? ⟨bo, 1, none⟩ = some (.int .i64 ot) := HOb7.out.cell 1
              have o2 : v7.cell? ⟨bo, 2, none⟩ = some (.slice Oa on oc) := HOb7.out.cell 2
              have o3 : v7.cell? ⟨bo, 3, none⟩ = some (.slice X xn xc) := HOb7.out.cell 3
              have o4 : v7.cell? ⟨bo, 4, none⟩ = some (.slice Y yn yc) := HOb7.out.cell 4
              go_wp2_with fail
              refine HC.out.mono ?_
              rintro e v8 ⟨⟨A3, n3, c3, A4, n4, c4, k4⟩, rfl, hg8, hk8⟩
              dsimp only [LA.cs]
              have HG8 := Lib.hid hg8
              have HK8 := Lib.hid ((HK5.out.trans HKv.out).trans hk8)
              have HM8 := Lib.hid (HMb.out.keep hk8 (fun h => h))
              have HBe8 := Lib.hid ((HBe6.out.keep HKv.out (fun h => h)).keep hk8 (fun h => h))
              clear hg8 hk8 HC y0 y1 y2 o0 o1 o2 o3 o4
              have y0 : v8.cell? ⟨bm, 0, none⟩ = some (.slice A n c) := HM8.out.cell 0
              have y1 : v8.cell? ⟨bm, 1, none⟩ = some (.slice A2 n2 c2) := HM8.out.cell 1
              have y2 : v8.cell? ⟨bm, 2, none⟩ = some (.bool k) := HM8.out.cell 2
              have yf0 := HM8.out.frozen 0
              have yf1 := HM8.out.frozen 1
              have yf2 := HM8.out.frozen 2
              go_upto_region 21 with (fail)
              obtain ⟨v9, hv9⟩ : ∃ W : World, ((v8.setCell ⟨bm, 0, none⟩ (.slice A3 n3 c3)).setCell ⟨bm, 1, none⟩ (.slice A4 n4 c4)).setCell ⟨bm, 2, none⟩ (.bool k4) = W := ⟨_, rfl⟩
              rw [hv9]
              have k9 : Keep (fun q => q = bm) v8 v9 := by rw [← hv9]; exact putL_keep (Keep.refl (fun q => q = bm) v8) (.inl rfl) _ _ _
              have HM9 : Hid (Blk v9 (bm) 53 #[.slice A3 n3 c3, .slice A4 n4 c4, .bool k4]) := Lib.hid (by rw [← hv9]; exact putL_blk HM8.out _ _ _)
              clear hv9
              have HG9 := Lib.hid (HG8.out.keep k9 (Far2.blk HM8.out (by decide) (by decide) HMi.out.low.1))
              have HK9 := Lib.hid (HK8.out.then_ k9 (fun i hi e => by have := HMi.out.low.2; omega))
              have HBe9 := Lib.hid (HBe8.out.keep k9 (fun e => Blk.ne_ HBe8.out HM8.out (by decide) e))
              clear k9 y0 y1 y2 yf0 yf1 yf2
              have HB9 := Lib.hid (done_bnd HMi.out.may HMi.out.bnd HOb.out)
              have HY9 := Lib.hid (done_may HMi.out.may (ok, ot, oe, ox, oy))
              have HL9 := Lib.hid (HB9.out.ld HG9.out (by omega))
              have HX9 := Lib.hid (keeps_step HXx.out (ok, ot, oe, ox, oy) HGo.out)
              have HC := Lib.hid (gMay_any _ _ _ v9 HG9.out.ld HL9.out.small (Nat.le_refl _))
              rw [HY9.out] at HC
              dsimp only [LA.cs] at HC
              have y0 : v9.cell? ⟨bm, 0, none⟩ = some (.slice A3 n3 c3) := HM9.out.cell 0
              have y1 : v9.cell? ⟨bm, 1, none⟩ = some (.slice A4 n4 c4) := HM9.out.cell 1
              have y2 : v9.cell? ⟨bm, 2, none⟩ = some (.bool k4) := HM9.out.cell 2
              go_wp2_with fail
              refine HC.out.mono ?_
              rintro e v12 ⟨rfl, hk12⟩
              have HI' : Hid (MI W.heap.size W bm (q + 1 + 1) ⟨A3, n3, c3, A4, n4, c4, k4⟩ (doneM (es, hr, k) (ok, ot, oe, ox, oy)) v12) := Lib.hid ⟨HK9.out.trans hk12, HM9.out.keep hk12 (fun h => h), HG9.out.never hk12, HY9.out, by have := HB9.out; exact this, HMi.out.low⟩
              have HBe12 := Lib.hid (HBe9.out.keep hk12 (fun h => h))
              clear hk12 HC y0 y1 y2
              go_wp2_with fail
              refine ⟨⟨q + 1, _, _, by omega, by go_num, HI', HX9, HBe12⟩, ?_⟩
              simp [intOf]; try omega
        · obtain rfl : cn = q := by omega
          have hqz : ¬ (cn : Int) < (cn : Int) := by omega
          obtain ⟨A, n, c, A2, n2, c2, k⟩ := x
          have hmb := HI.out.blk
          simp only at hmb
          have HLb := Lib.hid (HI.out.bnd.ld HI.out.g (by omega))
          have HC := Lib.hid (gheld_any _ _ W.heap.size wr HI.out.g HLb.out.small (HI.out.bnd.all (by omega)) HI.out.keep.size)
          dsimp only [LA.cs] at HC
          have y0 : wr.cell? ⟨bm, 0, none⟩ = some (.slice A n c) := hmb.cell 0
          have y1 : wr.cell? ⟨bm, 1, none⟩ = some (.slice A2 n2 c2) := hmb.cell 1
          have y2 : wr.cell? ⟨bm, 2, none⟩ = some (.bool k) := hmb.cell 2
          clear hmb
          go_wp2_with fail
          refine HC.out.mono ?_
          rintro e v5 ⟨A5, n5, c5, rfl, hs5, hk5⟩
          have HKw5 := Lib.hid (HI.out.keep.trans hk5)
          have hn5 : n5 ≤ 100000000000 := by have h1 := hs5.at_.len; have h2 := held_len HI.out.bnd (by omega); omega
          have HC := Lib.hid (has_any A5 n5 c5 _ _ ed at_ v5 hs5.at_.rd hn5)
          rw [keeps_held HXx.out] at HC
          clear hs5 hk5 hn5 y0 y1 y2
          go_wp2_with fail
          refine HC.out.mono ?_
          rintro e v7 ⟨rfl, hk7⟩
          go_wp2_with fail
          go_ret
          exact ⟨rfl, HKw5.out.trans hk7⟩
end Go.Proofs.Ytlcbajdckgcopaa
