/- Chapter 18 (grant): GrantDoes. -/
import Derived.Test.YtlcbajdckgcopaaGrW
namespace Go.Proofs.Ytlcbajdckgcopaa
open Go.RowKit

theorem adds_bnd {l : Ldg} {es : List Ent} (h : Bnd 20 l) (hx : ∀ e ∈ es, e.2.2.1.length ≤ 20) : Bnd 20 (addM l es).1 := by
  unfold addM
  split
  · split
    · exact Bnd.no _
    · rename_i hl
      refine ⟨?_, fun e he => ?_, h.h⟩
      · simp only [List.length_append] at hl ⊢; omega
      · rcases List.mem_append.1 he with he | he
        · exact h.e e he
        · exact hx e he
  · exact Bnd.no _
theorem sta_bnd {k : Nat} {l : Ldg} (h : Bnd k l) (x y : List Sp) : Bnd (k + y.length + x.length) (standsM l x y).1 := by
  unfold standsM
  split
  · refine ⟨Nat.le_trans (leftM_len _ l.1) h.n, leftM_bnd fun e he => ?_, ?_⟩
    · unfold staF; have := minusM_len e.2.2.1 y; have := h.e e he; omega
    · have := normM_len x; simp only; omega
  · exact Bnd.no _
theorem Bnd.same {N : Nat} {w : World} {k : Nat} {l : Ldg} {x y : LA} (h : Bnd k l) (hk : k ≤ 100000) (h1 : LdG N w x l) (h2 : LdG N w y l) : Calls Try.prog 36 #[.agg x.cs, .agg y.cs] w (TrueRet w) :=
  same_self x y l N w h1 h2 (fun e he => by have := h.e e he; omega) (by have := h.h; omega)

set_option maxHeartbeats 16000000 in
set_option maxRecDepth 100000 in
theorem grantDoes_walk (W : World) (cs0 : Array Value) (l0 : Ldg) (s0 : repLdg.cells W W.heap.size l0 cs0.toList) (cs1 : Array Value) (o0 : Op18) (s1 : repOp.cells W W.heap.size o0 cs1.toList) :
    Calls Try.prog 11 #[.agg cs0, .agg cs1] W fun e W' => e = .returned (.bool true) ∧ Keep Never W W' := by
  obtain ⟨z, hz, hl⟩ := LdAt.of s0
  obtain rfl : cs0 = z.cs := by apply Array.ext'; exact hz
  have hgl : LdG W.heap.size W z l0 := LdG.old hl (Nat.le_refl _)
  clear s0 hz hl
  have HG := Lib.hid hgl
  have HKn := Lib.hid hgl.k
  clear hgl
  obtain ⟨A, n, c, A2, n2, c2, k⟩ := z
  obtain ⟨es, hr, kn⟩ := l0
  simp only [LA.cs] at HG HKn ⊢
  obtain rfl := HKn.out
  clear HKn
  obtain ⟨zo, hzo, hop⟩ := OpG.of s1 (Nat.le_refl W.heap.size)
  obtain rfl : cs1 = zo.cs := by apply Array.ext'; exact hzo
  have HOp := Lib.hid hop
  have hk1 := hop.k
  have hk2 := hop.t
  clear s1 hzo hop
  obtain ⟨ok, ot, Oa, on, oc, X, xn, xc, Y, yn, yc⟩ := zo
  obtain ⟨ok', ot', oe, ox, oy⟩ := o0
  simp only at hk1 hk2
  subst hk1 hk2
  dsimp only [OA.cs]
  obtain ⟨w1, hw1⟩ : ∃ V : World, W.alloc (.cells #[.slice A n c, .slice A2 n2 c2, .bool k] 53) = V := ⟨_, rfl⟩
  have zw1 : w1.heap.size = W.heap.size + 1 := by rw [← hw1]; simp
  have kw1 : Keep Never W w1 := by rw [← hw1]; exact (Keep.refl _ _).alloc _
  have bw1 := Blk.new W 53 #[.slice A n c, .slice A2 n2 c2, .bool k]
  rw [hw1] at bw1
  obtain ⟨w2, hw2⟩ : ∃ V : World, w1.alloc (.cells #[.int .i64 ok, .int .i64 ot, .slice Oa on oc, .slice X xn xc, .slice Y yn yc] 56) = V := ⟨_, rfl⟩
  have kw2 : Keep Never w1 w2 := by rw [← hw2]; exact (Keep.refl _ _).alloc _
  have bw2 := Blk.new w1 56 #[.int .i64 ok, .int .i64 ot, .slice Oa on oc, .slice X xn xc, .slice Y yn yc]
  rw [hw2, zw1] at bw2
  have HB1 := Lib.hid (bw1.keep kw2 (fun h => h))
  have HB2 := Lib.hid bw2
  have HK := Lib.hid (kw1.trans kw2)
  clear kw1 kw2 bw1 bw2
  have HA := Lib.hid (awake18_any w2)
  go_enter Try.func11, Try.ntmps11
  go_wp2_with fail
  refine HA.out.mono ?_
  rintro e v2 ⟨rfl, hk2⟩
  have HK2 := Lib.hid (HK.out.trans hk2)
  have HBa := Lib.hid (HB1.out.keep hk2 (fun h => h))
  have HOa := Lib.hid (HB2.out.keep hk2 (fun h => h))
  have HC := Lib.hid (light_any ⟨A, n, c, A2, n2, c2, k⟩ (es, hr, k) ⟨ok, ot, Oa, on, oc, X, xn, xc, Y, yn, yc⟩ (ok, ot, oe, ox, oy) W.heap.size v2 (HG.out.never HK2.out) (HOp.out.never HK2.out))
  dsimp only [LA.cs, OA.cs] at HC
  clear hk2 HA hw1 hw2 zw1
  have y0 : v2.cell? ⟨W.heap.size, 0, none⟩ = some (.slice A n c) := HBa.out.cell 0
  have y1 : v2.cell? ⟨W.heap.size, 1, none⟩ = some (.slice A2 n2 c2) := HBa.out.cell 1
  have y2 : v2.cell? ⟨W.heap.size, 2, none⟩ = some (.bool k) := HBa.out.cell 2
  have o0 : v2.cell? ⟨W.heap.size + 1, 0, none⟩ = some (.int .i64 ok) := HOa.out.cell 0
  have o1 : v2.cell? ⟨W.heap.size + 1, 1, none⟩ = some (.int .i64 ot) := HOa.out.cell 1
  have o2 : v2.cell? ⟨W.heap.size + 1, 2, none⟩ = some (.slice Oa on oc) := HOa.out.cell 2
  have o3 : v2.cell? ⟨W.heap.size + 1, 3, none⟩ = some (.slice X xn xc) := HOa.out.cell 3
  have o4 : v2.cell? ⟨W.heap.size + 1, 4, none⟩ = some (.slice Y yn yc) := HOa.out.cell 4
  go_wp2_with fail
  refine HC.out.mono ?_
  rintro e w3 ⟨lb, rfl, hlb, hk3⟩
  have HK3 := Lib.hid (HK2.out.trans hk3)
  have HB3 := Lib.hid (HBa.out.keep hk3 (fun h => h))
  have HO3 := Lib.hid (HOa.out.keep hk3 (fun h => h))
  clear hk3 HC y0 y1 y2 o0 o1 o2 o3 o4 HB1 HB2 HBa HOa HK2
  cases lb with
  | false =>
    go_wp2_with fail
    go_ret
    exact ⟨rfl, HK3.out⟩
  | true =>
    have hbd := hlb.out rfl
    have HBd := Lib.hid hbd.1
    have HOb := Lib.hid hbd.2
    have HLb := Lib.hid (hbd.1.ld (HG.out.never HK3.out) (by omega))
    have HLt := Lib.hid (hbd.1.tiny (HG.out.never HK3.out) (by omega))
    clear hbd hlb
    have hnn : n ≤ 40 := by have h1 := HG.out.e.len; have h2 := HBd.out.n; simp only at h1 h2; omega
    have hon : on ≤ 40 := by have h1 := HOp.out.e.len; have h2 := HOb.out.n; simp only at h1 h2; omega
    have hxn : xn ≤ 20 := by have h1 := HOp.out.sx.at_.len; have h2 := HOb.out.x; simp only at h1 h2; omega
    have hyn : yn ≤ 20 := by have h1 := HOp.out.sy.at_.len; have h2 := HOb.out.y; simp only at h1 h2; omega
    have HOe : Hid (∀ e ∈ oe, e.2.2.1.length ≤ 20) := Lib.hid HOb.out.e
    have HOx : Hid (ox.length ≤ 20) := Lib.hid HOb.out.x
    have HOy : Hid (oy.length ≤ 20) := Lib.hid HOb.out.y
    have hP := (fun (V : World) (hk : Keep Never W V) => gadd_any ⟨A, n, c, A2, n2, c2, k⟩ (es, hr, k) W.heap.size oe Oa on oc V (HG.out.never hk) (HOp.out.e.never hk) HLb.out (by omega) (fun e he => by have := HOe.out e he; omega) hk.size)
    have hQ := (fun (V : World) (hk : Keep Never W V) => radd_any ⟨A, n, c, A2, n2, c2, k⟩ (es, hr, k) W.heap.size oe Oa on oc V (HG.out.never hk) (HOp.out.e.never hk) HLt.out (by show n ≤ 50000; omega) (by omega) (fun e he => by have := HOe.out e he; omega) hk.size)
    have hB := adds_bnd HBd.out HOe.out
    obtain ⟨⟨rl0, rz0⟩, hr0⟩ : ∃ r, addM (es, hr, k) oe = r := ⟨_, rfl⟩
    rw [hr0] at hP hQ hB
    dsimp only [LA.cs] at hP hQ hB
    have HP0 := Lib.hid hP
    have HQ0 := Lib.hid hQ
    have HBB0 := Lib.hid hB
    clear hr0 hP hQ hB
    have hP := (fun (V : World) (hk : Keep Never W V) => gexp_any ⟨A, n, c, A2, n2, c2, k⟩ (es, hr, k) W.heap.size ot V (HG.out.never hk) HLb.out hk.size)
    have hQ := (fun (V : World) (hk : Keep Never W V) => rexp_any ⟨A, n, c, A2, n2, c2, k⟩ (es, hr, k) W.heap.size ot V (HG.out.never hk) HLt.out hk.size)
    have hB := exp_bnd HBd.out ot
    obtain ⟨⟨rl1, rz1⟩, hr1⟩ : ∃ r, expireM (es, hr, k) ot = r := ⟨_, rfl⟩
    rw [hr1] at hP hQ hB
    dsimp only [LA.cs] at hP hQ hB
    have HP1 := Lib.hid hP
    have HQ1 := Lib.hid hQ
    have HBB1 := Lib.hid hB
    clear hr1 hP hQ hB
    have hP := (fun (V : World) (hk : Keep Never W V) => gsho_any ⟨A, n, c, A2, n2, c2, k⟩ (es, hr, k) W.heap.size ot ox X xn xc V (HG.out.never hk) (HOp.out.sx.never hk) HLb.out (by omega) hk.size)
    have hQ := (fun (V : World) (hk : Keep Never W V) => rsho_any ⟨A, n, c, A2, n2, c2, k⟩ (es, hr, k) W.heap.size ot ox X xn xc V (HG.out.never hk) (HOp.out.sx.never hk) HLt.out (by omega) hk.size)
    have hB := sho_bnd HBd.out ot ox
    obtain ⟨⟨rl2, rz2⟩, hr2⟩ : ∃ r, shortenM (es, hr, k) ot ox = r := ⟨_, rfl⟩
    rw [hr2] at hP hQ hB
    dsimp only [LA.cs] at hP hQ hB
    have HP2 := Lib.hid hP
    have HQ2 := Lib.hid hQ
    have HBB2 := Lib.hid hB
    clear hr2 hP hQ hB
    have hP := (fun (V : World) (hk : Keep Never W V) => gsta_any ⟨A, n, c, A2, n2, c2, k⟩ (es, hr, k) W.heap.size ox oy X Y xn xc yn yc V (HG.out.never hk) (HOp.out.sx.never hk) (HOp.out.sy.never hk) HLb.out (by omega) (by omega) hk.size)
    have hQ := (fun (V : World) (hk : Keep Never W V) => rsta_any ⟨A, n, c, A2, n2, c2, k⟩ (es, hr, k) W.heap.size ox oy X Y xn xc yn yc V (HG.out.never hk) (HOp.out.sx.never hk) (HOp.out.sy.never hk) HLt.out (by omega) (by omega) hk.size)
    have hB := sta_bnd HBd.out ox oy
    obtain ⟨⟨rl3, rz3⟩, hr3⟩ : ∃ r, standsM (es, hr, k) ox oy = r := ⟨_, rfl⟩
    rw [hr3] at hP hQ hB
    dsimp only [LA.cs] at hP hQ hB
    have HP3 := Lib.hid hP
    have HQ3 := Lib.hid hQ
    have HBB3 := Lib.hid hB
    clear hr3 hP hQ hB
    have hP := (fun (V : World) (hk : Keep Never W V) => glost_any ⟨A, n, c, A2, n2, c2, k⟩ (es, hr, k) W.heap.size V (HG.out.never hk) HLb.out.small hk.size)
    have hQ := (fun (V : World) (hk : Keep Never W V) => rlost_any ⟨A, n, c, A2, n2, c2, k⟩ (es, hr, k) W.heap.size V (HG.out.never hk) HLt.out hk.size)
    have hB := lost_bnd HBd.out
    obtain ⟨⟨rl4, rz4⟩, hr4⟩ : ∃ r, lostM (es, hr, k) = r := ⟨_, rfl⟩
    rw [hr4] at hP hQ hB
    dsimp only [LA.cs] at hP hQ hB
    have HP4 := Lib.hid hP
    have HQ4 := Lib.hid hQ
    have HBB4 := Lib.hid hB
    clear hr4 hP hQ hB
    have HC := Lib.hid (HP0.out w3 HK3.out)
    have y0 : w3.cell? ⟨W.heap.size, 0, none⟩ = some (.slice A n c) := HB3.out.cell 0
    have y1 : w3.cell? ⟨W.heap.size, 1, none⟩ = some (.slice A2 n2 c2) := HB3.out.cell 1
    have y2 : w3.cell? ⟨W.heap.size, 2, none⟩ = some (.bool k) := HB3.out.cell 2
    have o0 : w3.cell? ⟨W.heap.size + 1, 0, none⟩ = some (.int .i64 ok) := HO3.out.cell 0
    have o1 : w3.cell? ⟨W.heap.size + 1, 1, none⟩ = some (.int .i64 ot) := HO3.out.cell 1
    have o2 : w3.cell? ⟨W.heap.size + 1, 2, none⟩ = some (.slice Oa on oc) := HO3.out.cell 2
    have o3 : w3.cell? ⟨W.heap.size + 1, 3, none⟩ = some (.slice X xn xc) := HO3.out.cell 3
    have o4 : w3.cell? ⟨W.heap.size + 1, 4, none⟩ = some (.slice Y yn yc) := HO3.out.cell 4
    go_wp2_with fail
    refine HC.out.mono ?_
    rintro e u01 ⟨⟨Paa0, pna0, pca0, Pba0, pma0, pda0, pka0⟩, rfl, hg, hk⟩
    dsimp only [LA.cs]
    obtain ⟨u02, hu02⟩ : ∃ V : World, u01.alloc (.cells #[.slice Paa0 pna0 pca0, .slice Pba0 pma0 pda0, .bool pka0] 53) = V := ⟨_, rfl⟩
    have K5 : Keep Never u01 u02 := by rw [← hu02]; exact (Keep.refl _ _).alloc _
    have B5 := Blk.new u01 53 #[.slice Paa0 pna0 pca0, .slice Pba0 pma0 pda0, .bool pka0]
    rw [hu02] at B5
    obtain ⟨pa0, hpa0⟩ : ∃ q, u01.heap.size = q := ⟨_, rfl⟩
    rw [hpa0] at B5
    have HKn := Lib.hid (HK3.out.trans (hk.trans K5))
    have HBn := Lib.hid (HB3.out.keep (hk.trans K5) (fun h => h))
    have HOn := Lib.hid (HO3.out.keep (hk.trans K5) (fun h => h))
    have HGa := Lib.hid (hg.never K5)
    have HLa := Lib.hid B5
    have HC := Lib.hid (HQ0.out u02 HKn.out)
    clear hg hk K5 B5 y0 y1 y2 o0 o1 o2 o3 o4
    have y0 : u02.cell? ⟨W.heap.size, 0, none⟩ = some (.slice A n c) := HBn.out.cell 0
    have y1 : u02.cell? ⟨W.heap.size, 1, none⟩ = some (.slice A2 n2 c2) := HBn.out.cell 1
    have y2 : u02.cell? ⟨W.heap.size, 2, none⟩ = some (.bool k) := HBn.out.cell 2
    have o0 : u02.cell? ⟨W.heap.size + 1, 0, none⟩ = some (.int .i64 ok) := HOn.out.cell 0
    have o1 : u02.cell? ⟨W.heap.size + 1, 1, none⟩ = some (.int .i64 ot) := HOn.out.cell 1
    have o2 : u02.cell? ⟨W.heap.size + 1, 2, none⟩ = some (.slice Oa on oc) := HOn.out.cell 2
    have o3 : u02.cell? ⟨W.heap.size + 1, 3, none⟩ = some (.slice X xn xc) := HOn.out.cell 3
    have o4 : u02.cell? ⟨W.heap.size + 1, 4, none⟩ = some (.slice Y yn yc) := HOn.out.cell 4
    go_wp2_with fail
    refine HC.out.mono ?_
    clear hu02 hpa0
    rintro e u03 ⟨⟨Pab0, pnb0, pcb0, Pbb0, pmb0, pdb0, pkb0⟩, rfl, hg, hk⟩
    dsimp only [LA.cs]
    obtain ⟨u04, hu04⟩ : ∃ V : World, u03.alloc (.cells #[.slice Pab0 pnb0 pcb0, .slice Pbb0 pmb0 pdb0, .bool pkb0] 53) = V := ⟨_, rfl⟩
    have K5 : Keep Never u03 u04 := by rw [← hu04]; exact (Keep.refl _ _).alloc _
    have B5 := Blk.new u03 53 #[.slice Pab0 pnb0 pcb0, .slice Pbb0 pmb0 pdb0, .bool pkb0]
    rw [hu04] at B5
    obtain ⟨pb0, hpb0⟩ : ∃ q, u03.heap.size = q := ⟨_, rfl⟩
    rw [hpb0] at B5
    have HKm := Lib.hid (HKn.out.trans (hk.trans K5))
    have HBm := Lib.hid (HBn.out.keep (hk.trans K5) (fun h => h))
    have HOm := Lib.hid (HOn.out.keep (hk.trans K5) (fun h => h))
    have HGa2 := Lib.hid (HGa.out.never (hk.trans K5))
    have HLa2 := Lib.hid (HLa.out.keep (hk.trans K5) (fun h => h))
    have HGb := Lib.hid (hg.never K5)
    have HLb2 := Lib.hid B5
    have HC := Lib.hid (HBB0.out.same (by have h1 := HOx.out; have h2 := HOy.out; omega) HGa2.out HGb.out)
    dsimp only [LA.cs] at HC
    clear hg hk K5 B5 y0 y1 y2 o0 o1 o2 o3 o4 HKn HBn HOn HGa HLa
    have s0 : u04.cell? ⟨pa0, 0, none⟩ = some (.slice Paa0 pna0 pca0) := HLa2.out.cell 0
    have s1 : u04.cell? ⟨pa0, 1, none⟩ = some (.slice Pba0 pma0 pda0) := HLa2.out.cell 1
    have s2 : u04.cell? ⟨pa0, 2, none⟩ = some (.bool pka0) := HLa2.out.cell 2
    have t0 : u04.cell? ⟨pb0, 0, none⟩ = some (.slice Pab0 pnb0 pcb0) := HLb2.out.cell 0
    have t1 : u04.cell? ⟨pb0, 1, none⟩ = some (.slice Pbb0 pmb0 pdb0) := HLb2.out.cell 1
    have t2 : u04.cell? ⟨pb0, 2, none⟩ = some (.bool pkb0) := HLb2.out.cell 2
    go_wp2_with fail
    refine HC.out.mono ?_
    clear hu04 hpb0
    rintro e u05 ⟨rfl, hk⟩
    have HKx0 := Lib.hid (HKm.out.trans hk)
    have HBx0 := Lib.hid (HBm.out.keep hk (fun h => h))
    have HOq0 := Lib.hid (HOm.out.keep hk (fun h => h))
    clear hk HC s0 s1 s2 t0 t1 t2 HKm HBm HOm HGa2 HLa2 HGb HLb2 HP0 HQ0 HBB0
    have HC := Lib.hid (HP1.out u05 HKx0.out)
    have y0 : u05.cell? ⟨W.heap.size, 0, none⟩ = some (.slice A n c) := HBx0.out.cell 0
    have y1 : u05.cell? ⟨W.heap.size, 1, none⟩ = some (.slice A2 n2 c2) := HBx0.out.cell 1
    have y2 : u05.cell? ⟨W.heap.size, 2, none⟩ = some (.bool k) := HBx0.out.cell 2
    have o0 : u05.cell? ⟨W.heap.size + 1, 0, none⟩ = some (.int .i64 ok) := HOq0.out.cell 0
    have o1 : u05.cell? ⟨W.heap.size + 1, 1, none⟩ = some (.int .i64 ot) := HOq0.out.cell 1
    have o2 : u05.cell? ⟨W.heap.size + 1, 2, none⟩ = some (.slice Oa on oc) := HOq0.out.cell 2
    have o3 : u05.cell? ⟨W.heap.size + 1, 3, none⟩ = some (.slice X xn xc) := HOq0.out.cell 3
    have o4 : u05.cell? ⟨W.heap.size + 1, 4, none⟩ = some (.slice Y yn yc) := HOq0.out.cell 4
    go_wp2_with fail
    refine HC.out.mono ?_
    rintro e u11 ⟨⟨Paa1, pna1, pca1, Pba1, pma1, pda1, pka1⟩, rfl, hg, hk⟩
    dsimp only [LA.cs]
    obtain ⟨u12, hu12⟩ : ∃ V : World, u11.alloc (.cells #[.slice Paa1 pna1 pca1, .slice Pba1 pma1 pda1, .bool pka1] 53) = V := ⟨_, rfl⟩
    have K5 : Keep Never u11 u12 := by rw [← hu12]; exact (Keep.refl _ _).alloc _
    have B5 := Blk.new u11 53 #[.slice Paa1 pna1 pca1, .slice Pba1 pma1 pda1, .bool pka1]
    rw [hu12] at B5
    obtain ⟨pa1, hpa1⟩ : ∃ q, u11.heap.size = q := ⟨_, rfl⟩
    rw [hpa1] at B5
    have HKn := Lib.hid (HKx0.out.trans (hk.trans K5))
    have HBn := Lib.hid (HBx0.out.keep (hk.trans K5) (fun h => h))
    have HOn := Lib.hid (HOq0.out.keep (hk.trans K5) (fun h => h))
    have HGa := Lib.hid (hg.never K5)
    have HLa := Lib.hid B5
    have HC := Lib.hid (HQ1.out u12 HKn.out)
    clear hg hk K5 B5 y0 y1 y2 o0 o1 o2 o3 o4
    have y0 : u12.cell? ⟨W.heap.size, 0, none⟩ = some (.slice A n c) := HBn.out.cell 0
    have y1 : u12.cell? ⟨W.heap.size, 1, none⟩ = some (.slice A2 n2 c2) := HBn.out.cell 1
    have y2 : u12.cell? ⟨W.heap.size, 2, none⟩ = some (.bool k) := HBn.out.cell 2
    have o0 : u12.cell? ⟨W.heap.size + 1, 0, none⟩ = some (.int .i64 ok) := HOn.out.cell 0
    have o1 : u12.cell? ⟨W.heap.size + 1, 1, none⟩ = some (.int .i64 ot) := HOn.out.cell 1
    have o2 : u12.cell? ⟨W.heap.size + 1, 2, none⟩ = some (.slice Oa on oc) := HOn.out.cell 2
    have o3 : u12.cell? ⟨W.heap.size + 1, 3, none⟩ = some (.slice X xn xc) := HOn.out.cell 3
    have o4 : u12.cell? ⟨W.heap.size + 1, 4, none⟩ = some (.slice Y yn yc) := HOn.out.cell 4
    go_wp2_with fail
    refine HC.out.mono ?_
    clear hu12 hpa1
    rintro e u13 ⟨⟨Pab1, pnb1, pcb1, Pbb1, pmb1, pdb1, pkb1⟩, rfl, hg, hk⟩
    dsimp only [LA.cs]
    obtain ⟨u14, hu14⟩ : ∃ V : World, u13.alloc (.cells #[.slice Pab1 pnb1 pcb1, .slice Pbb1 pmb1 pdb1, .bool pkb1] 53) = V := ⟨_, rfl⟩
    have K5 : Keep Never u13 u14 := by rw [← hu14]; exact (Keep.refl _ _).alloc _
    have B5 := Blk.new u13 53 #[.slice Pab1 pnb1 pcb1, .slice Pbb1 pmb1 pdb1, .bool pkb1]
    rw [hu14] at B5
    obtain ⟨pb1, hpb1⟩ : ∃ q, u13.heap.size = q := ⟨_, rfl⟩
    rw [hpb1] at B5
    have HKm := Lib.hid (HKn.out.trans (hk.trans K5))
    have HBm := Lib.hid (HBn.out.keep (hk.trans K5) (fun h => h))
    have HOm := Lib.hid (HOn.out.keep (hk.trans K5) (fun h => h))
    have HGa2 := Lib.hid (HGa.out.never (hk.trans K5))
    have HLa2 := Lib.hid (HLa.out.keep (hk.trans K5) (fun h => h))
    have HGb := Lib.hid (hg.never K5)
    have HLb2 := Lib.hid B5
    have HC := Lib.hid (HBB1.out.same (by have h1 := HOx.out; have h2 := HOy.out; omega) HGa2.out HGb.out)
    dsimp only [LA.cs] at HC
    clear hg hk K5 B5 y0 y1 y2 o0 o1 o2 o3 o4 HKn HBn HOn HGa HLa
    have s0 : u14.cell? ⟨pa1, 0, none⟩ = some (.slice Paa1 pna1 pca1) := HLa2.out.cell 0
    have s1 : u14.cell? ⟨pa1, 1, none⟩ = some (.slice Pba1 pma1 pda1) := HLa2.out.cell 1
    have s2 : u14.cell? ⟨pa1, 2, none⟩ = some (.bool pka1) := HLa2.out.cell 2
    have t0 : u14.cell? ⟨pb1, 0, none⟩ = some (.slice Pab1 pnb1 pcb1) := HLb2.out.cell 0
    have t1 : u14.cell? ⟨pb1, 1, none⟩ = some (.slice Pbb1 pmb1 pdb1) := HLb2.out.cell 1
    have t2 : u14.cell? ⟨pb1, 2, none⟩ = some (.bool pkb1) := HLb2.out.cell 2
    go_wp2_with fail
    refine HC.out.mono ?_
    clear hu14 hpb1
    rintro e u15 ⟨rfl, hk⟩
    have HKx1 := Lib.hid (HKm.out.trans hk)
    have HBx1 := Lib.hid (HBm.out.keep hk (fun h => h))
    have HOx1 := Lib.hid (HOm.out.keep hk (fun h => h))
    clear hk HC s0 s1 s2 t0 t1 t2 HKm HBm HOm HGa2 HLa2 HGb HLb2 HP1 HQ1 HBB1
    have HC := Lib.hid (HP2.out u15 HKx1.out)
    have y0 : u15.cell? ⟨W.heap.size, 0, none⟩ = some (.slice A n c) := HBx1.out.cell 0
    have y1 : u15.cell? ⟨W.heap.size, 1, none⟩ = some (.slice A2 n2 c2) := HBx1.out.cell 1
    have y2 : u15.cell? ⟨W.heap.size, 2, none⟩ = some (.bool k) := HBx1.out.cell 2
    have o0 : u15.cell? ⟨W.heap.size + 1, 0, none⟩ = some (.int .i64 ok) := HOx1.out.cell 0
    have o1 : u15.cell? ⟨W.heap.size + 1, 1, none⟩ = some (.int .i64 ot) := HOx1.out.cell 1
    have o2 : u15.cell? ⟨W.heap.size + 1, 2, none⟩ = some (.slice Oa on oc) := HOx1.out.cell 2
    have o3 : u15.cell? ⟨W.heap.size + 1, 3, none⟩ = some (.slice X xn xc) := HOx1.out.cell 3
    have o4 : u15.cell? ⟨W.heap.size + 1, 4, none⟩ = some (.slice Y yn yc) := HOx1.out.cell 4
    go_wp2_with fail
    refine HC.out.mono ?_
    rintro e u21 ⟨⟨Paa2, pna2, pca2, Pba2, pma2, pda2, pka2⟩, rfl, hg, hk⟩
    dsimp only [LA.cs]
    obtain ⟨u22, hu22⟩ : ∃ V : World, u21.alloc (.cells #[.slice Paa2 pna2 pca2, .slice Pba2 pma2 pda2, .bool pka2] 53) = V := ⟨_, rfl⟩
    have K5 : Keep Never u21 u22 := by rw [← hu22]; exact (Keep.refl _ _).alloc _
    have B5 := Blk.new u21 53 #[.slice Paa2 pna2 pca2, .slice Pba2 pma2 pda2, .bool pka2]
    rw [hu22] at B5
    obtain ⟨pa2, hpa2⟩ : ∃ q, u21.heap.size = q := ⟨_, rfl⟩
    rw [hpa2] at B5
    have HKn := Lib.hid (HKx1.out.trans (hk.trans K5))
    have HBn := Lib.hid (HBx1.out.keep (hk.trans K5) (fun h => h))
    have HOn := Lib.hid (HOx1.out.keep (hk.trans K5) (fun h => h))
    have HGa := Lib.hid (hg.never K5)
    have HLa := Lib.hid B5
    have HC := Lib.hid (HQ2.out u22 HKn.out)
    clear hg hk K5 B5 y0 y1 y2 o0 o1 o2 o3 o4
    have y0 : u22.cell? ⟨W.heap.size, 0, none⟩ = some (.slice A n c) := HBn.out.cell 0
    have y1 : u22.cell? ⟨W.heap.size, 1, none⟩ = some (.slice A2 n2 c2) := HBn.out.cell 1
    have y2 : u22.cell? ⟨W.heap.size, 2, none⟩ = some (.bool k) := HBn.out.cell 2
    have o0 : u22.cell? ⟨W.heap.size + 1, 0, none⟩ = some (.int .i64 ok) := HOn.out.cell 0
    have o1 : u22.cell? ⟨W.heap.size + 1, 1, none⟩ = some (.int .i64 ot) := HOn.out.cell 1
    have o2 : u22.cell? ⟨W.heap.size + 1, 2, none⟩ = some (.slice Oa on oc) := HOn.out.cell 2
    have o3 : u22.cell? ⟨W.heap.size + 1, 3, none⟩ = some (.slice X xn xc) := HOn.out.cell 3
    have o4 : u22.cell? ⟨W.heap.size + 1, 4, none⟩ = some (.slice Y yn yc) := HOn.out.cell 4
    go_wp2_with fail
    refine HC.out.mono ?_
    clear hu22 hpa2
    rintro e u23 ⟨⟨Pab2, pnb2, pcb2, Pbb2, pmb2, pdb2, pkb2⟩, rfl, hg, hk⟩
    dsimp only [LA.cs]
    obtain ⟨u24, hu24⟩ : ∃ V : World, u23.alloc (.cells #[.slice Pab2 pnb2 pcb2, .slice Pbb2 pmb2 pdb2, .bool pkb2] 53) = V := ⟨_, rfl⟩
    have K5 : Keep Never u23 u24 := by rw [← hu24]; exact (Keep.refl _ _).alloc _
    have B5 := Blk.new u23 53 #[.slice Pab2 pnb2 pcb2, .slice Pbb2 pmb2 pdb2, .bool pkb2]
    rw [hu24] at B5
    obtain ⟨pb2, hpb2⟩ : ∃ q, u23.heap.size = q := ⟨_, rfl⟩
    rw [hpb2] at B5
    have HKm := Lib.hid (HKn.out.trans (hk.trans K5))
    have HBm := Lib.hid (HBn.out.keep (hk.trans K5) (fun h => h))
    have HOm := Lib.hid (HOn.out.keep (hk.trans K5) (fun h => h))
    have HGa2 := Lib.hid (HGa.out.never (hk.trans K5))
    have HLa2 := Lib.hid (HLa.out.keep (hk.trans K5) (fun h => h))
    have HGb := Lib.hid (hg.never K5)
    have HLb2 := Lib.hid B5
    have HC := Lib.hid (HBB2.out.same (by have h1 := HOx.out; have h2 := HOy.out; omega) HGa2.out HGb.out)
    dsimp only [LA.cs] at HC
    clear hg hk K5 B5 y0 y1 y2 o0 o1 o2 o3 o4 HKn HBn HOn HGa HLa
    have s0 : u24.cell? ⟨pa2, 0, none⟩ = some (.slice Paa2 pna2 pca2) := HLa2.out.cell 0
    have s1 : u24.cell? ⟨pa2, 1, none⟩ = some (.slice Pba2 pma2 pda2) := HLa2.out.cell 1
    have s2 : u24.cell? ⟨pa2, 2, none⟩ = some (.bool pka2) := HLa2.out.cell 2
    have t0 : u24.cell? ⟨pb2, 0, none⟩ = some (.slice Pab2 pnb2 pcb2) := HLb2.out.cell 0
    have t1 : u24.cell? ⟨pb2, 1, none⟩ = some (.slice Pbb2 pmb2 pdb2) := HLb2.out.cell 1
    have t2 : u24.cell? ⟨pb2, 2, none⟩ = some (.bool pkb2) := HLb2.out.cell 2
    go_wp2_with fail
    refine HC.out.mono ?_
    clear hu24 hpb2
    rintro e u25 ⟨rfl, hk⟩
    have HKx2 := Lib.hid (HKm.out.trans hk)
    have HBx2 := Lib.hid (HBm.out.keep hk (fun h => h))
    have HOx2 := Lib.hid (HOm.out.keep hk (fun h => h))
    clear hk HC s0 s1 s2 t0 t1 t2 HKm HBm HOm HGa2 HLa2 HGb HLb2 HP2 HQ2 HBB2
    have HC := Lib.hid (HP3.out u25 HKx2.out)
    have y0 : u25.cell? ⟨W.heap.size, 0, none⟩ = some (.slice A n c) := HBx2.out.cell 0
    have y1 : u25.cell? ⟨W.heap.size, 1, none⟩ = some (.slice A2 n2 c2) := HBx2.out.cell 1
    have y2 : u25.cell? ⟨W.heap.size, 2, none⟩ = some (.bool k) := HBx2.out.cell 2
    have o0 : u25.cell? ⟨W.heap.size + 1, 0, none⟩ = some (.int .i64 ok) := HOx2.out.cell 0
    have o1 : u25.cell? ⟨W.heap.size + 1, 1, none⟩ = some (.int .i64 ot) := HOx2.out.cell 1
    have o2 : u25.cell? ⟨W.heap.size + 1, 2, none⟩ = some (.slice Oa on oc) := HOx2.out.cell 2
    have o3 : u25.cell? ⟨W.heap.size + 1, 3, none⟩ = some (.slice X xn xc) := HOx2.out.cell 3
    have o4 : u25.cell? ⟨W.heap.size + 1, 4, none⟩ = some (.slice Y yn yc) := HOx2.out.cell 4
    go_wp2_with fail
    refine HC.out.mono ?_
    rintro e u31 ⟨⟨Paa3, pna3, pca3, Pba3, pma3, pda3, pka3⟩, rfl, hg, hk⟩
    dsimp only [LA.cs]
    obtain ⟨u32, hu32⟩ : ∃ V : World, u31.alloc (.cells #[.slice Paa3 pna3 pca3, .slice Pba3 pma3 pda3, .bool pka3] 53) = V := ⟨_, rfl⟩
    have K5 : Keep Never u31 u32 := by rw [← hu32]; exact (Keep.refl _ _).alloc _
    have B5 := Blk.new u31 53 #[.slice Paa3 pna3 pca3, .slice Pba3 pma3 pda3, .bool pka3]
    rw [hu32] at B5
    obtain ⟨pa3, hpa3⟩ : ∃ q, u31.heap.size = q := ⟨_, rfl⟩
    rw [hpa3] at B5
    have HKn := Lib.hid (HKx2.out.trans (hk.trans K5))
    have HBn := Lib.hid (HBx2.out.keep (hk.trans K5) (fun h => h))
    have HOn := Lib.hid (HOx2.out.keep (hk.trans K5) (fun h => h))
    have HGa := Lib.hid (hg.never K5)
    have HLa := Lib.hid B5
    have HC := Lib.hid (HQ3.out u32 HKn.out)
    clear hg hk K5 B5 y0 y1 y2 o0 o1 o2 o3 o4
    have y0 : u32.cell? ⟨W.heap.size, 0, none⟩ = some (.slice A n c) := HBn.out.cell 0
    have y1 : u32.cell? ⟨W.heap.size, 1, none⟩ = some (.slice A2 n2 c2) := HBn.out.cell 1
    have y2 : u32.cell? ⟨W.heap.size, 2, none⟩ = some (.bool k) := HBn.out.cell 2
    have o0 : u32.cell? ⟨W.heap.size + 1, 0, none⟩ = some (.int .i64 ok) := HOn.out.cell 0
    have o1 : u32.cell? ⟨W.heap.size + 1, 1, none⟩ = some (.int .i64 ot) := HOn.out.cell 1
    have o2 : u32.cell? ⟨W.heap.size + 1, 2, none⟩ = some (.slice Oa on oc) := HOn.out.cell 2
    have o3 : u32.cell? ⟨W.heap.size + 1, 3, none⟩ = some (.slice X xn xc) := HOn.out.cell 3
    have o4 : u32.cell? ⟨W.heap.size + 1, 4, none⟩ = some (.slice Y yn yc) := HOn.out.cell 4
    go_wp2_with fail
    refine HC.out.mono ?_
    clear hu32 hpa3
    rintro e u33 ⟨⟨Pab3, pnb3, pcb3, Pbb3, pmb3, pdb3, pkb3⟩, rfl, hg, hk⟩
    dsimp only [LA.cs]
    obtain ⟨u34, hu34⟩ : ∃ V : World, u33.alloc (.cells #[.slice Pab3 pnb3 pcb3, .slice Pbb3 pmb3 pdb3, .bool pkb3] 53) = V := ⟨_, rfl⟩
    have K5 : Keep Never u33 u34 := by rw [← hu34]; exact (Keep.refl _ _).alloc _
    have B5 := Blk.new u33 53 #[.slice Pab3 pnb3 pcb3, .slice Pbb3 pmb3 pdb3, .bool pkb3]
    rw [hu34] at B5
    obtain ⟨pb3, hpb3⟩ : ∃ q, u33.heap.size = q := ⟨_, rfl⟩
    rw [hpb3] at B5
    have HKm := Lib.hid (HKn.out.trans (hk.trans K5))
    have HBm := Lib.hid (HBn.out.keep (hk.trans K5) (fun h => h))
    have HOm := Lib.hid (HOn.out.keep (hk.trans K5) (fun h => h))
    have HGa2 := Lib.hid (HGa.out.never (hk.trans K5))
    have HLa2 := Lib.hid (HLa.out.keep (hk.trans K5) (fun h => h))
    have HGb := Lib.hid (hg.never K5)
    have HLb2 := Lib.hid B5
    have HC := Lib.hid (HBB3.out.same (by have h1 := HOx.out; have h2 := HOy.out; omega) HGa2.out HGb.out)
    dsimp only [LA.cs] at HC
    clear hg hk K5 B5 y0 y1 y2 o0 o1 o2 o3 o4 HKn HBn HOn HGa HLa
    have s0 : u34.cell? ⟨pa3, 0, none⟩ = some (.slice Paa3 pna3 pca3) := HLa2.out.cell 0
    have s1 : u34.cell? ⟨pa3, 1, none⟩ = some (.slice Pba3 pma3 pda3) := HLa2.out.cell 1
    have s2 : u34.cell? ⟨pa3, 2, none⟩ = some (.bool pka3) := HLa2.out.cell 2
    have t0 : u34.cell? ⟨pb3, 0, none⟩ = some (.slice Pab3 pnb3 pcb3) := HLb2.out.cell 0
    have t1 : u34.cell? ⟨pb3, 1, none⟩ = some (.slice Pbb3 pmb3 pdb3) := HLb2.out.cell 1
    have t2 : u34.cell? ⟨pb3, 2, none⟩ = some (.bool pkb3) := HLb2.out.cell 2
    go_wp2_with fail
    refine HC.out.mono ?_
    clear hu34 hpb3
    rintro e u35 ⟨rfl, hk⟩
    have HKx3 := Lib.hid (HKm.out.trans hk)
    have HBx3 := Lib.hid (HBm.out.keep hk (fun h => h))
    have HOx3 := Lib.hid (HOm.out.keep hk (fun h => h))
    clear hk HC s0 s1 s2 t0 t1 t2 HKm HBm HOm HGa2 HLa2 HGb HLb2 HP3 HQ3 HBB3
    have HC := Lib.hid (HP4.out u35 HKx3.out)
    have y0 : u35.cell? ⟨W.heap.size, 0, none⟩ = some (.slice A n c) := HBx3.out.cell 0
    have y1 : u35.cell? ⟨W.heap.size, 1, none⟩ = some (.slice A2 n2 c2) := HBx3.out.cell 1
    have y2 : u35.cell? ⟨W.heap.size, 2, none⟩ = some (.bool k) := HBx3.out.cell 2
    have o0 : u35.cell? ⟨W.heap.size + 1, 0, none⟩ = some (.int .i64 ok) := HOx3.out.cell 0
    have o1 : u35.cell? ⟨W.heap.size + 1, 1, none⟩ = some (.int .i64 ot) := HOx3.out.cell 1
    have o2 : u35.cell? ⟨W.heap.size + 1, 2, none⟩ = some (.slice Oa on oc) := HOx3.out.cell 2
    have o3 : u35.cell? ⟨W.heap.size + 1, 3, none⟩ = some (.slice X xn xc) := HOx3.out.cell 3
    have o4 : u35.cell? ⟨W.heap.size + 1, 4, none⟩ = some (.slice Y yn yc) := HOx3.out.cell 4
    go_wp2_with fail
    refine HC.out.mono ?_
    rintro e u41 ⟨⟨Paa4, pna4, pca4, Pba4, pma4, pda4, pka4⟩, rfl, hg, hk⟩
    dsimp only [LA.cs]
    obtain ⟨u42, hu42⟩ : ∃ V : World, u41.alloc (.cells #[.slice Paa4 pna4 pca4, .slice Pba4 pma4 pda4, .bool pka4] 53) = V := ⟨_, rfl⟩
    have K5 : Keep Never u41 u42 := by rw [← hu42]; exact (Keep.refl _ _).alloc _
    have B5 := Blk.new u41 53 #[.slice Paa4 pna4 pca4, .slice Pba4 pma4 pda4, .bool pka4]
    rw [hu42] at B5
    obtain ⟨pa4, hpa4⟩ : ∃ q, u41.heap.size = q := ⟨_, rfl⟩
    rw [hpa4] at B5
    have HKn := Lib.hid (HKx3.out.trans (hk.trans K5))
    have HBn := Lib.hid (HBx3.out.keep (hk.trans K5) (fun h => h))
    have HOn := Lib.hid (HOx3.out.keep (hk.trans K5) (fun h => h))
    have HGa := Lib.hid (hg.never K5)
    have HLa := Lib.hid B5
    have HC := Lib.hid (HQ4.out u42 HKn.out)
    clear hg hk K5 B5 y0 y1 y2 o0 o1 o2 o3 o4
    have y0 : u42.cell? ⟨W.heap.size, 0, none⟩ = some (.slice A n c) := HBn.out.cell 0
    have y1 : u42.cell? ⟨W.heap.size, 1, none⟩ = some (.slice A2 n2 c2) := HBn.out.cell 1
    have y2 : u42.cell? ⟨W.heap.size, 2, none⟩ = some (.bool k) := HBn.out.cell 2
    have o0 : u42.cell? ⟨W.heap.size + 1, 0, none⟩ = some (.int .i64 ok) := HOn.out.cell 0
    have o1 : u42.cell? ⟨W.heap.size + 1, 1, none⟩ = some (.int .i64 ot) := HOn.out.cell 1
    have o2 : u42.cell? ⟨W.heap.size + 1, 2, none⟩ = some (.slice Oa on oc) := HOn.out.cell 2
    have o3 : u42.cell? ⟨W.heap.size + 1, 3, none⟩ = some (.slice X xn xc) := HOn.out.cell 3
    have o4 : u42.cell? ⟨W.heap.size + 1, 4, none⟩ = some (.slice Y yn yc) := HOn.out.cell 4
    go_wp2_with fail
    refine HC.out.mono ?_
    clear hu42 hpa4
    rintro e u43 ⟨⟨Pab4, pnb4, pcb4, Pbb4, pmb4, pdb4, pkb4⟩, rfl, hg, hk⟩
    dsimp only [LA.cs]
    obtain ⟨u44, hu44⟩ : ∃ V : World, u43.alloc (.cells #[.slice Pab4 pnb4 pcb4, .slice Pbb4 pmb4 pdb4, .bool pkb4] 53) = V := ⟨_, rfl⟩
    have K5 : Keep Never u43 u44 := by rw [← hu44]; exact (Keep.refl _ _).alloc _
    have B5 := Blk.new u43 53 #[.slice Pab4 pnb4 pcb4, .slice Pbb4 pmb4 pdb4, .bool pkb4]
    rw [hu44] at B5
    obtain ⟨pb4, hpb4⟩ : ∃ q, u43.heap.size = q := ⟨_, rfl⟩
    rw [hpb4] at B5
    have HKm := Lib.hid (HKn.out.trans (hk.trans K5))
    have HBm := Lib.hid (HBn.out.keep (hk.trans K5) (fun h => h))
    have HOm := Lib.hid (HOn.out.keep (hk.trans K5) (fun h => h))
    have HGa2 := Lib.hid (HGa.out.never (hk.trans K5))
    have HLa2 := Lib.hid (HLa.out.keep (hk.trans K5) (fun h => h))
    have HGb := Lib.hid (hg.never K5)
    have HLb2 := Lib.hid B5
    have HC := Lib.hid (HBB4.out.same (by have h1 := HOx.out; have h2 := HOy.out; omega) HGa2.out HGb.out)
    dsimp only [LA.cs] at HC
    clear hg hk K5 B5 y0 y1 y2 o0 o1 o2 o3 o4 HKn HBn HOn HGa HLa
    have s0 : u44.cell? ⟨pa4, 0, none⟩ = some (.slice Paa4 pna4 pca4) := HLa2.out.cell 0
    have s1 : u44.cell? ⟨pa4, 1, none⟩ = some (.slice Pba4 pma4 pda4) := HLa2.out.cell 1
    have s2 : u44.cell? ⟨pa4, 2, none⟩ = some (.bool pka4) := HLa2.out.cell 2
    have t0 : u44.cell? ⟨pb4, 0, none⟩ = some (.slice Pab4 pnb4 pcb4) := HLb2.out.cell 0
    have t1 : u44.cell? ⟨pb4, 1, none⟩ = some (.slice Pbb4 pmb4 pdb4) := HLb2.out.cell 1
    have t2 : u44.cell? ⟨pb4, 2, none⟩ = some (.bool pkb4) := HLb2.out.cell 2
    go_wp2_with fail
    refine HC.out.mono ?_
    clear hu44 hpb4
    rintro e u45 ⟨rfl, hk⟩
    have HKx4 := Lib.hid (HKm.out.trans hk)
    have HBx4 := Lib.hid (HBm.out.keep hk (fun h => h))
    have HOx4 := Lib.hid (HOm.out.keep hk (fun h => h))
    clear hk HC s0 s1 s2 t0 t1 t2 HKm HBm HOm HGa2 HLa2 HGb HLb2 HP4 HQ4 HBB4
    go_wp2_with fail
    go_ret
    exact ⟨rfl, HKx4.out⟩
end Go.Proofs.Ytlcbajdckgcopaa
