/- Chapter 18 (grant): GrantHolds. -/
import Derived.Test.YtlcbajdckgcopaaGrV
namespace Go.Proofs.Ytlcbajdckgcopaa
open Go.RowKit

theorem Bnd.tiny {N k : Nat} {w : World} {x : LA} {l : Ldg} (h : Bnd k l) (hg : LdG N w x l) (hk : k ≤ 1000) : LdT x l :=
  ⟨by rw [hg.e.len]; have := h.n; omega, fun e he => by have := h.e e he; omega, by rw [← hg.h.at_.len]; have := h.h; omega⟩
theorem Bnd.all20 {l : Ldg} (h : Bnd 20 l) : (l.2.1 ++ exts l.1).length ≤ 1000 := by
  have h1 := exts_bnd h.e
  have h2 := h.n
  rw [List.length_append]; have := h.h; omega

set_option maxHeartbeats 16000000 in
set_option maxRecDepth 100000 in
theorem grantHolds_walk (W : World) (cs0 : Array Value) (l0 : Ldg) (s0 : repLdg.cells W W.heap.size l0 cs0.toList) (X : Option Addr) (xn xc : Nat) (x : List Sp) (s1 : repSp.Sl W W.heap.size X xn xc x) :
    Calls Try.prog 7 #[.agg cs0, .slice X xn xc] W fun e W' => e = .returned (.bool true) ∧ Keep Never W W' := by
  obtain ⟨z, hz, hl⟩ := LdAt.of s0
  obtain rfl : cs0 = z.cs := by apply Array.ext'; exact hz
  have hgl : LdG W.heap.size W z l0 := LdG.old hl (Nat.le_refl _)
  clear s0 hz hl
  have HG := Lib.hid hgl
  have HKn := Lib.hid hgl.k
  clear hgl
  obtain ⟨A, n, c, A2, n2, c2, k⟩ := z
  obtain ⟨es, hr, kn⟩ := l0
  simp only [LA.cs] at HG HKn ⊢
  obtain rfl := HKn.out
  clear HKn
  have HX := Lib.hid (SpG.old (N := W.heap.size) (Sl.at s1) (Nat.le_refl _))
  have HXl := Lib.hid (Sl.at s1).len
  clear s1
  obtain ⟨w1, hw1⟩ : ∃ V : World, W.alloc (.cells #[.slice A n c, .slice A2 n2 c2, .bool k] 53) = V := ⟨_, rfl⟩
  have kw1 : Keep Never W w1 := by rw [← hw1]; exact (Keep.refl _ _).alloc _
  have bw1 := Blk.new W 53 #[.slice A n c, .slice A2 n2 c2, .bool k]
  rw [hw1] at bw1
  have HB1 := Lib.hid bw1
  have HK := Lib.hid kw1
  clear kw1 bw1
  have HA := Lib.hid (awake18_any w1)
  have HG1 := Lib.hid (HG.out.never HK.out)
  have HOg := Lib.hid (show OpG W.heap.size w1 ⟨0, 0, none, 0, 0, X, xn, xc, none, 0, 0⟩ (0, 0, [], x, []) from ⟨rfl, rfl, EsG.nil_ _ _, HX.out.never HK.out, SpG.nil _ _⟩)
  go_enter Try.func7, Try.ntmps7
  go_wp2_with fail
  refine HA.out.mono ?_
  rintro e w2 ⟨rfl, hk2⟩
  have HK2 := Lib.hid (HK.out.trans hk2)
  have HB2 := Lib.hid (HB1.out.keep hk2 (fun h => h))
  have HC := Lib.hid (light_any ⟨A, n, c, A2, n2, c2, k⟩ (es, hr, k) ⟨0, 0, none, 0, 0, X, xn, xc, none, 0, 0⟩ (0, 0, [], x, []) W.heap.size w2 (HG1.out.never hk2) (HOg.out.never hk2))
  dsimp only [LA.cs, OA.cs] at HC
  clear hk2 HA hw1
  have y0 : w2.cell? ⟨W.heap.size, 0, none⟩ = some (.slice A n c) := HB2.out.cell 0
  have y1 : w2.cell? ⟨W.heap.size, 1, none⟩ = some (.slice A2 n2 c2) := HB2.out.cell 1
  have y2 : w2.cell? ⟨W.heap.size, 2, none⟩ = some (.bool k) := HB2.out.cell 2
  go_wp2_with fail
  refine HC.out.mono ?_
  rintro e w3 ⟨lb, rfl, hlb, hk3⟩
  have HK3 := Lib.hid (HK2.out.trans hk3)
  have HB3 := Lib.hid (HB2.out.keep hk3 (fun h => h))
  have HG3 := Lib.hid (HG.out.never HK3.out)
  clear hk3 HC y0 y1 y2 HB1 HB2 HG1
  cases lb with
  | false =>
    go_wp2_with fail
    go_ret
    exact ⟨rfl, HK3.out⟩
  | true =>
    have hbd := hlb.out rfl
    have HBd := Lib.hid hbd.1
    have HOb := Lib.hid hbd.2
    have HLb := Lib.hid (hbd.1.ld HG3.out (by omega))
    clear hbd hlb

    have hxn : xn ≤ 20 := by have h1 := HOb.out.x; have h2 := HXl.out; simp only at h1; omega
    have HLt := Lib.hid (HBd.out.tiny HG3.out (by omega))
    have HFp := Lib.hid (fun (V : World) (hk : Keep Never W V) => gfree_any ⟨A, n, c, A2, n2, c2, k⟩ (es, hr, k) W.heap.size X xn xc x V (HG.out.never hk) (HX.out.never hk) (by omega) HLb.out.small (HBd.out.all (by omega)) hk.size)
    have HFr := Lib.hid (fun (V : World) (hk : Keep Never W V) => rfree_any ⟨A, n, c, A2, n2, c2, k⟩ (es, hr, k) W.heap.size X xn xc x V (HG.out.never hk) (HX.out.never hk) (by omega) HLt.out HBd.out.all20 hk.size)
    have HHp := Lib.hid (fun (V : World) (hk : Keep Never W V) => gheld_any ⟨A, n, c, A2, n2, c2, k⟩ (es, hr, k) W.heap.size V (HG.out.never hk) HLb.out.small (HBd.out.all (by omega)) hk.size)
    have HHr := Lib.hid (fun (V : World) (hk : Keep Never W V) => rheld_any ⟨A, n, c, A2, n2, c2, k⟩ (es, hr, k) W.heap.size V (HG.out.never hk) HLt.out HBd.out.all20 hk.size)
    have HMp := Lib.hid (fun (V : World) (hk : Keep Never W V) => gMay_any ⟨A, n, c, A2, n2, c2, k⟩ (es, hr, k) _ V (HG.out.never hk).ld HLb.out.small (Nat.le_refl _))
    have HMr := Lib.hid (fun (V : World) (hk : Keep Never W V) => rMay_any ⟨A, n, c, A2, n2, c2, k⟩ (es, hr, k) _ V (HG.out.never hk).ld HLt.out (Nat.le_refl _))
    have HHl : Hid ((heldM (es, hr, k)).length ≤ 1000) := Lib.hid (by
      unfold heldM; split
      · exact Nat.le_trans (normM_len _) HBd.out.all20
      · simp)
    obtain ⟨hl, hhl⟩ : ∃ z, heldM (es, hr, k) = z := ⟨_, rfl⟩
    obtain ⟨mb, hmb⟩ : ∃ z, mayL (es, hr, k) = z := ⟨_, rfl⟩
    obtain ⟨fb, hfb⟩ : ∃ z, freeM (es, hr, k) x = z := ⟨_, rfl⟩
    rw [hhl] at HHl HHp HHr
    rw [hmb] at HMp HMr
    rw [hfb] at HFp HFr
    clear hhl hmb hfb
    dsimp only [LA.cs] at HFp HFr HHp HHr HMp HMr
    have y0 : w3.cell? ⟨W.heap.size, 0, none⟩ = some (.slice A n c) := HB3.out.cell 0
    have y1 : w3.cell? ⟨W.heap.size, 1, none⟩ = some (.slice A2 n2 c2) := HB3.out.cell 1
    have y2 : w3.cell? ⟨W.heap.size, 2, none⟩ = some (.bool k) := HB3.out.cell 2
    have HS2 : Hid (∀ W', Keep Never w3 W' → Keep Never w3 W' ∧ W'.cell? ⟨W.heap.size, 0, none⟩ = some (.slice A n c) ∧ W'.cell? ⟨W.heap.size, 1, none⟩ = some (.slice A2 n2 c2) ∧ W'.cell? ⟨W.heap.size, 2, none⟩ = some (.bool k)) := Lib.hid (fun W' h => ⟨h, keepT h y0, keepT h y1, keepT h y2⟩)
    go_wp2_with fail
    clear y0 y1 y2
    refine wp_region_noPanic ?_
    refine wp_region_held_drew (S := (fun W' => Keep Never w3 W' ∧ W'.cell? ⟨W.heap.size, 0, none⟩ = some (.slice A n c) ∧ W'.cell? ⟨W.heap.size, 1, none⟩ = some (.slice A2 n2 c2) ∧ W'.cell? ⟨W.heap.size, 2, none⟩ = some (.bool k))) (by kernel_rfl) ?_ (fun hHeld => ?_)
    · exact HS2.out _ ((Keep.refl Never w3).drew)
    refine wpAnyH_take (i := 0) (oi := ?_) (v := ?_) ?_ (by kernel_rfl) (by kernel_rfl) (by kernel_rfl) (fun _ _ _ h => h) (Or.inl ⟨?_, ?_⟩) (by assumption) ?_
    rotate_left 2
    · (simp only [List.getElem?_toArray, List.getElem?_cons_succ, List.getElem?_cons_zero]; rfl)
    · rfl
    · (intro w hSw; (try dsimp only at hSw); go_simp; (try with_reducible rfl))
    try simp only [Act.put, List.setIfInBounds_toArray, List.set_cons_zero, List.set_cons_succ]
    refine wpAnyH_take (i := 2) (oi := ?_) (v := ?_) ?_ (by kernel_rfl) (by kernel_rfl) (by kernel_rfl) (fun _ _ _ h => h) (Or.inl ⟨?_, ?_⟩) (by assumption) ?_
    rotate_left 2
    · (simp only [List.getElem?_toArray, List.getElem?_cons_succ, List.getElem?_cons_zero]; rfl)
    · rfl
    · (intro w hSw; (try dsimp only at hSw); go_simp; (try with_reducible rfl))
    try simp only [Act.put, List.setIfInBounds_toArray, List.set_cons_zero, List.set_cons_succ]
    refine wpAnyH_ready (rs := [1]) (by kernel_rfl) (by simp) ?_
    refine AllReadyH.cons (o := ?_) ?_ (fun K hK => ?_) AllReadyH.nil
    rotate_left 1
    · (simp only [List.getElem?_toArray, List.getElem?_cons_succ, List.getElem?_cons_zero]; rfl)
    go_simp
    refine (HHp.out _ (HK3.out.trans hHeld.1)).mono ?_; rintro e v6 ⟨E1, e1n, e1c, rfl, hs6, hk6⟩; have HS6 := Lib.hid hs6
    (try go_wp2_with fail)
    refine hK.out _ _ ?_ (fun hHeld => ?_)
    · (try dsimp only); exact HS2.out _ (hHeld.1.trans hk6)
    clear hK K
    try simp only [Act.put, List.setIfInBounds_toArray, List.set_cons_zero, List.set_cons_succ]
    refine wpAnyH_ready (rs := [3]) (by kernel_rfl) (by simp) ?_
    refine AllReadyH.cons (o := ?_) ?_ (fun K hK => ?_) AllReadyH.nil
    rotate_left 1
    · (simp only [List.getElem?_toArray, List.getElem?_cons_succ, List.getElem?_cons_zero]; rfl)
    go_simp
    refine (HHr.out _ (HK3.out.trans hHeld.1)).mono ?_; rintro e v7 ⟨E2, e2n, e2c, rfl, hs7, hk7⟩; have HS7 := Lib.hid hs7; have HS6b := Lib.hid (HS6.out.never hk7)
    (try go_wp2_with fail)
    refine hK.out _ _ ?_ (fun hHeld => ?_)
    · (try dsimp only); exact HS2.out _ (hHeld.1.trans hk7)
    clear hK K
    try simp only [Act.put, List.setIfInBounds_toArray, List.set_cons_zero, List.set_cons_succ]
    refine wpAnyH_ready (rs := [4]) (by kernel_rfl) (by simp) ?_
    refine AllReadyH.cons (o := ?_) ?_ (fun K hK => ?_) AllReadyH.nil
    rotate_left 1
    · (simp only [List.getElem?_toArray, List.getElem?_cons_succ, List.getElem?_cons_zero]; rfl)
    go_simp
    refine (same15_any hl hl E1 E2 e1n e2n e1c e2c _ _ v7 HS6b.out.at_.rd HS7.out.at_.rd (by have h1 := HS6b.out.at_.len; have h2 := HHl.out; omega) (by have h1 := HS7.out.at_.len; have h2 := HHl.out; omega)).mono ?_; rintro e v8 ⟨rfl, hk8⟩
    (try go_wp2_with fail)
    refine hK.out _ _ ?_ (fun hHeld => ?_)
    · (try dsimp only); exact HS2.out _ (hHeld.1.trans hk8)
    clear hK K
    try simp only [Act.put, List.setIfInBounds_toArray, List.set_cons_zero, List.set_cons_succ]
    refine wpAnyH_take (i := 5) (oi := ?_) (v := ?_) ?_ (by kernel_rfl) (by kernel_rfl) (by kernel_rfl) (fun _ _ _ h => h) (Or.inl ⟨?_, ?_⟩) (by assumption) ?_
    rotate_left 2
    · (simp only [List.getElem?_toArray, List.getElem?_cons_succ, List.getElem?_cons_zero]; rfl)
    · rfl
    · (intro w hSw; (try dsimp only at hSw); go_simp; (try with_reducible rfl))
    try simp only [Act.put, List.setIfInBounds_toArray, List.set_cons_zero, List.set_cons_succ]
    refine wpAnyH_done (by kernel_rfl) ?_ _
    refine NoPanic.normal ?_
    have hS := hHeld
    have HK8 := Lib.hid (HK3.out.trans hS.1)
    obtain ⟨y0, y1, y2⟩ := hS.2
    clear hS hHeld HS2
    (try rw [decide_eq_true (rfl : hl = hl)])
    have HS2 : Hid (∀ W', Keep Never v8 W' → Keep Never v8 W' ∧ W'.cell? ⟨W.heap.size, 0, none⟩ = some (.slice A n c) ∧ W'.cell? ⟨W.heap.size, 1, none⟩ = some (.slice A2 n2 c2) ∧ W'.cell? ⟨W.heap.size, 2, none⟩ = some (.bool k)) := Lib.hid (fun W' h => ⟨h, keepT h y0, keepT h y1, keepT h y2⟩)
    cases mb <;> cases fb
    all_goals
      go_wp2_with fail
      clear y0 y1 y2
      refine wp_region_noPanic ?_
      refine wp_region_held_drew (S := (fun W' => Keep Never v8 W' ∧ W'.cell? ⟨W.heap.size, 0, none⟩ = some (.slice A n c) ∧ W'.cell? ⟨W.heap.size, 1, none⟩ = some (.slice A2 n2 c2) ∧ W'.cell? ⟨W.heap.size, 2, none⟩ = some (.bool k))) (by kernel_rfl) ?_ (fun hHeld => ?_)
      · exact HS2.out _ ((Keep.refl Never v8).drew)
      refine wpAnyH_take (i := 0) (oi := ?_) (v := ?_) ?_ (by kernel_rfl) (by kernel_rfl) (by kernel_rfl) (fun _ _ _ h => h) (Or.inl ⟨?_, ?_⟩) (by assumption) ?_
      rotate_left 2
      · (simp only [List.getElem?_toArray, List.getElem?_cons_succ, List.getElem?_cons_zero]; rfl)
      · rfl
      · (intro w hSw; (try dsimp only at hSw); go_simp; (try with_reducible rfl))
      try simp only [Act.put, List.setIfInBounds_toArray, List.set_cons_zero, List.set_cons_succ]
      refine wpAnyH_take (i := 1) (oi := ?_) (v := ?_) ?_ (by kernel_rfl) (by kernel_rfl) (by kernel_rfl) (fun _ _ _ h => h) (Or.inl ⟨?_, ?_⟩) (by assumption) ?_
      rotate_left 2
      · (simp only [List.getElem?_toArray, List.getElem?_cons_succ, List.getElem?_cons_zero]; rfl)
      · rfl
      · (intro w hSw; (try dsimp only at hSw); go_simp; (try with_reducible rfl))
      try simp only [Act.put, List.setIfInBounds_toArray, List.set_cons_zero, List.set_cons_succ]
      refine wpAnyH_take (i := 2) (oi := ?_) (v := ?_) ?_ (by kernel_rfl) (by kernel_rfl) (by kernel_rfl) (fun _ _ _ h => h) (Or.inl ⟨?_, ?_⟩) (by assumption) ?_
      rotate_left 2
      · (simp only [List.getElem?_toArray, List.getElem?_cons_succ, List.getElem?_cons_zero]; rfl)
      · rfl
      · (intro w hSw; (try dsimp only at hSw); go_simp; (try with_reducible rfl))
      try simp only [Act.put, List.setIfInBounds_toArray, List.set_cons_zero, List.set_cons_succ]
      refine wpAnyH_take (i := 4) (oi := ?_) (v := ?_) ?_ (by kernel_rfl) (by kernel_rfl) (by kernel_rfl) (fun _ _ _ h => h) (Or.inl ⟨?_, ?_⟩) (by assumption) ?_
      rotate_left 2
      · (simp only [List.getElem?_toArray, List.getElem?_cons_succ, List.getElem?_cons_zero]; rfl)
      · rfl
      · (intro w hSw; (try dsimp only at hSw); go_simp; (try with_reducible rfl))
      try simp only [Act.put, List.setIfInBounds_toArray, List.set_cons_zero, List.set_cons_succ]
      refine wpAnyH_ready (rs := [3]) (by kernel_rfl) (by simp) ?_
      refine AllReadyH.cons (o := ?_) ?_ (fun K hK => ?_) AllReadyH.nil
      rotate_left 1
      · (simp only [List.getElem?_toArray, List.getElem?_cons_succ, List.getElem?_cons_zero]; rfl)
      go_simp
      refine (HMp.out _ (HK8.out.trans hHeld.1)).mono ?_; rintro e v9 ⟨rfl, hk9⟩
      (try go_wp2_with fail)
      refine hK.out _ _ ?_ (fun hHeld => ?_)
      · (try dsimp only); exact HS2.out _ (hHeld.1.trans hk9)
      clear hK K
      try simp only [Act.put, List.setIfInBounds_toArray, List.set_cons_zero, List.set_cons_succ]
      refine wpAnyH_ready (rs := [5]) (by kernel_rfl) (by simp) ?_
      refine AllReadyH.cons (o := ?_) ?_ (fun K hK => ?_) AllReadyH.nil
      rotate_left 1
      · (simp only [List.getElem?_toArray, List.getElem?_cons_succ, List.getElem?_cons_zero]; rfl)
      go_simp
      refine (HMr.out _ (HK8.out.trans hHeld.1)).mono ?_; rintro e v10 ⟨rfl, hk10⟩
      (try go_wp2_with fail)
      refine hK.out _ _ ?_ (fun hHeld => ?_)
      · (try dsimp only); exact HS2.out _ (hHeld.1.trans hk10)
      clear hK K
      try simp only [Act.put, List.setIfInBounds_toArray, List.set_cons_zero, List.set_cons_succ]
      refine wpAnyH_take (i := 6) (oi := ?_) (v := ?_) ?_ (by kernel_rfl) (by kernel_rfl) (by kernel_rfl) (fun _ _ _ h => h) (Or.inl ⟨?_, ?_⟩) (by assumption) ?_
      rotate_left 2
      · (simp only [List.getElem?_toArray, List.getElem?_cons_succ, List.getElem?_cons_zero]; rfl)
      · rfl
      · (intro w hSw; (try dsimp only at hSw); go_simp; (try with_reducible rfl))
      try simp only [Act.put, List.setIfInBounds_toArray, List.set_cons_zero, List.set_cons_succ]
      refine wpAnyH_take (i := 7) (oi := ?_) (v := ?_) ?_ (by kernel_rfl) (by kernel_rfl) (by kernel_rfl) (fun _ _ _ h => h) (Or.inl ⟨?_, ?_⟩) (by assumption) ?_
      rotate_left 2
      · (simp only [List.getElem?_toArray, List.getElem?_cons_succ, List.getElem?_cons_zero]; rfl)
      · rfl
      · (intro w hSw; (try dsimp only at hSw); go_simp; (try with_reducible rfl))
      try simp only [Act.put, List.setIfInBounds_toArray, List.set_cons_zero, List.set_cons_succ]
      refine wpAnyH_take (i := 8) (oi := ?_) (v := ?_) ?_ (by kernel_rfl) (by kernel_rfl) (by kernel_rfl) (fun _ _ _ h => h) (Or.inl ⟨?_, ?_⟩) (by assumption) ?_
      rotate_left 2
      · (simp only [List.getElem?_toArray, List.getElem?_cons_succ, List.getElem?_cons_zero]; rfl)
      · rfl
      · (intro w hSw; (try dsimp only at hSw); go_simp; (try with_reducible rfl))
      try simp only [Act.put, List.setIfInBounds_toArray, List.set_cons_zero, List.set_cons_succ]
      refine wpAnyH_take (i := 9) (oi := ?_) (v := ?_) ?_ (by kernel_rfl) (by kernel_rfl) (by kernel_rfl) (fun _ _ _ h => h) (Or.inl ⟨?_, ?_⟩) (by assumption) ?_
      rotate_left 2
      · (simp only [List.getElem?_toArray, List.getElem?_cons_succ, List.getElem?_cons_zero]; rfl)
      · rfl
      · (intro w hSw; (try dsimp only at hSw); go_simp; (try with_reducible rfl))
      try simp only [Act.put, List.setIfInBounds_toArray, List.set_cons_zero, List.set_cons_succ]
      refine wpAnyH_take (i := 10) (oi := ?_) (v := ?_) ?_ (by kernel_rfl) (by kernel_rfl) (by kernel_rfl) (fun _ _ _ h => h) (Or.inl ⟨?_, ?_⟩) (by assumption) ?_
      rotate_left 2
      · (simp only [List.getElem?_toArray, List.getElem?_cons_succ, List.getElem?_cons_zero]; rfl)
      · rfl
      · (intro w hSw; (try dsimp only at hSw); go_simp; (try with_reducible rfl))
      try simp only [Act.put, List.setIfInBounds_toArray, List.set_cons_zero, List.set_cons_succ]
      refine wpAnyH_take (i := 12) (oi := ?_) (v := ?_) ?_ (by kernel_rfl) (by kernel_rfl) (by kernel_rfl) (fun _ _ _ h => h) (Or.inl ⟨?_, ?_⟩) (by assumption) ?_
      rotate_left 2
      · (simp only [List.getElem?_toArray, List.getElem?_cons_succ, List.getElem?_cons_zero]; rfl)
      · rfl
      · (intro w hSw; (try dsimp only at hSw); go_simp; (try with_reducible rfl))
      try simp only [Act.put, List.setIfInBounds_toArray, List.set_cons_zero, List.set_cons_succ]
      refine wpAnyH_take (i := 13) (oi := ?_) (v := ?_) ?_ (by kernel_rfl) (by kernel_rfl) (by kernel_rfl) (fun _ _ _ h => h) (Or.inl ⟨?_, ?_⟩) (by assumption) ?_
      rotate_left 2
      · (simp only [List.getElem?_toArray, List.getElem?_cons_succ, List.getElem?_cons_zero]; rfl)
      · rfl
      · (intro w hSw; (try dsimp only at hSw); go_simp; (try with_reducible rfl))
      try simp only [Act.put, List.setIfInBounds_toArray, List.set_cons_zero, List.set_cons_succ]
      refine wpAnyH_ready (rs := [11]) (by kernel_rfl) (by simp) ?_
      refine AllReadyH.cons (o := ?_) ?_ (fun K hK => ?_) AllReadyH.nil
      rotate_left 1
      · (simp only [List.getElem?_toArray, List.getElem?_cons_succ, List.getElem?_cons_zero]; rfl)
      go_simp
      refine (HFp.out _ (HK8.out.trans hHeld.1)).mono ?_; rintro e v11 ⟨rfl, hk11⟩
      (try go_wp2_with fail)
      refine hK.out _ _ ?_ (fun hHeld => ?_)
      · (try dsimp only); exact HS2.out _ (hHeld.1.trans hk11)
      clear hK K
      try simp only [Act.put, List.setIfInBounds_toArray, List.set_cons_zero, List.set_cons_succ]
      refine wpAnyH_ready (rs := [14]) (by kernel_rfl) (by simp) ?_
      refine AllReadyH.cons (o := ?_) ?_ (fun K hK => ?_) AllReadyH.nil
      rotate_left 1
      · (simp only [List.getElem?_toArray, List.getElem?_cons_succ, List.getElem?_cons_zero]; rfl)
      go_simp
      refine (HFr.out _ (HK8.out.trans hHeld.1)).mono ?_; rintro e v12 ⟨rfl, hk12⟩
      (try go_wp2_with fail)
      refine hK.out _ _ ?_ (fun hHeld => ?_)
      · (try dsimp only); exact HS2.out _ (hHeld.1.trans hk12)
      clear hK K
      try simp only [Act.put, List.setIfInBounds_toArray, List.set_cons_zero, List.set_cons_succ]
      refine wpAnyH_take (i := 15) (oi := ?_) (v := ?_) ?_ (by kernel_rfl) (by kernel_rfl) (by kernel_rfl) (fun _ _ _ h => h) (Or.inl ⟨?_, ?_⟩) (by assumption) ?_
      rotate_left 2
      · (simp only [List.getElem?_toArray, List.getElem?_cons_succ, List.getElem?_cons_zero]; rfl)
      · rfl
      · (intro w hSw; (try dsimp only at hSw); go_simp; (try with_reducible rfl))
      try simp only [Act.put, List.setIfInBounds_toArray, List.set_cons_zero, List.set_cons_succ]
      refine wpAnyH_take (i := 16) (oi := ?_) (v := ?_) ?_ (by kernel_rfl) (by kernel_rfl) (by kernel_rfl) (fun _ _ _ h => h) (Or.inl ⟨?_, ?_⟩) (by assumption) ?_
      rotate_left 2
      · (simp only [List.getElem?_toArray, List.getElem?_cons_succ, List.getElem?_cons_zero]; rfl)
      · rfl
      · (intro w hSw; (try dsimp only at hSw); go_simp; (try with_reducible rfl))
      try simp only [Act.put, List.setIfInBounds_toArray, List.set_cons_zero, List.set_cons_succ]
      refine wpAnyH_take (i := 17) (oi := ?_) (v := ?_) ?_ (by kernel_rfl) (by kernel_rfl) (by kernel_rfl) (fun _ _ _ h => h) (Or.inl ⟨?_, ?_⟩) (by assumption) ?_
      rotate_left 2
      · (simp only [List.getElem?_toArray, List.getElem?_cons_succ, List.getElem?_cons_zero]; rfl)
      · rfl
      · (intro w hSw; (try dsimp only at hSw); go_simp; (try with_reducible rfl))
      try simp only [Act.put, List.setIfInBounds_toArray, List.set_cons_zero, List.set_cons_succ]
      refine wpAnyH_done (by kernel_rfl) ?_ _
      refine NoPanic.normal ?_
      have hS := hHeld
      have HKz := Lib.hid (HK8.out.trans hS.1)
      clear hS hHeld
      go_wp2_with fail
      go_ret
      exact ⟨rfl, HKz.out⟩
end Go.Proofs.Ytlcbajdckgcopaa
