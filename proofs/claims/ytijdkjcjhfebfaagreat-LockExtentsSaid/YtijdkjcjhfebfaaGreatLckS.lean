/- Chapter 16: LockExtents. -/
import Derived.Test.YtijdkjcjhfebfaaGreatLckG
import Derived.Test.YtijdkjcjhfebfaaGreatLckR
namespace Go.Proofs.YtijdkjcjhfebfaaGreat
open Go.RowKit
theorem flatS_len40 {t : Tp} : ∀ (l : List Lk), (l.flatMap fun k => extM t k.1).length ≤ 40 * l.length
  | [] => by simp
  | a :: l => by
    rw [List.flatMap_cons, List.length_append, List.length_cons]
    have h1 := extM_40 (t := t) a.1
    have h2 := flatS_len40 (t := t) l
    omega
theorem lockedS_len (t : Tp) (l : List Lk) (tr : Int) : (lockedM t l tr).length ≤ 40 * l.length := by
  unfold lockedM
  split
  · have h1 := normM_len ((ofM l tr).flatMap fun k => extM t k.1)
    have h2 := flatS_len40 (t := t) (ofM l tr)
    have h3 : (ofM l tr).length ≤ l.length := List.length_filter_le _ _
    omega
  · simp
theorem sameT_any {V : World} {B B2 A n c A' n' c'} {L : List Sp} (h1 : SpAt V B A n c L) (h2 : SpAt V B2 A' n' c' L) (hn : L.length ≤ 100000) :
    Calls Tryz.prog 14 #[.slice A n c, .slice A' n' c'] V fun e w' => e = .returned (.bool true) ∧ Keep Never V w' :=
  (same15_any L L A A' n n' c c' B B2 V h1.rd h2.rd (by have := h1.len; omega) (by have := h2.len; omega)).mono (fun e w' ⟨h3, h4⟩ => ⟨by rw [h3, decide_eq_true rfl], h4⟩)
theorem locksT_any {V : World} {B B2 A n c A' n' c'} {L : List Lk} (h1 : SpAt V B A n c L) (h2 : SpAt V B2 A' n' c' L) (hn : L.length ≤ 100000) :
    Calls Tryz.prog 19 #[.slice A n c, .slice A' n' c'] V fun e w' => e = .returned (.bool true) ∧ Keep Never V w' :=
  (locks16_any L L A A' n n' c c' B B2 V h1.rd h2.rd (by have := h1.len; omega) (by have := h2.len; omega)).mono (fun e w' ⟨h3, h4⟩ => ⟨by rw [h3, decide_eq_true rfl], h4⟩)

set_option maxHeartbeats 40000000 in
set_option maxRecDepth 100000 in
theorem lockExtents_walk (W : World) (cs0 : Array Value) (t : Tp) (s0 : repTp.cells W W.heap.size t cs0.toList) (A1 : Option Addr) (n1 c1 : Nat) (l : List Lk) (s1 : repLk.Sl W W.heap.size A1 n1 c1 l) (route : Int) (_b2 : -9223372036854775808 ≤ route) (_c2 : route ≤ 9223372036854775807) (train : Int) (_b3 : -9223372036854775808 ≤ train) (_c3 : train ≤ 9223372036854775807) :
    Calls Tryz.prog 4 #[.agg cs0, .slice A1 n1 c1, .int .i64 route, .int .i64 train] W fun e W' => e = .returned (.bool true) ∧ Keep Never W W' := by
  obtain ⟨x, hx, ht⟩ := TpAt.of s0
  obtain rfl : cs0 = x.cs := by apply Array.ext'; exact hx
  have hl := lks_at s1
  clear s0 hx s1
  have HFw : Hid (∀ V, Keep Never W V → Calls Tryz.prog 6 #[.agg x.cs, .slice A1 n1 c1] V fun e w' => ∃ b, e = .returned (.bool b) ∧ Hid (b = true → TpLight x t ∧ n1 ≤ 100) ∧ Keep Never V w') := Lib.hid (fun V h => few_any x t W.heap.size A1 n1 c1 V (ht.keep h))
  have HEa : Hid (∀ V, Keep Never W V → TpLight x t → Calls Tryz.prog 15 #[.agg x.cs, .int .i64 route] V (SpsRet (extM t route) V)) := Lib.hid (fun V h hl => ext_any x t W.heap.size route V (ht.keep h) hl.small h.size)
  have HEb : Hid (∀ V, Keep Never W V → TpLight x t → Calls Tryz.prog 16 #[.agg x.cs, .int .i64 route] V (SpsRet (extM t route) V)) := Lib.hid (fun V h hl => rext_any x t W.heap.size route V (ht.keep h) hl.small h.size)
  have HLa : Hid (∀ V, Keep Never W V → TpLight x t → n1 ≤ 100 → Calls Tryz.prog 17 #[.agg x.cs, .slice A1 n1 c1, .int .i64 train] V (SpsRet (lockedM t l train) V)) := Lib.hid (fun V h hL hn => lockd_any x t W.heap.size A1 n1 c1 l train V (ht.keep h) hL.small h.size (hl.keep h) (by omega))
  have HLb : Hid (∀ V, Keep Never W V → TpLight x t → n1 ≤ 100 → Calls Tryz.prog 18 #[.agg x.cs, .slice A1 n1 c1, .int .i64 train] V (SpsRet (lockedM t l train) V)) := Lib.hid (fun V h hL hn => rlockd_any x t W.heap.size A1 n1 c1 l train V (ht.keep h) hL.small h.size (hl.keep h) hn)
  have HOa : Hid (∀ V, Keep Never W V → n1 ≤ 100 → Calls Tryz.prog 20 #[.slice A1 n1 c1, .int .i64 train] V (LksRet (ofM l train) V)) := Lib.hid (fun V h hn => of_any A1 n1 c1 _ l train V (hl.keep h) (by omega))
  have HOb : Hid (∀ V, Keep Never W V → n1 ≤ 100 → Calls Tryz.prog 21 #[.slice A1 n1 c1, .int .i64 train] V (LksRet (ofM l train) V)) := Lib.hid (fun V h hn => rof_any A1 n1 c1 _ l train V (hl.keep h) (by omega))
  have HN : Hid (l.length = n1) := Lib.hid hl.len
  obtain ⟨Ae, ne, ce, Aj, nj, cj, Ab, nb, cb, Ar, nr, cr⟩ := x
  simp only [TA.cs] at HFw HEa HEb HLa HLb ⊢
  clear ht hl
  obtain ⟨v1, hv1⟩ : ∃ V : World, W.alloc (.cells #[.slice Ae ne ce, .slice Aj nj cj, .slice Ab nb cb, .slice Ar nr cr] 27) = V := ⟨_, rfl⟩
  have kv1 : Keep Never W v1 := by rw [← hv1]; exact (Keep.refl _ _).alloc _
  have bv1 := Blk.new W 27 #[.slice Ae ne ce, .slice Aj nj cj, .slice Ab nb cb, .slice Ar nr cr]
  rw [hv1] at bv1
  have HB1 := Lib.hid bv1
  have HK := Lib.hid kv1
  clear kv1 bv1
  have HA := Lib.hid (awake16_any v1)
  go_enter Tryz.func4, Tryz.ntmps4
  go_wp2_with fail
  clear hv1
  refine HA.out.mono ?_
  rintro en w101 ⟨rfl, hk1⟩
  have HK1 := Lib.hid (HK.out.trans hk1)
  have Hy1 := Lib.hid (HB1.out.keep hk1 (fun h => h))
  clear hk1 HA
  have y0 : w101.cell? ⟨W.heap.size, 0, none⟩ = some (.slice Ae ne ce) := Hy1.out.cell 0
  have y1 : w101.cell? ⟨W.heap.size, 1, none⟩ = some (.slice Aj nj cj) := Hy1.out.cell 1
  have y2 : w101.cell? ⟨W.heap.size, 2, none⟩ = some (.slice Ab nb cb) := Hy1.out.cell 2
  have y3 : w101.cell? ⟨W.heap.size, 3, none⟩ = some (.slice Ar nr cr) := Hy1.out.cell 3
  have HC := Lib.hid (HFw.out w101 HK1.out)
  clear HFw
  go_wp2_with fail
  refine HC.out.mono ?_
  rintro en w102 ⟨lt, rfl, hlt, hk2⟩
  have HK2 := Lib.hid (HK1.out.trans hk2)
  have Hy2 := Lib.hid (Hy1.out.keep hk2 (fun h => h))
  clear y0 y1 y2 y3 hk2 HC
  cases lt with
  | false =>
    clear hlt
    go_wp2_with fail
    go_ret
    exact ⟨rfl, HK2.out⟩
  | true =>
    have HLi := Lib.hid (hlt.out rfl).1
    have HN1 := Lib.hid (hlt.out rfl).2
    clear hlt
    have y0 : w102.cell? ⟨W.heap.size, 0, none⟩ = some (.slice Ae ne ce) := Hy2.out.cell 0
    have y1 : w102.cell? ⟨W.heap.size, 1, none⟩ = some (.slice Aj nj cj) := Hy2.out.cell 1
    have y2 : w102.cell? ⟨W.heap.size, 2, none⟩ = some (.slice Ab nb cb) := Hy2.out.cell 2
    have y3 : w102.cell? ⟨W.heap.size, 3, none⟩ = some (.slice Ar nr cr) := Hy2.out.cell 3
    have HX1 := Lib.hid (fun V (h : Keep Never w102 V) => HEa.out V (HK2.out.trans h) HLi.out)
    have HX2 := Lib.hid (fun V (h : Keep Never w102 V) => HEb.out V (HK2.out.trans h) HLi.out)
    have HS2 : Hid (∀ W', Keep Never w102 W' → Keep Never w102 W' ∧ W'.cell? ⟨W.heap.size, 0, none⟩ = some (.slice Ae ne ce) ∧ W'.cell? ⟨W.heap.size, 1, none⟩ = some (.slice Aj nj cj) ∧ W'.cell? ⟨W.heap.size, 2, none⟩ = some (.slice Ab nb cb) ∧ W'.cell? ⟨W.heap.size, 3, none⟩ = some (.slice Ar nr cr)) := Lib.hid (fun W' h => ⟨h, keepT h y0, keepT h y1, keepT h y2, keepT h y3⟩)
    go_wp2_with fail
    clear y0 y1 y2 y3
    go_region_held3 (fun W' => Keep Never w102 W' ∧ W'.cell? ⟨W.heap.size, 0, none⟩ = some (.slice Ae ne ce) ∧ W'.cell? ⟨W.heap.size, 1, none⟩ = some (.slice Aj nj cj) ∧ W'.cell? ⟨W.heap.size, 2, none⟩ = some (.slice Ab nb cb) ∧ W'.cell? ⟨W.heap.size, 3, none⟩ = some (.slice Ar nr cr))
      (first | assumption | exact HS2.out _ ((Keep.refl Never w102).drew) | exact HS2.out _ (Keep.trans (And.left (by assumption)) hk3) | exact HS2.out _ (Keep.trans ((Keep.refl Never w102).drew) hk3))
      (first
        | (go_at_call 15; refine (HX1.out _ (by first | exact And.left (by assumption) | exact (Keep.refl Never w102).drew | exact Keep.refl Never w102)).mono ?_; rintro e w3 ⟨A6, n6, c6, rfl, hn6, hs6, hk3⟩; have HSa : Hid (∀ V, Keep Never w3 V → SpAt V V.heap.size A6 n6 c6 (extM t route)) := Lib.hid (fun V h => hs6.here h); have HKa := Lib.hid (Keep.refl Never w3); (try have HKb := Lib.hid (HKb.out.trans hk3)))
        | (go_at_call 16; refine (HX2.out _ (by first | exact And.left (by assumption) | exact (Keep.refl Never w102).drew | exact Keep.refl Never w102)).mono ?_; rintro e w4 ⟨A7, n7, c7, rfl, hn7, hs7, hk3⟩; have HSb : Hid (∀ V, Keep Never w4 V → SpAt V V.heap.size A7 n7 c7 (extM t route)) := Lib.hid (fun V h => hs7.here h); have HKb := Lib.hid (Keep.refl Never w4); (try have HKa := Lib.hid (HKa.out.trans hk3)))
        | (go_at_call 14; refine (sameT_any (HSa.out _ HKa.out) (HSb.out _ HKb.out) (by have := extM_40 (t := t) route; omega)).mono ?_; rintro e w8 ⟨rfl, hk3⟩))
    all_goals
      rename_i hS
      have HKe1 := Lib.hid (HK2.out.trans hS.1)
      have Hye1 := Lib.hid (Hy2.out.keep hS.1 (fun h => h))
      rename World => w81
      clear hS HS2 HX1 HX2 HSa HSb HKa HKb
      have y0 : w81.cell? ⟨W.heap.size, 0, none⟩ = some (.slice Ae ne ce) := Hye1.out.cell 0
      have y1 : w81.cell? ⟨W.heap.size, 1, none⟩ = some (.slice Aj nj cj) := Hye1.out.cell 1
      have y2 : w81.cell? ⟨W.heap.size, 2, none⟩ = some (.slice Ab nb cb) := Hye1.out.cell 2
      have y3 : w81.cell? ⟨W.heap.size, 3, none⟩ = some (.slice Ar nr cr) := Hye1.out.cell 3
      have HX1 := Lib.hid (fun V (h : Keep Never w81 V) => HLa.out V (HKe1.out.trans h) HLi.out HN1.out)
      have HX2 := Lib.hid (fun V (h : Keep Never w81 V) => HLb.out V (HKe1.out.trans h) HLi.out HN1.out)
      have HS2 : Hid (∀ W', Keep Never w81 W' → Keep Never w81 W' ∧ W'.cell? ⟨W.heap.size, 0, none⟩ = some (.slice Ae ne ce) ∧ W'.cell? ⟨W.heap.size, 1, none⟩ = some (.slice Aj nj cj) ∧ W'.cell? ⟨W.heap.size, 2, none⟩ = some (.slice Ab nb cb) ∧ W'.cell? ⟨W.heap.size, 3, none⟩ = some (.slice Ar nr cr)) := Lib.hid (fun W' h => ⟨h, keepT h y0, keepT h y1, keepT h y2, keepT h y3⟩)
      go_wp2_with fail
      clear y0 y1 y2 y3
      go_region_held3 (fun W' => Keep Never w81 W' ∧ W'.cell? ⟨W.heap.size, 0, none⟩ = some (.slice Ae ne ce) ∧ W'.cell? ⟨W.heap.size, 1, none⟩ = some (.slice Aj nj cj) ∧ W'.cell? ⟨W.heap.size, 2, none⟩ = some (.slice Ab nb cb) ∧ W'.cell? ⟨W.heap.size, 3, none⟩ = some (.slice Ar nr cr))
        (first | assumption | exact HS2.out _ ((Keep.refl Never w81).drew) | exact HS2.out _ (Keep.trans (And.left (by assumption)) hk3) | exact HS2.out _ (Keep.trans ((Keep.refl Never w81).drew) hk3))
        (first
          | (go_at_call 17; refine (HX1.out _ (by first | exact And.left (by assumption) | exact (Keep.refl Never w81).drew | exact Keep.refl Never w81)).mono ?_; rintro e w3 ⟨A6, n6, c6, rfl, hn6, hs6, hk3⟩; have HSa : Hid (∀ V, Keep Never w3 V → SpAt V V.heap.size A6 n6 c6 (lockedM t l train)) := Lib.hid (fun V h => hs6.here h); have HKa := Lib.hid (Keep.refl Never w3); (try have HKb := Lib.hid (HKb.out.trans hk3)))
          | (go_at_call 18; refine (HX2.out _ (by first | exact And.left (by assumption) | exact (Keep.refl Never w81).drew | exact Keep.refl Never w81)).mono ?_; rintro e w4 ⟨A7, n7, c7, rfl, hn7, hs7, hk3⟩; have HSb : Hid (∀ V, Keep Never w4 V → SpAt V V.heap.size A7 n7 c7 (lockedM t l train)) := Lib.hid (fun V h => hs7.here h); have HKb := Lib.hid (Keep.refl Never w4); (try have HKa := Lib.hid (HKa.out.trans hk3)))
          | (go_at_call 14; refine (sameT_any (HSa.out _ HKa.out) (HSb.out _ HKb.out) (by have h1 := lockedS_len t l train; have h2 := HN.out; have h3 := HN1.out; omega)).mono ?_; rintro e w8 ⟨rfl, hk3⟩))
      all_goals
        rename_i hS
        have HKe2 := Lib.hid (HKe1.out.trans hS.1)
        have Hye2 := Lib.hid (Hye1.out.keep hS.1 (fun h => h))
        rename World => w82
        clear hS HS2 HX1 HX2 HSa HSb HKa HKb
        have HC := Lib.hid (HOa.out w82 HKe2.out HN1.out)
        go_wp2_with fail
        refine HC.out.mono ?_
        rintro en w91 ⟨A8, n8, c8, rfl, _, ho8, hk8⟩
        have HO8 := Lib.hid (lkAt_own ho8)
        have HK8 := Lib.hid (HKe2.out.trans hk8)
        have HC := Lib.hid (HOb.out w91 HK8.out HN1.out)
        clear ho8 hk8
        go_wp2_with fail
        refine HC.out.mono ?_
        rintro en w92 ⟨A9, n9, c9, rfl, _, ho9, hk9⟩
        have HO9 := Lib.hid (lkAt_own ho9)
        have HO8 := Lib.hid (HO8.out.here hk9)
        have HK9 := Lib.hid (HK8.out.trans hk9)
        have HC := Lib.hid (locksT_any HO8.out HO9.out (by have h3 : (ofM l train).length ≤ l.length := List.length_filter_le _ _; have h2 := HN.out; have h4 := HN1.out; omega))
        clear ho9 hk9
        go_wp2_with fail
        refine HC.out.mono ?_
        rintro en w93 ⟨rfl, hk93⟩
        have HKz := Lib.hid (HK9.out.trans hk93)
        clear hk93
        go_wp2_with fail
        go_ret
        exact ⟨rfl, HKz.out⟩

end Go.Proofs.YtijdkjcjhfebfaaGreat
