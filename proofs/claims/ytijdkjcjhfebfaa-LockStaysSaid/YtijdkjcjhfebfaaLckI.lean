/- Chapter 16: LockApart. -/
import Derived.Test.YtijdkjcjhfebfaaLckH
namespace Go.Proofs.Ytijdkjcjhfebfaa
open Go.RowKit

theorem flat_len40 {t : Tp} : ∀ (l : List Lk), (l.flatMap fun k => extM t k.1).length ≤ 40 * l.length
  | [] => by simp
  | a :: l => by
    rw [List.flatMap_cons, List.length_append, List.length_cons]
    have h1 := extM_40 (t := t) a.1
    have h2 := flat_len40 (t := t) l
    omega
theorem lockedM_len (t : Tp) (l : List Lk) (tr : Int) : (lockedM t l tr).length ≤ 40 * l.length := by
  unfold lockedM
  split
  · have h1 := normM_len ((ofM l tr).flatMap fun k => extM t k.1)
    have h2 := flat_len40 (t := t) (ofM l tr)
    have h3 : (ofM l tr).length ≤ l.length := List.length_filter_le _ _
    omega
  · simp

set_option maxHeartbeats 40000000 in
set_option maxRecDepth 100000 in
theorem lockApart_walk (W : World) (cs0 : Array Value) (t : Tp) (s0 : repTp.cells W W.heap.size t cs0.toList) (A1 : Option Addr) (n1 c1 : Nat) (l : List Op16) (s1 : repO16.Sl W W.heap.size A1 n1 c1 l) (a : Int) (_b2 : -9223372036854775808 ≤ a) (_c2 : a ≤ 9223372036854775807) (b : Int) (_b3 : -9223372036854775808 ≤ b) (_c3 : b ≤ 9223372036854775807) :
    Calls Try.prog 8 #[.agg cs0, .slice A1 n1 c1, .int .i64 a, .int .i64 b] W fun e W' => e = .returned (.bool true) ∧ Keep Never W W' := by
  obtain ⟨x, hx, ht⟩ := TpAt.of s0
  obtain rfl : cs0 = x.cs := by apply Array.ext'; exact hx
  clear s0 hx
  have HFw : Hid (∀ V, Keep Never W V → Calls Try.prog 27 #[.agg x.cs, .slice none 0 0] V fun e w' => ∃ b, e = .returned (.bool b) ∧ Hid (b = true → TpLight x t ∧ 0 ≤ 100) ∧ Keep Never V w') := Lib.hid (fun V h => few_any x t W.heap.size none 0 0 V (ht.keep h))
  have HMy : Hid (∀ V, Keep Never W V → TpLight x t → Calls Try.prog 28 #[.agg x.cs, .agg #[.slice none 0 0, .int .i64 1]] V fun e w' => e = .returned (.bool (mayI t ([], 1))) ∧ Keep Never V w') := Lib.hid (fun V h hl => may16_any x t W.heap.size none 0 0 [] 1 V (ht.keep h) hl.small h.size ⟨Rd.nil _ _ _ _, fun _ => rfl, Nat.le_refl _⟩ (by omega))
  have HPl : Hid (∀ V, Keep Never W V → TpLight x t → n1 ≤ 60 → mayI t ([], 1) = true → Calls Try.prog 30 #[.agg x.cs, .slice A1 n1 c1] V (PlayRet (playM t l) V)) := Lib.hid (fun V h hl hn hm => play_any x t W.heap.size A1 n1 c1 l V (ht.keep h) hl.small h.size (s1.keep h (fun _ h => h.elim)) hn hm)
  have HLk : Hid (∀ V A n c (lx : List Lk) tr, Keep Never W V → TpLight x t → SpAt V V.heap.size A n c lx → n ≤ 24 → Calls Try.prog 32 #[.agg x.cs, .slice A n c, .int .i64 tr] V (SpsRet (lockedM t lx tr) V)) := Lib.hid (fun V A n c lx tr h hl hs hn => lockd_any x t V.heap.size A n c lx tr V ((ht.keep h).wide h.size) hl.small (Nat.le_refl _) hs (by omega))
  obtain ⟨Ae, ne, ce, Aj, nj, cj, Ab, nb, cb, Ar, nr, cr⟩ := x
  simp only [TA.cs] at HFw HMy HPl HLk ⊢
  clear ht
  obtain ⟨v1, hv1⟩ : ∃ V : World, W.alloc (.cells #[.slice Ae ne ce, .slice Aj nj cj, .slice Ab nb cb, .slice Ar nr cr] 27) = V := ⟨_, rfl⟩
  have kv1 : Keep Never W v1 := by rw [← hv1]; exact (Keep.refl _ _).alloc _
  have bv1 := Blk.new W 27 #[.slice Ae ne ce, .slice Aj nj cj, .slice Ab nb cb, .slice Ar nr cr]
  rw [hv1] at bv1
  have HB1 := Lib.hid bv1
  have HK := Lib.hid kv1
  clear kv1 bv1
  have HA := Lib.hid (awake16_any v1)
  go_enter Try.func8, Try.ntmps8
  go_wp2_with fail
  clear hv1
  refine HA.out.mono ?_
  rintro en w101 ⟨rfl, hk1⟩
  have HK1 := Lib.hid (HK.out.trans hk1)
  have Hy1 := Lib.hid (HB1.out.keep hk1 (fun h => h))
  clear hk1 HA
  have y0 : w101.cell? ⟨W.heap.size, 0, none⟩ = some (.slice Ae ne ce) := Hy1.out.cell 0
  have y1 : w101.cell? ⟨W.heap.size, 1, none⟩ = some (.slice Aj nj cj) := Hy1.out.cell 1
  have y2 : w101.cell? ⟨W.heap.size, 2, none⟩ = some (.slice Ab nb cb) := Hy1.out.cell 2
  have y3 : w101.cell? ⟨W.heap.size, 3, none⟩ = some (.slice Ar nr cr) := Hy1.out.cell 3
  have HC := Lib.hid (HFw.out w101 HK1.out)
  clear HFw
  go_wp2_with fail
  refine HC.out.mono ?_
  rintro en w102 ⟨lt, rfl, hlt, hk2⟩
  have HK2 := Lib.hid (HK1.out.trans hk2)
  have Hy2 := Lib.hid (Hy1.out.keep hk2 (fun h => h))
  clear y0 y1 y2 y3 hk2 HC
  cases lt with
  | false =>
    clear hlt
    go_wp2_with fail
    go_quiet (fail)
    go_wp2_with fail
    go_ret
    exact ⟨rfl, HK2.out.drewN _⟩

  | true =>
    have HLi := Lib.hid (hlt.out rfl).1
    clear hlt
    by_cases g0 : 60 < n1
    · have u0 : decide ((n1 : Int) > 60) = true := by simp; omega
      clear g0
      go_wp2_with fail
      go_quiet (fail)
      go_wp2_with fail
      go_ret
      exact ⟨rfl, HK2.out.drewN _⟩

    have u0 : decide ((n1 : Int) > 60) = false := by simp; omega
    by_cases g1 : a = b
    · have u1 : (a == b) = true := by simpa using g1
      clear g0 g1
      go_wp2_with fail
      go_quiet (fail)
      go_wp2_with fail
      go_ret
      exact ⟨rfl, HK2.out.drewN _⟩

    have u1 : (a == b) = false := by simpa using g1
    obtain ⟨mb, hmb⟩ : ∃ z, mayI t ([], 1) = z := ⟨_, rfl⟩
    have HX2 := Lib.hid (fun V (h : Keep Never w102 V) => HMy.out V (HK2.out.trans h) HLi.out)
    rw [hmb] at HX2
    have HMb := Lib.hid hmb
    have HX1 := Lib.hid (fun V => new16_any V)
    clear hmb HMy
    have y0 : w102.cell? ⟨W.heap.size, 0, none⟩ = some (.slice Ae ne ce) := Hy2.out.cell 0
    have y1 : w102.cell? ⟨W.heap.size, 1, none⟩ = some (.slice Aj nj cj) := Hy2.out.cell 1
    have y2 : w102.cell? ⟨W.heap.size, 2, none⟩ = some (.slice Ab nb cb) := Hy2.out.cell 2
    have y3 : w102.cell? ⟨W.heap.size, 3, none⟩ = some (.slice Ar nr cr) := Hy2.out.cell 3
    have HS2 : Hid (∀ W', Keep Never w102 W' → Keep Never w102 W' ∧ W'.cell? ⟨W.heap.size, 0, none⟩ = some (.slice Ae ne ce) ∧ W'.cell? ⟨W.heap.size, 1, none⟩ = some (.slice Aj nj cj) ∧ W'.cell? ⟨W.heap.size, 2, none⟩ = some (.slice Ab nb cb) ∧ W'.cell? ⟨W.heap.size, 3, none⟩ = some (.slice Ar nr cr)) := Lib.hid (fun W' h => ⟨h, keepT h y0, keepT h y1, keepT h y2, keepT h y3⟩)
    go_wp2_with fail
    clear y0 y1 y2 y3
    go_region_held3 (fun W' => Keep Never w102 W' ∧ W'.cell? ⟨W.heap.size, 0, none⟩ = some (.slice Ae ne ce) ∧ W'.cell? ⟨W.heap.size, 1, none⟩ = some (.slice Aj nj cj) ∧ W'.cell? ⟨W.heap.size, 2, none⟩ = some (.slice Ab nb cb) ∧ W'.cell? ⟨W.heap.size, 3, none⟩ = some (.slice Ar nr cr))
      (first | assumption | exact HS2.out _ ((Keep.refl Never w102).drew) | exact HS2.out _ (Keep.trans (And.left (by assumption)) hk3) | exact HS2.out _ (Keep.trans ((Keep.refl Never w102).drew) hk3))
      (first
        | (go_at_call 29; refine (HX1.out _).mono ?_; rintro e w3 ⟨rfl, hk3⟩)
        | (go_at_call 28; refine (HX2.out _ (by first | exact And.left (by assumption) | exact (Keep.refl Never w102).drew | exact Keep.refl Never w102)).mono ?_; rintro e w4 ⟨rfl, hk3⟩))
    all_goals
      rename_i hS
      have hkz := hS.1
      clear hS HS2 HX1 HX2 u0 u1
      have HGe : Hid (n1 ≤ 60 ∧ a ≠ b) := Lib.hid ⟨by omega, g1⟩
      clear g0 g1
      have HKz := Lib.hid (HK2.out.trans hkz)
      have Hyz := Lib.hid (Hy2.out.keep hkz (fun h => h))
      clear hkz
      cases mb with
      | false =>
        go_wp2_with fail
        go_ret
        exact ⟨rfl, HKz.out⟩
      | true =>
        have HC := Lib.hid (HPl.out _ HKz.out HLi.out HGe.out.1 HMb.out)
        have y0 := Hyz.out.cell 0
        have y1 := Hyz.out.cell 1
        have y2 := Hyz.out.cell 2
        have y3 := Hyz.out.cell 3
        simp only [List.getElem?_toArray, List.getElem?_cons_zero, List.getElem?_cons_succ] at y0 y1 y2 y3
        go_wp2_with fail
        refine HC.out.mono ?_
        rintro en w5 ⟨A5, n5, c5, rfl, hn5, ho5, hk5⟩
        have HMz := Lib.hid (play_may HMb.out l)
        obtain ⟨⟨lx, nx⟩, hz⟩ : ∃ z, playM t l = z := ⟨_, rfl⟩
        rw [hz] at hn5 ho5 HMz
        simp only [hz]
        have HS5 := Lib.hid (lkAt_own ho5)
        have HN5 : Hid (n5 ≤ 24) := Lib.hid (by have h1 := (mayI_of HMz.out).len; have h2 := hn5.out; simp only at h1 h2; omega)
        have HK5 := Lib.hid (HKz.out.trans hk5)
        have Hy5 := Lib.hid (Hyz.out.keep hk5 (fun h => h))
        clear hk5 HC y0 y1 y2 y3 ho5 hn5 hz HPl
        obtain ⟨w131, hw131⟩ : ∃ V : World, w5.alloc (.cells #[.slice A5 n5 c5, .int .i64 nx] 55) = V := ⟨_, rfl⟩
        have kx : Keep Never w5 w131 := by rw [← hw131]; exact (Keep.refl _ _).alloc _
        have bx := Blk.new w5 55 #[.slice A5 n5 c5, .int .i64 nx]
        rw [hw131] at bx
        obtain ⟨bo, hbo⟩ : ∃ q, w5.heap.size = q := ⟨_, rfl⟩
        rw [hbo] at bx
        have HBx31 := Lib.hid bx
        have HK31 := Lib.hid (HK5.out.trans kx)
        have Hy31 := Lib.hid (Hy5.out.keep kx (fun h => h))
        clear kx bx
        have HS5 := Lib.hid (HS5.out.here (show Keep Never w5 w131 from by rw [← hw131]; exact (Keep.refl Never _).alloc _))
        have HLa := Lib.hid (fun V (tr : Int) (h : Keep Never w131 V) => HLk.out V A5 n5 c5 lx tr (HK31.out.trans h) HLi.out (HS5.out.here h) HN5.out)
        have HMt : Hid (∀ V A n c A' n' c', SpAt V V.heap.size A n c (lockedM t lx a) → SpAt V V.heap.size A' n' c' (lockedM t lx b) → Calls Try.prog 31 #[.slice A n c, .slice A' n' c'] V fun e w' => e = .returned (.bool false) ∧ Keep Never V w') := Lib.hid (fun V A n c A' n' c' h1 h2 => (meets_any V.heap.size A n c A' n' c' _ _ V h1 h2 (by have h3 := h1.len; have h4 := lockedM_len t lx a; have h5 := (mayI_of HMz.out).len; simp only at h5; omega) (by have h3 := h2.len; have h4 := lockedM_len t lx b; have h5 := (mayI_of HMz.out).len; simp only at h5; omega) (Nat.le_refl _)).mono (fun e w' ⟨r, h3, h4, h5⟩ => ⟨by rw [h3, meetsB_eq h4, lock_apart HMz.out HGe.out.2], h5⟩))
        have y0 : w131.cell? ⟨W.heap.size, 0, none⟩ = some (.slice Ae ne ce) := Hy31.out.cell 0
        have y1 : w131.cell? ⟨W.heap.size, 1, none⟩ = some (.slice Aj nj cj) := Hy31.out.cell 1
        have y2 : w131.cell? ⟨W.heap.size, 2, none⟩ = some (.slice Ab nb cb) := Hy31.out.cell 2
        have y3 : w131.cell? ⟨W.heap.size, 3, none⟩ = some (.slice Ar nr cr) := Hy31.out.cell 3
        have o0 : w131.cell? ⟨bo, 0, none⟩ = some (.slice A5 n5 c5) := HBx31.out.cell 0
        have o1 : w131.cell? ⟨bo, 1, none⟩ = some (.int .i64 nx) := HBx31.out.cell 1
        have HS2 : Hid (∀ W', Keep Never w131 W' → Keep Never w131 W' ∧ W'.cell? ⟨W.heap.size, 0, none⟩ = some (.slice Ae ne ce) ∧ W'.cell? ⟨W.heap.size, 1, none⟩ = some (.slice Aj nj cj) ∧ W'.cell? ⟨W.heap.size, 2, none⟩ = some (.slice Ab nb cb) ∧ W'.cell? ⟨W.heap.size, 3, none⟩ = some (.slice Ar nr cr) ∧ W'.cell? ⟨bo, 0, none⟩ = some (.slice A5 n5 c5) ∧ W'.cell? ⟨bo, 1, none⟩ = some (.int .i64 nx)) := Lib.hid (fun W' h => ⟨h, keepT h y0, keepT h y1, keepT h y2, keepT h y3, keepT h o0, keepT h o1⟩)
        go_wp2_with fail
        clear y0 y1 y2 y3 o0 o1 hw131 hbo
        go_region_held3 (fun W' => Keep Never w131 W' ∧ W'.cell? ⟨W.heap.size, 0, none⟩ = some (.slice Ae ne ce) ∧ W'.cell? ⟨W.heap.size, 1, none⟩ = some (.slice Aj nj cj) ∧ W'.cell? ⟨W.heap.size, 2, none⟩ = some (.slice Ab nb cb) ∧ W'.cell? ⟨W.heap.size, 3, none⟩ = some (.slice Ar nr cr) ∧ W'.cell? ⟨bo, 0, none⟩ = some (.slice A5 n5 c5) ∧ W'.cell? ⟨bo, 1, none⟩ = some (.int .i64 nx))
          (first | assumption | exact HS2.out _ ((Keep.refl Never w131).drew) | exact HS2.out _ (Keep.trans (And.left (by assumption)) hk3) | exact HS2.out _ (Keep.trans ((Keep.refl Never w131).drew) hk3))
          (first
            | (go_at_call 32; refine (HLa.out _ _ (by first | exact And.left (by assumption) | exact (Keep.refl Never w131).drew | exact Keep.refl Never w131)).mono ?_; rintro e w6 ⟨A6, n6, c6, rfl, hn6, hs6, hk3⟩; (first | (have HSa : Hid (∀ V, Keep Never w6 V → SpAt V V.heap.size A6 n6 c6 (lockedM t lx a)) := Lib.hid (fun V h => hs6.here h); have HKa := Lib.hid (Keep.refl Never w6); (try have HKb := Lib.hid (HKb.out.trans hk3))) | (have HSb : Hid (∀ V, Keep Never w6 V → SpAt V V.heap.size A6 n6 c6 (lockedM t lx b)) := Lib.hid (fun V h => hs6.here h); have HKb := Lib.hid (Keep.refl Never w6); (try have HKa := Lib.hid (HKa.out.trans hk3)))))
            | (go_at_call 31; refine (HMt.out _ _ _ _ _ _ _ (HSa.out _ HKa.out) (HSb.out _ HKb.out)).mono ?_; rintro e w7 ⟨rfl, hk3⟩))
        all_goals
          rename_i hS
          have HKe := Lib.hid (HK31.out.trans hS.1)
          clear hS
          go_wp2_with fail
          go_ret
          exact ⟨rfl, HKe.out⟩

end Go.Proofs.Ytijdkjcjhfebfaa
