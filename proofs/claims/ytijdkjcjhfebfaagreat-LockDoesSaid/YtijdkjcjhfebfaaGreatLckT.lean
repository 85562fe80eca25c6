/- Chapter 16: LockDoes. -/
import Derived.Test.YtijdkjcjhfebfaaGreatLckG
import Derived.Test.YtijdkjcjhfebfaaGreatLckR
namespace Go.Proofs.YtijdkjcjhfebfaaGreat
open Go.RowKit

theorem set_no {t : Tp} {x : Itr} {route train : Int} (h : (setI t x route train).2.2 ≠ 0) : (setI t x route train).1 = noI := by
  unfold setI at h ⊢
  split
  · rename_i h1
    rw [if_pos h1] at h
    split
    · rename_i h2
      rw [if_pos h2] at h
      split
      · rfl
      · rename_i h3
        rw [if_neg h3] at h
        split
        · rfl
        · rename_i h4
          rw [if_neg h4] at h
          split
          · rfl
          · rename_i h5
            rw [if_neg h5] at h
            exact absurd rfl h
    · rfl
  · rfl
theorem free_no {t : Tp} {x : Itr} {no : Int} (h : (freeI t x no).2 ≠ 0) : (freeI t x no).1 = noI := by
  unfold freeI at h ⊢
  split
  · rename_i h1
    rw [if_pos h1] at h
    split
    · rfl
    · rename_i h2
      rw [if_neg h2] at h
      exact absurd rfl h
  · rfl

set_option maxHeartbeats 40000000 in
set_option maxRecDepth 100000 in
theorem lockDoes_walk (W : World) (cs0 : Array Value) (t : Tp) (s0 : repTp.cells W W.heap.size t cs0.toList) (cs1 : Array Value) (z0 : Itr) (s1 : repItr.cells W W.heap.size z0 cs1.toList) (cs2 : Array Value) (o0 : Op16) (s2 : repO16.cells W W.heap.size o0 cs2.toList) :
    Calls Tryz.prog 3 #[.agg cs0, .agg cs1, .agg cs2] W fun e W' => e = .returned (.bool true) ∧ Keep Never W W' := by
  obtain ⟨x, hx, ht⟩ := TpAt.of s0
  obtain rfl : cs0 = x.cs := by apply Array.ext'; exact hx
  obtain ⟨A1, n1, c1, e1, hl⟩ := itr_of s1
  obtain ⟨l, nx⟩ := z0
  simp only at e1 hl
  obtain rfl : cs1 = #[.slice A1 n1 c1, .int .i64 nx] := by apply Array.ext'; exact e1
  obtain ⟨o1, o2, o3, o4⟩ := o0
  obtain rfl : cs2 = #[.bool o1, .int .i64 o2, .int .i64 o3, .int .i64 o4] := by
    obtain ⟨_, _, e, rfl, ⟨_, _, rfl, ⟨rfl, _⟩, ⟨_, _, rfl, ⟨rfl, _⟩, ⟨rfl, _⟩⟩⟩⟩ := s2
    apply Array.ext'
    rw [e]; rfl
  clear s0 hx s1 s2 e1
  have HFw : Hid (∀ V, Keep Never W V → Calls Tryz.prog 6 #[.agg x.cs, .slice A1 n1 c1] V fun e w' => ∃ b, e = .returned (.bool b) ∧ Hid (b = true → TpLight x t ∧ n1 ≤ 100) ∧ Keep Never V w') := Lib.hid (fun V h => few_any x t W.heap.size A1 n1 c1 V (ht.keep h))
  have HSa : Hid (∀ V, Keep Never W V → TpLight x t → n1 ≤ 100 → Calls Tryz.prog 7 #[.agg x.cs, .agg #[.slice A1 n1 c1, .int .i64 nx], .int .i64 o2, .int .i64 o3] V (SetRet (setI t (l, nx) o2 o3) V)) := Lib.hid (fun V h hL hn => set16_any x t W.heap.size A1 n1 c1 l nx o2 o3 V (ht.keep h) hL.small h.size (hl.keep h) (by omega))
  have HSb : Hid (∀ V, Keep Never W V → TpLight x t → n1 ≤ 100 → Calls Tryz.prog 8 #[.agg x.cs, .agg #[.slice A1 n1 c1, .int .i64 nx], .int .i64 o2, .int .i64 o3] V (SetRet (setI t (l, nx) o2 o3) V)) := Lib.hid (fun V h hL hn => rset16_any x t W.heap.size A1 n1 c1 l nx o2 o3 V (ht.keep h) hL.small h.size (hl.keep h) (by omega))
  have HFa : Hid (∀ V, Keep Never W V → TpLight x t → n1 ≤ 100 → Calls Tryz.prog 10 #[.agg x.cs, .agg #[.slice A1 n1 c1, .int .i64 nx], .int .i64 o4] V (FreeRet (freeI t (l, nx) o4) V)) := Lib.hid (fun V h hL hn => free16_any x t W.heap.size A1 n1 c1 l nx o4 V (ht.keep h) hL.small h.size (hl.keep h) (by omega))
  have HFb : Hid (∀ V, Keep Never W V → TpLight x t → n1 ≤ 100 → Calls Tryz.prog 11 #[.agg x.cs, .agg #[.slice A1 n1 c1, .int .i64 nx], .int .i64 o4] V (FreeRet (freeI t (l, nx) o4) V)) := Lib.hid (fun V h hL hn => rfree16_any x t W.heap.size A1 n1 c1 l nx o4 V (ht.keep h) hL.small h.size (hl.keep h) (by omega))
  have HMa : Hid (∀ V, Keep Never W V → TpLight x t → n1 ≤ 100 → Calls Tryz.prog 12 #[.agg x.cs, .agg #[.slice A1 n1 c1, .int .i64 nx]] V fun e w' => e = .returned (.bool (mayI t (l, nx))) ∧ Keep Never V w') := Lib.hid (fun V h hL hn => may16_any x t W.heap.size A1 n1 c1 l nx V (ht.keep h) hL.small h.size (hl.keep h) (by omega))
  have HMb : Hid (∀ V, Keep Never W V → TpLight x t → n1 ≤ 100 → Calls Tryz.prog 13 #[.agg x.cs, .agg #[.slice A1 n1 c1, .int .i64 nx]] V fun e w' => e = .returned (.bool (mayI t (l, nx))) ∧ Keep Never V w') := Lib.hid (fun V h hL hn => rmay16_any x t W.heap.size A1 n1 c1 l nx V (ht.keep h) hL.small h.size (hl.keep h) (by omega))
  have HSm : Hid (∀ V (A A' : Option Addr) (n c n' c' : Nat) (L : List Lk) (k : Int), SpAt V V.heap.size A n c L → SpAt V V.heap.size A' n' c' L → L.length ≤ 200 → Calls Tryz.prog 9 #[.agg #[.slice A n c, .int .i64 k], .agg #[.slice A' n' c', .int .i64 k]] V fun e w' => e = .returned (.bool true) ∧ Keep Never V w') := Lib.hid (fun V A A' n c n' c' L k h1 h2 hn => (rsame16_any A A' n c n' c' _ _ L L k k V h1 h2 (by have := h1.len; omega) (by have := h2.len; omega)).mono (fun e w' ⟨h3, h4⟩ => ⟨by rw [h3, decide_eq_true rfl, decide_eq_true rfl]; rfl, h4⟩))
  have HN : Hid (l.length = n1) := Lib.hid hl.len
  obtain ⟨Ae, ne, ce, Aj, nj, cj, Ab, nb, cb, Ar, nr, cr⟩ := x
  simp only [TA.cs] at HFw HSa HSb HFa HFb HMa HMb ⊢
  clear ht hl
  obtain ⟨v1, hv1⟩ : ∃ V : World, W.alloc (.cells #[.slice Ae ne ce, .slice Aj nj cj, .slice Ab nb cb, .slice Ar nr cr] 27) = V := ⟨_, rfl⟩
  have zv1 : v1.heap.size = W.heap.size + 1 := by rw [← hv1]; simp
  have kv1 : Keep Never W v1 := by rw [← hv1]; exact (Keep.refl _ _).alloc _
  have bv1 := Blk.new W 27 #[.slice Ae ne ce, .slice Aj nj cj, .slice Ab nb cb, .slice Ar nr cr]
  rw [hv1] at bv1
  obtain ⟨v2, hv2⟩ : ∃ V : World, v1.alloc (.cells #[.slice A1 n1 c1, .int .i64 nx] 30) = V := ⟨_, rfl⟩
  have zv2 : v2.heap.size = W.heap.size + 1 + 1 := by rw [← hv2]; simp [zv1]
  have kv2 : Keep Never v1 v2 := by rw [← hv2]; exact (Keep.refl _ _).alloc _
  have bv2 := Blk.new v1 30 #[.slice A1 n1 c1, .int .i64 nx]
  rw [hv2, zv1] at bv2
  obtain ⟨v3, hv3⟩ : ∃ V : World, v2.alloc (.cells #[.bool o1, .int .i64 o2, .int .i64 o3, .int .i64 o4] 32) = V := ⟨_, rfl⟩
  have kv3 : Keep Never v2 v3 := by rw [← hv3]; exact (Keep.refl _ _).alloc _
  have bv3 := Blk.new v2 32 #[.bool o1, .int .i64 o2, .int .i64 o3, .int .i64 o4]
  rw [hv3, zv2] at bv3
  have HB1 := Lib.hid ((bv1.keep kv2 (fun h => h)).keep kv3 (fun h => h))
  have HB2 := Lib.hid (bv2.keep kv3 (fun h => h))
  have HB3 := Lib.hid bv3
  have HK := Lib.hid ((kv1.trans kv2).trans kv3)
  clear kv1 kv2 kv3 bv1 bv2 bv3
  have HA := Lib.hid (awake16_any v3)
  go_enter Tryz.func3, Tryz.ntmps3
  go_wp2_with fail
  clear hv1 hv2 hv3 zv1 zv2
  refine HA.out.mono ?_
  rintro en w101 ⟨rfl, hk1⟩
  have HK1 := Lib.hid (HK.out.trans hk1)
  have Hy1 := Lib.hid (HB1.out.keep hk1 (fun h => h))
  have Hq1 := Lib.hid (HB2.out.keep hk1 (fun h => h))
  have Hp1 := Lib.hid (HB3.out.keep hk1 (fun h => h))
  clear hk1 HA
  have y0 : w101.cell? ⟨W.heap.size, 0, none⟩ = some (.slice Ae ne ce) := Hy1.out.cell 0
  have y1 : w101.cell? ⟨W.heap.size, 1, none⟩ = some (.slice Aj nj cj) := Hy1.out.cell 1
  have y2 : w101.cell? ⟨W.heap.size, 2, none⟩ = some (.slice Ab nb cb) := Hy1.out.cell 2
  have y3 : w101.cell? ⟨W.heap.size, 3, none⟩ = some (.slice Ar nr cr) := Hy1.out.cell 3
  have q0 : w101.cell? ⟨W.heap.size + 1, 0, none⟩ = some (.slice A1 n1 c1) := Hq1.out.cell 0
  have q1 : w101.cell? ⟨W.heap.size + 1, 1, none⟩ = some (.int .i64 nx) := Hq1.out.cell 1
  have HC := Lib.hid (HFw.out w101 HK1.out)
  clear HFw
  go_wp2_with fail
  refine HC.out.mono ?_
  rintro en w102 ⟨lt, rfl, hlt, hk2⟩
  have HK2 := Lib.hid (HK1.out.trans hk2)
  have Hy2 := Lib.hid (Hy1.out.keep hk2 (fun h => h))
  have Hq2 := Lib.hid (Hq1.out.keep hk2 (fun h => h))
  have Hp2 := Lib.hid (Hp1.out.keep hk2 (fun h => h))
  clear y0 y1 y2 y3 q0 q1 hk2 HC
  cases lt with
  | false =>
    clear hlt
    go_wp2_with fail
    go_ret
    exact ⟨rfl, HK2.out⟩
  | true =>
    have HLi := Lib.hid (hlt.out rfl).1
    have HN1 := Lib.hid (hlt.out rfl).2
    clear hlt
    obtain ⟨⟨⟨lz, nz⟩, no, ez⟩, hz⟩ : ∃ z, setI t (l, nx) o2 o3 = z := ⟨_, rfl⟩
    rw [hz] at HSa HSb
    unfold SetRet at HSa HSb
    dsimp only at HSa HSb
    have HLz : Hid (lz.length ≤ 200) := Lib.hid (by
      have h1 : (setI t (l, nx) o2 o3).1.1.length ≤ l.length + 1 := by
        by_cases h : (setI t (l, nx) o2 o3).2.2 = 0
        · rw [(set_ok h).2.2.2.2.2.2.2]; simp
        · have : (setI t (l, nx) o2 o3).1 = noI := set_no h
          rw [this]; simp [noI]
      rw [hz] at h1
      have h2 := HN.out
      have h3 := HN1.out
      simp only at h1
      omega)
    obtain ⟨⟨⟨lf, nf⟩, ef⟩, hf⟩ : ∃ z, freeI t (l, nx) o4 = z := ⟨_, rfl⟩
    rw [hf] at HFa HFb
    unfold FreeRet at HFa HFb
    dsimp only at HFa HFb
    have HLf : Hid (lf.length ≤ 200) := Lib.hid (by
      have h1 : (freeI t (l, nx) o4).1.1.length ≤ l.length := by
        by_cases h : (freeI t (l, nx) o4).2 = 0
        · rw [(free_ok h).2]; exact List.length_filter_le _ _
        · have : (freeI t (l, nx) o4).1 = noI := free_no h
          rw [this]; simp [noI]
      rw [hf] at h1
      have h2 := HN.out
      have h3 := HN1.out
      simp only at h1
      omega)
    clear hz hf
    have HC := Lib.hid (HSa.out w102 HK2.out HLi.out HN1.out)
    have y0 : w102.cell? ⟨W.heap.size, 0, none⟩ = some (.slice Ae ne ce) := Hy2.out.cell 0
    have y1 : w102.cell? ⟨W.heap.size, 1, none⟩ = some (.slice Aj nj cj) := Hy2.out.cell 1
    have y2 : w102.cell? ⟨W.heap.size, 2, none⟩ = some (.slice Ab nb cb) := Hy2.out.cell 2
    have y3 : w102.cell? ⟨W.heap.size, 3, none⟩ = some (.slice Ar nr cr) := Hy2.out.cell 3
    have q0 : w102.cell? ⟨W.heap.size + 1, 0, none⟩ = some (.slice A1 n1 c1) := Hq2.out.cell 0
    have q1 : w102.cell? ⟨W.heap.size + 1, 1, none⟩ = some (.int .i64 nx) := Hq2.out.cell 1
    have p0 : w102.cell? ⟨W.heap.size + 1 + 1, 0, none⟩ = some (.bool o1) := Hp2.out.cell 0
    have p1 : w102.cell? ⟨W.heap.size + 1 + 1, 1, none⟩ = some (.int .i64 o2) := Hp2.out.cell 1
    have p2 : w102.cell? ⟨W.heap.size + 1 + 1, 2, none⟩ = some (.int .i64 o3) := Hp2.out.cell 2
    have p3 : w102.cell? ⟨W.heap.size + 1 + 1, 3, none⟩ = some (.int .i64 o4) := Hp2.out.cell 3
    go_wp2_with fail
    refine HC.out.mono ?_
    rintro en w103 ⟨Aa, na, ca, rfl, _, hoa, hkq⟩
    have HRa := Lib.hid (lkAt_own hoa)
    clear hoa
    have HK3 := Lib.hid (HK2.out.trans hkq)
    have Hy3 := Lib.hid (Hy2.out.keep hkq (fun h => h))
    have Hq3 := Lib.hid (Hq2.out.keep hkq (fun h => h))
    have Hp3 := Lib.hid (Hp2.out.keep hkq (fun h => h))
    clear y0 y1 y2 y3 q0 q1 p0 p1 p2 p3 hkq HC
    obtain ⟨w104, hw104⟩ : ∃ V : World, w103.alloc (.cells #[.slice Aa na ca, .int .i64 nz] 30) = V := ⟨_, rfl⟩
    have kx : Keep Never w103 w104 := by rw [← hw104]; exact (Keep.refl _ _).alloc _
    have bx := Blk.new w103 30 #[.slice Aa na ca, .int .i64 nz]
    rw [hw104] at bx
    obtain ⟨ba, hba⟩ : ∃ q, w103.heap.size = q := ⟨_, rfl⟩
    rw [hba] at bx
    have HBx4 := Lib.hid bx
    have HK4 := Lib.hid (HK3.out.trans kx)
    have Hy4 := Lib.hid (Hy3.out.keep kx (fun h => h))
    have Hq4 := Lib.hid (Hq3.out.keep kx (fun h => h))
    have Hp4 := Lib.hid (Hp3.out.keep kx (fun h => h))
    clear kx bx
    have HRa := Lib.hid (HRa.out.here (show Keep Never w103 w104 from by rw [← hw104]; exact (Keep.refl Never _).alloc _))
    have HC := Lib.hid (HSb.out w104 HK4.out HLi.out HN1.out)
    have y0 : w104.cell? ⟨W.heap.size, 0, none⟩ = some (.slice Ae ne ce) := Hy4.out.cell 0
    have y1 : w104.cell? ⟨W.heap.size, 1, none⟩ = some (.slice Aj nj cj) := Hy4.out.cell 1
    have y2 : w104.cell? ⟨W.heap.size, 2, none⟩ = some (.slice Ab nb cb) := Hy4.out.cell 2
    have y3 : w104.cell? ⟨W.heap.size, 3, none⟩ = some (.slice Ar nr cr) := Hy4.out.cell 3
    have q0 : w104.cell? ⟨W.heap.size + 1, 0, none⟩ = some (.slice A1 n1 c1) := Hq4.out.cell 0
    have q1 : w104.cell? ⟨W.heap.size + 1, 1, none⟩ = some (.int .i64 nx) := Hq4.out.cell 1
    have p0 : w104.cell? ⟨W.heap.size + 1 + 1, 0, none⟩ = some (.bool o1) := Hp4.out.cell 0
    have p1 : w104.cell? ⟨W.heap.size + 1 + 1, 1, none⟩ = some (.int .i64 o2) := Hp4.out.cell 1
    have p2 : w104.cell? ⟨W.heap.size + 1 + 1, 2, none⟩ = some (.int .i64 o3) := Hp4.out.cell 2
    have p3 : w104.cell? ⟨W.heap.size + 1 + 1, 3, none⟩ = some (.int .i64 o4) := Hp4.out.cell 3
    go_wp2_with fail
    refine HC.out.mono ?_
    rintro en w105 ⟨Ad, nd, cd, rfl, _, hod, hkq⟩
    have HRd := Lib.hid (lkAt_own hod)
    have HRa := Lib.hid (HRa.out.here hkq)
    clear hod
    have HK5 := Lib.hid (HK4.out.trans hkq)
    have Hy5 := Lib.hid (Hy4.out.keep hkq (fun h => h))
    have Hq5 := Lib.hid (Hq4.out.keep hkq (fun h => h))
    have Hp5 := Lib.hid (Hp4.out.keep hkq (fun h => h))
    have Ha5 := Lib.hid (HBx4.out.keep hkq (fun h => h))
    clear y0 y1 y2 y3 q0 q1 p0 p1 p2 p3 hkq HC
    obtain ⟨w106, hw106⟩ : ∃ V : World, w105.alloc (.cells #[.slice Ad nd cd, .int .i64 nz] 30) = V := ⟨_, rfl⟩
    have kx : Keep Never w105 w106 := by rw [← hw106]; exact (Keep.refl _ _).alloc _
    have bx := Blk.new w105 30 #[.slice Ad nd cd, .int .i64 nz]
    rw [hw106] at bx
    obtain ⟨bd, hbd⟩ : ∃ q, w105.heap.size = q := ⟨_, rfl⟩
    rw [hbd] at bx
    have HBx6 := Lib.hid bx
    have HK6 := Lib.hid (HK5.out.trans kx)
    have Hy6 := Lib.hid (Hy5.out.keep kx (fun h => h))
    have Hq6 := Lib.hid (Hq5.out.keep kx (fun h => h))
    have Hp6 := Lib.hid (Hp5.out.keep kx (fun h => h))
    have Ha6 := Lib.hid (Ha5.out.keep kx (fun h => h))
    clear kx bx
    have HRd := Lib.hid (HRd.out.here (show Keep Never w105 w106 from by rw [← hw106]; exact (Keep.refl Never _).alloc _))
    have HRa := Lib.hid (HRa.out.here (show Keep Never w105 w106 from by rw [← hw106]; exact (Keep.refl Never _).alloc _))
    have HC := Lib.hid (HSm.out w106 Aa Ad na ca nd cd lz nz HRa.out HRd.out HLz.out)
    have a0 : w106.cell? ⟨ba, 0, none⟩ = some (.slice Aa na ca) := Ha6.out.cell 0
    have a1 : w106.cell? ⟨ba, 1, none⟩ = some (.int .i64 nz) := Ha6.out.cell 1
    have d0 : w106.cell? ⟨bd, 0, none⟩ = some (.slice Ad nd cd) := HBx6.out.cell 0
    have d1 : w106.cell? ⟨bd, 1, none⟩ = some (.int .i64 nz) := HBx6.out.cell 1
    go_wp2_with fail
    clear hw104 hba hw106 hbd
    refine HC.out.mono ?_
    rintro en w107 ⟨rfl, hk7⟩
    have HK7 := Lib.hid (HK6.out.trans hk7)
    have Hy7 := Lib.hid (Hy6.out.keep hk7 (fun h => h))
    have Hq7 := Lib.hid (Hq6.out.keep hk7 (fun h => h))
    have Hp7 := Lib.hid (Hp6.out.keep hk7 (fun h => h))
    have Ha7 := Lib.hid (Ha6.out.keep hk7 (fun h => h))
    have Hd7 := Lib.hid (HBx6.out.keep hk7 (fun h => h))
    clear a0 a1 d0 d1 hk7 HC
    clear HRa HRd
    have HC := Lib.hid (HFa.out w107 HK7.out HLi.out HN1.out)
    have y0 : w107.cell? ⟨W.heap.size, 0, none⟩ = some (.slice Ae ne ce) := Hy7.out.cell 0
    have y1 : w107.cell? ⟨W.heap.size, 1, none⟩ = some (.slice Aj nj cj) := Hy7.out.cell 1
    have y2 : w107.cell? ⟨W.heap.size, 2, none⟩ = some (.slice Ab nb cb) := Hy7.out.cell 2
    have y3 : w107.cell? ⟨W.heap.size, 3, none⟩ = some (.slice Ar nr cr) := Hy7.out.cell 3
    have q0 : w107.cell? ⟨W.heap.size + 1, 0, none⟩ = some (.slice A1 n1 c1) := Hq7.out.cell 0
    have q1 : w107.cell? ⟨W.heap.size + 1, 1, none⟩ = some (.int .i64 nx) := Hq7.out.cell 1
    have p0 : w107.cell? ⟨W.heap.size + 1 + 1, 0, none⟩ = some (.bool o1) := Hp7.out.cell 0
    have p1 : w107.cell? ⟨W.heap.size + 1 + 1, 1, none⟩ = some (.int .i64 o2) := Hp7.out.cell 1
    have p2 : w107.cell? ⟨W.heap.size + 1 + 1, 2, none⟩ = some (.int .i64 o3) := Hp7.out.cell 2
    have p3 : w107.cell? ⟨W.heap.size + 1 + 1, 3, none⟩ = some (.int .i64 o4) := Hp7.out.cell 3
    go_wp2_with fail
    refine HC.out.mono ?_
    rintro en w108 ⟨Af, nf5, cf5, rfl, _, hof, hkq⟩
    have HRf := Lib.hid (lkAt_own hof)
    clear hof
    have HK8 := Lib.hid (HK7.out.trans hkq)
    have Hy8 := Lib.hid (Hy7.out.keep hkq (fun h => h))
    have Hq8 := Lib.hid (Hq7.out.keep hkq (fun h => h))
    have Hp8 := Lib.hid (Hp7.out.keep hkq (fun h => h))
    clear y0 y1 y2 y3 q0 q1 p0 p1 p2 p3 hkq HC
    obtain ⟨w109, hw109⟩ : ∃ V : World, w108.alloc (.cells #[.slice Af nf5 cf5, .int .i64 nf] 30) = V := ⟨_, rfl⟩
    have kx : Keep Never w108 w109 := by rw [← hw109]; exact (Keep.refl _ _).alloc _
    have bx := Blk.new w108 30 #[.slice Af nf5 cf5, .int .i64 nf]
    rw [hw109] at bx
    obtain ⟨bf, hbf⟩ : ∃ q, w108.heap.size = q := ⟨_, rfl⟩
    rw [hbf] at bx
    have HBx9 := Lib.hid bx
    have HK9 := Lib.hid (HK8.out.trans kx)
    have Hy9 := Lib.hid (Hy8.out.keep kx (fun h => h))
    have Hq9 := Lib.hid (Hq8.out.keep kx (fun h => h))
    have Hp9 := Lib.hid (Hp8.out.keep kx (fun h => h))
    clear kx bx
    have HRf := Lib.hid (HRf.out.here (show Keep Never w108 w109 from by rw [← hw109]; exact (Keep.refl Never _).alloc _))
    have HC := Lib.hid (HFb.out w109 HK9.out HLi.out HN1.out)
    have y0 : w109.cell? ⟨W.heap.size, 0, none⟩ = some (.slice Ae ne ce) := Hy9.out.cell 0
    have y1 : w109.cell? ⟨W.heap.size, 1, none⟩ = some (.slice Aj nj cj) := Hy9.out.cell 1
    have y2 : w109.cell? ⟨W.heap.size, 2, none⟩ = some (.slice Ab nb cb) := Hy9.out.cell 2
    have y3 : w109.cell? ⟨W.heap.size, 3, none⟩ = some (.slice Ar nr cr) := Hy9.out.cell 3
    have q0 : w109.cell? ⟨W.heap.size + 1, 0, none⟩ = some (.slice A1 n1 c1) := Hq9.out.cell 0
    have q1 : w109.cell? ⟨W.heap.size + 1, 1, none⟩ = some (.int .i64 nx) := Hq9.out.cell 1
    have p0 : w109.cell? ⟨W.heap.size + 1 + 1, 0, none⟩ = some (.bool o1) := Hp9.out.cell 0
    have p1 : w109.cell? ⟨W.heap.size + 1 + 1, 1, none⟩ = some (.int .i64 o2) := Hp9.out.cell 1
    have p2 : w109.cell? ⟨W.heap.size + 1 + 1, 2, none⟩ = some (.int .i64 o3) := Hp9.out.cell 2
    have p3 : w109.cell? ⟨W.heap.size + 1 + 1, 3, none⟩ = some (.int .i64 o4) := Hp9.out.cell 3
    go_wp2_with fail
    refine HC.out.mono ?_
    rintro en w110 ⟨Ag, ng, cg, rfl, _, hog, hkq⟩
    have HRg := Lib.hid (lkAt_own hog)
    have HRf := Lib.hid (HRf.out.here hkq)
    clear hog
    have HK10 := Lib.hid (HK9.out.trans hkq)
    have Hy10 := Lib.hid (Hy9.out.keep hkq (fun h => h))
    have Hq10 := Lib.hid (Hq9.out.keep hkq (fun h => h))
    have Hp10 := Lib.hid (Hp9.out.keep hkq (fun h => h))
    have Hf10 := Lib.hid (HBx9.out.keep hkq (fun h => h))
    clear y0 y1 y2 y3 q0 q1 p0 p1 p2 p3 hkq HC
    obtain ⟨w111, hw111⟩ : ∃ V : World, w110.alloc (.cells #[.slice Ag ng cg, .int .i64 nf] 30) = V := ⟨_, rfl⟩
    have kx : Keep Never w110 w111 := by rw [← hw111]; exact (Keep.refl _ _).alloc _
    have bx := Blk.new w110 30 #[.slice Ag ng cg, .int .i64 nf]
    rw [hw111] at bx
    obtain ⟨bg, hbg⟩ : ∃ q, w110.heap.size = q := ⟨_, rfl⟩
    rw [hbg] at bx
    have HBx11 := Lib.hid bx
    have HK11 := Lib.hid (HK10.out.trans kx)
    have Hy11 := Lib.hid (Hy10.out.keep kx (fun h => h))
    have Hq11 := Lib.hid (Hq10.out.keep kx (fun h => h))
    have Hp11 := Lib.hid (Hp10.out.keep kx (fun h => h))
    have Hf11 := Lib.hid (Hf10.out.keep kx (fun h => h))
    clear kx bx
    have HRg := Lib.hid (HRg.out.here (show Keep Never w110 w111 from by rw [← hw111]; exact (Keep.refl Never _).alloc _))
    have HRf := Lib.hid (HRf.out.here (show Keep Never w110 w111 from by rw [← hw111]; exact (Keep.refl Never _).alloc _))
    have HC := Lib.hid (HSm.out w111 Af Ag nf5 cf5 ng cg lf nf HRf.out HRg.out HLf.out)
    have f0 : w111.cell? ⟨bf, 0, none⟩ = some (.slice Af nf5 cf5) := Hf11.out.cell 0
    have f1 : w111.cell? ⟨bf, 1, none⟩ = some (.int .i64 nf) := Hf11.out.cell 1
    have g0 : w111.cell? ⟨bg, 0, none⟩ = some (.slice Ag ng cg) := HBx11.out.cell 0
    have g1 : w111.cell? ⟨bg, 1, none⟩ = some (.int .i64 nf) := HBx11.out.cell 1
    go_wp2_with fail
    clear hw109 hbf hw111 hbg
    refine HC.out.mono ?_
    rintro en w112 ⟨rfl, hk12⟩
    have HK12 := Lib.hid (HK11.out.trans hk12)
    have Hy12 := Lib.hid (Hy11.out.keep hk12 (fun h => h))
    have Hq12 := Lib.hid (Hq11.out.keep hk12 (fun h => h))
    have Hp12 := Lib.hid (Hp11.out.keep hk12 (fun h => h))
    have Hf12 := Lib.hid (Hf11.out.keep hk12 (fun h => h))
    have Hg12 := Lib.hid (HBx11.out.keep hk12 (fun h => h))
    clear f0 f1 g0 g1 hk12 HC
    clear HRf HRg
    obtain ⟨mb, hmb⟩ : ∃ z, mayI t (l, nx) = z := ⟨_, rfl⟩
    rw [hmb] at HMa HMb
    have HX1 := Lib.hid (fun V (h : Keep Never w112 V) => HMa.out V (HK12.out.trans h) HLi.out HN1.out)
    have HX2 := Lib.hid (fun V (h : Keep Never w112 V) => HMb.out V (HK12.out.trans h) HLi.out HN1.out)
    have tq1 : (no == no) = true := by simp
    have tq2 : (ez == ez) = true := by simp
    have tq3 : (ef == ef) = true := by simp
    have tq4 : (mb == mb) = true := by simp
    clear hmb
    have y0 : w112.cell? ⟨W.heap.size, 0, none⟩ = some (.slice Ae ne ce) := Hy12.out.cell 0
    have y1 : w112.cell? ⟨W.heap.size, 1, none⟩ = some (.slice Aj nj cj) := Hy12.out.cell 1
    have y2 : w112.cell? ⟨W.heap.size, 2, none⟩ = some (.slice Ab nb cb) := Hy12.out.cell 2
    have y3 : w112.cell? ⟨W.heap.size, 3, none⟩ = some (.slice Ar nr cr) := Hy12.out.cell 3
    have q0 : w112.cell? ⟨W.heap.size + 1, 0, none⟩ = some (.slice A1 n1 c1) := Hq12.out.cell 0
    have q1 : w112.cell? ⟨W.heap.size + 1, 1, none⟩ = some (.int .i64 nx) := Hq12.out.cell 1
    have HS2 : Hid (∀ W', Keep Never w112 W' → Keep Never w112 W' ∧ W'.cell? ⟨W.heap.size, 0, none⟩ = some (.slice Ae ne ce) ∧ W'.cell? ⟨W.heap.size, 1, none⟩ = some (.slice Aj nj cj) ∧ W'.cell? ⟨W.heap.size, 2, none⟩ = some (.slice Ab nb cb) ∧ W'.cell? ⟨W.heap.size, 3, none⟩ = some (.slice Ar nr cr) ∧ W'.cell? ⟨W.heap.size + 1, 0, none⟩ = some (.slice A1 n1 c1) ∧ W'.cell? ⟨W.heap.size + 1, 1, none⟩ = some (.int .i64 nx)) := Lib.hid (fun W' h => ⟨h, keepT h y0, keepT h y1, keepT h y2, keepT h y3, keepT h q0, keepT h q1⟩)
    go_wp2_with fail
    clear y0 y1 y2 y3 q0 q1
    go_region_held3 (fun W' => Keep Never w112 W' ∧ W'.cell? ⟨W.heap.size, 0, none⟩ = some (.slice Ae ne ce) ∧ W'.cell? ⟨W.heap.size, 1, none⟩ = some (.slice Aj nj cj) ∧ W'.cell? ⟨W.heap.size, 2, none⟩ = some (.slice Ab nb cb) ∧ W'.cell? ⟨W.heap.size, 3, none⟩ = some (.slice Ar nr cr) ∧ W'.cell? ⟨W.heap.size + 1, 0, none⟩ = some (.slice A1 n1 c1) ∧ W'.cell? ⟨W.heap.size + 1, 1, none⟩ = some (.int .i64 nx))
      (first | assumption | exact HS2.out _ ((Keep.refl Never w112).drew) | exact HS2.out _ (Keep.trans (And.left (by assumption)) hk3) | exact HS2.out _ (Keep.trans ((Keep.refl Never w112).drew) hk3))
      (first
        | (go_at_call 12; refine (HX1.out _ (by first | exact And.left (by assumption) | exact (Keep.refl Never w112).drew | exact Keep.refl Never w112)).mono ?_; rintro e w3 ⟨rfl, hk3⟩)
        | (go_at_call 13; refine (HX2.out _ (by first | exact And.left (by assumption) | exact (Keep.refl Never w112).drew | exact Keep.refl Never w112)).mono ?_; rintro e w4 ⟨rfl, hk3⟩))
    all_goals
      rename_i hS
      have HKe := Lib.hid (HK12.out.trans hS.1)
      clear hS
      go_wp2_with fail
      go_ret
      exact ⟨rfl, HKe.out⟩

end Go.Proofs.YtijdkjcjhfebfaaGreat
