/- Chapter 13: way, Length; the document's Length. -/
import Derived.Test.YtpahfobijmmmmaaGreatTopD
namespace Go.Proofs.YtpahfobijmmmmaaGreat
open Go.RowKit

def okAt (J : List Jt) (p : List Stp) (k : Nat) : Bool := match p[k]?, p[k + 1]? with | some s, some u => mayJ J s u | _, _ => true
/-- are steps a way? -/
def wayM (J : List Jt) (p : List Stp) : Bool := (List.range (p.length - 1)).all (okAt J p)
theorem wayM_t {J : List Jt} {p : List Stp} (h : ∀ k, k + 1 < p.length → okAt J p k = true) : wayM J p = true := by
  unfold wayM
  rw [List.all_eq_true]
  intro k hk
  rw [List.mem_range] at hk
  exact h k (by omega)
theorem wayM_f {J : List Jt} {p : List Stp} {k : Nat} (hk : k + 1 < p.length) (h : okAt J p k = false) : wayM J p = false := by
  unfold wayM
  rw [List.all_eq_false]
  exact ⟨k, List.mem_range.2 (by omega), by rw [h]; simp⟩
theorem okAt_eq {J : List Jt} {p : List Stp} {k : Nat} {s u : Stp} (h1 : p[k]? = some s) (h2 : p[k + 1]? = some u) : okAt J p k = mayJ J s u := by unfold okAt; rw [h1, h2]

set_option maxHeartbeats 4000000 in
set_option maxRecDepth 100000 in
theorem way_any (x : TA) (t : Tp) (B : Nat) (A : Option Addr) (n c : Nat) (p : List Stp) (w : World) (ht : TpAt w B x t) (hp : repStp.Sl w B A n c p) (hn : x.nj ≤ 100000000) (hn2 : n ≤ 100000000) :
    Calls Tryz.prog 98 #[.agg x.cs, .slice A n c] w fun e w' => e = .returned (.bool (wayM t.2.1 p)) ∧ Keep Never w w' := by
  have HM : Hid (∀ (a b : Stp) (w' : World), Keep Never w w' → Calls Tryz.prog 110 #[.agg x.cs, .agg #[.int .i64 a.1, .bool a.2], .agg #[.int .i64 b.1, .bool b.2]] w' fun e w'' => e = .returned (.bool (mayJ t.2.1 a b)) ∧ Keep Never w' w'') := Lib.hid (fun a b w' h => mayj_any x t B a b w' (ht.keep h) hn)
  have HPl : Hid (n = p.length) := Lib.hid hp.len
  obtain ⟨Ae, ne, ce, Aj, nj, cj, Ab, nb, cb, Ar, nr, cr⟩ := x
  simp only [TA.cs] at HM ⊢
  obtain ⟨wb, hwb⟩ : ∃ wb : World, w.alloc (.cells #[.slice Ae ne ce, .slice Aj nj cj, .slice Ab nb cb, .slice Ar nr cr] 27) = wb := ⟨_, rfl⟩
  have k1 : Keep Never w wb := by rw [← hwb]; exact (Keep.refl _ _).alloc _
  have b1' := Blk.new w 27 #[.slice Ae ne ce, .slice Aj nj cj, .slice Ab nb cb, .slice Ar nr cr]
  rw [hwb] at b1'
  have HB := Lib.hid b1'
  have HK := Lib.hid k1
  have HP := Lib.hid (hp.keep k1 (fun _ h => h.elim))
  clear k1 b1' hp ht
  go_enter Tryz.func98, Tryz.ntmps98
  go_wp2_with fail
  go_loopw [5] (fun i wr => ∃ q : Nat, 1 ≤ q ∧ q ≤ n + 1 ∧ i = .int .i64 q ∧ Hid (Keep Never wb wr ∧ ∀ k, k + 1 < q → k + 1 < n → okAt t.2.1 p k = true)) (fun i _ => n + 1 - (intOf i).toNat)
  case atStart => exact ⟨1, by omega, by omega, rfl, Lib.hid ⟨Keep.refl _ _, fun k h => by omega⟩⟩
  case round =>
    obtain ⟨q, hq1, hq, rfl, HH⟩ := hrel
    by_cases h0 : q < n
    · obtain ⟨q0, hq0⟩ : ∃ q0, q = q0 + 1 := ⟨q - 1, by omega⟩
      obtain ⟨ad, s, hA, hab, hs, c0, c1, _⟩ := stp_at (HP.out.keep HH.out.1 (fun _ h => h.elim)) (i := q0) (by omega)
      obtain ⟨ad', u, hA', hab', hu, d0, d1, _⟩ := stp_at (HP.out.keep HH.out.1 (fun _ h => h.elim)) h0
      subst hA
      obtain rfl : ad = ad' := by injection hA'
      have hqz : (q : Int) < (n : Int) := by omega
      have HOk : Hid (okAt t.2.1 p q0 = mayJ t.2.1 s u) := Lib.hid (okAt_eq hs (by rw [← hq0]; exact hu))
      have hbb := HB.out.keep HH.out.1 (fun h => h)
      have y0 : wr.cell? ⟨w.heap.size, 0, none⟩ = some (.slice Ae ne ce) := hbb.cell 0
      have y1 : wr.cell? ⟨w.heap.size, 1, none⟩ = some (.slice Aj nj cj) := hbb.cell 1
      have y2 : wr.cell? ⟨w.heap.size, 2, none⟩ = some (.slice Ab nb cb) := hbb.cell 2
      have y3 : wr.cell? ⟨w.heap.size, 3, none⟩ = some (.slice Ar nr cr) := hbb.cell 3
      have HMa := Lib.hid (HM.out s u)
      obtain ⟨s1, s2⟩ := s
      obtain ⟨u1, u2⟩ := u
      simp only at c0 c1 d0 d1 HMa
      have HKw := Lib.hid (HK.out.trans HH.out.1)
      have Hq0 := Lib.hid hq0
      have z1 : q0 < n := by omega
      have z2 : (q0 : Int) < (n : Int) := by omega
      have z3 : (0 : Int) ≤ (q0 : Int) := by omega
      have z4 : (q : Int) - 1 = (q0 : Int) := by omega
      have z5 : IntKind.i64.wrap ((q : Int) - 1) = (q0 : Int) := by rw [z4]; exact IntWalk.i64_in _ (by omega)
      have z6 : IntKind.i64.wrap (q0 : Int) = (q0 : Int) := IntWalk.i64_in _ (by omega)
      generalize mayJ t.2.1 (s1, s2) (u1, u2) = mb at HMa HOk
      clear hs hu hab hab' hbb hq0 HM
      go_wp2_with fail
      go_region_held3 (fun w' => Keep Never wr w' ∧ w'.cell? ⟨w.heap.size, 0, none⟩ = some (.slice Ae ne ce) ∧ w'.cell? ⟨w.heap.size, 1, none⟩ = some (.slice Aj nj cj) ∧ w'.cell? ⟨w.heap.size, 2, none⟩ = some (.slice Ab nb cb) ∧ w'.cell? ⟨w.heap.size, 3, none⟩ = some (.slice Ar nr cr) ∧ w'.cell? (ad.add (q0 * 2)) = some (.int .i64 s1) ∧ w'.cell? ⟨(ad.add (q0 * 2)).block, (ad.add (q0 * 2)).off + 1, none⟩ = some (.bool s2) ∧ w'.cell? (ad.add (q * 2)) = some (.int .i64 u1) ∧ w'.cell? ⟨(ad.add (q * 2)).block, (ad.add (q * 2)).off + 1, none⟩ = some (.bool u2))
        (first | assumption | exact ⟨(Keep.refl Never wr).drew, y0, y1, y2, y3, c0, c1, d0, d1⟩ | exact held8_next (by assumption) hk')
        (first
          | (go_at_call 110; refine (HMa.out _ (HKw.out.trans (by first | exact (Keep.refl Never wr).drew | exact And.left (by assumption)))).mono ?_; rintro e w' ⟨rfl, hk'⟩))
      rename_i hS
      have HKe := Lib.hid (HH.out.1.trans (And.left hS))
      have HHo := Lib.hid HH.out.2
      clear hS y0 y1 y2 y3 c0 c1 d0 d1 z1 z2 z3 z4 z5 z6 HMa HH
      cases mb with
      | true =>
        go_wp2_with fail
        refine ⟨⟨q + 1, by omega, by omega, by go_num, Lib.hid ⟨HKe.out, fun k h1 h2 => ?_⟩⟩, ?_⟩
        · by_cases hk : k + 1 < q
          · exact HHo.out k hk h2
          · obtain rfl : k = q0 := by have := Hq0.out; omega
            exact HOk.out
        · simp [intOf]; try omega
      | false =>
        have HF : Hid (wayM t.2.1 p = false) := Lib.hid (wayM_f (k := q0) (by rw [← Hq0.out, ← HPl.out]; exact h0) HOk.out)
        go_wp2_with fail
        go_ret
        exact ⟨by rw [HF.out]; rfl, HK.out.trans HKe.out⟩
    · have hqz : ¬ (q : Int) < (n : Int) := by omega
      have HF : Hid (wayM t.2.1 p = true) := Lib.hid (wayM_t fun k h => HH.out.2 k (by have := HPl.out; omega) (by have := HPl.out; omega))
      go_wp2_with fail
      go_ret
      exact ⟨by rw [HF.out]; rfl, HK.out.trans HH.out.1⟩

def sumM (es : List Int) (p : List Stp) : Int := p.foldl (fun n s => IntKind.i64.wrap (n + es.getD s.1.toNat 0)) 0
/-- the document's Length: the length, the error -/
def lenM (t : Tp) (p : List Stp) : Int × Int :=
  if p.length = 0 ∨ 40 < p.length then (0, 1) else if p.all (fun s => thereB t.1.length s.1) = true then (if wayM t.2.1 p = true then (sumM t.1 p, 0) else (0, 141)) else (0, 1)
theorem sumM_take {es : List Int} {p : List Stp} {k : Nat} {s : Stp} (h : p[k]? = some s) : sumM es (p.take (k + 1)) = IntKind.i64.wrap (sumM es (p.take k) + es.getD s.1.toNat 0) := by
  unfold sumM
  rw [List.take_add_one, h]
  simp [List.foldl_append]

set_option maxHeartbeats 4000000 in
set_option maxRecDepth 100000 in
theorem length_any (x : TA) (t : Tp) (B : Nat) (A : Option Addr) (n c : Nat) (p : List Stp) (w : World) (ht : TpAt w B x t) (hp : repStp.Sl w B A n c p) (hn : x.nj ≤ 100000000) (hn2 : n ≤ 100000000) :
    Calls Tryz.prog 85 #[.agg x.cs, .slice A n c] w fun e w' => e = .returned (.tuple #[.int .i64 (lenM t p).1, .int .i64 (lenM t p).2]) ∧ Keep Never w w' := by
  have HW : Hid (∀ (w' : World), Keep Never w w' → Calls Tryz.prog 98 #[.agg x.cs, .slice A n c] w' fun e w'' => e = .returned (.bool (wayM t.2.1 p)) ∧ Keep Never w' w'') := Lib.hid (fun w' h => way_any x t B A n c p w' (ht.keep h) (hp.keep h (fun _ h => h.elim)) hn hn2)
  have HT := Lib.hid (fun i W => there_any x i W)
  have HE := Lib.hid ht.e
  have HPl : Hid (n = p.length) := Lib.hid hp.len
  have HEl : Hid (x.ne = t.1.length) := Lib.hid ht.e.len
  obtain ⟨Ae, ne, ce, Aj, nj, cj, Ab, nb, cb, Ar, nr, cr⟩ := x
  simp only [TA.cs] at HW HT HE HEl ⊢
  obtain ⟨wb, hwb⟩ : ∃ wb : World, w.alloc (.cells #[.slice Ae ne ce, .slice Aj nj cj, .slice Ab nb cb, .slice Ar nr cr] 27) = wb := ⟨_, rfl⟩
  have k1 : Keep Never w wb := by rw [← hwb]; exact (Keep.refl _ _).alloc _
  have b1' := Blk.new w 27 #[.slice Ae ne ce, .slice Aj nj cj, .slice Ab nb cb, .slice Ar nr cr]
  rw [hwb] at b1'
  have HB := Lib.hid b1'
  have HK := Lib.hid k1
  have HP := Lib.hid (hp.keep k1 (fun _ h => h.elim))
  have HEb := Lib.hid (HE.out.keep k1 (fun _ h => h.elim))
  clear k1 b1' hp ht HE
  by_cases hz : n = 0 ∨ 40 < n
  · have HF : Hid (lenM t p = (0, 1)) := Lib.hid (by unfold lenM; rw [if_pos (by rw [← HPl.out]; exact hz)])
    rw [HF.out]
    by_cases h0 : n = 0
    · have t0 : ((n : Int) == 0) = true := by simp [h0]
      clear hz h0
      go_enter Tryz.func85, Tryz.ntmps85
      go_wp2_with fail
      go_ret2
      exact ⟨rfl, HK.out⟩
    · have t0 : ((n : Int) == 0) = false := by simp; omega
      have t1 : decide ((n : Int) > 40) = true := by simp; omega
      clear hz h0
      go_enter Tryz.func85, Tryz.ntmps85
      go_wp2_with fail
      go_ret2
      exact ⟨rfl, HK.out⟩
  · have t0 : ((n : Int) == 0) = false := by simp; omega
    have t1 : decide ((n : Int) > 40) = false := by simp; omega
    have HNz := Lib.hid hz
    clear hz
    go_enter Tryz.func85, Tryz.ntmps85
    go_wp2_with fail
    go_loopw [6, 8, 19] (fun sv _ i wr => ∃ k : Nat, k ≤ n ∧ i = .int .i64 k ∧ sv = .int .i64 (sumM t.1 (p.take k)) ∧ Hid (Keep Never wb wr ∧ ∀ s ∈ p.take k, thereB ne s.1 = true)) (fun _ _ i _ => n - (intOf i).toNat)
    case atStart => exact ⟨0, by omega, rfl, rfl, Lib.hid ⟨Keep.refl _ _, by simp⟩⟩
    case round =>
      obtain ⟨k, hk, rfl, rfl, HH⟩ := hrel
      by_cases h0 : k < n
      · have hkz : (k : Int) < (n : Int) := by omega
        obtain ⟨ad, s, hA, hab, hs, c0, c1, _⟩ := stp_at (HP.out.keep HH.out.1 (fun _ h => h.elim)) h0
        subst hA
        obtain ⟨s1, s2⟩ := s
        simp only at c0 c1
        have HSm : Hid (sumM t.1 (p.take (k + 1)) = IntKind.i64.wrap (sumM t.1 (p.take k) + t.1.getD s1.toNat 0)) := Lib.hid (sumM_take hs)
        have HSk := Lib.hid hs
        have HTk : Hid (p.take (k + 1) = p.take k ++ [(s1, s2)]) := Lib.hid (by
          obtain ⟨h2, h3⟩ := List.getElem?_eq_some_iff.1 hs
          rw [List.take_succ_eq_append_getElem h2, h3])
        generalize sumM t.1 (p.take k) = S at *
        obtain ⟨w2, hw2⟩ : ∃ w2 : World, wr.alloc (.cells #[.int .i64 s1, .bool s2] 106) = w2 := ⟨_, rfl⟩
        have k2 : Keep Never wr w2 := by rw [← hw2]; exact (Keep.refl _ _).alloc _
        have b2 := Blk.new wr 106 #[.int .i64 s1, .bool s2]
        rw [hw2] at b2
        have HB2 := Lib.hid b2
        have HK2 := Lib.hid (HH.out.1.trans k2)
        have HAl := Lib.hid HH.out.2
        have z0 : w2.cell? ⟨wr.heap.size, 0, none⟩ = some (.int .i64 s1) := b2.cell 0
        have hbb := HB.out.keep HK2.out (fun h => h)
        have y0 : w2.cell? ⟨w.heap.size, 0, none⟩ = some (.slice Ae ne ce) := hbb.cell 0
        have y1 : w2.cell? ⟨w.heap.size, 1, none⟩ = some (.slice Aj nj cj) := hbb.cell 1
        have y2 : w2.cell? ⟨w.heap.size, 2, none⟩ = some (.slice Ab nb cb) := hbb.cell 2
        have y3 : w2.cell? ⟨w.heap.size, 3, none⟩ = some (.slice Ar nr cr) := hbb.cell 3
        have HTs := Lib.hid (HT.out s1 w2)
        cases htb : thereB ne s1 with
        | false =>
          have HF : Hid (lenM t p = (0, 1)) := Lib.hid (by
            unfold lenM
            rw [if_neg (by rw [← HPl.out]; exact HNz.out), if_neg]
            rw [List.all_eq_true]
            intro h
            have := h _ (List.mem_of_getElem? HSk.out)
            rw [← HEl.out, htb] at this
            cases this)
          have HTf : Hid (Calls Tryz.prog 55 #[.agg #[.slice Ae ne ce, .slice Aj nj cj, .slice Ab nb cb, .slice Ar nr cr], .int .i64 s1] w2 fun e w' => e = .returned (.bool false) ∧ Keep Never w2 w') := by have h := HTs.out; rw [htb] at h; exact h
          clear hs hab k2 b2 hbb HTs htb HSm
          go_wp2_with fail
          refine HTf.out.mono ?_
          rintro e w3 ⟨rfl, hk3⟩
          have HK3 := Lib.hid (HK2.out.trans hk3)
          clear hk3
          go_wp2_with fail
          go_ret2
          exact ⟨by rw [HF.out]; rfl, HK.out.trans HK3.out⟩
        | true =>
          have HTf : Hid (Calls Tryz.prog 55 #[.agg #[.slice Ae ne ce, .slice Aj nj cj, .slice Ab nb cb, .slice Ar nr cr], .int .i64 s1] w2 fun e w' => e = .returned (.bool true) ∧ Keep Never w2 w') := by have h := HTs.out; rw [htb] at h; exact h
          have HTb := Lib.hid htb
          unfold thereB at htb
          rw [Bool.and_eq_true, decide_eq_true_eq, decide_eq_true_eq] at htb
          obtain ⟨j, rfl⟩ : ∃ j : Nat, s1 = (j : Int) := ⟨s1.toNat, by omega⟩
          have hj : j < ne := by omega
          obtain ⟨ad2, v, hA2, hab2, hv, g0⟩ := (int_rd (HEb.out.keep HK2.out (fun _ h => h.elim))).at1 hj
          subst hA2
          have HSm2 : Hid (sumM t.1 (p.take (k + 1)) = IntKind.i64.wrap (S + v)) := Lib.hid (by rw [HSm.out]; congr 2; rw [List.getD_eq_getElem?_getD, Int.toNat_natCast, hv]; rfl)
          have hjz : (j : Int) < (ne : Int) := by omega
          have hj0 : (0 : Int) ≤ (j : Int) := by omega
          have HG := Lib.hid g0
          clear hs hab k2 b2 hbb HTs htb HSm hv hab2 g0
          go_wp2_with fail
          refine HTf.out.mono ?_
          rintro e w3 ⟨rfl, hk3⟩
          have HK3 := Lib.hid (HK2.out.trans hk3)
          have x0 := keepT hk3 y0
          have x1 := keepT hk3 z0
          have x2 := keepT hk3 HG.out
          clear hk3 y0 y1 y2 y3 z0
          go_wp2_with fail
          refine ⟨⟨k + 1, by omega, by go_num, by rw [HSm2.out, IntWalk.i64_left], Lib.hid ⟨HK3.out, fun s hs => ?_⟩⟩, ?_⟩
          · rw [HTk.out, List.mem_append, List.mem_singleton] at hs
            rcases hs with hs | rfl
            · exact HAl.out s hs
            · exact HTb.out
          · simp [intOf]; try omega
      · obtain rfl : k = n := by omega
        have hkz : ¬ (k : Int) < (k : Int) := by omega
        have HTk : Hid (p.take k = p) := Lib.hid (List.take_of_length_le (by rw [HPl.out]; exact Nat.le_refl _))
        rw [HTk.out] at HH ⊢
        have HAl : Hid (p.all (fun s => thereB t.1.length s.1) = true) := Lib.hid (by
          rw [List.all_eq_true]
          intro s hs
          rw [← HEl.out]
          exact HH.out.2 s hs)
        have hbb := HB.out.keep HH.out.1 (fun h => h)
        have y0 : wr.cell? ⟨w.heap.size, 0, none⟩ = some (.slice Ae ne ce) := hbb.cell 0
        have y1 : wr.cell? ⟨w.heap.size, 1, none⟩ = some (.slice Aj nj cj) := hbb.cell 1
        have y2 : wr.cell? ⟨w.heap.size, 2, none⟩ = some (.slice Ab nb cb) := hbb.cell 2
        have y3 : wr.cell? ⟨w.heap.size, 3, none⟩ = some (.slice Ar nr cr) := hbb.cell 3
        have HWw := Lib.hid (HW.out wr (HK.out.trans HH.out.1))
        have HF : Hid (lenM t p = if wayM t.2.1 p = true then (sumM t.1 p, 0) else (0, 141)) := Lib.hid (by
          unfold lenM
          rw [if_neg (by rw [← HPl.out]; exact HNz.out), if_pos HAl.out])
        generalize wayM t.2.1 p = wy at HWw HF
        have HKr := Lib.hid HH.out.1
        clear hbb HH
        go_wp2_with fail
        refine HWw.out.mono ?_
        rintro e w3 ⟨rfl, hk3⟩
        have HK3 := Lib.hid (HKr.out.trans hk3)
        clear hk3
        cases wy with
        | true =>
          go_wp2_with fail
          go_ret2
          exact ⟨by rw [HF.out]; rfl, HK.out.trans HK3.out⟩
        | false =>
          go_wp2_with fail
          go_ret2
          exact ⟨by rw [HF.out]; rfl, HK.out.trans HK3.out⟩

end Go.Proofs.YtpahfobijmmmmaaGreat
