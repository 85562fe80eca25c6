/- SpanLong: the law's walk. -/
import Derived.Test.YtlcbajdckgcopaaBckA
import Derived.Test.YtlcbajdckgcopaaSpnO
namespace Go.Proofs.Ytlcbajdckgcopaa
open Go.RowKit

instance leS_dec (a b : Sp) : Decidable (leS a b) := inferInstanceAs (Decidable (a.1 < b.1 ∨ (a.1 = b.1 ∧ a.2.1 ≤ b.2.1)))
theorem norm_short {l m : List Sp} (h : NormOf l m) : m.length ≤ l.length := by
  have hp : ((l.filter someS).mergeSort (fun a b => decide (leS a b))).Perm (l.filter someS) := List.mergeSort_perm _ _
  have hs := List.pairwise_mergeSort (le := fun a b => decide (leS a b)) (fun a b c h1 h2 => decide_eq_true (by have h1 := of_decide_eq_true h1; have h2 := of_decide_eq_true h2; unfold leS at *; omega)) (fun a b => by simp only [Bool.or_eq_true, decide_eq_true_eq]; unfold leS; omega) (l.filter someS)
  have e := h.one (norm_of hp (hs.imp (fun h => of_decide_eq_true h)))
  rw [e]
  have h1 := normFold_len ((l.filter someS).mergeSort (fun a b => decide (leS a b))) []
  rw [hp.length_eq] at h1
  have := List.length_filter_le someS l
  simp at h1
  omega
/-- Over answers without an error -/
def OverOk (l : List Sp) (w : World) (e : Ending) (w' : World) : Prop :=
  ∃ m A n c, e = .returned (.tuple #[.slice A n c, .int .i64 0]) ∧ Hid (n = m.length) ∧ SpAt w' w'.heap.size A n c m ∧ Keep Never w w' ∧ Hid (NormOf l m)
theorem OverRet.ok {t : Tp} {p : List Stp} {lo hi : Int} {w w' : World} {e : Ending} (h : OverRet t p lo hi w e w') (h0 : overE t p lo hi = 0) : OverOk (overK t.1 lo hi p p.length) w e w' := by
  obtain ⟨m, A, n, c, h1, h2, _, h3, h4, h5⟩ := h
  have h6 := h5.out
  rw [if_pos h0] at h6
  exact ⟨m, A, n, c, by rw [h1, h0], h2, h3, h4, Lib.hid h6⟩
theorem over_short {t : Tp} {p : List Stp} {lo hi : Int} {m : List Sp} (hg : goodM t.1 p) (h : NormOf (overK t.1 lo hi p p.length) m) : m.length ≤ 40 := by
  have h1 := norm_short h
  have h2 := overK_len t.1 lo hi p p.length
  have := hg.2.2
  omega
set_option maxHeartbeats 40000000 in
set_option maxRecDepth 100000 in
theorem spanLong_walk (W : World) (cs0 : Array Value) (t : Tp) (s0 : repTp.cells W W.heap.size t cs0.toList) (A1 : Option Addr) (n1 c1 : Nat) (p : List Stp) (s1 : repStp.Sl W W.heap.size A1 n1 c1 p) (xa : Int) (a1 : -9223372036854775808 ≤ xa) (a2 : xa ≤ 9223372036854775807) (xb : Int) (b1 : -9223372036854775808 ≤ xb) (b2 : xb ≤ 9223372036854775807) (xc : Int) (g1 : -9223372036854775808 ≤ xc) (g2 : xc ≤ 9223372036854775807) :
    Calls Try.prog 9 #[.agg cs0, .slice A1 n1 c1, .int .i64 xa, .int .i64 xb, .int .i64 xc] W fun e W' => e = .returned (.bool true) ∧ Keep Never W W' := by
  obtain ⟨x, hx, ht⟩ := TpAt.of s0
  obtain rfl : cs0 = x.cs := by apply Array.ext'; exact hx
  clear s0 hx
  have HLt : Hid (∀ w', Keep Never W w' → Calls Try.prog 15 #[.agg x.cs] w' fun e w'' => ∃ b, e = .returned (.bool b) ∧ Hid (b = true → x.ne ≤ 100 ∧ x.nj ≤ 100) ∧ Keep Never w' w'') := Lib.hid (fun w' h => light13_any x t W.heap.size w' (ht.keep h))
  have HOv : Hid (∀ lo hi w', Keep Never W w' → (-9223372036854775808 ≤ lo ∧ lo ≤ 9223372036854775807) → (-9223372036854775808 ≤ hi ∧ hi ≤ 9223372036854775807) → x.ne ≤ 100 ∧ x.nj ≤ 100 → n1 ≤ 100 → Calls Try.prog 40 #[.agg x.cs, .slice A1 n1 c1, .int .i64 lo, .int .i64 hi] w' (OverRet t p lo hi w')) := Lib.hid (fun lo hi w' h h1 h2 h3 h4 => over_any x t W.heap.size A1 n1 c1 p lo hi w' (ht.keep h) (s1.keep h (fun _ h => h.elim)) (by omega) (by omega) (by omega) h.size h1.1 h1.2 h2.1 h2.2)
  have HBk : Hid (∀ w', Keep Never W w' → n1 ≤ 100 → Calls Try.prog 41 #[.slice A1 n1 c1] w' fun e w'' => ∃ A' c', e = .returned (.slice A' n1 c') ∧ repStp.Sl w'' w''.heap.size A' n1 c' (backM p) ∧ Keep Never w' w'') := Lib.hid (fun w' h h1 => by
    obtain ⟨r1, r2, r3, r4, r5, r6⟩ := stps_rd (s1.keep h (fun _ h => h.elim))
    refine (back_any A1 n1 c1 W.heap.size p w' r1 r5 r3 (by omega) h.size).mono ?_
    rintro e w'' ⟨A', c', rfl, ho, hk⟩
    refine ⟨A', c', rfl, stps_own ho (fun s hs => ?_), hk⟩
    unfold backM at hs
    obtain ⟨u, hu, rfl⟩ := List.mem_map.1 hs
    exact r6 u (List.mem_reverse.1 hu))
  have HOb : Hid (∀ A' c' hi w', Keep Never W w' → repStp.Sl w' w'.heap.size A' n1 c' (backM p) → (-9223372036854775808 ≤ hi ∧ hi ≤ 9223372036854775807) → x.ne ≤ 100 ∧ x.nj ≤ 100 → n1 ≤ 100 → Calls Try.prog 40 #[.agg x.cs, .slice A' n1 c', .int .i64 0, .int .i64 hi] w' (OverRet t (backM p) 0 hi w')) := Lib.hid (fun A' c' hi w' h hs h2 h3 h4 => over_any x t w'.heap.size A' n1 c' (backM p) 0 hi w' ⟨(ht.keep h).e.more h.size, (ht.keep h).j.more h.size, (ht.keep h).b.more h.size, (ht.keep h).r.more h.size⟩ hs (by omega) (by omega) (by omega) (Nat.le_refl _) (by decide) (by decide) h2.1 h2.2)
  have HS1 := Lib.hid s1
  have HBd : Hid ((-9223372036854775808 ≤ xa ∧ xa ≤ 9223372036854775807) ∧ (-9223372036854775808 ≤ xb ∧ xb ≤ 9223372036854775807) ∧ (-9223372036854775808 ≤ xc ∧ xc ≤ 9223372036854775807)) := Lib.hid ⟨⟨a1, a2⟩, ⟨b1, b2⟩, ⟨g1, g2⟩⟩
  have HL : Hid (n1 = p.length) := Lib.hid s1.len
  clear ht s1
  obtain ⟨Ae, ne, ce, Aj, nj, cj, Ab, nb, cb, Ar, nr, cr⟩ := x
  simp only [TA.cs] at HLt HOv HOb ⊢
  obtain ⟨wb, hwb⟩ : ∃ wb : World, W.alloc (.cells #[.slice Ae ne ce, .slice Aj nj cj, .slice Ab nb cb, .slice Ar nr cr] 27) = wb := ⟨_, rfl⟩
  have k1 : Keep Never W wb := by rw [← hwb]; exact (Keep.refl _ _).alloc _
  have b1' := Blk.new W 27 #[.slice Ae ne ce, .slice Aj nj cj, .slice Ab nb cb, .slice Ar nr cr]
  rw [hwb] at b1'
  have HB := Lib.hid b1'
  have HK := Lib.hid k1
  have HA := Lib.hid (awake15_any wb)
  clear k1 b1'
  go_enter Try.func9, Try.ntmps9
  go_wp2_with fail
  refine HA.out.mono ?_
  rintro e w1 ⟨rfl, hk1⟩
  have HK1 := Lib.hid hk1
  have hb1 := HB.out.keep hk1 (fun h => h)
  have y0 : w1.cell? ⟨W.heap.size, 0, none⟩ = some (.slice Ae ne ce) := hb1.cell 0
  have y1 : w1.cell? ⟨W.heap.size, 1, none⟩ = some (.slice Aj nj cj) := hb1.cell 1
  have y2 : w1.cell? ⟨W.heap.size, 2, none⟩ = some (.slice Ab nb cb) := hb1.cell 2
  have y3 : w1.cell? ⟨W.heap.size, 3, none⟩ = some (.slice Ar nr cr) := hb1.cell 3
  have HC := Lib.hid (HLt.out w1 (HK.out.trans hk1))
  clear hk1 hb1 HA HLt
  go_wp2_with fail
  refine HC.out.mono ?_
  rintro e w2 ⟨lt, rfl, hlt, hk2⟩
  have HK2 := Lib.hid (HK1.out.trans hk2)
  clear hk2 HC y0 y1 y2 y3 hwb
  cases lt with
  | false =>
    go_wp2_with fail
    go_ret
    exact ⟨rfl, HK.out.trans HK2.out⟩
  | true =>
    have HLi := Lib.hid (hlt.out rfl)
    clear hlt
    by_cases g0 : 100 < n1
    · have u0 : decide ((n1 : Int) > 100) = true := by simp; omega
      clear g0
      go_wp2_with fail
      go_ret
      exact ⟨rfl, HK.out.trans HK2.out⟩
    have u0 : decide ((n1 : Int) > 100) = false := by simp; omega
    have hn1 : n1 ≤ 100 := by omega
    clear g0
    go_wp2_with fail
    clear u0
    go_loopw [13] (fun i wr => ∃ k : Nat, k ≤ n1 ∧ i = .int .i64 k ∧ Hid (Keep Never w2 wr ∧ ∀ (i j : Nat) (s u : Stp), i < j → j < k → p[i]? = some s → p[j]? = some u → s.1 ≠ u.1)) (fun i _ => n1 - (intOf i).toNat)
    case atStart => exact ⟨0, by omega, rfl, Lib.hid ⟨Keep.refl _ _, fun i j s u _ h => by omega⟩⟩
    case round =>
      obtain ⟨k, hk, rfl, HH⟩ := hrel
      by_cases h0 : k < n1
      · have hkz : (k : Int) < (n1 : Int) := by omega
        obtain ⟨ad5, sk, hA5, _, hu, _, _⟩ := ((stps_rd (HS1.out.keep (HK.out.trans (HK2.out.trans HH.out.1)) (fun _ h => h.elim))).1).stp h0
        obtain ⟨v1, v2⟩ := sk
        have Hu := Lib.hid hu
        subst hA5
        obtain ⟨wk, hwk⟩ : ∃ z, wr = z := ⟨_, rfl⟩
        rw [hwk] at HH
        rw [hwk]
        clear hwk hu
        go_wp2_with fail
        go_loopw [14] (fun i wr => ∃ j : Nat, j ≤ k ∧ i = .int .i64 j ∧ Hid (Keep Never wk wr ∧ ∀ (i : Nat) (s : Stp), i < j → p[i]? = some s → s.1 ≠ v1)) (fun i _ => k - (intOf i).toNat)
        case atStart => exact ⟨0, by omega, rfl, Lib.hid ⟨Keep.refl _ _, fun i s h => by omega⟩⟩
        case round =>
          obtain ⟨j, hj, rfl, HJ⟩ := hrel
          by_cases h1 : j < k
          · have hjz : (j : Int) < (k : Int) := by omega
            have hj1 : j < n1 := by omega
            have hjn : (j : Int) < (n1 : Int) := by omega
            have hrd := (stps_rd (HS1.out.keep (HK.out.trans (HK2.out.trans (HH.out.1.trans HJ.out.1))) (fun _ h => h.elim))).1
            obtain ⟨ad6, sj, hA6, _, hv, c0, c1'⟩ := hrd.stp hj1
            obtain ⟨ad7, sk, hA7, _, hu, d0, d1⟩ := hrd.stp h0
            injection hA6 with hA6
            injection hA7 with hA7
            subst hA6 hA7
            rw [Hu.out] at hu
            injection hu with hu
            subst hu
            obtain ⟨o1, o2⟩ := sj
            simp only at c0 c1' d0 d1
            have Hv := Lib.hid hv
            clear hv hrd c1' d1
            by_cases gq : v1 = o1
            · have t1 : (v1 == o1) = true := by simpa using gq
              clear gq
              go_wp2_with fail
              go_quiet (fail)
              go_wp2_with fail
              go_ret
              exact ⟨rfl, HK.out.trans (HK2.out.trans (HH.out.1.trans (HJ.out.1.drewN _)))⟩
            · have t1 : (v1 == o1) = false := by simpa using gq
              have HN : Hid (∀ (i : Nat) (s : Stp), i < j + 1 → p[i]? = some s → s.1 ≠ v1) := Lib.hid (fun i s hi hs => by
                by_cases e : i = j
                · rw [e, Hv.out] at hs; injection hs with hs; rw [← hs]; exact fun h => gq h.symm
                · exact HJ.out.2 i s (by omega) hs)
              clear gq
              go_wp2_with fail
              go_quiet (fail)
              go_wp2_with fail
              refine ⟨⟨j + 1, by omega, by go_num, Lib.hid ⟨HJ.out.1.drewN _, HN.out⟩⟩, ?_⟩
              simp [intOf]; try omega
          · obtain rfl : k = j := by omega
            have hjz : ¬ (k : Int) < (k : Int) := by omega
            have HN : Hid (∀ (i j : Nat) (s u : Stp), i < j → j < k + 1 → p[i]? = some s → p[j]? = some u → s.1 ≠ u.1) := Lib.hid (fun i j s u hij hj hs hu => by
              by_cases e : j = k
              · rw [e, Hu.out] at hu; injection hu with hu; rw [← hu]; exact HJ.out.2 i s (by omega) hs
              · exact HH.out.2 i j s u hij (by omega) hs hu)
            go_wp2_with fail
            refine ⟨⟨k + 1, by omega, by go_num, Lib.hid ⟨HH.out.1.trans HJ.out.1, HN.out⟩⟩, ?_⟩
            simp [intOf]; try omega
      · obtain rfl : n1 = k := by omega
        have hkz : ¬ (n1 : Int) < (n1 : Int) := by omega
        have HOn : Hid (onceM p) := Lib.hid (fun i k s u hs hu he => by
          have hi := (List.getElem?_eq_some_iff.1 hs).1
          have hk' := (List.getElem?_eq_some_iff.1 hu).1
          rcases Nat.lt_trichotomy i k with h | h | h
          · exact absurd he (HH.out.2 i k s u h (by rw [HL.out]; exact hk') hs hu)
          · exact h
          · exact absurd he.symm (HH.out.2 k i u s h (by rw [HL.out]; exact hi) hu hs))
        have HK3 := Lib.hid (HK2.out.trans HH.out.1)
        clear HH hk
        obtain ⟨ex, hex⟩ : ∃ z, overE t p xa xb = z := ⟨_, rfl⟩
        have HOx0 := HOv.out xa xb wr (HK.out.trans HK3.out) HBd.out.1 HBd.out.2.1 HLi.out hn1
        unfold OverRet at HOx0
        rw [hex] at HOx0
        have HOx := Lib.hid HOx0
        have HEx := Lib.hid hex
        have hb1 := HB.out.keep HK3.out (fun h => h)
        have y0 : wr.cell? ⟨W.heap.size, 0, none⟩ = some (.slice Ae ne ce) := hb1.cell 0
        have y1 : wr.cell? ⟨W.heap.size, 1, none⟩ = some (.slice Aj nj cj) := hb1.cell 1
        have y2 : wr.cell? ⟨W.heap.size, 2, none⟩ = some (.slice Ab nb cb) := hb1.cell 2
        have y3 : wr.cell? ⟨W.heap.size, 3, none⟩ = some (.slice Ar nr cr) := hb1.cell 3
        clear HOx0 hex hb1
        go_wp2_with fail
        refine HOx.out.mono ?_
        rintro e w3 ⟨mx, Ax, nx, cx, rfl, hnx, _, hsx, hk3, hox⟩
        have HK4 := Lib.hid (HK3.out.trans hk3)
        have L3 : Live wr w3 [⟨Ax, nx, cx, mx⟩] := ⟨hk3, fun t ht => by rw [List.mem_singleton.1 ht]; exact hsx⟩
        obtain ⟨ey, hey⟩ : ∃ z, overE t p xb xc = z := ⟨_, rfl⟩
        have HOy0 := HOv.out xb xc w3 (HK.out.trans HK4.out) HBd.out.2.1 HBd.out.2.2 HLi.out hn1
        unfold OverRet at HOy0
        rw [hey] at HOy0
        have HOy := Lib.hid HOy0
        have HEy := Lib.hid hey
        have HL3 := Lib.hid L3
        have z0 := keepT hk3 y0
        have z1 := keepT hk3 y1
        have z2 := keepT hk3 y2
        have z3 := keepT hk3 y3
        clear HOy0 hey y0 y1 y2 y3 hk3 hsx L3 HOx
        go_wp2_with fail
        refine HOy.out.mono ?_
        rintro e w4 ⟨my, Ay, ny, cy, rfl, hny, _, hsy, hk4, hoy⟩
        have HK5 := Lib.hid (HK4.out.trans hk4)
        have HL4 := Lib.hid (HL3.out.put hk4 hsy)
        clear hsy HOy HL3
        by_cases gx : ex = 0
        case neg =>
          have t0 : (ex != 0) = true := by simpa using gx
          clear gx z0 z1 z2 z3 hk4
          go_wp2_with fail
          go_ret
          exact ⟨rfl, HK.out.trans HK5.out⟩
        have t0 : (ex != 0) = false := by simpa using gx
        by_cases gy : ey = 0
        case neg =>
          have t1 : (ey != 0) = true := by simpa using gy
          clear gx gy z0 z1 z2 z3 hk4
          go_wp2_with fail
          go_ret
          exact ⟨rfl, HK.out.trans HK5.out⟩
        have t1 : (ey != 0) = false := by simpa using gy
        have HF := Lib.hid (long_facts (HEx.out.trans gx) (HEy.out.trans gy))
        have HNx : Hid (NormOf (overK t.1 xa xb p p.length) mx) := Lib.hid (by have := hox.out; rwa [if_pos gx] at this)
        have HNy : Hid (NormOf (overK t.1 xb xc p p.length) my) := Lib.hid (by have := hoy.out; rwa [if_pos gy] at this)
        have hx40 : nx ≤ 40 := by have := over_short HF.out.1 HNx.out; have := hnx.out; omega
        have hy40 : ny ≤ 40 := by have := over_short HF.out.1 HNy.out; have := hny.out; omega
        have f1 : 0 ≤ xa := HF.out.2.1.1
        have f2 : xa ≤ xb := HF.out.2.1.2.1
        have f3 : xb ≤ xc := HF.out.2.1.2.2.1
        have f4 : xc ≤ 9223372036854775807 := HBd.out.2.2.2
        have HOz : Hid (Calls Try.prog 40 #[.agg #[.slice Ae ne ce, .slice Aj nj cj, .slice Ab nb cb, .slice Ar nr cr], .slice A1 n1 c1, .int .i64 xa, .int .i64 xc] w4 (OverOk (overK t.1 xa xc p p.length) w4)) := Lib.hid ((HOv.out xa xc w4 (HK.out.trans HK5.out) HBd.out.1 HBd.out.2.2 HLi.out hn1).mono fun _ _ h => h.ok HF.out.2.2.1)
        have y0 := keepT hk4 z0
        have y1 := keepT hk4 z1
        have y2 := keepT hk4 z2
        have y3 := keepT hk4 z3
        clear gx gy z0 z1 z2 z3 hk4 hox hoy HEx HEy HOv
        go_wp2_with fail
        clear t0 t1
        refine HOz.out.mono ?_
        rintro e w5 ⟨mz, Az, nz, cz, rfl, hnz, hsz, hk5, hNz⟩
        have hz40 : nz ≤ 40 := by have := over_short HF.out.1 hNz.out; have := hnz.out; omega
        have HK6 := Lib.hid (HK5.out.trans hk5)
        have HL5 := Lib.hid (HL4.out.put hk5 hsz)
        have z0 := keepT hk5 y0
        have z1 := keepT hk5 y1
        have z2 := keepT hk5 y2
        have z3 := keepT hk5 y3
        have HBk5 : Hid (∀ w', Keep Never w5 w' → Calls Try.prog 41 #[.slice A1 n1 c1] w' fun e w'' => ∃ A' c', e = .returned (.slice A' n1 c') ∧ repStp.Sl w'' w''.heap.size A' n1 c' (backM p) ∧ Keep Never w' w'') := Lib.hid (fun w' h => HBk.out w' (HK.out.trans (HK6.out.trans h)) hn1)
        have HOb5 : Hid (∀ A' c' w', Keep Never w5 w' → repStp.Sl w' w'.heap.size A' n1 c' (backM p) → Calls Try.prog 40 #[.agg #[.slice Ae ne ce, .slice Aj nj cj, .slice Ab nb cb, .slice Ar nr cr], .slice A' n1 c', .int .i64 0, .int .i64 (xc - xa)] w' (OverOk (overK t.1 0 (xc - xa) (backM p) (backM p).length) w')) := Lib.hid (fun A' c' w' h hs => (HOb.out A' c' (xc - xa) w' (HK.out.trans (HK6.out.trans h)) hs ⟨by omega, by omega⟩ HLi.out hn1).mono fun _ _ h => h.ok HF.out.2.2.2)
        have HS5 : Hid (∀ W', Keep Never w5 W' → Keep Never w5 W' ∧ W'.cell? ⟨W.heap.size, 0, none⟩ = some (.slice Ae ne ce) ∧ W'.cell? ⟨W.heap.size, 1, none⟩ = some (.slice Aj nj cj) ∧ W'.cell? ⟨W.heap.size, 2, none⟩ = some (.slice Ab nb cb) ∧ W'.cell? ⟨W.heap.size, 3, none⟩ = some (.slice Ar nr cr)) := Lib.hid (fun W' h => ⟨h, keepT h z0, keepT h z1, keepT h z2, keepT h z3⟩)
        have hw1 : IntKind.i64.wrap (xc - xa) = xc - xa := IntWalk.i64_in _ (by omega)
        clear y0 y1 y2 y3 z0 z1 z2 z3 hsz hk5 HOz HL4 HBk HOb
        go_wp2_with fail
        go_region_held3 (fun W' => Keep Never w5 W' ∧ W'.cell? ⟨W.heap.size, 0, none⟩ = some (.slice Ae ne ce) ∧ W'.cell? ⟨W.heap.size, 1, none⟩ = some (.slice Aj nj cj) ∧ W'.cell? ⟨W.heap.size, 2, none⟩ = some (.slice Ab nb cb) ∧ W'.cell? ⟨W.heap.size, 3, none⟩ = some (.slice Ar nr cr))
          (first | assumption | exact HS5.out _ ((Keep.refl Never w5).drew) | exact HS5.out _ (Keep.trans (And.left (by assumption)) hk6) | exact HS5.out _ (Keep.trans ((Keep.refl Never w5).drew) hk6) | exact HS5.out _ (Keep.trans (And.left (by assumption)) hk7))
          (first
            | (go_at_call 41; refine (HBk5.out _ (by first | exact And.left (by assumption) | exact (Keep.refl Never w5).drew)).mono ?_; rintro e w6 ⟨A6, c6, rfl, hs6, hk6⟩; have HS6 := Lib.hid hs6)
            | (go_at_call 40; refine (HOb5.out A6 c6 _ (by first | exact And.left (by assumption) | exact (Keep.refl Never w5).drew) HS6.out).mono ?_; rintro e w7 ⟨mb, A7, n7, c7, rfl, hn7, hs7, hk7, hN7⟩))
        rename_i hS
        have hkS := hS.1
        have HK7 := Lib.hid (HK6.out.trans hkS)
        have HL7 := Lib.hid (HL5.out.put hkS hs7)
        have h740 : n7 ≤ 40 := by have := over_short (back_good HF.out.1) hN7.out; have := hn7.out; omega
        have HUn := Lib.hid (union_at HL7.out 0 1 rfl rfl (by omega) (by omega))
        clear hS HS5 HBk5 HOb5 hk6 hs6 HS6 hkS hs7 HL5 hw1 hk7
        go_wp2_with fail
        refine HUn.out.mono ?_
        rintro e w8 ⟨mu, Au, nu, cu, rfl, hnu, hsu, hk8, hNu, hlu⟩
        obtain rfl : mu = mz := over_join HF.out.1 f2 f3 HNx.out HNy.out hNu hNz.out
        have hu40 : nu ≤ 40 := by have := hnu.out; have := hnz.out; omega
        have HL8 := Lib.hid (HL7.out.put hk8 hsu)
        have HK8 := Lib.hid (HK7.out.trans hk8)
        have HSm := Lib.hid (same_at HL8.out 4 2 rfl rfl (by omega) (by omega))
        clear HUn hNu hlu hsu hk8 HL7
        go_wp2_with fail
        refine HSm.out.mono ?_
        rintro e w9 ⟨rfl, hk9⟩
        have HL9 := Lib.hid (HL8.out.go hk9)
        have HK9 := Lib.hid (HK8.out.trans hk9)
        have HMt := Lib.hid (meets_at HL9.out 0 1 rfl rfl (by omega) (by omega))
        clear HSm hk9 HL8
        go_wp2_with fail
        refine HMt.out.mono ?_
        rintro e w10 ⟨r, rfl, hr, hk10⟩
        obtain rfl : r = false := over_apart HF.out.1 HOn.out HNx.out HNy.out hr
        have HL10 := Lib.hid (HL9.out.go hk10)
        have HK10 := Lib.hid (HK9.out.trans hk10)
        have HT1 := Lib.hid (total_at HL10.out 2 rfl (by omega))
        clear HMt hr hk10 HL9
        go_wp2_with fail
        refine HT1.out.mono ?_
        rintro e w11 ⟨m1, rfl, hm1, hk11⟩
        have e1 : cntL m1 = xc - xa := by
          rw [hm1.one (NormOf.self hNz.out.1)]
          exact over_all HF.out.1 HOn.out f1 (by omega) HF.out.2.1.2.2.2 hNz.out
        rw [e1]
        have HL11 := Lib.hid (HL10.out.go hk11)
        have HK11 := Lib.hid (HK10.out.trans hk11)
        have HT2 := Lib.hid (total_at HL11.out 0 rfl (by omega))
        clear HT1 e1 hm1 hk11 HL10
        have q1 : (xc - xa == xc - xa) = true := by simp
        go_wp2_with fail
        refine HT2.out.mono ?_
        rintro e w12 ⟨m2, rfl, hm2, hk12⟩
        have e2 : cntL m2 = xb - xa := by
          rw [hm2.one (NormOf.self HNx.out.1)]
          exact over_all HF.out.1 HOn.out f1 f2 (by have := HF.out.2.1.2.2.2; omega) HNx.out
        rw [e2]
        have HL12 := Lib.hid (HL11.out.go hk12)
        have HK12 := Lib.hid (HK11.out.trans hk12)
        have HT3 := Lib.hid (total_at HL12.out 3 rfl (by omega))
        clear HT2 e2 hm2 hk12 HL11
        have q2 : (xb - xa == xb - xa) = true := by simp
        go_wp2_with fail
        refine HT3.out.mono ?_
        rintro e w13 ⟨m3, rfl, hm3, hk13⟩
        have e3 : cntL m3 = xc - xa := by
          rw [hm3.one (NormOf.self hN7.out.1)]
          have h9 := over_all (back_good HF.out.1) (back_once HOn.out) (by omega) (show (0 : Int) ≤ xc - xa by omega) (by rw [back_sum HF.out.1]; have := HF.out.2.1.2.2.2; omega) hN7.out
          omega
        rw [e3]
        have HK13 := Lib.hid (HK12.out.trans hk13)
        clear HT3 e3 hm3 hk13 HL12
        go_wp2_with fail
        go_ret
        exact ⟨rfl, HK.out.trans HK13.out⟩

end Go.Proofs.Ytlcbajdckgcopaa
