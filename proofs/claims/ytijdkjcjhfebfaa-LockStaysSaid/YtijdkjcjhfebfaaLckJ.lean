/- Chapter 16: LockStays. -/
import Derived.Test.YtijdkjcjhfebfaaLckI
namespace Go.Proofs.Ytijdkjcjhfebfaa
open Go.RowKit

/-- == at two lockings -/
def sameK (a b c d e f : Int) : Bool := decide (((a, b, c) : Lk) = (d, e, f))
theorem run_eq_lk (w : World) (a b c d e f : Int) : (binOp .eql 70 (.agg #[.int .i64 a, .int .i64 b, .int .i64 c]) (.agg #[.int .i64 d, .int .i64 e, .int .i64 f])).run Try.prog w = .ok (.bool (sameK a b c d e f)) w := by
  by_cases h1 : a = d
  · have t1 : (a == d) = true := by simpa using h1
    by_cases h2 : b = e
    · have t2 : (b == e) = true := by simpa using h2
      by_cases h3 : c = f
      · have t3 : (c == f) = true := by simpa using h3
        have hd : sameK a b c d e f = true := decide_eq_true (by rw [h1, h2, h3])
        rw [hd]
        clear h1 h2 h3 hd
        go_simp
      · have t3 : (c == f) = false := by simpa using h3
        have hd : sameK a b c d e f = false := decide_eq_false (by simp [h3])
        rw [hd]
        clear h1 h2 h3 hd
        go_simp
    · have t2 : (b == e) = false := by simpa using h2
      have hd : sameK a b c d e f = false := decide_eq_false (by simp [h2])
      rw [hd]
      clear h1 h2 hd
      go_simp
  · have t1 : (a == d) = false := by simpa using h1
    have hd : sameK a b c d e f = false := decide_eq_false (by simp [h1])
    rw [hd]
    clear h1 hd
    go_simp
def anyR (r : Lk) (l : List Lk) : Bool := l.any fun s => sameK s.1 s.2.1 s.2.2 r.1 r.2.1 r.2.2
theorem any_more {r : Lk} {l : List Lk} {j : Nat} (h : anyR r (l.take j) = true) : anyR r (l.take (j + 1)) = true := by
  unfold anyR at h ⊢
  rw [List.any_eq_true] at h ⊢
  obtain ⟨s, h1, h2⟩ := h
  exact ⟨s, (List.take_sublist_take_left (Nat.le_succ j)).subset h1, h2⟩
theorem any_next {r : Lk} {l : List Lk} {j : Nat} {s : Lk} (hs : l[j]? = some s) (h : anyR r (l.take j) = false) : anyR r (l.take (j + 1)) = sameK s.1 s.2.1 s.2.2 r.1 r.2.1 r.2.2 := by
  unfold anyR at h ⊢
  rw [List.take_add_one, hs, List.any_append, h]
  simp
theorem any_mem {r : Lk} {l : List Lk} (h : r ∈ l) : anyR r l = true := by
  unfold anyR
  rw [List.any_eq_true]
  exact ⟨r, h, decide_eq_true rfl⟩

set_option maxHeartbeats 40000000 in
set_option maxRecDepth 100000 in
theorem lockStays_walk (W : World) (cs0 : Array Value) (t : Tp) (s0 : repTp.cells W W.heap.size t cs0.toList) (A1 : Option Addr) (n1 c1 : Nat) (l : List Op16) (s1 : repO16.Sl W W.heap.size A1 n1 c1 l) (route : Int) (_b2 : -9223372036854775808 ≤ route) (_c2 : route ≤ 9223372036854775807) (train : Int) (_b3 : -9223372036854775808 ≤ train) (_c3 : train ≤ 9223372036854775807) (A5_ : Option Addr) (n5 c5_ : Nat) (l5 : List Op16) (s5 : repO16.Sl W W.heap.size A5_ n5 c5_ l5) :
    Calls Try.prog 9 #[.agg cs0, .slice A1 n1 c1, .int .i64 route, .int .i64 train, .slice A5_ n5 c5_] W fun e W' => e = .returned (.bool true) ∧ Keep Never W W' := by
  obtain ⟨x, hx, ht⟩ := TpAt.of s0
  obtain rfl : cs0 = x.cs := by apply Array.ext'; exact hx
  clear s0 hx
  have HFw : Hid (∀ V, Keep Never W V → Calls Try.prog 27 #[.agg x.cs, .slice none 0 0] V fun e w' => ∃ b, e = .returned (.bool b) ∧ Hid (b = true → TpLight x t ∧ 0 ≤ 100) ∧ Keep Never V w') := Lib.hid (fun V h => few_any x t W.heap.size none 0 0 V (ht.keep h))
  have HMy : Hid (∀ V, Keep Never W V → TpLight x t → Calls Try.prog 28 #[.agg x.cs, .agg #[.slice none 0 0, .int .i64 1]] V fun e w' => e = .returned (.bool (mayI t ([], 1))) ∧ Keep Never V w') := Lib.hid (fun V h hl => may16_any x t W.heap.size none 0 0 [] 1 V (ht.keep h) hl.small h.size ⟨Rd.nil _ _ _ _, fun _ => rfl, Nat.le_refl _⟩ (by omega))
  have HPl : Hid (∀ V, Keep Never W V → TpLight x t → n1 ≤ 60 → mayI t ([], 1) = true → Calls Try.prog 30 #[.agg x.cs, .slice A1 n1 c1] V (PlayRet (playM t l) V)) := Lib.hid (fun V h hl hn hm => play_any x t W.heap.size A1 n1 c1 l V (ht.keep h) hl.small h.size (s1.keep h (fun _ h => h.elim)) hn hm)
  have HFr : Hid (∀ V A n c l nx no, Keep Never W V → TpLight x t → SpAt V V.heap.size A n c l → n ≤ 100 → Calls Try.prog 34 #[.agg x.cs, .agg #[.slice A n c, .int .i64 nx], .int .i64 no] V (FreeRet (freeI t (l, nx) no) V)) := Lib.hid (fun V A n c l nx no h hL hl hn => free16_any x t V.heap.size A n c l nx no V ((ht.keep h).wide h.size) hL.small (Nat.le_refl _) hl (by omega))
  have HSt : Hid (∀ V A n c l nx r tr, Keep Never W V → TpLight x t → SpAt V V.heap.size A n c l → n ≤ 100 → Calls Try.prog 33 #[.agg x.cs, .agg #[.slice A n c, .int .i64 nx], .int .i64 r, .int .i64 tr] V (SetRet (setI t (l, nx) r tr) V)) := Lib.hid (fun V A n c l nx r tr h hL hl hn => set16_any x t V.heap.size A n c l nx r tr V ((ht.keep h).wide h.size) hL.small (Nat.le_refl _) hl (by omega))
  have HL5 := Lib.hid s5
  have HLn : Hid (n5 = l5.length) := Lib.hid s5.len
  obtain ⟨Ae, ne, ce, Aj, nj, cj, Ab, nb, cb, Ar, nr, cr⟩ := x
  simp only [TA.cs] at HFw HMy HPl HFr HSt ⊢
  clear ht
  obtain ⟨v1, hv1⟩ : ∃ V : World, W.alloc (.cells #[.slice Ae ne ce, .slice Aj nj cj, .slice Ab nb cb, .slice Ar nr cr] 27) = V := ⟨_, rfl⟩
  have kv1 : Keep Never W v1 := by rw [← hv1]; exact (Keep.refl _ _).alloc _
  have bv1 := Blk.new W 27 #[.slice Ae ne ce, .slice Aj nj cj, .slice Ab nb cb, .slice Ar nr cr]
  rw [hv1] at bv1
  have HB1 := Lib.hid bv1
  have HK := Lib.hid kv1
  clear kv1 bv1
  have HA := Lib.hid (awake16_any v1)
  go_enter Try.func9, Try.ntmps9
  go_wp2_with fail
  clear hv1
  refine HA.out.mono ?_
  rintro en w101 ⟨rfl, hk1⟩
  have HK1 := Lib.hid (HK.out.trans hk1)
  have Hy1 := Lib.hid (HB1.out.keep hk1 (fun h => h))
  clear hk1 HA
  have y0 : w101.cell? ⟨W.heap.size, 0, none⟩ = some (.slice Ae ne ce) := Hy1.out.cell 0
  have y1 : w101.cell? ⟨W.heap.size, 1, none⟩ = some (.slice Aj nj cj) := Hy1.out.cell 1
  have y2 : w101.cell? ⟨W.heap.size, 2, none⟩ = some (.slice Ab nb cb) := Hy1.out.cell 2
  have y3 : w101.cell? ⟨W.heap.size, 3, none⟩ = some (.slice Ar nr cr) := Hy1.out.cell 3
  have HC := Lib.hid (HFw.out w101 HK1.out)
  clear HFw
  go_wp2_with fail
  refine HC.out.mono ?_
  rintro en w102 ⟨lt, rfl, hlt, hk2⟩
  have HK2 := Lib.hid (HK1.out.trans hk2)
  have Hy2 := Lib.hid (Hy1.out.keep hk2 (fun h => h))
  clear y0 y1 y2 y3 hk2 HC
  cases lt with
  | false =>
    clear hlt
    go_wp2_with fail
    go_quiet (fail)
    go_wp2_with fail
    go_ret
    exact ⟨rfl, HK2.out.drewN _⟩

  | true =>
    have HLi := Lib.hid (hlt.out rfl).1
    clear hlt
    by_cases g0 : 60 < n1
    · have u0 : decide ((n1 : Int) > 60) = true := by simp; omega
      clear g0
      go_wp2_with fail
      go_quiet (fail)
      go_wp2_with fail
      go_ret
      exact ⟨rfl, HK2.out.drewN _⟩

    have u0 : decide ((n1 : Int) > 60) = false := by simp; omega
    by_cases g1 : 60 < n5
    · have u1 : decide ((n5 : Int) > 60) = true := by simp; omega
      clear g0 g1
      go_wp2_with fail
      go_quiet (fail)
      go_wp2_with fail
      go_ret
      exact ⟨rfl, HK2.out.drewN _⟩

    have u1 : decide ((n5 : Int) > 60) = false := by simp; omega
    obtain ⟨mb, hmb⟩ : ∃ z, mayI t ([], 1) = z := ⟨_, rfl⟩
    have HX2 := Lib.hid (fun V (h : Keep Never w102 V) => HMy.out V (HK2.out.trans h) HLi.out)
    rw [hmb] at HX2
    have HMb := Lib.hid hmb
    have HX1 := Lib.hid (fun V => new16_any V)
    clear hmb HMy
    have y0 : w102.cell? ⟨W.heap.size, 0, none⟩ = some (.slice Ae ne ce) := Hy2.out.cell 0
    have y1 : w102.cell? ⟨W.heap.size, 1, none⟩ = some (.slice Aj nj cj) := Hy2.out.cell 1
    have y2 : w102.cell? ⟨W.heap.size, 2, none⟩ = some (.slice Ab nb cb) := Hy2.out.cell 2
    have y3 : w102.cell? ⟨W.heap.size, 3, none⟩ = some (.slice Ar nr cr) := Hy2.out.cell 3
    have HS2 : Hid (∀ W', Keep Never w102 W' → Keep Never w102 W' ∧ W'.cell? ⟨W.heap.size, 0, none⟩ = some (.slice Ae ne ce) ∧ W'.cell? ⟨W.heap.size, 1, none⟩ = some (.slice Aj nj cj) ∧ W'.cell? ⟨W.heap.size, 2, none⟩ = some (.slice Ab nb cb) ∧ W'.cell? ⟨W.heap.size, 3, none⟩ = some (.slice Ar nr cr)) := Lib.hid (fun W' h => ⟨h, keepT h y0, keepT h y1, keepT h y2, keepT h y3⟩)
    go_wp2_with fail
    clear y0 y1 y2 y3
    go_region_held3 (fun W' => Keep Never w102 W' ∧ W'.cell? ⟨W.heap.size, 0, none⟩ = some (.slice Ae ne ce) ∧ W'.cell? ⟨W.heap.size, 1, none⟩ = some (.slice Aj nj cj) ∧ W'.cell? ⟨W.heap.size, 2, none⟩ = some (.slice Ab nb cb) ∧ W'.cell? ⟨W.heap.size, 3, none⟩ = some (.slice Ar nr cr))
      (first | assumption | exact HS2.out _ ((Keep.refl Never w102).drew) | exact HS2.out _ (Keep.trans (And.left (by assumption)) hk3) | exact HS2.out _ (Keep.trans ((Keep.refl Never w102).drew) hk3))
      (first
        | (go_at_call 29; refine (HX1.out _).mono ?_; rintro e w3 ⟨rfl, hk3⟩)
        | (go_at_call 28; refine (HX2.out _ (by first | exact And.left (by assumption) | exact (Keep.refl Never w102).drew | exact Keep.refl Never w102)).mono ?_; rintro e w4 ⟨rfl, hk3⟩))
    all_goals
      rename_i hS
      have hkz := hS.1
      clear hS HS2 HX1 HX2 u0 u1
      have hm5 : n5 ≤ 60 := by omega
      have HGe : Hid (n1 ≤ 60) := Lib.hid (by omega)
      clear g0 g1
      have HKz := Lib.hid (HK2.out.trans hkz)
      have Hyz := Lib.hid (Hy2.out.keep hkz (fun h => h))
      clear hkz
      cases mb with
      | false =>
        go_wp2_with fail
        go_ret
        exact ⟨rfl, HKz.out⟩
      | true =>
        have HC := Lib.hid (HPl.out _ HKz.out HLi.out HGe.out HMb.out)
        have y0 := Hyz.out.cell 0
        have y1 := Hyz.out.cell 1
        have y2 := Hyz.out.cell 2
        have y3 := Hyz.out.cell 3
        simp only [List.getElem?_toArray, List.getElem?_cons_zero, List.getElem?_cons_succ] at y0 y1 y2 y3
        go_wp2_with fail
        refine HC.out.mono ?_
        rintro en w5 ⟨A5, n6, c5, rfl, hn5, ho5, hk5⟩
        have HMz := Lib.hid (play_may HMb.out l)
        obtain ⟨⟨lx, nx⟩, hz⟩ : ∃ z, playM t l = z := ⟨_, rfl⟩
        rw [hz] at hn5 ho5 HMz
        simp only [hz]
        have HS5 := Lib.hid (lkAt_own ho5)
        have HN5 : Hid (n6 ≤ 24) := Lib.hid (by have h1 := (mayI_of HMz.out).len; have h2 := hn5.out; (try simp only at h1 h2); omega)
        have HK5 := Lib.hid (HKz.out.trans hk5)
        have Hy5 := Lib.hid (Hyz.out.keep hk5 (fun h => h))
        clear hk5 HC y0 y1 y2 y3 ho5 hn5 hz HPl
        obtain ⟨w131, hw131⟩ : ∃ V : World, w5.alloc (.cells #[.slice A5 n6 c5, .int .i64 nx] 55) = V := ⟨_, rfl⟩
        have kx : Keep Never w5 w131 := by rw [← hw131]; exact (Keep.refl _ _).alloc _
        have bx := Blk.new w5 55 #[.slice A5 n6 c5, .int .i64 nx]
        rw [hw131] at bx
        obtain ⟨bo, hbo⟩ : ∃ q, w5.heap.size = q := ⟨_, rfl⟩
        rw [hbo] at bx
        have HBx31 := Lib.hid bx
        have HK31 := Lib.hid (HK5.out.trans kx)
        have Hy31 := Lib.hid (Hy5.out.keep kx (fun h => h))
        clear kx bx
        have HS5 := Lib.hid (HS5.out.here (show Keep Never w5 w131 from by rw [← hw131]; exact (Keep.refl Never _).alloc _))
        have HBo : Hid (W.heap.size < bo) := Lib.hid (by rw [← hbo]; exact Nat.lt_of_lt_of_le Hy5.out.lt (Nat.le_refl _))
        obtain ⟨⟨⟨lz, nz⟩, no, ez⟩, hz⟩ : ∃ z, setI t (lx, nx) route train = z := ⟨_, rfl⟩
        have hw := HSt.out w131 A5 n6 c5 lx nx route train HK31.out HLi.out HS5.out (by have := HN5.out; omega)
        rw [hz] at hw
        unfold SetRet at hw
        dsimp only at hw
        have HC := Lib.hid hw
        have HZz := Lib.hid hz
        clear hw hz
        have y0 : w131.cell? ⟨W.heap.size, 0, none⟩ = some (.slice Ae ne ce) := Hy31.out.cell 0
        have y1 : w131.cell? ⟨W.heap.size, 1, none⟩ = some (.slice Aj nj cj) := Hy31.out.cell 1
        have y2 : w131.cell? ⟨W.heap.size, 2, none⟩ = some (.slice Ab nb cb) := Hy31.out.cell 2
        have y3 : w131.cell? ⟨W.heap.size, 3, none⟩ = some (.slice Ar nr cr) := Hy31.out.cell 3
        have o0 : w131.cell? ⟨bo, 0, none⟩ = some (.slice A5 n6 c5) := HBx31.out.cell 0
        have o1 : w131.cell? ⟨bo, 1, none⟩ = some (.int .i64 nx) := HBx31.out.cell 1
        go_wp2_with fail
        refine HC.out.mono ?_
        rintro en w6 ⟨A4, n4, c4, rfl, hn4, ho4, hk6⟩
        have HO6 := Lib.hid (ho4.less HK31.out.size)
        clear hw131 hbo ho4
        have HK32 := Lib.hid (HK31.out.trans hk6)
        have Hy32 := Lib.hid (Hy31.out.keep hk6 (fun h => h))
        have Ho32 := Lib.hid (HBx31.out.keep hk6 (fun h => h))
        clear y0 y1 y2 y3 o0 o1 hk6 HC
        have o0 : w6.cell? ⟨bo, 0, none⟩ = some (.slice A5 n6 c5) := Ho32.out.cell 0
        have of0 := Ho32.out.frozen 0
        have o1 : w6.cell? ⟨bo, 1, none⟩ = some (.int .i64 nx) := Ho32.out.cell 1
        have of1 := Ho32.out.frozen 1
        go_upto_region 7 with (fail)
        obtain ⟨w7, hw7⟩ : ∃ V : World, (w6.setCell ⟨bo, 0, none⟩ (.slice A4 n4 c4)).setCell ⟨bo, 1, none⟩ (.int .i64 nz) = V := ⟨_, rfl⟩
        rw [hw7]
        have hk7 : Keep (fun q => q = bo) w6 w7 := by rw [← hw7]; exact put2_keep (Keep.refl (fun q => q = bo) w6) (.inl rfl) _ _
        have Hx7 : Hid (Blk w7 bo 55 #[.slice A4 n4 c4, .int .i64 nz]) := Lib.hid (by rw [← hw7]; exact put2_blk Ho32.out _ _)
        have HO7 := Lib.hid (HO6.out.keep hk7 (HO6.out.ne_blk Ho32.out (by decide)))
        have HK7 := Lib.hid (HK32.out.then_ hk7 (fun i hi e => by have := HBo.out; omega))
        have Hy7 := Lib.hid (Hy32.out.keep hk7 (by have := HBo.out; omega))
        clear hw7 hk7 o0 o1 of0 of1
        by_cases g : ez = 0
        case neg =>
          have t0 : (ez != 0) = true := by simpa using g
          clear g
          go_wp2_with fail
          go_ret
          exact ⟨rfl, HK7.out⟩
        subst g
        have HSt0 : Hid (StayI t (route, train, no) (lz, nz)) := Lib.hid (by have h1 := stay_new (t := t) (x := (lx, nx)) (route := route) (train := train) (by rw [HZz.out]); rw [HZz.out] at h1; exact h1)
        have HP0 : Hid (PlayI W w7 bo A4 n4 c4 (lz, nz) w7) := Lib.hid ⟨hn4.out, Hx7.out, HO7.out, Keep.refl _ _, HK7.out⟩
        clear hn4 HZz HN5 HS5
        go_wp2_with fail
        go_loopw [17] (fun i wr => ∃ k : Nat, k ≤ n5 ∧ i = .int .i64 k ∧ ∃ A n c z, Hid (PlayI W w7 bo A n c z wr ∧ StayI t (route, train, no) z)) (fun i _ => n5 - (intOf i).toNat)
        case atStart => exact ⟨0, by omega, rfl, A4, n4, c4, (lz, nz), HP0.out, HSt0.out⟩
        case round =>
          obtain ⟨k, hk, rfl, A, n, c, ⟨l0, nx0⟩, HH⟩ := hrel
          have hn24 : n ≤ 24 := by have h1 := (mayI_of HH.out.2.may).len; have h2 := HH.out.1.len; (try simp only at h1 h2); omega
          have Hn24 := Lib.hid hn24
          have Hx := Lib.hid HH.out.1.blk
          have HO := Lib.hid HH.out.1.own
          have HKr := Lib.hid HH.out.1.keep
          have HKb := Lib.hid HH.out.1.box
          have HSi := Lib.hid HH.out.2
          have Hy := Lib.hid (Hy7.out.keep HKb.out (by have := HBo.out; omega))
          clear hn24
          simp only at Hx HO
          by_cases h0 : k < n5
          · have hkz : (k : Int) < (n5 : Int) := by omega
            obtain ⟨ad, s, hA, _, hs, c0, c1, c2, c3⟩ := o16_at (HL5.out.keep HKr.out (fun _ h => h.elim)) h0
            obtain ⟨s1, s2, s3, s4⟩ := s
            simp only at c0 c1 c2 c3
            subst hA
            have hs0 := Lib.hid hs
            clear hs
            have c1o : Hid (∀ V, Keep Never W V → V.cell? ⟨(ad.add (k * 4)).block, (ad.add (k * 4)).off + 1, none⟩ = some (.int .i64 s2)) := Lib.hid (fun V h => by
              obtain ⟨ad', s', hA', _, hs', _, e1, _⟩ := o16_at (HL5.out.keep h (fun _ h => h.elim)) h0
              injection hA' with hA'
              subst hA'
              rw [hs0.out] at hs'
              injection hs' with hs'
              subst hs'
              exact e1)
            cases s1 with
            | true =>
              by_cases gn : s4 = no
              · have t0 : (s4 == no) = true := by simpa using gn
                clear gn c1o
                go_wp2_with fail
                refine ⟨⟨k + 1, by omega, by go_num, A, n, c, (l0, nx0), HH.out⟩, ?_⟩
                simp [intOf]; try omega
              · have u0 : (s4 == no) = false := by simpa using gn
                have gf : Hid (s4 ≠ no) := Lib.hid gn
                clear gn c1o
                have y0 : wr.cell? ⟨W.heap.size, 0, none⟩ = some (.slice Ae ne ce) := Hy.out.cell 0
                have y1 : wr.cell? ⟨W.heap.size, 1, none⟩ = some (.slice Aj nj cj) := Hy.out.cell 1
                have y2 : wr.cell? ⟨W.heap.size, 2, none⟩ = some (.slice Ab nb cb) := Hy.out.cell 2
                have y3 : wr.cell? ⟨W.heap.size, 3, none⟩ = some (.slice Ar nr cr) := Hy.out.cell 3
                have o0 : wr.cell? ⟨bo, 0, none⟩ = some (.slice A n c) := Hx.out.cell 0
                have o1 : wr.cell? ⟨bo, 1, none⟩ = some (.int .i64 nx0) := Hx.out.cell 1
                obtain ⟨⟨⟨l8, nz8⟩, ez8⟩, hz⟩ : ∃ z, freeI t (l0, nx0) s4 = z := ⟨_, rfl⟩
                have hw : ∀ V, Keep Never wr V → _ := fun V h => HFr.out V A n c l0 nx0 s4 (HKr.out.trans h) HLi.out (lkAt_own (HO.out.keep h (fun _ _ h => h))) (by have := Hn24.out; omega)
                rw [hz] at hw
                unfold FreeRet at hw
                dsimp only at hw
                have HC := Lib.hid hw
                have HZz := Lib.hid hz
                clear hw hz
                have HS2 : Hid (∀ W', Keep Never wr W' → Keep Never wr W' ∧ W'.cell? ⟨W.heap.size, 0, none⟩ = some (.slice Ae ne ce) ∧ W'.cell? ⟨W.heap.size, 1, none⟩ = some (.slice Aj nj cj) ∧ W'.cell? ⟨W.heap.size, 2, none⟩ = some (.slice Ab nb cb) ∧ W'.cell? ⟨W.heap.size, 3, none⟩ = some (.slice Ar nr cr) ∧ W'.cell? ⟨bo, 0, none⟩ = some (.slice A n c) ∧ W'.cell? ⟨bo, 1, none⟩ = some (.int .i64 nx0) ∧ W'.cell? ⟨(ad.add (k * 4)).block, (ad.add (k * 4)).off + 3, none⟩ = some (.int .i64 s4)) := Lib.hid (fun W' h => ⟨h, keepT h y0, keepT h y1, keepT h y2, keepT h y3, keepT h o0, keepT h o1, keepT h c3⟩)
                go_wp2_with fail
                clear y0 y1 y2 y3 o0 o1 c3 c0 c2
                go_region_held3 (fun W' => Keep Never wr W' ∧ W'.cell? ⟨W.heap.size, 0, none⟩ = some (.slice Ae ne ce) ∧ W'.cell? ⟨W.heap.size, 1, none⟩ = some (.slice Aj nj cj) ∧ W'.cell? ⟨W.heap.size, 2, none⟩ = some (.slice Ab nb cb) ∧ W'.cell? ⟨W.heap.size, 3, none⟩ = some (.slice Ar nr cr) ∧ W'.cell? ⟨bo, 0, none⟩ = some (.slice A n c) ∧ W'.cell? ⟨bo, 1, none⟩ = some (.int .i64 nx0) ∧ W'.cell? ⟨(ad.add (k * 4)).block, (ad.add (k * 4)).off + 3, none⟩ = some (.int .i64 s4))
                  (first | assumption | exact HS2.out _ ((Keep.refl Never wr).drew) | exact HS2.out _ (Keep.trans (And.left (by assumption)) hk9) | exact HS2.out _ (Keep.trans ((Keep.refl Never wr).drew) hk9) | exact HS2.out _ (Keep.alloc (And.left (by assumption)) _) | exact HS2.out _ (Keep.alloc (Keep.trans ((Keep.refl Never wr).drew) hk9) _) | exact HS2.out _ (put2_keep (And.left (by assumption)) (.inr (by first | exact Nat.le_refl _ | exact (Keep.size (And.left (by assumption))) | omega)) _ _))
                  (first
                    | (go_at_call 34; refine (HC.out _ (by first | exact And.left (by assumption) | exact (Keep.refl Never wr).drew | exact Keep.refl Never wr | exact Keep.alloc (And.left (by assumption)) _)).mono ?_; rintro en w9 ⟨A8, n8, c8, rfl, hn8, ho8, hk9⟩; have HK9 : Hid (Keep Never wr w9) := Lib.hid (by first | exact Keep.trans (And.left (by assumption)) hk9 | exact Keep.trans ((Keep.refl Never wr).drew) hk9); have HO9 := Lib.hid ho8; have nb9 : Hid (Blk w9 wr.heap.size 55 #[.slice none 0 0, .int .i64 0]) := Lib.hid (by first | exact Blk.keep (Blk.new wr 55 #[.slice none 0 0, .int .i64 0]) hk9 (fun h => h) | exact Blk.keep (Blk.drew (Blk.new wr 55 #[.slice none 0 0, .int .i64 0])) hk9 (fun h => h) | exact Blk.keep (Blk.new wr.drew 55 #[.slice none 0 0, .int .i64 0]) hk9 (fun h => h)); have n0 : w9.cell? ⟨wr.heap.size, 0, none⟩ = some (.slice none 0 0) := nb9.out.cell 0; have n1 : w9.cell? ⟨wr.heap.size, 1, none⟩ = some (.int .i64 0) := nb9.out.cell 1; have m0 := nb9.out.frozen 0; have m1 := nb9.out.frozen 1)
                    | (go_at_call 34; refine (HC.out _ (by first | exact And.left (by assumption) | exact (Keep.refl Never wr).drew | exact Keep.refl Never wr | exact Keep.alloc (And.left (by assumption)) _)).mono ?_; rintro en w9 ⟨A8, n8, c8, rfl, hn8, ho8, hk9⟩; have HK9 : Hid (Keep Never wr w9) := Lib.hid (by first | exact Keep.trans (And.left (by assumption)) hk9 | exact Keep.trans ((Keep.refl Never wr).drew) hk9); have HO9 := Lib.hid ho8))
                all_goals
                  rename_i hS
                  clear hS
                  (try clear n0 n1 m0 m1)
                  first
                  | (obtain ⟨w8, hw8⟩ : ∃ V : World, (w9.setCell ⟨wr.heap.size, 0, none⟩ (.slice A8 n8 c8)).setCell ⟨wr.heap.size, 1, none⟩ (.int .i64 nz8) = V := ⟨_, rfl⟩
                     rw [hw8]
                     obtain ⟨b8, hb8⟩ : ∃ q, wr.heap.size = q := ⟨_, rfl⟩
                     rw [hb8] at nb9 hw8 ⊢
                     have HB8 : Hid (Blk w8 b8 55 #[.slice A8 n8 c8, .int .i64 nz8]) := Lib.hid (by rw [← hw8]; exact put2_blk nb9.out _ _)
                     have HK8 : Hid (Keep Never wr w8) := Lib.hid (by rw [← hw8]; exact put2_keep HK9.out (.inr (by omega)) _ _)
                     have HO8 := Lib.hid (HO9.out.keep (show Keep (fun i => i = b8) w9 w8 from by rw [← hw8]; exact put2_keep (Keep.refl (fun i => i = b8) w9) (.inl rfl) _ _) (HO9.out.ne_blk nb9.out (by decide)))
                     have HN8 : Hid (wr.heap.size ≤ b8) := Lib.hid (by omega)
                     clear hw8 hb8 nb9 HO9 HK9 hk9)
                  | (obtain ⟨w8, hw8⟩ : ∃ V : World, w9.alloc (.cells #[.slice A8 n8 c8, .int .i64 nz8] 55) = V := ⟨_, rfl⟩
                     rw [hw8]
                     obtain ⟨b8, hb8⟩ : ∃ q, w9.heap.size = q := ⟨_, rfl⟩
                     rw [hb8]
                     have HB8 : Hid (Blk w8 b8 55 #[.slice A8 n8 c8, .int .i64 nz8]) := Lib.hid (by rw [← hw8, ← hb8]; exact Blk.new _ _ _)
                     have HK8 : Hid (Keep Never wr w8) := Lib.hid (by rw [← hw8]; exact HK9.out.alloc _)
                     have HO8 := Lib.hid (HO9.out.keep (show Keep Never w9 w8 from by rw [← hw8]; exact (Keep.refl _ _).alloc _) (fun _ _ h => h))
                     have HN8 : Hid (wr.heap.size ≤ b8) := Lib.hid (by rw [← hb8]; exact HK9.out.size)
                     clear hw8 hb8 HO9 HK9 hk9)
                all_goals
                  have HKb8 := Lib.hid (HKb.out.trans (HK8.out.mono (fun _ _ h => h.elim)))
                  have HKw8 := Lib.hid (HKr.out.trans HK8.out)
                  have Hy8 := Lib.hid (Hy.out.keep HK8.out (fun h => h))
                  have Hx8 := Lib.hid (Hx.out.keep HK8.out (fun h => h))
                  have HOo8 := Lib.hid (HO.out.keep HK8.out (fun _ _ h => h))
                  have HN8 := hn8
                  have HO8b := Lib.hid (HO8.out.less (Nat.le_trans HKr.out.size (by first | exact Nat.le_refl _ | simp)))
                  clear HS2 HC
                  by_cases g : ez8 = 0
                  · have t0 : (ez8 == 0) = true := by simpa using g
                    have hst := stay_free (t := t) (r := (route, train, no)) (x := (l0, nx0)) HSi.out (no := s4) gf.out (by rw [HZz.out]; exact g)
                    rw [HZz.out] at hst
                    have HST := Lib.hid hst
                    have v0 : w8.cell? ⟨b8, 0, none⟩ = some (.slice A8 n8 c8) := HB8.out.cell 0
                    have v1 : w8.cell? ⟨b8, 1, none⟩ = some (.int .i64 nz8) := HB8.out.cell 1
                    have o0 : w8.cell? ⟨bo, 0, none⟩ = some (.slice A n c) := Hx8.out.cell 0
                    have o1 : w8.cell? ⟨bo, 1, none⟩ = some (.int .i64 nx0) := Hx8.out.cell 1
                    have f0 := Hx8.out.frozen 0
                    have f1 := Hx8.out.frozen 1
                    clear g hst
                    go_upto_region 22 with (fail)
                    obtain ⟨w9, hw9⟩ : ∃ V : World, (w8.setCell ⟨bo, 0, none⟩ (.slice A8 n8 c8)).setCell ⟨bo, 1, none⟩ (.int .i64 nz8) = V := ⟨_, rfl⟩
                    rw [hw9]
                    have hk9 : Keep (fun q => q = bo) w8 w9 := by rw [← hw9]; exact put2_keep (Keep.refl (fun q => q = bo) w8) (.inl rfl) _ _
                    have HxT : Hid (Blk w9 bo 55 #[.slice A8 n8 c8, .int .i64 nz8]) := Lib.hid (by rw [← hw9]; exact put2_blk Hx8.out _ _)
                    have HOT := Lib.hid (HO8b.out.keep hk9 (HO8b.out.ne_blk Hx8.out (by decide)))
                    have HKbT := Lib.hid (HKb8.out.trans hk9)
                    have HKT := Lib.hid (HKw8.out.then_ hk9 (fun i hi e => by have := HBo.out; omega))
                    have HnT : Hid (n8 ≤ 24) := Lib.hid (by have h1 := (mayI_of HST.out.may).len; have h2 := HN8.out; (try simp only at h1 h2); omega)
                    clear hw9 hk9 v0 v1 o0 o1 f0 f1
                    have HlT : Hid (l8.length = n8) := Lib.hid (by have h1 := HOT.out.len; rw [len_spCells] at h1; omega)
                    have hnT : n8 ≤ 24 := HnT.out
                    have o0 : w9.cell? ⟨bo, 0, none⟩ = some (.slice A8 n8 c8) := HxT.out.cell 0
                    have o1 : w9.cell? ⟨bo, 1, none⟩ = some (.int .i64 nz8) := HxT.out.cell 1
                    go_wp2_with fail
                    clear o0 o1
                    go_loopw [23, 24] (fun s23 s24 wu => ∃ j : Nat, j ≤ n8 ∧ s24 = .int .i64 j ∧ s23 = .bool (anyR (route, train, no) (l8.take j)) ∧ Hid (Keep Never w9 wu)) (fun _ s24 _ => n8 - (intOf s24).toNat)
                    case atStart => exact ⟨0, by omega, rfl, rfl, Lib.hid (Keep.refl _ _)⟩
                    case round =>
                      obtain ⟨j, hj, rfl, rfl, HU⟩ := hrel
                      have HxU := Lib.hid (HxT.out.keep HU.out (fun h => h))
                      have o0 : wr.cell? ⟨bo, 0, none⟩ = some (.slice A8 n8 c8) := HxU.out.cell 0
                      obtain ⟨th, hth⟩ : ∃ z, anyR (route, train, no) (l8.take j) = z := ⟨_, rfl⟩
                      rw [hth]
                      have HTh := Lib.hid hth
                      clear hth
                      by_cases hj0 : j < n8
                      · have hjz : (j : Int) < (n8 : Int) := by omega
                        cases th with
                        | true =>
                          have HN : Hid (anyR (route, train, no) (l8.take (j + 1)) = true) := Lib.hid (any_more HTh.out)
                          go_wp2_with fail
                          refine ⟨⟨j + 1, by omega, by go_num, by rw [HN.out], HU⟩, ?_⟩
                          simp [intOf]; try omega
                        | false =>
                          obtain ⟨ad2, v, hA2, _, hv, d0, d1, d2⟩ := (lkAt_own (HOT.out.keep HU.out (fun _ _ h => h))).rd.sp hj0
                          obtain ⟨v1, v2, v3⟩ := v
                          simp only at d0 d1 d2
                          subst hA2
                          have HN : Hid (anyR (route, train, no) (l8.take (j + 1)) = sameK v1 v2 v3 route train no) := Lib.hid (any_next hv HTh.out)
                          have qe := fun (w : World) => run_eq_lk w v1 v2 v3 route train no
                          clear hv
                          go_wp2_with fail
                          refine ⟨⟨j + 1, by omega, by go_num, by rw [HN.out], HU⟩, ?_⟩
                          simp [intOf]; try omega
                      · obtain rfl : j = n8 := by omega
                        have hjz : ¬ (j : Int) < (j : Int) := by omega
                        have hth2 : th = true := by
                          rw [← HTh.out, List.take_of_length_le (by rw [HlT.out]; exact Nat.le_refl _)]
                          exact any_mem HST.out.mem
                        subst hth2
                        have HFin : Hid (PlayI W w7 bo A8 j c8 (l8, nz8) wr ∧ StayI t (route, train, no) (l8, nz8)) := Lib.hid ⟨⟨HlT.out.symm, HxU.out, HOT.out.keep HU.out (fun _ _ h => h), HKbT.out.trans (HU.out.mono (fun _ _ h => h.elim)), HKT.out.trans HU.out⟩, HST.out⟩
                        go_wp2_with fail
                        refine ⟨⟨k + 1, by omega, by go_num, A8, j, c8, (l8, nz8), HFin.out⟩, ?_⟩
                        simp [intOf]; try omega
                  · have t0 : (ez8 == 0) = false := by simpa using g
                    clear g
                    go_upto_region 22 with (fail)
                    have HST := HSi
                    have HxT := Hx8
                    have HOT := HOo8
                    have HKbT := HKb8
                    have HKT := HKw8
                    have HnT := Hn24
                    have HlT : Hid (l0.length = n) := Lib.hid (by have h1 := HOT.out.len; rw [len_spCells] at h1; omega)
                    have hnT : n ≤ 24 := HnT.out
                    have o0 : w8.cell? ⟨bo, 0, none⟩ = some (.slice A n c) := HxT.out.cell 0
                    have o1 : w8.cell? ⟨bo, 1, none⟩ = some (.int .i64 nx0) := HxT.out.cell 1
                    go_wp2_with fail
                    clear o0 o1
                    go_loopw [23, 24] (fun s23 s24 wu => ∃ j : Nat, j ≤ n ∧ s24 = .int .i64 j ∧ s23 = .bool (anyR (route, train, no) (l0.take j)) ∧ Hid (Keep Never w8 wu)) (fun _ s24 _ => n - (intOf s24).toNat)
                    case atStart => exact ⟨0, by omega, rfl, rfl, Lib.hid (Keep.refl _ _)⟩
                    case round =>
                      obtain ⟨j, hj, rfl, rfl, HU⟩ := hrel
                      have HxU := Lib.hid (HxT.out.keep HU.out (fun h => h))
                      have o0 : wr.cell? ⟨bo, 0, none⟩ = some (.slice A n c) := HxU.out.cell 0
                      obtain ⟨th, hth⟩ : ∃ z, anyR (route, train, no) (l0.take j) = z := ⟨_, rfl⟩
                      rw [hth]
                      have HTh := Lib.hid hth
                      clear hth
                      by_cases hj0 : j < n
                      · have hjz : (j : Int) < (n : Int) := by omega
                        cases th with
                        | true =>
                          have HN : Hid (anyR (route, train, no) (l0.take (j + 1)) = true) := Lib.hid (any_more HTh.out)
                          go_wp2_with fail
                          refine ⟨⟨j + 1, by omega, by go_num, by rw [HN.out], HU⟩, ?_⟩
                          simp [intOf]; try omega
                        | false =>
                          obtain ⟨ad2, v, hA2, _, hv, d0, d1, d2⟩ := (lkAt_own (HOT.out.keep HU.out (fun _ _ h => h))).rd.sp hj0
                          obtain ⟨v1, v2, v3⟩ := v
                          simp only at d0 d1 d2
                          subst hA2
                          have HN : Hid (anyR (route, train, no) (l0.take (j + 1)) = sameK v1 v2 v3 route train no) := Lib.hid (any_next hv HTh.out)
                          have qe := fun (w : World) => run_eq_lk w v1 v2 v3 route train no
                          clear hv
                          go_wp2_with fail
                          refine ⟨⟨j + 1, by omega, by go_num, by rw [HN.out], HU⟩, ?_⟩
                          simp [intOf]; try omega
                      · obtain rfl : j = n := by omega
                        have hjz : ¬ (j : Int) < (j : Int) := by omega
                        have hth2 : th = true := by
                          rw [← HTh.out, List.take_of_length_le (by rw [HlT.out]; exact Nat.le_refl _)]
                          exact any_mem HST.out.mem
                        subst hth2
                        have HFin : Hid (PlayI W w7 bo A j c (l0, nx0) wr ∧ StayI t (route, train, no) (l0, nx0)) := Lib.hid ⟨⟨HlT.out.symm, HxU.out, HOT.out.keep HU.out (fun _ _ h => h), HKbT.out.trans (HU.out.mono (fun _ _ h => h.elim)), HKT.out.trans HU.out⟩, HST.out⟩
                        go_wp2_with fail
                        refine ⟨⟨k + 1, by omega, by go_num, A, j, c, (l0, nx0), HFin.out⟩, ?_⟩
                        simp [intOf]; try omega

            | false =>
              have y0 : wr.cell? ⟨W.heap.size, 0, none⟩ = some (.slice Ae ne ce) := Hy.out.cell 0
              have y1 : wr.cell? ⟨W.heap.size, 1, none⟩ = some (.slice Aj nj cj) := Hy.out.cell 1
              have y2 : wr.cell? ⟨W.heap.size, 2, none⟩ = some (.slice Ab nb cb) := Hy.out.cell 2
              have y3 : wr.cell? ⟨W.heap.size, 3, none⟩ = some (.slice Ar nr cr) := Hy.out.cell 3
              have o0 : wr.cell? ⟨bo, 0, none⟩ = some (.slice A n c) := Hx.out.cell 0
              have o1 : wr.cell? ⟨bo, 1, none⟩ = some (.int .i64 nx0) := Hx.out.cell 1
              obtain ⟨⟨⟨l8, nz8⟩, mz8, ez8⟩, hz⟩ : ∃ z, setI t (l0, nx0) s2 s3 = z := ⟨_, rfl⟩
              have hw : ∀ V, Keep Never wr V → _ := fun V h => HSt.out V A n c l0 nx0 s2 s3 (HKr.out.trans h) HLi.out (lkAt_own (HO.out.keep h (fun _ _ h => h))) (by have := Hn24.out; omega)
              rw [hz] at hw
              unfold SetRet at hw
              dsimp only at hw
              have HC := Lib.hid hw
              have HZz := Lib.hid hz
              clear hw hz
              have HS2 : Hid (∀ W', Keep Never wr W' → Keep Never wr W' ∧ W'.cell? ⟨W.heap.size, 0, none⟩ = some (.slice Ae ne ce) ∧ W'.cell? ⟨W.heap.size, 1, none⟩ = some (.slice Aj nj cj) ∧ W'.cell? ⟨W.heap.size, 2, none⟩ = some (.slice Ab nb cb) ∧ W'.cell? ⟨W.heap.size, 3, none⟩ = some (.slice Ar nr cr) ∧ W'.cell? ⟨bo, 0, none⟩ = some (.slice A n c) ∧ W'.cell? ⟨bo, 1, none⟩ = some (.int .i64 nx0) ∧ W'.cell? ⟨(ad.add (k * 4)).block, (ad.add (k * 4)).off + 1, none⟩ = some (.int .i64 s2) ∧ W'.cell? ⟨(ad.add (k * 4)).block, (ad.add (k * 4)).off + 2, none⟩ = some (.int .i64 s3)) := Lib.hid (fun W' h => ⟨h, keepT h y0, keepT h y1, keepT h y2, keepT h y3, keepT h o0, keepT h o1, keepT h c1, keepT h c2⟩)
              go_wp2_with fail
              clear y0 y1 y2 y3 o0 o1 c1 c2 c0
              go_region_held3 (fun W' => Keep Never wr W' ∧ W'.cell? ⟨W.heap.size, 0, none⟩ = some (.slice Ae ne ce) ∧ W'.cell? ⟨W.heap.size, 1, none⟩ = some (.slice Aj nj cj) ∧ W'.cell? ⟨W.heap.size, 2, none⟩ = some (.slice Ab nb cb) ∧ W'.cell? ⟨W.heap.size, 3, none⟩ = some (.slice Ar nr cr) ∧ W'.cell? ⟨bo, 0, none⟩ = some (.slice A n c) ∧ W'.cell? ⟨bo, 1, none⟩ = some (.int .i64 nx0) ∧ W'.cell? ⟨(ad.add (k * 4)).block, (ad.add (k * 4)).off + 1, none⟩ = some (.int .i64 s2) ∧ W'.cell? ⟨(ad.add (k * 4)).block, (ad.add (k * 4)).off + 2, none⟩ = some (.int .i64 s3))
                (first | assumption | exact HS2.out _ ((Keep.refl Never wr).drew) | exact HS2.out _ (Keep.trans (And.left (by assumption)) hk9) | exact HS2.out _ (Keep.trans ((Keep.refl Never wr).drew) hk9) | exact HS2.out _ (Keep.alloc (And.left (by assumption)) _) | exact HS2.out _ (Keep.alloc (Keep.trans ((Keep.refl Never wr).drew) hk9) _) | exact HS2.out _ (put2_keep (And.left (by assumption)) (.inr (by first | exact Nat.le_refl _ | exact (Keep.size (And.left (by assumption))) | omega)) _ _))
                (first
                  | (go_at_call 33; refine (HC.out _ (by first | exact And.left (by assumption) | exact (Keep.refl Never wr).drew | exact Keep.refl Never wr | exact Keep.alloc (And.left (by assumption)) _)).mono ?_; rintro en w9 ⟨A8, n8, c8, rfl, hn8, ho8, hk9⟩; have HK9 : Hid (Keep Never wr w9) := Lib.hid (by first | exact Keep.trans (And.left (by assumption)) hk9 | exact Keep.trans ((Keep.refl Never wr).drew) hk9); have HO9 := Lib.hid ho8; have nb9 : Hid (Blk w9 wr.heap.size 55 #[.slice none 0 0, .int .i64 0]) := Lib.hid (by first | exact Blk.keep (Blk.new wr 55 #[.slice none 0 0, .int .i64 0]) hk9 (fun h => h) | exact Blk.keep (Blk.drew (Blk.new wr 55 #[.slice none 0 0, .int .i64 0])) hk9 (fun h => h) | exact Blk.keep (Blk.new wr.drew 55 #[.slice none 0 0, .int .i64 0]) hk9 (fun h => h)); have n0 : w9.cell? ⟨wr.heap.size, 0, none⟩ = some (.slice none 0 0) := nb9.out.cell 0; have n1 : w9.cell? ⟨wr.heap.size, 1, none⟩ = some (.int .i64 0) := nb9.out.cell 1; have m0 := nb9.out.frozen 0; have m1 := nb9.out.frozen 1)
                  | (go_at_call 33; refine (HC.out _ (by first | exact And.left (by assumption) | exact (Keep.refl Never wr).drew | exact Keep.refl Never wr | exact Keep.alloc (And.left (by assumption)) _)).mono ?_; rintro en w9 ⟨A8, n8, c8, rfl, hn8, ho8, hk9⟩; have HK9 : Hid (Keep Never wr w9) := Lib.hid (by first | exact Keep.trans (And.left (by assumption)) hk9 | exact Keep.trans ((Keep.refl Never wr).drew) hk9); have HO9 := Lib.hid ho8))
              all_goals
                rename_i hS
                clear hS
                (try clear n0 n1 m0 m1)
                first
                | (obtain ⟨w8, hw8⟩ : ∃ V : World, (w9.setCell ⟨wr.heap.size, 0, none⟩ (.slice A8 n8 c8)).setCell ⟨wr.heap.size, 1, none⟩ (.int .i64 nz8) = V := ⟨_, rfl⟩
                   rw [hw8]
                   obtain ⟨b8, hb8⟩ : ∃ q, wr.heap.size = q := ⟨_, rfl⟩
                   rw [hb8] at nb9 hw8 ⊢
                   have HB8 : Hid (Blk w8 b8 55 #[.slice A8 n8 c8, .int .i64 nz8]) := Lib.hid (by rw [← hw8]; exact put2_blk nb9.out _ _)
                   have HK8 : Hid (Keep Never wr w8) := Lib.hid (by rw [← hw8]; exact put2_keep HK9.out (.inr (by omega)) _ _)
                   have HO8 := Lib.hid (HO9.out.keep (show Keep (fun i => i = b8) w9 w8 from by rw [← hw8]; exact put2_keep (Keep.refl (fun i => i = b8) w9) (.inl rfl) _ _) (HO9.out.ne_blk nb9.out (by decide)))
                   have HN8 : Hid (wr.heap.size ≤ b8) := Lib.hid (by omega)
                   clear hw8 hb8 nb9 HO9 HK9 hk9)
                | (obtain ⟨w8, hw8⟩ : ∃ V : World, w9.alloc (.cells #[.slice A8 n8 c8, .int .i64 nz8] 55) = V := ⟨_, rfl⟩
                   rw [hw8]
                   obtain ⟨b8, hb8⟩ : ∃ q, w9.heap.size = q := ⟨_, rfl⟩
                   rw [hb8]
                   have HB8 : Hid (Blk w8 b8 55 #[.slice A8 n8 c8, .int .i64 nz8]) := Lib.hid (by rw [← hw8, ← hb8]; exact Blk.new _ _ _)
                   have HK8 : Hid (Keep Never wr w8) := Lib.hid (by rw [← hw8]; exact HK9.out.alloc _)
                   have HO8 := Lib.hid (HO9.out.keep (show Keep Never w9 w8 from by rw [← hw8]; exact (Keep.refl _ _).alloc _) (fun _ _ h => h))
                   have HN8 : Hid (wr.heap.size ≤ b8) := Lib.hid (by rw [← hb8]; exact HK9.out.size)
                   clear hw8 hb8 HO9 HK9 hk9)
              all_goals
                have HKb8 := Lib.hid (HKb.out.trans (HK8.out.mono (fun _ _ h => h.elim)))
                have HKw8 := Lib.hid (HKr.out.trans HK8.out)
                have Hy8 := Lib.hid (Hy.out.keep HK8.out (fun h => h))
                have Hx8 := Lib.hid (Hx.out.keep HK8.out (fun h => h))
                have HOo8 := Lib.hid (HO.out.keep HK8.out (fun _ _ h => h))
                have HN8 := hn8
                have HO8b := Lib.hid (HO8.out.less (Nat.le_trans HKr.out.size (by first | exact Nat.le_refl _ | simp)))
                clear HS2 HC
                by_cases g : ez8 = 0
                · have t0 : (ez8 == 0) = true := by simpa using g
                  have hst := stay_set (t := t) (r := (route, train, no)) (x := (l0, nx0)) HSi.out (route := s2) (train := s3) (by rw [HZz.out]; exact g)
                  rw [HZz.out] at hst
                  have HST := Lib.hid hst.1
                  have t1 : decide (mz8 ≤ no) = false := by have := hst.2.1; simp only at this; simp; omega
                  have t2 : (s2 == route) = false := by have := hst.2.2; simp only at this; simpa using this
                  have v0 : w8.cell? ⟨b8, 0, none⟩ = some (.slice A8 n8 c8) := HB8.out.cell 0
                  have v1 : w8.cell? ⟨b8, 1, none⟩ = some (.int .i64 nz8) := HB8.out.cell 1
                  have o0 : w8.cell? ⟨bo, 0, none⟩ = some (.slice A n c) := Hx8.out.cell 0
                  have o1 : w8.cell? ⟨bo, 1, none⟩ = some (.int .i64 nx0) := Hx8.out.cell 1
                  have f0 := Hx8.out.frozen 0
                  have f1 := Hx8.out.frozen 1
                  clear g hst
                  go_upto_region 20 with (fail)
                  obtain ⟨w9, hw9⟩ : ∃ V : World, (w8.setCell ⟨bo, 0, none⟩ (.slice A8 n8 c8)).setCell ⟨bo, 1, none⟩ (.int .i64 nz8) = V := ⟨_, rfl⟩
                  rw [hw9]
                  have hk9 : Keep (fun q => q = bo) w8 w9 := by rw [← hw9]; exact put2_keep (Keep.refl (fun q => q = bo) w8) (.inl rfl) _ _
                  have HxT : Hid (Blk w9 bo 55 #[.slice A8 n8 c8, .int .i64 nz8]) := Lib.hid (by rw [← hw9]; exact put2_blk Hx8.out _ _)
                  have HOT := Lib.hid (HO8b.out.keep hk9 (HO8b.out.ne_blk Hx8.out (by decide)))
                  have HKbT := Lib.hid (HKb8.out.trans hk9)
                  have HKT := Lib.hid (HKw8.out.then_ hk9 (fun i hi e => by have := HBo.out; omega))
                  have HnT : Hid (n8 ≤ 24) := Lib.hid (by have h1 := (mayI_of HST.out.may).len; have h2 := HN8.out; (try simp only at h1 h2); omega)
                  have c1 : w9.cell? ⟨(ad.add (k * 4)).block, (ad.add (k * 4)).off + 1, none⟩ = some (.int .i64 s2) := c1o.out w9 HKT.out
                  clear hw9 hk9 v0 v1 o0 o1 f0 f1
                  have HlT : Hid (l8.length = n8) := Lib.hid (by have h1 := HOT.out.len; rw [len_spCells] at h1; omega)
                  have hnT : n8 ≤ 24 := HnT.out
                  have o0 : w9.cell? ⟨bo, 0, none⟩ = some (.slice A8 n8 c8) := HxT.out.cell 0
                  have o1 : w9.cell? ⟨bo, 1, none⟩ = some (.int .i64 nz8) := HxT.out.cell 1
                  go_wp2_with fail
                  clear o0 o1
                  go_loopw [23, 24] (fun s23 s24 wu => ∃ j : Nat, j ≤ n8 ∧ s24 = .int .i64 j ∧ s23 = .bool (anyR (route, train, no) (l8.take j)) ∧ Hid (Keep Never w9 wu)) (fun _ s24 _ => n8 - (intOf s24).toNat)
                  case atStart => exact ⟨0, by omega, rfl, rfl, Lib.hid (Keep.refl _ _)⟩
                  case round =>
                    obtain ⟨j, hj, rfl, rfl, HU⟩ := hrel
                    have HxU := Lib.hid (HxT.out.keep HU.out (fun h => h))
                    have o0 : wr.cell? ⟨bo, 0, none⟩ = some (.slice A8 n8 c8) := HxU.out.cell 0
                    obtain ⟨th, hth⟩ : ∃ z, anyR (route, train, no) (l8.take j) = z := ⟨_, rfl⟩
                    rw [hth]
                    have HTh := Lib.hid hth
                    clear hth
                    by_cases hj0 : j < n8
                    · have hjz : (j : Int) < (n8 : Int) := by omega
                      cases th with
                      | true =>
                        have HN : Hid (anyR (route, train, no) (l8.take (j + 1)) = true) := Lib.hid (any_more HTh.out)
                        go_wp2_with fail
                        refine ⟨⟨j + 1, by omega, by go_num, by rw [HN.out], HU⟩, ?_⟩
                        simp [intOf]; try omega
                      | false =>
                        obtain ⟨ad2, v, hA2, _, hv, d0, d1, d2⟩ := (lkAt_own (HOT.out.keep HU.out (fun _ _ h => h))).rd.sp hj0
                        obtain ⟨v1, v2, v3⟩ := v
                        simp only at d0 d1 d2
                        subst hA2
                        have HN : Hid (anyR (route, train, no) (l8.take (j + 1)) = sameK v1 v2 v3 route train no) := Lib.hid (any_next hv HTh.out)
                        have qe := fun (w : World) => run_eq_lk w v1 v2 v3 route train no
                        clear hv
                        go_wp2_with fail
                        refine ⟨⟨j + 1, by omega, by go_num, by rw [HN.out], HU⟩, ?_⟩
                        simp [intOf]; try omega
                    · obtain rfl : j = n8 := by omega
                      have hjz : ¬ (j : Int) < (j : Int) := by omega
                      have hth2 : th = true := by
                        rw [← HTh.out, List.take_of_length_le (by rw [HlT.out]; exact Nat.le_refl _)]
                        exact any_mem HST.out.mem
                      subst hth2
                      have HFin : Hid (PlayI W w7 bo A8 j c8 (l8, nz8) wr ∧ StayI t (route, train, no) (l8, nz8)) := Lib.hid ⟨⟨HlT.out.symm, HxU.out, HOT.out.keep HU.out (fun _ _ h => h), HKbT.out.trans (HU.out.mono (fun _ _ h => h.elim)), HKT.out.trans HU.out⟩, HST.out⟩
                      go_wp2_with fail
                      refine ⟨⟨k + 1, by omega, by go_num, A8, j, c8, (l8, nz8), HFin.out⟩, ?_⟩
                      simp [intOf]; try omega
                · have t0 : (ez8 == 0) = false := by simpa using g
                  clear g
                  go_upto_region 20 with (fail)
                  have HST := HSi
                  have HxT := Hx8
                  have HOT := HOo8
                  have HKbT := HKb8
                  have HKT := HKw8
                  have HnT := Hn24
                  have HlT : Hid (l0.length = n) := Lib.hid (by have h1 := HOT.out.len; rw [len_spCells] at h1; omega)
                  have hnT : n ≤ 24 := HnT.out
                  have o0 : w8.cell? ⟨bo, 0, none⟩ = some (.slice A n c) := HxT.out.cell 0
                  have o1 : w8.cell? ⟨bo, 1, none⟩ = some (.int .i64 nx0) := HxT.out.cell 1
                  go_wp2_with fail
                  clear o0 o1
                  go_loopw [23, 24] (fun s23 s24 wu => ∃ j : Nat, j ≤ n ∧ s24 = .int .i64 j ∧ s23 = .bool (anyR (route, train, no) (l0.take j)) ∧ Hid (Keep Never w8 wu)) (fun _ s24 _ => n - (intOf s24).toNat)
                  case atStart => exact ⟨0, by omega, rfl, rfl, Lib.hid (Keep.refl _ _)⟩
                  case round =>
                    obtain ⟨j, hj, rfl, rfl, HU⟩ := hrel
                    have HxU := Lib.hid (HxT.out.keep HU.out (fun h => h))
                    have o0 : wr.cell? ⟨bo, 0, none⟩ = some (.slice A n c) := HxU.out.cell 0
                    obtain ⟨th, hth⟩ : ∃ z, anyR (route, train, no) (l0.take j) = z := ⟨_, rfl⟩
                    rw [hth]
                    have HTh := Lib.hid hth
                    clear hth
                    by_cases hj0 : j < n
                    · have hjz : (j : Int) < (n : Int) := by omega
                      cases th with
                      | true =>
                        have HN : Hid (anyR (route, train, no) (l0.take (j + 1)) = true) := Lib.hid (any_more HTh.out)
                        go_wp2_with fail
                        refine ⟨⟨j + 1, by omega, by go_num, by rw [HN.out], HU⟩, ?_⟩
                        simp [intOf]; try omega
                      | false =>
                        obtain ⟨ad2, v, hA2, _, hv, d0, d1, d2⟩ := (lkAt_own (HOT.out.keep HU.out (fun _ _ h => h))).rd.sp hj0
                        obtain ⟨v1, v2, v3⟩ := v
                        simp only at d0 d1 d2
                        subst hA2
                        have HN : Hid (anyR (route, train, no) (l0.take (j + 1)) = sameK v1 v2 v3 route train no) := Lib.hid (any_next hv HTh.out)
                        have qe := fun (w : World) => run_eq_lk w v1 v2 v3 route train no
                        clear hv
                        go_wp2_with fail
                        refine ⟨⟨j + 1, by omega, by go_num, by rw [HN.out], HU⟩, ?_⟩
                        simp [intOf]; try omega
                    · obtain rfl : j = n := by omega
                      have hjz : ¬ (j : Int) < (j : Int) := by omega
                      have hth2 : th = true := by
                        rw [← HTh.out, List.take_of_length_le (by rw [HlT.out]; exact Nat.le_refl _)]
                        exact any_mem HST.out.mem
                      subst hth2
                      have HFin : Hid (PlayI W w7 bo A j c (l0, nx0) wr ∧ StayI t (route, train, no) (l0, nx0)) := Lib.hid ⟨⟨HlT.out.symm, HxU.out, HOT.out.keep HU.out (fun _ _ h => h), HKbT.out.trans (HU.out.mono (fun _ _ h => h.elim)), HKT.out.trans HU.out⟩, HST.out⟩
                      go_wp2_with fail
                      refine ⟨⟨k + 1, by omega, by go_num, A, j, c, (l0, nx0), HFin.out⟩, ?_⟩
                      simp [intOf]; try omega

          · obtain rfl : k = n5 := by omega
            have hkz : ¬ (k : Int) < (k : Int) := by omega
            obtain ⟨⟨⟨l8, nz8⟩, ez8⟩, hz⟩ : ∃ z, freeI t (l0, nx0) no = z := ⟨_, rfl⟩
            have hd := stay_done HSi.out
            simp only at hd
            rw [hz] at hd
            have hw := HFr.out wr A n c l0 nx0 no HKr.out HLi.out (lkAt_own HO.out) (by have := Hn24.out; omega)
            rw [hz] at hw
            unfold FreeRet at hw
            dsimp only at hw
            have HC := Lib.hid hw
            obtain ⟨hd1, hd2⟩ := hd
            simp only at hd1 hd2
            subst hd1
            have HD2 := Lib.hid hd2
            have HlT : Hid (l0.length = n) := Lib.hid (by have h1 := HO.out.len; rw [len_spCells] at h1; omega)
            clear hw hz hd2
            have y0 : wr.cell? ⟨W.heap.size, 0, none⟩ = some (.slice Ae ne ce) := Hy.out.cell 0
            have y1 : wr.cell? ⟨W.heap.size, 1, none⟩ = some (.slice Aj nj cj) := Hy.out.cell 1
            have y2 : wr.cell? ⟨W.heap.size, 2, none⟩ = some (.slice Ab nb cb) := Hy.out.cell 2
            have y3 : wr.cell? ⟨W.heap.size, 3, none⟩ = some (.slice Ar nr cr) := Hy.out.cell 3
            have o0 : wr.cell? ⟨bo, 0, none⟩ = some (.slice A n c) := Hx.out.cell 0
            have o1 : wr.cell? ⟨bo, 1, none⟩ = some (.int .i64 nx0) := Hx.out.cell 1
            go_wp2_with fail
            refine HC.out.mono ?_
            rintro en w9 ⟨A8, n8, c8, rfl, hn8, ho8, hk9⟩
            have hnn : n = n8 + 1 := by have h1 := hn8.out; have h2 := HD2.out; have h3 := HlT.out; (try simp only at h1); omega
            have Hx9 := Lib.hid (Hx.out.keep hk9 (fun h => h))
            have HK9 := Lib.hid (HKr.out.trans hk9)
            clear y0 y1 y2 y3 o0 o1 hk9 ho8 hn8 HC
            subst hnn
            obtain ⟨w151, hw151⟩ : ∃ V : World, w9.alloc (.cells #[.slice A8 n8 c8, .int .i64 nz8] 55) = V := ⟨_, rfl⟩
            have kx : Keep Never w9 w151 := by rw [← hw151]; exact (Keep.refl _ _).alloc _
            have bx := Blk.new w9 55 #[.slice A8 n8 c8, .int .i64 nz8]
            rw [hw151] at bx
            obtain ⟨bf, hbf⟩ : ∃ q, w9.heap.size = q := ⟨_, rfl⟩
            rw [hbf] at bx
            have HBx51 := Lib.hid bx
            have HK51 := Lib.hid (HK9.out.trans kx)
            have Ho51 := Lib.hid (Hx9.out.keep kx (fun h => h))
            clear kx bx
            have o0 : w151.cell? ⟨bo, 0, none⟩ = some (.slice A (n8 + 1) c) := Ho51.out.cell 0
            have o1 : w151.cell? ⟨bo, 1, none⟩ = some (.int .i64 nx0) := Ho51.out.cell 1
            have f0 : w151.cell? ⟨bf, 0, none⟩ = some (.slice A8 n8 c8) := HBx51.out.cell 0
            have f1 : w151.cell? ⟨bf, 1, none⟩ = some (.int .i64 nz8) := HBx51.out.cell 1
            have hn8b : n8 ≤ 24 := by have := Hn24.out; omega
            have tq : ((n8 : Int) == (n8 : Int)) = true := by simp
            go_wp2_with fail
            go_ret
            exact ⟨rfl, HK51.out⟩

end Go.Proofs.Ytijdkjcjhfebfaa
