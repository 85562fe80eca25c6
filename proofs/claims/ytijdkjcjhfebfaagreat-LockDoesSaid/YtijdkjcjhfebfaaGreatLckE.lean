/- Chapter 16 (lock): Locked, Set, Free. -/
import Derived.Test.YtijdkjcjhfebfaaGreatLckF
namespace Go.Proofs.YtijdkjcjhfebfaaGreat
open Go.RowKit

/-- an interlocking, a number, an error are answered -/
def SetRet (z : Itr × Int × Int) (w : World) (e : Ending) (w' : World) : Prop := ∃ A n c, e = .returned (.tuple #[.agg #[.slice A n c, .int .i64 z.1.2], .int .i64 z.2.1, .int .i64 z.2.2]) ∧ Hid (n = z.1.1.length) ∧ Own w' w.heap.size 63 3 A n c (spCells z.1.1) ∧ Keep Never w w'
/-- an interlocking, an error are answered -/
def FreeRet (z : Itr × Int) (w : World) (e : Ending) (w' : World) : Prop := ∃ A n c, e = .returned (.tuple #[.agg #[.slice A n c, .int .i64 z.1.2], .int .i64 z.2]) ∧ Hid (n = z.1.1.length) ∧ Own w' w.heap.size 63 3 A n c (spCells z.1.1) ∧ Keep Never w w'
theorem flatk_take {f : Lk → List Sp} {l : List Lk} {k : Nat} {s : Lk} (h : l[k]? = some s) : (l.take (k + 1)).flatMap f = (l.take k).flatMap f ++ f s := by
  obtain ⟨h2, h3⟩ := List.getElem?_eq_some_iff.1 h
  rw [List.take_succ_eq_append_getElem h2, h3, List.flatMap_append]
  simp
theorem nilOwn {w : World} {b : Nat} {l : List Sp} (h : l = []) : Own w b 63 3 none 0 0 (spCells l) := by rw [h]; exact Own.nil _ _ _ _
theorem nilH (w : World) {l : List Sp} (h : l = []) : SpAt w w.heap.size none 0 0 l := by rw [h]; exact nilAt w
theorem lkAt_own3 {w : World} {base n c : Nat} {A : Option Addr} {l : List Sp} (h : Own w base 68 3 A n c (spCells l)) : SpAt w w.heap.size A n c l := SpAt.of_own h

set_option maxHeartbeats 8000000 in
set_option maxRecDepth 100000 in
theorem lockd_any (x : TA) (t : Tp) (B : Nat) (A : Option Addr) (n c : Nat) (l : List Lk) (train : Int) (w : World) (ht : TpAt w B x t) (hs : TpSmall x t) (hB : B ≤ w.heap.size) (hl : SpAt w B A n c l) (hn : n ≤ 1000000) :
    Calls Tryz.prog 17 #[.agg x.cs, .slice A n c, .int .i64 train] w (SpsRet (lockedM t l train) w) := by
  have HCh : Hid (∀ V, Keep Never w V → Calls Tryz.prog 37 #[.agg x.cs] V fun e w' => e = .returned (.int .i64 (checkM t)) ∧ Keep Never V w') := Lib.hid (fun V h => check_any x t B V (ht.keep h) hs (Nat.le_trans hB h.size))
  have HOf : Hid (∀ V, Keep Never w V → Calls Tryz.prog 20 #[.slice A n c, .int .i64 train] V (LksRet (ofM l train) V)) := Lib.hid (fun V h => of_any A n c _ l train V (hl.keep h) hn)
  have HEx : Hid (∀ V r, Keep Never w V → Calls Tryz.prog 15 #[.agg x.cs, .int .i64 r] V (SpsRet (extM t r) V)) := Lib.hid (fun V r h => ext_any x t B r V (ht.keep h) hs (Nat.le_trans hB h.size))
  have HN5 : Hid ((ofM l train).length ≤ n) := Lib.hid (by rw [← hl.len]; exact List.length_filter_le _ _)
  have HN := Lib.hid hn
  obtain ⟨Ae, ne, ce, Aj, nj, cj, Ab, nb, cb, Ar, nr, cr⟩ := x
  simp only [TA.cs] at HCh HEx ⊢
  clear ht hs hB hl hn
  obtain ⟨w1, hw1⟩ : ∃ V : World, w.alloc (.cells #[.slice Ae ne ce, .slice Aj nj cj, .slice Ab nb cb, .slice Ar nr cr] 27) = V := ⟨_, rfl⟩
  have kw1 : Keep Never w w1 := by rw [← hw1]; exact (Keep.refl _ _).alloc _
  have bw1 := Blk.new w 27 #[.slice Ae ne ce, .slice Aj nj cj, .slice Ab nb cb, .slice Ar nr cr]
  rw [hw1] at bw1
  have HB1 := Lib.hid bw1
  have HK := Lib.hid kw1
  clear kw1 bw1
  obtain ⟨ck, hck⟩ : ∃ z, checkM t = z := ⟨_, rfl⟩
  have hw := HCh.out w1 HK.out
  rw [hck] at hw
  have HC := Lib.hid hw
  have HCk := Lib.hid hck
  clear HCh hw hck
  have y0 : w1.cell? ⟨w.heap.size, 0, none⟩ = some (.slice Ae ne ce) := HB1.out.cell 0
  have y1 : w1.cell? ⟨w.heap.size, 1, none⟩ = some (.slice Aj nj cj) := HB1.out.cell 1
  have y2 : w1.cell? ⟨w.heap.size, 2, none⟩ = some (.slice Ab nb cb) := HB1.out.cell 2
  have y3 : w1.cell? ⟨w.heap.size, 3, none⟩ = some (.slice Ar nr cr) := HB1.out.cell 3
  go_enter Tryz.func17, Tryz.ntmps17
  go_wp2_with fail
  refine HC.out.mono ?_
  rintro en w101 ⟨rfl, hk1⟩
  have HK1 := Lib.hid (HK.out.trans hk1)
  have Hy1 := Lib.hid (HB1.out.keep hk1 (fun h => h))
  clear y0 y1 y2 y3 hk1 HC
  by_cases g0 : ck = 0
  case neg =>
    have t0 : (ck != 0) = true := by simpa using g0
    have HF : Hid (lockedM t l train = []) := Lib.hid (by unfold lockedM; rw [if_neg (by rw [HCk.out]; exact g0)])
    clear g0
    go_wp2_with fail
    go_ret
    exact ⟨none, 0, 0, rfl, Lib.hid (by rw [HF.out]; rfl), nilH _ HF.out, HK1.out⟩
  subst g0
  have t0 : ((0 : Int) != 0) = false := by decide
  have HC := Lib.hid (HOf.out w101 HK1.out)
  clear HOf
  go_wp2_with fail
  refine HC.out.mono ?_
  rintro e w121 ⟨A5, n5, c5, rfl, hn5, ho5, hk5⟩
  have HL5 := Lib.hid (lkAt_own ho5)
  have HN6 : Hid (n5 ≤ n) := Lib.hid (by have h1 := HN5.out; have h2 := hn5.out; omega)
  have HM5 := hn5
  clear ho5 hn5 HN5
  have HK2 := Lib.hid (HK1.out.trans hk5)
  have Hy2 := Lib.hid (Hy1.out.keep hk5 (fun h => h))
  clear hk5 HC
  clear t0
  go_wp2_with fail
  obtain ⟨lo, hlo⟩ : ∃ z, ofM l train = z := ⟨_, rfl⟩
  have HLo := Lib.hid hlo
  rw [hlo] at HL5 HM5
  clear hlo
  go_loopw [7, 17] (fun so si wr => ∃ (k no co : Nat) (Ao : Option Addr), k ≤ n5 ∧ si = .int .i64 k ∧ so = .slice Ao no co ∧ no ≤ 40 * k ∧ Hid (no = ((lo.take k).flatMap fun k => extM t k.1).length ∧ Own wr w121.heap.size 68 3 Ao no co (spCells ((lo.take k).flatMap fun k => extM t k.1)) ∧ Keep Never w121 wr)) (fun _ si _ => n5 - (intOf si).toNat)
  case atStart => exact ⟨0, 0, 0, none, by omega, rfl, rfl, by omega, Lib.hid ⟨by simp, by simpa [spCells_nil] using Own.nil _ _ _ _, Keep.refl _ _⟩⟩
  case round =>
    obtain ⟨k, no, co, Ao, hk, rfl, rfl, hno, HH⟩ := hrel
    by_cases h0 : k < n5
    · have hki : (k : Int) < (n5 : Int) := by omega
      have hn5b : n5 ≤ 1000000 := by have h1 := HN6.out; have h2 := HN.out; omega
      obtain ⟨ad, s, hA, _, hsk, c0, c1, c2⟩ := (HL5.out.keep HH.out.2.2).rd.sp h0
      have hf : Hid ((lo.take (k + 1)).flatMap (fun k => extM t k.1) = (lo.take k).flatMap (fun k => extM t k.1) ++ extM t s.1) := Lib.hid (flatk_take hsk)
      obtain ⟨s1, s2, s3⟩ := s
      simp only at c0 c1 c2 hf
      subst hA
      clear hsk
      obtain ⟨w4, hw4⟩ : ∃ V : World, wr.alloc (.cells #[.int .i64 s1, .int .i64 s2, .int .i64 s3] 63) = V := ⟨_, rfl⟩
      have k4 : Keep Never wr w4 := by rw [← hw4]; exact (Keep.refl _ _).alloc _
      have B4 := Blk.new wr 63 #[.int .i64 s1, .int .i64 s2, .int .i64 s3]
      rw [hw4] at B4
      obtain ⟨br, hbr⟩ : ∃ q, wr.heap.size = q := ⟨_, rfl⟩
      rw [hbr] at B4
      have HB4 := Lib.hid B4
      have HKr := Lib.hid (HH.out.2.2.trans k4)
      have Hy4 := Lib.hid (Hy2.out.keep HKr.out (fun h => h))
      have HO4 := Lib.hid (HH.out.2.1.keep k4 (fun _ _ h => h.elim))
      have HNo := Lib.hid HH.out.1
      have HC := Lib.hid (HEx.out w4 s1 (HK2.out.trans HKr.out))
      clear k4 B4 HH
      have y0 : w4.cell? ⟨w.heap.size, 0, none⟩ = some (.slice Ae ne ce) := Hy4.out.cell 0
      have y1 : w4.cell? ⟨w.heap.size, 1, none⟩ = some (.slice Aj nj cj) := Hy4.out.cell 1
      have y2 : w4.cell? ⟨w.heap.size, 2, none⟩ = some (.slice Ab nb cb) := Hy4.out.cell 2
      have y3 : w4.cell? ⟨w.heap.size, 3, none⟩ = some (.slice Ar nr cr) := Hy4.out.cell 3
      have k0 : w4.cell? ⟨br, 0, none⟩ = some (.int .i64 s1) := HB4.out.cell 0
      have k1 : w4.cell? ⟨br, 1, none⟩ = some (.int .i64 s2) := HB4.out.cell 1
      have k2 : w4.cell? ⟨br, 2, none⟩ = some (.int .i64 s3) := HB4.out.cell 2
      go_wp2_with (first
        | (refine HC.out.mono ?_
           rintro e w5 ⟨A6, n6, c6, rfl, hn6, hs6, hk6⟩
           have HN7 : Hid (n6 ≤ 40) := Lib.hid (by have h1 := hs6.len; have h2 := extM_40 (t := t) s1; omega)
           have hn40 : n6 ≤ 40 := HN7.out
           have HS6 := Lib.hid hs6
           have HK6 := Lib.hid hk6
           have HO6 := Lib.hid (HO4.out.keep hk6 (fun _ _ h => h.elim))
           have hz6 : w121.heap.size ≤ w5.heap.size := (HKr.out.trans hk6).size
           clear hs6 hk6)
        | (at_builtin; refine wpList_app _ rfl (.tmp 21) (.tmp 25) _ rfl elemSp w121.heap.size (A := Ao) (n := no) (c := co) (by go_simp) HO6.out _ (A' := A6) (m := n6) (c' := c6) (news := spCells (extM t s1)) (by go_simp) HS6.out.rd (spCells_one _) (by have h1 := HN6.out; have h2 := HN.out; omega) (by have h1 := HN6.out; have h2 := HN.out; unfold maxLen; omega) hz6 ?_
           intro A8 c8 w8 hown hk8 hrow8
           have HO8 := Lib.hid hown
           have HK8 := Lib.hid hk8
           clear hown hk8 hrow8))
      go_roundw
      case measure => simp [intOf]; try omega
      case rel =>
        refine ⟨k + 1, no + n6, c8, A8, by omega, by go_num, rfl, by omega, Lib.hid ⟨by rw [hf.out, List.length_append, ← HNo.out, HS6.out.len], by rw [hf.out, spCells_app]; exact HO8.out, ((HKr.out.trans HK6.out)).then_ HK8.out (fun i hi h => by have h1 := (HO6.out.row h).1; omega)⟩⟩
    · obtain rfl : k = n5 := by omega
      have hki : ¬ (k : Int) < (k : Int) := by omega
      have HTk : Hid (lo.take k = lo) := Lib.hid (List.take_of_length_le (by have := HM5.out; omega))
      have HRd := Lib.hid HH.out.2.1
      rw [HTk.out] at HRd
      have hno2 : no ≤ 40000000 := by have h1 := HN6.out; have h2 := HN.out; omega
      have HKf := Lib.hid (HK2.out.trans HH.out.2.2)
      have HC := Lib.hid (norm_any Ao no co _ _ wr HRd.out.rd (lkAt_own3 HRd.out).nil HRd.out.cap_le (by omega) (Nat.le_refl _))
      clear HH HRd hno2 hno
      go_wp2_with fail
      refine HC.out.mono ?_
      rintro e w131 ⟨m, A9, n9, c9, rfl, hn9, ho9, hkm, hm, _⟩
      have HF : Hid (m = lockedM t l train) := Lib.hid (by unfold lockedM; rw [if_pos HCk.out, HLo.out]; exact normM_eq hm)
      have HS9 := Lib.hid (SpAt.of_own ho9)
      replace hn9 := Lib.hid hn9
      clear ho9
      have HKg := Lib.hid (HKf.out.trans hkm)
      clear hkm hm
      go_wp2_with fail
      go_ret
      exact ⟨A9, n9, c9, rfl, Lib.hid (by rw [← HF.out]; exact hn9.out), by rw [← HF.out]; exact HS9.out, HKg.out⟩

set_option maxHeartbeats 16000000 in
set_option maxRecDepth 100000 in
theorem set16_any (x : TA) (t : Tp) (B : Nat) (A : Option Addr) (n c : Nat) (l : List Lk) (nx route train : Int) (w : World) (ht : TpAt w B x t) (hs : TpSmall x t) (hB : B ≤ w.heap.size) (hl : SpAt w B A n c l) (hn : n ≤ 1000000) :
    Calls Tryz.prog 7 #[.agg x.cs, .agg #[.slice A n c, .int .i64 nx], .int .i64 route, .int .i64 train] w (SetRet (setI t (l, nx) route train) w) := by
  have HMy : Hid (∀ V, Keep Never w V → Calls Tryz.prog 12 #[.agg x.cs, .agg #[.slice A n c, .int .i64 nx]] V fun e w' => e = .returned (.bool (mayI t (l, nx))) ∧ Keep Never V w') := Lib.hid (fun V h => may16_any x t B A n c l nx V (ht.keep h) hs (Nat.le_trans hB h.size) (hl.keep h) hn)
  have HRt : Hid (∀ V r, Keep Never w V → Calls Tryz.prog 27 #[.agg x.cs, .int .i64 r] V (RtRet (rtM t.2.2.2 r) V)) := Lib.hid (fun V r h => route_any x t B r V (ht.keep h) hs.r hs.p (Nat.le_trans hB h.size))
  have HLd : Hid (∀ V r, Keep Never w V → Calls Tryz.prog 28 #[.slice A n c, .int .i64 r] V fun e w' => e = .returned (.bool (lockedB l r)) ∧ Keep Never V w') := Lib.hid (fun V r h => lkd_any A n c B l r V (hl.keep h) hn)
  have HMt : Hid (∀ V r tr, Keep Never w V → Calls Tryz.prog 29 #[.agg x.cs, .slice A n c, .int .i64 r, .int .i64 tr] V fun e w' => e = .returned (.bool (metB t l r tr)) ∧ Keep Never V w') := Lib.hid (fun V r tr h => met_any x t B A n c l r tr V (ht.keep h) hs (Nat.le_trans hB h.size) (hl.keep h) hn)
  have HNb := Lib.hid (fun tr V => nmb_any tr V)
  have HL := Lib.hid hl
  have HN : Hid (l.length = n) := Lib.hid hl.len
  obtain ⟨Ae, ne, ce, Aj, nj, cj, Ab, nb, cb, Ar, nr, cr⟩ := x
  simp only [TA.cs] at HMy HRt HMt ⊢
  clear ht hs hl
  obtain ⟨w1, hw1⟩ : ∃ V : World, w.alloc (.cells #[.slice Ae ne ce, .slice Aj nj cj, .slice Ab nb cb, .slice Ar nr cr] 27) = V := ⟨_, rfl⟩
  have zw1 : w1.heap.size = w.heap.size + 1 := by rw [← hw1]; simp
  have kw1 : Keep Never w w1 := by rw [← hw1]; exact (Keep.refl _ _).alloc _
  have bw1 := Blk.new w 27 #[.slice Ae ne ce, .slice Aj nj cj, .slice Ab nb cb, .slice Ar nr cr]
  rw [hw1] at bw1
  obtain ⟨w2, hw2⟩ : ∃ V : World, w1.alloc (.cells #[.slice A n c, .int .i64 nx] 30) = V := ⟨_, rfl⟩
  have zw2 : w2.heap.size = w.heap.size + 1 + 1 := by rw [← hw2]; simp [zw1]
  have kw2 : Keep Never w1 w2 := by rw [← hw2]; exact (Keep.refl _ _).alloc _
  have bw2 := Blk.new w1 30 #[.slice A n c, .int .i64 nx]
  rw [hw2, zw1] at bw2
  obtain ⟨w3, hw3⟩ : ∃ V : World, w2.alloc (.cells #[.slice none 0 0, .int .i64 0] 30) = V := ⟨_, rfl⟩
  have kw3 : Keep Never w2 w3 := by rw [← hw3]; exact (Keep.refl _ _).alloc _
  have bw3 := Blk.new w2 30 #[.slice none 0 0, .int .i64 0]
  rw [hw3, zw2] at bw3
  have HB1 := Lib.hid ((bw1.keep kw2 (fun h => h)).keep kw3 (fun h => h))
  have HB2 := Lib.hid (bw2.keep kw3 (fun h => h))
  have HB3 := Lib.hid bw3
  have HK := Lib.hid ((kw1.trans kw2).trans kw3)
  clear kw1 kw2 kw3 bw1 bw2 bw3
  obtain ⟨mi, hmi⟩ : ∃ z, mayI t (l, nx) = z := ⟨_, rfl⟩
  have hw := HMy.out w3 HK.out
  rw [hmi] at hw
  have HC := Lib.hid hw
  have HMi := Lib.hid hmi
  clear HMy hw hmi
  have y0 : w3.cell? ⟨w.heap.size, 0, none⟩ = some (.slice Ae ne ce) := HB1.out.cell 0
  have y1 : w3.cell? ⟨w.heap.size, 1, none⟩ = some (.slice Aj nj cj) := HB1.out.cell 1
  have y2 : w3.cell? ⟨w.heap.size, 2, none⟩ = some (.slice Ab nb cb) := HB1.out.cell 2
  have y3 : w3.cell? ⟨w.heap.size, 3, none⟩ = some (.slice Ar nr cr) := HB1.out.cell 3
  have q0 : w3.cell? ⟨w.heap.size + 1, 0, none⟩ = some (.slice A n c) := HB2.out.cell 0
  have q1 : w3.cell? ⟨w.heap.size + 1, 1, none⟩ = some (.int .i64 nx) := HB2.out.cell 1
  go_enter Tryz.func7, Tryz.ntmps7
  go_wp2_with fail
  refine HC.out.mono ?_
  rintro en w101 ⟨rfl, hk1⟩
  have HK1 := Lib.hid (HK.out.trans hk1)
  have Hy1 := Lib.hid (HB1.out.keep hk1 (fun h => h))
  have Hq1 := Lib.hid (HB2.out.keep hk1 (fun h => h))
  have Hr1 := Lib.hid (HB3.out.keep hk1 (fun h => h))
  clear y0 y1 y2 y3 q0 q1 hk1 HC
  clear hw1 hw2 hw3 zw1 zw2
  cases mi with
  | false =>
    have HF : Hid (setI t (l, nx) route train = (noI, 0, 1)) := Lib.hid (by unfold setI; rw [if_neg (by rw [HMi.out]; simp)])
    have r0 : w101.cell? ⟨w.heap.size + 1 + 1, 0, none⟩ = some (.slice none 0 0) := Hr1.out.cell 0
    have rf0 := Hr1.out.frozen 0
    have r1 : w101.cell? ⟨w.heap.size + 1 + 1, 1, none⟩ = some (.int .i64 0) := Hr1.out.cell 1
    have rf1 := Hr1.out.frozen 1
    have HBz := Lib.hid (put2_blk Hr1.out (.slice none 0 0) (.int .i64 0))
    have HKz := Lib.hid (put2_keep HK1.out (b := w.heap.size + 1 + 1) (.inr (by omega)) (.slice none 0 0) (.int .i64 0))
    go_wp2_with fail
    (try simp only [Exit.inBlock, Exit.then])
    refine bodyPost_ret (it_results3 rfl HBz.out _ rfl) rfl ⟨none, 0, 0, by rw [HF.out]; rfl, Lib.hid (by rw [HF.out]; rfl), nilOwn (by rw [HF.out]; rfl), HKz.out⟩
  | true =>
    obtain ⟨tb, htb⟩ : ∃ z, trainB train = z := ⟨_, rfl⟩
    have hw := HNb.out train w101
    rw [htb] at hw
    have HC := Lib.hid hw
    have HTb := Lib.hid htb
    clear hw htb
    go_wp2_with fail
    refine HC.out.mono ?_
    rintro en w102 ⟨rfl, hk2⟩
    have HK2 := Lib.hid (HK1.out.trans hk2)
    have Hy2 := Lib.hid (Hy1.out.keep hk2 (fun h => h))
    have Hq2 := Lib.hid (Hq1.out.keep hk2 (fun h => h))
    have Hr2 := Lib.hid (Hr1.out.keep hk2 (fun h => h))
    clear hk2 HC
    cases tb with
    | false =>
      have HF : Hid (setI t (l, nx) route train = (noI, 0, 1)) := Lib.hid (by unfold setI; rw [if_neg (by rw [HTb.out]; simp)])
      have r0 : w102.cell? ⟨w.heap.size + 1 + 1, 0, none⟩ = some (.slice none 0 0) := Hr2.out.cell 0
      have rf0 := Hr2.out.frozen 0
      have r1 : w102.cell? ⟨w.heap.size + 1 + 1, 1, none⟩ = some (.int .i64 0) := Hr2.out.cell 1
      have rf1 := Hr2.out.frozen 1
      have HBz := Lib.hid (put2_blk Hr2.out (.slice none 0 0) (.int .i64 0))
      have HKz := Lib.hid (put2_keep HK2.out (b := w.heap.size + 1 + 1) (.inr (by omega)) (.slice none 0 0) (.int .i64 0))
      go_wp2_with fail
      (try simp only [Exit.inBlock, Exit.then])
      refine bodyPost_ret (it_results3 rfl HBz.out _ rfl) rfl ⟨none, 0, 0, by rw [HF.out]; rfl, Lib.hid (by rw [HF.out]; rfl), nilOwn (by rw [HF.out]; rfl), HKz.out⟩
    | true =>
      have HP1 : Hid (mayI t (l, nx) = true ∧ trainB train = true) := Lib.hid ⟨HMi.out, HTb.out⟩
      obtain ⟨o, ho⟩ : ∃ o, rtM t.2.2.2 route = o := ⟨_, rfl⟩
      have hw := HRt.out w102 route HK2.out
      rw [ho] at hw
      obtain ⟨r1, hr1⟩ : ∃ z, (o.getD (0, [], 0, 0)).1 = z := ⟨_, rfl⟩
      obtain ⟨r3, hr3⟩ : ∃ z, (o.getD (0, [], 0, 0)).2.2.1 = z := ⟨_, rfl⟩
      obtain ⟨r4, hr4⟩ : ∃ z, (o.getD (0, [], 0, 0)).2.2.2 = z := ⟨_, rfl⟩
      obtain ⟨os, hos⟩ : ∃ z, o.isSome = z := ⟨_, rfl⟩
      unfold RtRet at hw
      rw [hr1, hr3, hr4, hos] at hw
      have HC := Lib.hid hw
      have HOs : Hid ((rtM t.2.2.2 route).isSome = os) := Lib.hid (by rw [ho]; exact hos)
      clear hw hr1 hr3 hr4 hos ho HRt
      have y0 : w102.cell? ⟨w.heap.size, 0, none⟩ = some (.slice Ae ne ce) := Hy2.out.cell 0
      have y1 : w102.cell? ⟨w.heap.size, 1, none⟩ = some (.slice Aj nj cj) := Hy2.out.cell 1
      have y2 : w102.cell? ⟨w.heap.size, 2, none⟩ = some (.slice Ab nb cb) := Hy2.out.cell 2
      have y3 : w102.cell? ⟨w.heap.size, 3, none⟩ = some (.slice Ar nr cr) := Hy2.out.cell 3
      go_wp2_with fail
      refine HC.out.mono ?_
      rintro en w121 ⟨A7, n7, c7, rfl, _, hkr⟩
      have HK3 := Lib.hid (HK2.out.trans hkr)
      have Hy3 := Lib.hid (Hy2.out.keep hkr (fun h => h))
      have Hq3 := Lib.hid (Hq2.out.keep hkr (fun h => h))
      have Hr3 := Lib.hid (Hr2.out.keep hkr (fun h => h))
      clear y0 y1 y2 y3 hkr HC
      obtain ⟨w104, hw104⟩ : ∃ V : World, w121.alloc (.cells #[.int .i64 r1, .slice A7 n7 c7, .int .i64 r3, .int .i64 r4] 57) = V := ⟨_, rfl⟩
      have kx : Keep Never w121 w104 := by rw [← hw104]; exact (Keep.refl _ _).alloc _
      have bx := Blk.new w121 57 #[.int .i64 r1, .slice A7 n7 c7, .int .i64 r3, .int .i64 r4]
      rw [hw104] at bx
      obtain ⟨brt, hbrt⟩ : ∃ q, w121.heap.size = q := ⟨_, rfl⟩
      rw [hbrt] at bx
      have HBx4 := Lib.hid bx
      have HK4 := Lib.hid (HK3.out.trans kx)
      have Hy4 := Lib.hid (Hy3.out.keep kx (fun h => h))
      have Hq4 := Lib.hid (Hq3.out.keep kx (fun h => h))
      have Hr4 := Lib.hid (Hr3.out.keep kx (fun h => h))
      clear kx bx
      cases os with
      | false =>
        have HF : Hid (setI t (l, nx) route train = (noI, 0, 4)) := Lib.hid (by unfold setI; rw [if_pos HP1.out, if_neg (by rw [HOs.out]; simp)])
        have r0 : w104.cell? ⟨w.heap.size + 1 + 1, 0, none⟩ = some (.slice none 0 0) := Hr4.out.cell 0
        have rf0 := Hr4.out.frozen 0
        have r1 : w104.cell? ⟨w.heap.size + 1 + 1, 1, none⟩ = some (.int .i64 0) := Hr4.out.cell 1
        have rf1 := Hr4.out.frozen 1
        have HBz := Lib.hid (put2_blk Hr4.out (.slice none 0 0) (.int .i64 0))
        have HKz := Lib.hid (put2_keep HK4.out (b := w.heap.size + 1 + 1) (.inr (by omega)) (.slice none 0 0) (.int .i64 0))
        go_wp2_with fail
        (try simp only [Exit.inBlock, Exit.then])
        refine bodyPost_ret (it_results3 rfl HBz.out _ rfl) rfl ⟨none, 0, 0, by rw [HF.out]; rfl, Lib.hid (by rw [HF.out]; rfl), nilOwn (by rw [HF.out]; rfl), HKz.out⟩
      | true =>
        obtain ⟨lb, hlb⟩ : ∃ z, lockedB l route = z := ⟨_, rfl⟩
        have hw := HLd.out w104 route HK4.out
        rw [hlb] at hw
        have HC := Lib.hid hw
        have HLb := Lib.hid hlb
        clear hw hlb HLd
        have q0 : w104.cell? ⟨w.heap.size + 1, 0, none⟩ = some (.slice A n c) := Hq4.out.cell 0
        have q1 : w104.cell? ⟨w.heap.size + 1, 1, none⟩ = some (.int .i64 nx) := Hq4.out.cell 1
        go_wp2_with fail
        refine HC.out.mono ?_
        rintro en w105 ⟨rfl, hk5⟩
        have HK5 := Lib.hid (HK4.out.trans hk5)
        have Hy5 := Lib.hid (Hy4.out.keep hk5 (fun h => h))
        have Hq5 := Lib.hid (Hq4.out.keep hk5 (fun h => h))
        have Hr5 := Lib.hid (Hr4.out.keep hk5 (fun h => h))
        have Hrt5 := Lib.hid (HBx4.out.keep hk5 (fun h => h))
        clear q0 q1 hk5 HC
        clear hw104 hbrt
        cases lb with
        | true =>
          have HF : Hid (setI t (l, nx) route train = (noI, 0, 5)) := Lib.hid (by unfold setI; rw [if_pos HP1.out, if_pos HOs.out, if_pos HLb.out])
          have r0 : w105.cell? ⟨w.heap.size + 1 + 1, 0, none⟩ = some (.slice none 0 0) := Hr5.out.cell 0
          have rf0 := Hr5.out.frozen 0
          have r1 : w105.cell? ⟨w.heap.size + 1 + 1, 1, none⟩ = some (.int .i64 0) := Hr5.out.cell 1
          have rf1 := Hr5.out.frozen 1
          have HBz := Lib.hid (put2_blk Hr5.out (.slice none 0 0) (.int .i64 0))
          have HKz := Lib.hid (put2_keep HK5.out (b := w.heap.size + 1 + 1) (.inr (by omega)) (.slice none 0 0) (.int .i64 0))
          go_wp2_with fail
          (try simp only [Exit.inBlock, Exit.then])
          refine bodyPost_ret (it_results3 rfl HBz.out _ rfl) rfl ⟨none, 0, 0, by rw [HF.out]; rfl, Lib.hid (by rw [HF.out]; rfl), nilOwn (by rw [HF.out]; rfl), HKz.out⟩
        | false =>
          obtain ⟨mb, hmb⟩ : ∃ z, metB t l route train = z := ⟨_, rfl⟩
          have hw := HMt.out w105 route train HK5.out
          rw [hmb] at hw
          have HC := Lib.hid hw
          have HMb := Lib.hid hmb
          clear hw hmb HMt
          have y0 : w105.cell? ⟨w.heap.size, 0, none⟩ = some (.slice Ae ne ce) := Hy5.out.cell 0
          have y1 : w105.cell? ⟨w.heap.size, 1, none⟩ = some (.slice Aj nj cj) := Hy5.out.cell 1
          have y2 : w105.cell? ⟨w.heap.size, 2, none⟩ = some (.slice Ab nb cb) := Hy5.out.cell 2
          have y3 : w105.cell? ⟨w.heap.size, 3, none⟩ = some (.slice Ar nr cr) := Hy5.out.cell 3
          have q0 : w105.cell? ⟨w.heap.size + 1, 0, none⟩ = some (.slice A n c) := Hq5.out.cell 0
          have q1 : w105.cell? ⟨w.heap.size + 1, 1, none⟩ = some (.int .i64 nx) := Hq5.out.cell 1
          go_wp2_with fail
          refine HC.out.mono ?_
          rintro en w106 ⟨rfl, hk6⟩
          have HK6 := Lib.hid (HK5.out.trans hk6)
          have Hy6 := Lib.hid (Hy5.out.keep hk6 (fun h => h))
          have Hq6 := Lib.hid (Hq5.out.keep hk6 (fun h => h))
          have Hr6 := Lib.hid (Hr5.out.keep hk6 (fun h => h))
          have Hrt6 := Lib.hid (Hrt5.out.keep hk6 (fun h => h))
          clear y0 y1 y2 y3 q0 q1 hk6 HC
          cases mb with
          | true =>
            have HF : Hid (setI t (l, nx) route train = (noI, 0, 160)) := Lib.hid (by unfold setI; rw [if_pos HP1.out, if_pos HOs.out, if_neg (by rw [HLb.out]; simp), if_pos HMb.out])
            have r0 : w106.cell? ⟨w.heap.size + 1 + 1, 0, none⟩ = some (.slice none 0 0) := Hr6.out.cell 0
            have rf0 := Hr6.out.frozen 0
            have r1 : w106.cell? ⟨w.heap.size + 1 + 1, 1, none⟩ = some (.int .i64 0) := Hr6.out.cell 1
            have rf1 := Hr6.out.frozen 1
            have HBz := Lib.hid (put2_blk Hr6.out (.slice none 0 0) (.int .i64 0))
            have HKz := Lib.hid (put2_keep HK6.out (b := w.heap.size + 1 + 1) (.inr (by omega)) (.slice none 0 0) (.int .i64 0))
            go_wp2_with fail
            (try simp only [Exit.inBlock, Exit.then])
            refine bodyPost_ret (it_results3 rfl HBz.out _ rfl) rfl ⟨none, 0, 0, by rw [HF.out]; rfl, Lib.hid (by rw [HF.out]; rfl), nilOwn (by rw [HF.out]; rfl), HKz.out⟩
          | false =>
            by_cases g0 : n = 24
            · have t0 : ((n : Int) == 24) = true := by simp; omega
              have q0 : w106.cell? ⟨w.heap.size + 1, 0, none⟩ = some (.slice A n c) := Hq6.out.cell 0
              have q1 : w106.cell? ⟨w.heap.size + 1, 1, none⟩ = some (.int .i64 nx) := Hq6.out.cell 1
              have Hg := Lib.hid g0
              clear g0
              have HF : Hid (setI t (l, nx) route train = (noI, 0, 3)) := Lib.hid (by unfold setI; rw [if_pos HP1.out, if_pos HOs.out, if_neg (by rw [HLb.out]; simp), if_neg (by rw [HMb.out]; simp), if_pos (.inl (by show l.length = 24; have h1 := HN.out; have h2 := Hg.out; omega))])
              have r0 : w106.cell? ⟨w.heap.size + 1 + 1, 0, none⟩ = some (.slice none 0 0) := Hr6.out.cell 0
              have rf0 := Hr6.out.frozen 0
              have r1 : w106.cell? ⟨w.heap.size + 1 + 1, 1, none⟩ = some (.int .i64 0) := Hr6.out.cell 1
              have rf1 := Hr6.out.frozen 1
              have HBz := Lib.hid (put2_blk Hr6.out (.slice none 0 0) (.int .i64 0))
              have HKz := Lib.hid (put2_keep HK6.out (b := w.heap.size + 1 + 1) (.inr (by omega)) (.slice none 0 0) (.int .i64 0))
              go_wp2_with fail
              (try simp only [Exit.inBlock, Exit.then])
              refine bodyPost_ret (it_results3 rfl HBz.out _ rfl) rfl ⟨none, 0, 0, by rw [HF.out]; rfl, Lib.hid (by rw [HF.out]; rfl), nilOwn (by rw [HF.out]; rfl), HKz.out⟩
            have t0 : ((n : Int) == 24) = false := by simp; omega
            by_cases g1 : nx = 1099511627776
            · have t1 : (nx == 1099511627776) = true := by simpa using g1
              have q0 : w106.cell? ⟨w.heap.size + 1, 0, none⟩ = some (.slice A n c) := Hq6.out.cell 0
              have q1 : w106.cell? ⟨w.heap.size + 1, 1, none⟩ = some (.int .i64 nx) := Hq6.out.cell 1
              have Hg := Lib.hid g1
              clear g0 g1
              have HF : Hid (setI t (l, nx) route train = (noI, 0, 3)) := Lib.hid (by unfold setI; rw [if_pos HP1.out, if_pos HOs.out, if_neg (by rw [HLb.out]; simp), if_neg (by rw [HMb.out]; simp), if_pos (.inr Hg.out)])
              have r0 : w106.cell? ⟨w.heap.size + 1 + 1, 0, none⟩ = some (.slice none 0 0) := Hr6.out.cell 0
              have rf0 := Hr6.out.frozen 0
              have r1 : w106.cell? ⟨w.heap.size + 1 + 1, 1, none⟩ = some (.int .i64 0) := Hr6.out.cell 1
              have rf1 := Hr6.out.frozen 1
              have HBz := Lib.hid (put2_blk Hr6.out (.slice none 0 0) (.int .i64 0))
              have HKz := Lib.hid (put2_keep HK6.out (b := w.heap.size + 1 + 1) (.inr (by omega)) (.slice none 0 0) (.int .i64 0))
              go_wp2_with fail
              (try simp only [Exit.inBlock, Exit.then])
              refine bodyPost_ret (it_results3 rfl HBz.out _ rfl) rfl ⟨none, 0, 0, by rw [HF.out]; rfl, Lib.hid (by rw [HF.out]; rfl), nilOwn (by rw [HF.out]; rfl), HKz.out⟩
            have t1 : (nx == 1099511627776) = false := by simpa using g1
            have HF : Hid (setI t (l, nx) route train = ((l ++ [(route, train, nx)], nx + 1), nx, 0)) := Lib.hid (by unfold setI; rw [if_pos HP1.out, if_pos HOs.out, if_neg (by rw [HLb.out]; simp), if_neg (by rw [HMb.out]; simp), if_neg (by rintro (h | h); exact g0 (by have h1 := HN.out; simp only at h; omega); exact g1 h)])
            have hx4 : nx < 4611686018427387904 := by have h1 := (mayI_of HMi.out).hi; simp only at h1; omega
            have hx5 : 1 ≤ nx := (mayI_of HMi.out).lo
            have hwn : IntKind.i64.wrap (nx + 1) = nx + 1 := IntWalk.i64_in _ (by omega)
            have hwn2 : wrap64 (nx + 1) = nx + 1 := by have := hwn; rwa [IntWalk.i64_left] at this
            have hn24 : n ≤ 24 := by have h1 := (mayI_of HMi.out).len; have h2 := HN.out; simp only at h1; omega
            clear g0 g1 hx4 hx5
            have HC := Lib.hid (cloneK_any A n c B l w106 (HL.out.keep HK6.out).rd HL.out.nil HL.out.cap (by omega) (Nat.le_trans hB HK6.out.size))
            have q0 : w106.cell? ⟨w.heap.size + 1, 0, none⟩ = some (.slice A n c) := Hq6.out.cell 0
            have q1 : w106.cell? ⟨w.heap.size + 1, 1, none⟩ = some (.int .i64 nx) := Hq6.out.cell 1
            have HKb := Lib.hid HK6.out
            go_wp2_with fail
            refine HC.out.mono ?_
            rintro en w141 ⟨A8, c8, rfl, ho8, hk8⟩
            have HO8 := Lib.hid ho8
            have HZ8 := Lib.hid hk8.size
            clear ho8
            have HK7 := Lib.hid (HK6.out.trans hk8)
            have Hy7 := Lib.hid (Hy6.out.keep hk8 (fun h => h))
            have Hq7 := Lib.hid (Hq6.out.keep hk8 (fun h => h))
            have Hr7 := Lib.hid (Hr6.out.keep hk8 (fun h => h))
            have Hrt7 := Lib.hid (Hrt6.out.keep hk8 (fun h => h))
            clear q0 q1 hk8 HC
            clear t0 t1
            have hz8 := HZ8.out
            have q0 : w141.cell? ⟨w.heap.size + 1, 0, none⟩ = some (.slice A n c) := Hq7.out.cell 0
            have q1 : w141.cell? ⟨w.heap.size + 1, 1, none⟩ = some (.int .i64 nx) := Hq7.out.cell 1
            have qf0 := Hq7.out.frozen 0
            have qf1 := Hq7.out.frozen 1
            go_upto_region 15 with (at_builtin; refine wpList_app _ rfl (.tmp 61) (.tmp 66) _ rfl elemLk w106.heap.size (A := A8) (n := n) (c := c8) (by go_simp) (HO8.out.alloc _) _ (A' := some ⟨_, 0, none⟩) (m := 1) (c' := 1) (news := [.int .i64 route, .int .i64 train, .int .i64 nx]) (by go_simp) (Rd.of_blk (n := 1) (cs := [.int .i64 route, .int .i64 train, .int .i64 nx]) (Blk.new _ _ _) rfl) (by simp [Value.oneCell']) (by omega) (by unfold maxLen; omega) (by simp; omega) ?_
                                    intro A6 c6 w6 hown hk6 hrow6
                                    have HO6 := Lib.hid hown
                                    have hka : Keep (InRow A8) w141 w6 := ((Keep.refl (InRow A8) w141).alloc _).trans hk6
                                    have HKa := Lib.hid hka
                                    have HK6 : Hid (Keep Never w w6) := Lib.hid (HK7.out.then_ hka (fun i hi h => by have h1 := (HO8.out.row h).1; have h2 := HKb.out.size; omega))
                                    have Hq6 := Lib.hid (Hq7.out.keep hka (fun h => HO8.out.ne_blk Hq7.out (by decide) _ h rfl))
                                    have Hr6 := Lib.hid (Hr7.out.keep hka (fun h => HO8.out.ne_blk Hr7.out (by decide) _ h rfl))
                                    have q0 : w6.cell? ⟨w.heap.size + 1, 0, none⟩ = some (.slice A n c) := Hq6.out.cell 0
                                    have q1 : w6.cell? ⟨w.heap.size + 1, 1, none⟩ = some (.int .i64 nx) := Hq6.out.cell 1
                                    have qf0 := Hq6.out.frozen 0
                                    have qf1 := Hq6.out.frozen 1
                                    clear hown hk6 hrow6 hka)


            clear q0 q1 qf0 qf1
            obtain ⟨w7, hw7⟩ : ∃ W : World, w6.setCell ⟨w.heap.size + 1, 0, none⟩ (.slice A6 (n + 1) c6) = W := ⟨_, rfl⟩
            rw [hw7]
            have kw7 : Keep (fun i => i = w.heap.size + 1) w6 w7 := by rw [← hw7]; exact (Keep.refl (fun i => i = w.heap.size + 1) w6).set_ (p := ⟨w.heap.size + 1, 0, none⟩) (.inl rfl) _
            have Hq7 : Hid (Blk w7 (w.heap.size + 1) 30 #[.slice A6 (n + 1) c6, .int .i64 nx]) := Lib.hid (by rw [← hw7]; have := Hq6.out.set_ 0 (.slice A6 (n + 1) c6); simpa using this)
            have Hr7 := Lib.hid (Hr6.out.keep kw7 (by omega))
            have HO7 := Lib.hid (HO6.out.keep kw7 (HO6.out.ne_blk Hq6.out (by decide)))
            have HK7 := Lib.hid (HK6.out.then_ kw7 (fun i hi e => by omega))
            clear hw7 kw7
            have q0 : w7.cell? ⟨w.heap.size + 1, 0, none⟩ = some (.slice A6 (n + 1) c6) := Hq7.out.cell 0
            have q1 : w7.cell? ⟨w.heap.size + 1, 1, none⟩ = some (.int .i64 nx) := Hq7.out.cell 1
            have qf0 := Hq7.out.frozen 0
            have qf1 := Hq7.out.frozen 1
            go_upto_region 16 with (fail)
            (try rw [hwn2])
            (try rw [hwn])
            clear q0 q1 qf0 qf1
            obtain ⟨w8, hw8⟩ : ∃ W : World, w7.setCell ⟨w.heap.size + 1, 1, none⟩ (.int .i64 (nx + 1)) = W := ⟨_, rfl⟩
            rw [hw8]
            have kw8 : Keep (fun i => i = w.heap.size + 1) w7 w8 := by rw [← hw8]; exact (Keep.refl (fun i => i = w.heap.size + 1) w7).set_ (p := ⟨w.heap.size + 1, 1, none⟩) (.inl rfl) _
            have Hq8 : Hid (Blk w8 (w.heap.size + 1) 30 #[.slice A6 (n + 1) c6, .int .i64 (nx + 1)]) := Lib.hid (by rw [← hw8]; have := Hq7.out.set_ 1 (.int .i64 (nx + 1)); simpa using this)
            have Hr8 := Lib.hid (Hr7.out.keep kw8 (by omega))
            have HO8 := Lib.hid (HO7.out.keep kw8 (HO7.out.ne_blk Hq7.out (by decide)))
            have HK8 := Lib.hid (HK7.out.then_ kw8 (fun i hi e => by omega))
            clear hw8 kw8
            have q0 : w8.cell? ⟨w.heap.size + 1, 0, none⟩ = some (.slice A6 (n + 1) c6) := Hq8.out.cell 0
            have q1 : w8.cell? ⟨w.heap.size + 1, 1, none⟩ = some (.int .i64 (nx + 1)) := Hq8.out.cell 1
            have r0 : w8.cell? ⟨w.heap.size + 1 + 1, 0, none⟩ = some (.slice none 0 0) := Hr8.out.cell 0
            have r1 : w8.cell? ⟨w.heap.size + 1 + 1, 1, none⟩ = some (.int .i64 0) := Hr8.out.cell 1
            have rf0 := Hr8.out.frozen 0
            have rf1 := Hr8.out.frozen 1
            have HBz := Lib.hid (put2_blk Hr8.out (.slice A6 (n + 1) c6) (.int .i64 (nx + 1)))
            have HOz := Lib.hid (HO8.out.keep (put2_keep (Keep.refl (fun i => i = w.heap.size + 1 + 1) w8) (b := w.heap.size + 1 + 1) (.inl rfl) (.slice A6 (n + 1) c6) (.int .i64 (nx + 1))) (HO8.out.ne_blk Hr8.out (by decide)))
            have HKz := Lib.hid (put2_keep HK8.out (b := w.heap.size + 1 + 1) (.inr (by omega)) (.slice A6 (n + 1) c6) (.int .i64 (nx + 1)))
            go_wp2_with fail
            (try simp only [Exit.inBlock, Exit.then])
            refine bodyPost_ret (it_results3 rfl HBz.out _ rfl) rfl ⟨A6, n + 1, c6, by rw [HF.out]; rfl, Lib.hid (by rw [HF.out]; simp [HN.out]), ?_, HKz.out⟩
            rw [HF.out]
            show Own _ _ _ _ _ _ _ (spCells (l ++ [(route, train, nx)]))
            rw [spCells_app]
            exact HOz.out.less HKb.out.size

set_option maxHeartbeats 16000000 in
set_option maxRecDepth 100000 in
theorem free16_any (x : TA) (t : Tp) (B : Nat) (A : Option Addr) (n c : Nat) (l : List Lk) (nx no : Int) (w : World) (ht : TpAt w B x t) (hs : TpSmall x t) (hB : B ≤ w.heap.size) (hl : SpAt w B A n c l) (hn : n ≤ 1000000) :
    Calls Tryz.prog 10 #[.agg x.cs, .agg #[.slice A n c, .int .i64 nx], .int .i64 no] w (FreeRet (freeI t (l, nx) no) w) := by
  have HMy : Hid (∀ V, Keep Never w V → Calls Tryz.prog 12 #[.agg x.cs, .agg #[.slice A n c, .int .i64 nx]] V fun e w' => e = .returned (.bool (mayI t (l, nx))) ∧ Keep Never V w') := Lib.hid (fun V h => may16_any x t B A n c l nx V (ht.keep h) hs (Nat.le_trans hB h.size) (hl.keep h) hn)
  have HL := Lib.hid hl
  have HN : Hid (l.length = n) := Lib.hid hl.len
  have Hn := Lib.hid hn
  obtain ⟨Ae, ne, ce, Aj, nj, cj, Ab, nb, cb, Ar, nr, cr⟩ := x
  simp only [TA.cs] at HMy ⊢
  clear ht hs hl
  obtain ⟨w1, hw1⟩ : ∃ V : World, w.alloc (.cells #[.slice Ae ne ce, .slice Aj nj cj, .slice Ab nb cb, .slice Ar nr cr] 27) = V := ⟨_, rfl⟩
  have zw1 : w1.heap.size = w.heap.size + 1 := by rw [← hw1]; simp
  have kw1 : Keep Never w w1 := by rw [← hw1]; exact (Keep.refl _ _).alloc _
  have bw1 := Blk.new w 27 #[.slice Ae ne ce, .slice Aj nj cj, .slice Ab nb cb, .slice Ar nr cr]
  rw [hw1] at bw1
  obtain ⟨w2, hw2⟩ : ∃ V : World, w1.alloc (.cells #[.slice A n c, .int .i64 nx] 30) = V := ⟨_, rfl⟩
  have zw2 : w2.heap.size = w.heap.size + 1 + 1 := by rw [← hw2]; simp [zw1]
  have kw2 : Keep Never w1 w2 := by rw [← hw2]; exact (Keep.refl _ _).alloc _
  have bw2 := Blk.new w1 30 #[.slice A n c, .int .i64 nx]
  rw [hw2, zw1] at bw2
  obtain ⟨w3, hw3⟩ : ∃ V : World, w2.alloc (.cells #[.int .i64 no] 3) = V := ⟨_, rfl⟩
  have zw3 : w3.heap.size = w.heap.size + 1 + 1 + 1 := by rw [← hw3]; simp [zw2]
  have kw3 : Keep Never w2 w3 := by rw [← hw3]; exact (Keep.refl _ _).alloc _
  have bw3 := Blk.new w2 3 #[.int .i64 no]
  rw [hw3, zw2] at bw3
  obtain ⟨w4, hw4⟩ : ∃ V : World, w3.alloc (.cells #[.slice none 0 0, .int .i64 0] 30) = V := ⟨_, rfl⟩
  have kw4 : Keep Never w3 w4 := by rw [← hw4]; exact (Keep.refl _ _).alloc _
  have bw4 := Blk.new w3 30 #[.slice none 0 0, .int .i64 0]
  rw [hw4, zw3] at bw4
  have HB1 := Lib.hid (((bw1.keep kw2 (fun h => h)).keep kw3 (fun h => h)).keep kw4 (fun h => h))
  have HB2 := Lib.hid ((bw2.keep kw3 (fun h => h)).keep kw4 (fun h => h))
  have HB3 := Lib.hid (bw3.keep kw4 (fun h => h))
  have HB4 := Lib.hid bw4
  have HK := Lib.hid (((kw1.trans kw2).trans kw3).trans kw4)
  clear kw1 kw2 kw3 kw4 bw1 bw2 bw3 bw4
  obtain ⟨mi, hmi⟩ : ∃ z, mayI t (l, nx) = z := ⟨_, rfl⟩
  have hw := HMy.out w4 HK.out
  rw [hmi] at hw
  have HC := Lib.hid hw
  have HMi := Lib.hid hmi
  clear HMy hw hmi
  have y0 : w4.cell? ⟨w.heap.size, 0, none⟩ = some (.slice Ae ne ce) := HB1.out.cell 0
  have y1 : w4.cell? ⟨w.heap.size, 1, none⟩ = some (.slice Aj nj cj) := HB1.out.cell 1
  have y2 : w4.cell? ⟨w.heap.size, 2, none⟩ = some (.slice Ab nb cb) := HB1.out.cell 2
  have y3 : w4.cell? ⟨w.heap.size, 3, none⟩ = some (.slice Ar nr cr) := HB1.out.cell 3
  have q0 : w4.cell? ⟨w.heap.size + 1, 0, none⟩ = some (.slice A n c) := HB2.out.cell 0
  have q1 : w4.cell? ⟨w.heap.size + 1, 1, none⟩ = some (.int .i64 nx) := HB2.out.cell 1
  go_enter Tryz.func10, Tryz.ntmps10
  go_wp2_with fail
  refine HC.out.mono ?_
  rintro en w101 ⟨rfl, hk1⟩
  have HK1 := Lib.hid (HK.out.trans hk1)
  have Hy1 := Lib.hid (HB1.out.keep hk1 (fun h => h))
  have Hq1 := Lib.hid (HB2.out.keep hk1 (fun h => h))
  have Hno1 := Lib.hid (HB3.out.keep hk1 (fun h => h))
  have Hr1 := Lib.hid (HB4.out.keep hk1 (fun h => h))
  clear y0 y1 y2 y3 q0 q1 hk1 HC
  clear hw1 hw2 hw3 hw4 zw1 zw2 zw3
  cases mi with
  | false =>
    have HF : Hid (freeI t (l, nx) no = (noI, 1)) := Lib.hid (by unfold freeI; rw [if_neg (by rw [HMi.out]; simp)])
    have r0 : w101.cell? ⟨w.heap.size + 1 + 1 + 1, 0, none⟩ = some (.slice none 0 0) := Hr1.out.cell 0
    have rf0 := Hr1.out.frozen 0
    have r1 : w101.cell? ⟨w.heap.size + 1 + 1 + 1, 1, none⟩ = some (.int .i64 0) := Hr1.out.cell 1
    have rf1 := Hr1.out.frozen 1
    have HBz := Lib.hid (put2_blk Hr1.out (.slice none 0 0) (.int .i64 0))
    have HKz := Lib.hid (put2_keep HK1.out (b := w.heap.size + 1 + 1 + 1) (.inr (by omega)) (.slice none 0 0) (.int .i64 0))
    go_wp2_with fail
    (try simp only [Exit.inBlock, Exit.then])
    refine bodyPost_ret (it_results2 rfl HBz.out _ rfl) rfl ⟨none, 0, 0, by rw [HF.out]; rfl, Lib.hid (by rw [HF.out]; rfl), nilOwn (by rw [HF.out]; rfl), HKz.out⟩
  | true =>
    have HC := Lib.hid (those_any 36 #[.pointer (some ⟨w.heap.size + 1 + 1, 0, none⟩)] (fun s => s.2.2 != no) (enters_of Tryz.func36 (by kernel_rfl) rfl) A n c B l w101 (HL.out.keep HK1.out) (fun W s hk => frF_any s.1 s.2.1 s.2.2 no _ W (keepT hk (Hno1.out.cell 0))) Hn.out)
    have q0 : w101.cell? ⟨w.heap.size + 1, 0, none⟩ = some (.slice A n c) := Hq1.out.cell 0
    have q1 : w101.cell? ⟨w.heap.size + 1, 1, none⟩ = some (.int .i64 nx) := Hq1.out.cell 1
    go_wp2_with fail
    have HKb := Lib.hid HK1.out
    refine HC.out.mono ?_
    rintro en w141 ⟨A8, n8, c8, rfl, hn8, ho8, hk8⟩
    have HO8 := Lib.hid ho8
    have HN8 : Hid (n8 = (leftI l no).length) := hn8
    clear ho8 hn8
    have HK2 := Lib.hid (HK1.out.trans hk8)
    have Hy2 := Lib.hid (Hy1.out.keep hk8 (fun h => h))
    have Hq2 := Lib.hid (Hq1.out.keep hk8 (fun h => h))
    have Hno2 := Lib.hid (Hno1.out.keep hk8 (fun h => h))
    have Hr2 := Lib.hid (Hr1.out.keep hk8 (fun h => h))
    clear q0 q1 hk8 HC
    by_cases g0 : n8 = n
    · have t0 : ((n8 : Int) == (n : Int)) = true := by simp; omega
      have q0 : w141.cell? ⟨w.heap.size + 1, 0, none⟩ = some (.slice A n c) := Hq2.out.cell 0
      have q1 : w141.cell? ⟨w.heap.size + 1, 1, none⟩ = some (.int .i64 nx) := Hq2.out.cell 1
      have Hg := Lib.hid g0
      clear g0
      have HF : Hid (freeI t (l, nx) no = (noI, 4)) := Lib.hid (by unfold freeI; rw [if_pos HMi.out, if_pos (by have h1 := HN8.out; have h2 := HN.out; have h3 := Hg.out; show (leftI l no).length = l.length; omega)])
      have r0 : w141.cell? ⟨w.heap.size + 1 + 1 + 1, 0, none⟩ = some (.slice none 0 0) := Hr2.out.cell 0
      have rf0 := Hr2.out.frozen 0
      have r1 : w141.cell? ⟨w.heap.size + 1 + 1 + 1, 1, none⟩ = some (.int .i64 0) := Hr2.out.cell 1
      have rf1 := Hr2.out.frozen 1
      have HBz := Lib.hid (put2_blk Hr2.out (.slice none 0 0) (.int .i64 0))
      have HKz := Lib.hid (put2_keep HK2.out (b := w.heap.size + 1 + 1 + 1) (.inr (by omega)) (.slice none 0 0) (.int .i64 0))
      go_wp2_with fail
      (try simp only [Exit.inBlock, Exit.then])
      refine bodyPost_ret (it_results2 rfl HBz.out _ rfl) rfl ⟨none, 0, 0, by rw [HF.out]; rfl, Lib.hid (by rw [HF.out]; rfl), nilOwn (by rw [HF.out]; rfl), HKz.out⟩
    have t0 : ((n8 : Int) == (n : Int)) = false := by simp; omega
    have HF : Hid (freeI t (l, nx) no = ((leftI l no, nx), 0)) := Lib.hid (by unfold freeI; rw [if_pos HMi.out, if_neg (by intro h3; have h1 := HN8.out; have h2 := HN.out; simp only at h3; exact g0 (by omega))])
    clear g0
    have q0 : w141.cell? ⟨w.heap.size + 1, 0, none⟩ = some (.slice A n c) := Hq2.out.cell 0
    have q1 : w141.cell? ⟨w.heap.size + 1, 1, none⟩ = some (.int .i64 nx) := Hq2.out.cell 1
    have qf0 := Hq2.out.frozen 0
    have qf1 := Hq2.out.frozen 1
    go_upto_region 7 with (fail)
    clear q0 q1 qf0 qf1
    have HK9 := Lib.hid HK2.out
    have HO9 := Lib.hid HO8.out
    obtain ⟨w7, hw7⟩ : ∃ W : World, w141.setCell ⟨w.heap.size + 1, 0, none⟩ (.slice A8 n8 c8) = W := ⟨_, rfl⟩
    rw [hw7]
    have kw7 : Keep (fun i => i = w.heap.size + 1) w141 w7 := by rw [← hw7]; exact (Keep.refl (fun i => i = w.heap.size + 1) w141).set_ (p := ⟨w.heap.size + 1, 0, none⟩) (.inl rfl) _
    have Hq10 : Hid (Blk w7 (w.heap.size + 1) 30 #[.slice A8 n8 c8, .int .i64 nx]) := Lib.hid (by rw [← hw7]; have := Hq2.out.set_ 0 (.slice A8 n8 c8); simpa using this)
    have Hr10 := Lib.hid (Hr2.out.keep kw7 (by omega))
    have HO10 := Lib.hid (HO9.out.keep kw7 (HO9.out.ne_blk Hq2.out (by decide)))
    have HK10 := Lib.hid (HK9.out.then_ kw7 (fun i hi e => by omega))
    clear hw7 kw7
    have q0 : w7.cell? ⟨w.heap.size + 1, 0, none⟩ = some (.slice A8 n8 c8) := Hq10.out.cell 0
    have q1 : w7.cell? ⟨w.heap.size + 1, 1, none⟩ = some (.int .i64 nx) := Hq10.out.cell 1
    have r0 : w7.cell? ⟨w.heap.size + 1 + 1 + 1, 0, none⟩ = some (.slice none 0 0) := Hr10.out.cell 0
    have r1 : w7.cell? ⟨w.heap.size + 1 + 1 + 1, 1, none⟩ = some (.int .i64 0) := Hr10.out.cell 1
    have rf0 := Hr10.out.frozen 0
    have rf1 := Hr10.out.frozen 1
    have HBz := Lib.hid (put2_blk Hr10.out (.slice A8 n8 c8) (.int .i64 nx))
    have HOz := Lib.hid (HO10.out.keep (put2_keep (Keep.refl (fun i => i = w.heap.size + 1 + 1 + 1) w7) (b := w.heap.size + 1 + 1 + 1) (.inl rfl) (.slice A8 n8 c8) (.int .i64 nx)) (HO10.out.ne_blk Hr10.out (by decide)))
    have HKz := Lib.hid (put2_keep HK10.out (b := w.heap.size + 1 + 1 + 1) (.inr (by omega)) (.slice A8 n8 c8) (.int .i64 nx))
    go_wp2_with fail
    (try simp only [Exit.inBlock, Exit.then])
    refine bodyPost_ret (it_results2 rfl HBz.out _ rfl) rfl ⟨A8, n8, c8, by rw [HF.out]; rfl, Lib.hid (by rw [HF.out]; exact HN8.out), ?_, HKz.out⟩
    rw [HF.out]
    exact HOz.out.less HKb.out.size

end Go.Proofs.YtijdkjcjhfebfaaGreat
