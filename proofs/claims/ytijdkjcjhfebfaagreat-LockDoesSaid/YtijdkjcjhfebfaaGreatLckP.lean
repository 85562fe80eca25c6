/- Chapter 16, the document: Norm, Extent, Of, Locked, Train, there, Met. -/
import Derived.Test.YtijdkjcjhfebfaaGreatLckE
import Derived.Test.YtijdkjcjhfebfaaGreatTopJ
import Derived.Test.YtijdkjcjhfebfaaGreatRf13D
namespace Go.Proofs.YtijdkjcjhfebfaaGreat
open Go.RowKit

set_option maxHeartbeats 1000000 in
set_option maxRecDepth 100000 in
theorem rnormk_any (B A1 n1 c1) (a : List Sp) (w : World) (h1 : SpAt w B A1 n1 c1 a) (hn1 : n1 ≤ 4000) (hB : B ≤ w.heap.size) :
    Calls Tryz.prog 44 #[.slice A1 n1 c1] w (SpsRet (normM a) w) := by
  have HK := Lib.hid (form_big A1 n1 c1 none 0 0 _ a [] (true, false, false) w (h1.more hB) (nilAt w) hn1 (by omega) (Nat.le_refl _))
  clear h1 hn1 hB
  go_enter Tryz.func44, Tryz.ntmps44
  go_wp2_with fail
  refine HK.out.mono ?_
  rintro e w' ⟨m, A, n, c, rfl, hn, hs, hk, hm⟩
  have H := Lib.hid (And.intro hs hk)
  have HM : Hid (m = normM a) := Lib.hid (normM_eq (by rw [hm]; exact form_norm a))
  clear hs hk HK hm
  go_wp2_with fail
  go_ret
  exact ⟨A, n, c, rfl, Lib.hid (by rw [← HM.out]; exact hn.out), by rw [← HM.out]; exact H.out.1, H.out.2⟩

set_option maxHeartbeats 8000000 in
set_option maxRecDepth 100000 in
theorem rext_any (x : TA) (t : Tp) (B : Nat) (route : Int) (w : World) (ht : TpAt w B x t) (hs : TpSmall x t) (hB : B ≤ w.heap.size) :
    Calls Tryz.prog 16 #[.agg x.cs, .int .i64 route] w (SpsRet (extM t route) w) := by
  have HRt : Hid (∀ V, Keep Never w V → Calls Tryz.prog 32 #[.agg x.cs, .int .i64 route] V (RtRet (rtM t.2.2.2 route) V)) := Lib.hid (fun V h => rrt_any x t B route V (ht.keep h) hs.r (Nat.le_trans hB h.size))
  have HLn : Hid (∀ V A n c p, Keep Never w V → repStp.Sl V V.heap.size A n c p → n ≤ 100000000 → Calls Tryz.prog 41 #[.agg x.cs, .slice A n c] V fun e w' => e = .returned (.tuple #[.int .i64 (lenM t p).1, .int .i64 (lenM t p).2]) ∧ Keep Never V w') := Lib.hid (fun V A n c p h hp hn => rlength_any x t V.heap.size A n c p V ((ht.keep h).wide (Nat.le_trans hB h.size)) hp hs.j hn)
  have HOv : Hid (∀ V A n c p lo hi, Keep Never w V → repStp.Sl V V.heap.size A n c p → n ≤ 100000000 → -9223372036854775808 ≤ lo → lo ≤ 9223372036854775807 → -9223372036854775808 ≤ hi → hi ≤ 9223372036854775807 → Calls Tryz.prog 42 #[.agg x.cs, .slice A n c, .int .i64 lo, .int .i64 hi] V (OverRet t p lo hi V)) := Lib.hid (fun V A n c p lo hi h hp hn a1 a2 a3 a4 => rover_any x t V.heap.size A n c p lo hi V ((ht.keep h).wide (Nat.le_trans hB h.size)) hp hs.j hs.e hn (Nat.le_refl _) a1 a2 a3 a4)
  have HSp := Lib.hid hs.p
  obtain ⟨Ae, ne, ce, Aj, nj, cj, Ab, nb, cb, Ar, nr, cr⟩ := x
  simp only [TA.cs] at HRt HLn HOv ⊢
  clear ht hs
  obtain ⟨w1, hw1⟩ : ∃ V : World, w.alloc (.cells #[.slice Ae ne ce, .slice Aj nj cj, .slice Ab nb cb, .slice Ar nr cr] 27) = V := ⟨_, rfl⟩
  have kw1 : Keep Never w w1 := by rw [← hw1]; exact (Keep.refl _ _).alloc _
  have bw1 := Blk.new w 27 #[.slice Ae ne ce, .slice Aj nj cj, .slice Ab nb cb, .slice Ar nr cr]
  rw [hw1] at bw1
  have HB1 := Lib.hid bw1
  have HK := Lib.hid kw1
  clear kw1 bw1
  obtain ⟨o, ho⟩ : ∃ o, rtM t.2.2.2 route = o := ⟨_, rfl⟩
  have hw := HRt.out w1 HK.out
  rw [ho] at hw
  obtain ⟨r1, hr1⟩ : ∃ z, (o.getD (0, [], 0, 0)).1 = z := ⟨_, rfl⟩
  obtain ⟨rp, hrp⟩ : ∃ z, (o.getD (0, [], 0, 0)).2.1 = z := ⟨_, rfl⟩
  obtain ⟨r3, hr3⟩ : ∃ z, (o.getD (0, [], 0, 0)).2.2.1 = z := ⟨_, rfl⟩
  obtain ⟨r4, hr4⟩ : ∃ z, (o.getD (0, [], 0, 0)).2.2.2 = z := ⟨_, rfl⟩
  obtain ⟨os, hos⟩ : ∃ z, o.isSome = z := ⟨_, rfl⟩
  unfold RtRet at hw
  rw [hr1, hrp, hr3, hr4, hos] at hw
  have HC := Lib.hid hw
  have HOz : Hid ((os = true → rtM t.2.2.2 route = some (r1, rp, r3, r4)) ∧ (os = false → rtM t.2.2.2 route = none)) := Lib.hid (by
    rw [ho]
    cases o with
    | none => exact ⟨fun h => by rw [← hos] at h; exact absurd h (by simp), fun _ => rfl⟩
    | some z => exact ⟨fun _ => by rw [← hr1, ← hrp, ← hr3, ← hr4]; rfl, fun h => by rw [← hos] at h; exact absurd h (by simp)⟩)
  clear hw hr1 hrp hr3 hr4 hos ho HRt
  have y0 : w1.cell? ⟨w.heap.size, 0, none⟩ = some (.slice Ae ne ce) := HB1.out.cell 0
  have y1 : w1.cell? ⟨w.heap.size, 1, none⟩ = some (.slice Aj nj cj) := HB1.out.cell 1
  have y2 : w1.cell? ⟨w.heap.size, 2, none⟩ = some (.slice Ab nb cb) := HB1.out.cell 2
  have y3 : w1.cell? ⟨w.heap.size, 3, none⟩ = some (.slice Ar nr cr) := HB1.out.cell 3
  go_enter Tryz.func16, Tryz.ntmps16
  go_wp2_with fail
  refine HC.out.mono ?_
  rintro e w2 ⟨A, n, c, rfl, hsl, hk2⟩
  have HSl := Lib.hid hsl
  clear hsl
  have HK1 := Lib.hid (HK.out.trans hk2)
  have Hy1 := Lib.hid (HB1.out.keep hk2 (fun h => h))
  clear y0 y1 y2 y3 hk2 HC
  obtain ⟨w102, hw102⟩ : ∃ V : World, w2.alloc (.cells #[.int .i64 r1, .slice A n c, .int .i64 r3, .int .i64 r4] 57) = V := ⟨_, rfl⟩
  have kx : Keep Never w2 w102 := by rw [← hw102]; exact (Keep.refl _ _).alloc _
  have bx := Blk.new w2 57 #[.int .i64 r1, .slice A n c, .int .i64 r3, .int .i64 r4]
  rw [hw102] at bx
  obtain ⟨br, hbr⟩ : ∃ q, w2.heap.size = q := ⟨_, rfl⟩
  rw [hbr] at bx
  have HBx2 := Lib.hid bx
  have HK2 := Lib.hid (HK1.out.trans kx)
  have Hy2 := Lib.hid (Hy1.out.keep kx (fun h => h))
  clear kx bx
  have HSl := Lib.hid ((HSl.out.keep (show Keep Never w2 w102 from by rw [← hw102]; exact (Keep.refl Never _).alloc _) (fun _ h => h.elim)).more (show w2.heap.size ≤ w102.heap.size from by rw [← hw102]; simp))
  cases os with
  | false =>
    have HF : Hid (extM t route = []) := Lib.hid (by unfold extM; rw [HOz.out.2 rfl])
    go_wp2_with fail
    go_ret
    exact ⟨none, 0, 0, rfl, Lib.hid (by rw [HF.out]; rfl), by rw [HF.out]; exact nilAt _, HK2.out⟩
  | true =>
    have hmem : (r1, rp, r3, r4) ∈ t.2.2.2 := List.mem_of_find?_eq_some (HOz.out.1 rfl)
    have Ho := Lib.hid (HOz.out.1 rfl)
    have hn8 : n ≤ 100000000 := by have h1 := HSp.out _ hmem; have h2 := HSl.out.len; simp only at h1; omega
    have Hn8 := Lib.hid hn8
    clear hmem hn8 HSp
    obtain ⟨ln, hln⟩ : ∃ z, (lenM t rp).1 = z := ⟨_, rfl⟩
    obtain ⟨le, hle⟩ : ∃ z, (lenM t rp).2 = z := ⟨_, rfl⟩
    have hw := HLn.out w102 A n c rp HK2.out HSl.out Hn8.out
    rw [hln, hle] at hw
    have HC := Lib.hid hw
    clear hw HLn
    have y0 : w102.cell? ⟨w.heap.size, 0, none⟩ = some (.slice Ae ne ce) := Hy2.out.cell 0
    have y1 : w102.cell? ⟨w.heap.size, 1, none⟩ = some (.slice Aj nj cj) := Hy2.out.cell 1
    have y2 : w102.cell? ⟨w.heap.size, 2, none⟩ = some (.slice Ab nb cb) := Hy2.out.cell 2
    have y3 : w102.cell? ⟨w.heap.size, 3, none⟩ = some (.slice Ar nr cr) := Hy2.out.cell 3
    have r0 : w102.cell? ⟨br, 0, none⟩ = some (.int .i64 r1) := HBx2.out.cell 0
    have r1 : w102.cell? ⟨br, 1, none⟩ = some (.slice A n c) := HBx2.out.cell 1
    have r2 : w102.cell? ⟨br, 2, none⟩ = some (.int .i64 r3) := HBx2.out.cell 2
    have r3 : w102.cell? ⟨br, 3, none⟩ = some (.int .i64 r4) := HBx2.out.cell 3
    go_wp2_with fail
    refine HC.out.mono ?_
    rintro en w103 ⟨rfl, hk3⟩
    have HK3 := Lib.hid (HK2.out.trans hk3)
    have Hy3 := Lib.hid (Hy2.out.keep hk3 (fun h => h))
    have Hr3 := Lib.hid (HBx2.out.keep hk3 (fun h => h))
    have HSl3 := Lib.hid (HSl.out.hereK hk3)
    clear y0 y1 y2 y3 r0 r1 r2 r3 hk3 HC
    clear hw102 hbr

    by_cases g : le = 0
    case neg =>
      have t0 : (le != 0) = true := by simpa using g
      have HF : Hid (extM t route = []) := Lib.hid (by unfold extM; rw [Ho.out]; simp only; rw [if_neg (by rw [hle]; exact g)])
      clear g hle hln
      go_wp2_with fail
      go_ret
      exact ⟨none, 0, 0, rfl, Lib.hid (by rw [HF.out]; rfl), by rw [HF.out]; exact nilAt _, HK3.out⟩
    subst g
    have t0 : ((0 : Int) != 0) = false := by decide
    have hlb : -9223372036854775808 ≤ ln ∧ ln ≤ 9223372036854775807 := by have := len_small hle; rw [hln] at this; exact this
    have HC := Lib.hid (HOv.out w103 A n c rp 0 ln HK3.out HSl3.out Hn8.out (by omega) (by omega) hlb.1 hlb.2)
    clear HOv hlb
    have y0 : w103.cell? ⟨w.heap.size, 0, none⟩ = some (.slice Ae ne ce) := Hy3.out.cell 0
    have y1 : w103.cell? ⟨w.heap.size, 1, none⟩ = some (.slice Aj nj cj) := Hy3.out.cell 1
    have y2 : w103.cell? ⟨w.heap.size, 2, none⟩ = some (.slice Ab nb cb) := Hy3.out.cell 2
    have y3 : w103.cell? ⟨w.heap.size, 3, none⟩ = some (.slice Ar nr cr) := Hy3.out.cell 3
    have r0 : w103.cell? ⟨br, 0, none⟩ = some (.int .i64 r1) := Hr3.out.cell 0
    have r1 : w103.cell? ⟨br, 1, none⟩ = some (.slice A n c) := Hr3.out.cell 1
    have r2 : w103.cell? ⟨br, 2, none⟩ = some (.int .i64 r3) := Hr3.out.cell 2
    have r3 : w103.cell? ⟨br, 3, none⟩ = some (.int .i64 r4) := Hr3.out.cell 3
    go_wp2_with fail
    refine HC.out.mono ?_
    rintro e w9 ⟨m, A9, n9, c9, rfl, hn9, _, hs9, hk9, hm9⟩
    have HF : Hid (m = extM t route) := Lib.hid (by
      have h1 := hm9.out
      unfold extM; rw [Ho.out]; simp only; rw [if_pos hle, hln]
      split at h1
      · rename_i h2; rw [if_pos h2]; exact normM_eq h1
      · rename_i h2; rw [if_neg h2]; exact h1)
    have HS9 := Lib.hid hs9
    have HK9 := Lib.hid (HK3.out.trans hk9)
    clear hs9 hk9 hm9 hle hln HC
    go_wp2_with fail
    go_ret
    exact ⟨A9, n9, c9, rfl, Lib.hid (by rw [← HF.out]; exact hn9.out), by rw [← HF.out]; exact HS9.out, HK9.out⟩



set_option maxHeartbeats 4000000 in
set_option maxRecDepth 100000 in
theorem rof_any (A : Option Addr) (n c B : Nat) (l : List Lk) (train : Int) (w : World) (h : SpAt w B A n c l) (hn : n ≤ 1000000) :
    Calls Tryz.prog 21 #[.slice A n c, .int .i64 train] w (LksRet (ofM l train) w) := by
  have HL := Lib.hid h.len
  have HR := Lib.hid h.rd
  clear h
  go_enter Tryz.func21, Tryz.ntmps21
  go_wp2_with fail
  go_loopw [5, 6] (fun so si wr => ∃ (k no co : Nat) (Ao : Option Addr), k ≤ n ∧ si = .int .i64 k ∧ so = .slice Ao no co ∧ no ≤ k ∧ Hid (no = ((l.take k).filter fun k => k.2.1 == train).length ∧ Own wr w.heap.size 63 3 Ao no co (spCells ((l.take k).filter fun k => k.2.1 == train)) ∧ Keep Never w wr)) (fun _ si _ => n - (intOf si).toNat)
  case atStart => exact ⟨0, 0, 0, none, by omega, rfl, rfl, by omega, Lib.hid ⟨by simp, by simpa [spCells_nil] using Own.nil _ _ _ _, Keep.refl _ _⟩⟩
  case round =>
    obtain ⟨k, no, co, Ao, hk, rfl, rfl, hno, HH⟩ := hrel
    by_cases h0 : k < n
    · have hki : (k : Int) < (n : Int) := by omega
      obtain ⟨ad, s, hA, _, hs, c0, c1, c2⟩ := (HR.out.keep HH.out.2.2 (fun _ h => h.elim)).sp h0
      subst hA
      have htk : Hid (l.take (k + 1) = l.take k ++ [s]) := Lib.hid (by
        obtain ⟨h2, h3⟩ := List.getElem?_eq_some_iff.1 hs
        rw [List.take_succ_eq_append_getElem h2, h3])
      clear hs
      obtain ⟨s1, s2, s3⟩ := s
      simp only at c0 c1 c2
      have hz : w.heap.size ≤ wr.heap.size := HH.out.2.2.size
      have HO := Lib.hid HH.out.2.1
      by_cases g : s2 = train
      · have t0 : (s2 == train) = true := by simpa using g
        have hf : Hid ((l.take (k + 1)).filter (fun k => k.2.1 == train) = (l.take k).filter (fun k => k.2.1 == train) ++ [(s1, s2, s3)]) := Lib.hid (by rw [htk.out, List.filter_append]; simp [g])
        clear g
        go_wp2_with (at_builtin; refine wpList_app _ rfl (.tmp 20) (.tmp 25) _ rfl elemLk w.heap.size (A := Ao) (n := no) (c := co) (by go_simp) (HO.out.alloc _) _ (A' := some ⟨_, 0, none⟩) (m := 1) (c' := 1) (news := [.int .i64 s1, .int .i64 s2, .int .i64 s3]) (by go_simp) (Rd.of_blk (n := 1) (cs := [.int .i64 s1, .int .i64 s2, .int .i64 s3]) (Blk.new _ _ _) rfl) (by simp [Value.oneCell']) (by omega) (by unfold maxLen; omega) (by simp; omega) ?_
                     intro A6 c6 w6 hown hk6 hrow6
                     have HO6 := Lib.hid hown
                     have HK6 := Lib.hid hk6
                     clear hown hk6 hrow6)
        refine ⟨⟨k + 1, no + 1, c6, A6, by omega, by go_num, rfl, by omega, Lib.hid ⟨by rw [hf.out, List.length_append, ← HH.out.1]; rfl, by rw [hf.out, spCells_app]; exact HO6.out, (HH.out.2.2.alloc _).then_ HK6.out (fun i hi h => by have := (HO.out.row h).1; omega)⟩⟩, ?_⟩
        simp [intOf]; try omega
      · have t0 : (s2 == train) = false := by simpa using g
        have hf : Hid ((l.take (k + 1)).filter (fun k => k.2.1 == train) = (l.take k).filter (fun k => k.2.1 == train)) := Lib.hid (by rw [htk.out, List.filter_append]; simp [g])
        clear g
        go_wp2_with fail
        refine ⟨⟨k + 1, no, co, Ao, by omega, by go_num, rfl, by omega, Lib.hid ⟨by rw [hf.out]; exact HH.out.1, by rw [hf.out]; exact HH.out.2.1, HH.out.2.2⟩⟩, ?_⟩
        simp [intOf]; try omega
    · obtain rfl : k = n := by omega
      have hki : ¬ (k : Int) < (k : Int) := by omega
      have HF : Hid ((l.take k).filter (fun k => k.2.1 == train) = ofM l train) := Lib.hid (by rw [List.take_of_length_le (by have := HL.out; omega)]; rfl)
      go_wp2_with fail
      go_ret
      exact ⟨Ao, no, co, rfl, Lib.hid (by rw [← HF.out]; exact HH.out.1), by rw [← HF.out]; exact HH.out.2.1, HH.out.2.2⟩

set_option maxHeartbeats 8000000 in
set_option maxRecDepth 100000 in
theorem rlockd_any (x : TA) (t : Tp) (B : Nat) (A : Option Addr) (n c : Nat) (l : List Lk) (train : Int) (w : World) (ht : TpAt w B x t) (hs : TpSmall x t) (hB : B ≤ w.heap.size) (hl : SpAt w B A n c l) (hn : n ≤ 100) :
    Calls Tryz.prog 18 #[.agg x.cs, .slice A n c, .int .i64 train] w (SpsRet (lockedM t l train) w) := by
  have HCh : Hid (∀ V, Keep Never w V → Calls Tryz.prog 38 #[.agg x.cs] V fun e w' => e = .returned (.int .i64 (checkM t)) ∧ Keep Never V w') := Lib.hid (fun V h => rcheck_any x t B V (ht.keep h) hs (Nat.le_trans hB h.size))
  have HOf : Hid (∀ V, Keep Never w V → Calls Tryz.prog 21 #[.slice A n c, .int .i64 train] V (LksRet (ofM l train) V)) := Lib.hid (fun V h => rof_any A n c _ l train V (hl.keep h) (by omega))
  have HEx : Hid (∀ V r, Keep Never w V → Calls Tryz.prog 16 #[.agg x.cs, .int .i64 r] V (SpsRet (extM t r) V)) := Lib.hid (fun V r h => rext_any x t B r V (ht.keep h) hs (Nat.le_trans hB h.size))
  have HN5 : Hid ((ofM l train).length ≤ n) := Lib.hid (by rw [← hl.len]; exact List.length_filter_le _ _)
  have HN := Lib.hid hn
  obtain ⟨Ae, ne, ce, Aj, nj, cj, Ab, nb, cb, Ar, nr, cr⟩ := x
  simp only [TA.cs] at HCh HEx ⊢
  clear ht hs hB hl hn
  obtain ⟨w1, hw1⟩ : ∃ V : World, w.alloc (.cells #[.slice Ae ne ce, .slice Aj nj cj, .slice Ab nb cb, .slice Ar nr cr] 27) = V := ⟨_, rfl⟩
  have kw1 : Keep Never w w1 := by rw [← hw1]; exact (Keep.refl _ _).alloc _
  have bw1 := Blk.new w 27 #[.slice Ae ne ce, .slice Aj nj cj, .slice Ab nb cb, .slice Ar nr cr]
  rw [hw1] at bw1
  have HB1 := Lib.hid bw1
  have HK := Lib.hid kw1
  clear kw1 bw1
  obtain ⟨ck, hck⟩ : ∃ z, checkM t = z := ⟨_, rfl⟩
  have hw := HCh.out w1 HK.out
  rw [hck] at hw
  have HC := Lib.hid hw
  have HCk := Lib.hid hck
  clear HCh hw hck
  have y0 : w1.cell? ⟨w.heap.size, 0, none⟩ = some (.slice Ae ne ce) := HB1.out.cell 0
  have y1 : w1.cell? ⟨w.heap.size, 1, none⟩ = some (.slice Aj nj cj) := HB1.out.cell 1
  have y2 : w1.cell? ⟨w.heap.size, 2, none⟩ = some (.slice Ab nb cb) := HB1.out.cell 2
  have y3 : w1.cell? ⟨w.heap.size, 3, none⟩ = some (.slice Ar nr cr) := HB1.out.cell 3
  go_enter Tryz.func18, Tryz.ntmps18
  go_wp2_with fail
  refine HC.out.mono ?_
  rintro en w101 ⟨rfl, hk1⟩
  have HK1 := Lib.hid (HK.out.trans hk1)
  have Hy1 := Lib.hid (HB1.out.keep hk1 (fun h => h))
  clear y0 y1 y2 y3 hk1 HC
  by_cases g0 : ck = 0
  case neg =>
    have t0 : (ck != 0) = true := by simpa using g0
    have HF : Hid (lockedM t l train = []) := Lib.hid (by unfold lockedM; rw [if_neg (by rw [HCk.out]; exact g0)])
    clear g0
    go_wp2_with fail
    go_ret
    exact ⟨none, 0, 0, rfl, Lib.hid (by rw [HF.out]; rfl), nilH _ HF.out, HK1.out⟩
  subst g0
  have t0 : ((0 : Int) != 0) = false := by decide
  have HC := Lib.hid (HOf.out w101 HK1.out)
  clear HOf
  go_wp2_with fail
  refine HC.out.mono ?_
  rintro e w121 ⟨A5, n5, c5, rfl, hn5, ho5, hk5⟩
  have HL5 := Lib.hid (lkAt_own ho5)
  have HN6 : Hid (n5 ≤ n) := Lib.hid (by have h1 := HN5.out; have h2 := hn5.out; omega)
  have HM5 := hn5
  clear ho5 hn5 HN5
  have HK2 := Lib.hid (HK1.out.trans hk5)
  have Hy2 := Lib.hid (Hy1.out.keep hk5 (fun h => h))
  clear hk5 HC
  clear t0
  go_wp2_with fail
  obtain ⟨lo, hlo⟩ : ∃ z, ofM l train = z := ⟨_, rfl⟩
  have HLo := Lib.hid hlo
  rw [hlo] at HL5 HM5
  clear hlo
  go_loopw [8, 9] (fun so si wr => ∃ (k no co : Nat) (Ao : Option Addr), k ≤ n5 ∧ si = .int .i64 k ∧ so = .slice Ao no co ∧ no ≤ 40 * k ∧ Hid (no = ((lo.take k).flatMap fun k => extM t k.1).length ∧ Own wr w121.heap.size 68 3 Ao no co (spCells ((lo.take k).flatMap fun k => extM t k.1)) ∧ Keep Never w121 wr)) (fun _ si _ => n5 - (intOf si).toNat)
  case atStart => exact ⟨0, 0, 0, none, by omega, rfl, rfl, by omega, Lib.hid ⟨by simp, by simpa [spCells_nil] using Own.nil _ _ _ _, Keep.refl _ _⟩⟩
  case round =>
    obtain ⟨k, no, co, Ao, hk, rfl, rfl, hno, HH⟩ := hrel
    by_cases h0 : k < n5
    · have hki : (k : Int) < (n5 : Int) := by omega
      have hn5b : n5 ≤ 1000000 := by have h1 := HN6.out; have h2 := HN.out; omega
      obtain ⟨ad, s, hA, _, hsk, c0, c1, c2⟩ := (HL5.out.keep HH.out.2.2).rd.sp h0
      have hf : Hid ((lo.take (k + 1)).flatMap (fun k => extM t k.1) = (lo.take k).flatMap (fun k => extM t k.1) ++ extM t s.1) := Lib.hid (flatk_take hsk)
      obtain ⟨s1, s2, s3⟩ := s
      simp only at c0 c1 c2 hf
      subst hA
      clear hsk
      have HKr := Lib.hid HH.out.2.2
      have Hy4 := Lib.hid (Hy2.out.keep HKr.out (fun h => h))
      have HO4 := Lib.hid HH.out.2.1
      have HNo := Lib.hid HH.out.1
      have HCe := Lib.hid (fun V (h : Keep Never wr V) => HEx.out V s1 (HK2.out.trans (HKr.out.trans h)))
      have y0 : wr.cell? ⟨w.heap.size, 0, none⟩ = some (.slice Ae ne ce) := Hy4.out.cell 0
      have y1 : wr.cell? ⟨w.heap.size, 1, none⟩ = some (.slice Aj nj cj) := Hy4.out.cell 1
      have y2 : wr.cell? ⟨w.heap.size, 2, none⟩ = some (.slice Ab nb cb) := Hy4.out.cell 2
      have y3 : wr.cell? ⟨w.heap.size, 3, none⟩ = some (.slice Ar nr cr) := Hy4.out.cell 3
      clear HH c1 c2
      go_wp2_with fail
      go_region_law (first
        | (go_simp; go_at_call 16; refine (HCe.out _ (by first | exact (Keep.refl Never wr).drew | exact Keep.refl Never wr)).mono ?_
           rintro e w5 ⟨A6, n6, c6, rfl, hn6, hs6, hk6⟩
           have HN7 : Hid (n6 ≤ 40) := Lib.hid (by have h1 := hs6.len; have h2 := extM_40 (t := t) s1; omega)
           have hn40 : n6 ≤ 40 := HN7.out
           have HS6 := Lib.hid hs6
           have HK6 : Hid (Keep Never wr w5) := Lib.hid (by first | exact hk6.drewL | exact hk6)
           have HO6 := Lib.hid (HO4.out.keep HK6.out (fun _ _ h => h.elim))
           have hz6 : w121.heap.size ≤ w5.heap.size := (HKr.out.trans HK6.out).size
           clear hs6 hk6)
        | (refine step_app _ rfl (.tmp 22) (.tmp 29) _ rfl elemSp w121.heap.size (A := Ao) (n := no) (c := co) (by go_simp) HO6.out _ (A' := A6) (m := n6) (c' := c6) (news := spCells (extM t s1)) (by go_simp) HS6.out.rd (spCells_one _) (by have h1 := HN6.out; have h2 := HN.out; omega) (by have h1 := HN6.out; have h2 := HN.out; unfold maxLen; omega) hz6 ?_
           intro A8 c8 w8 hown hk8 hrow8
           have HO8 := Lib.hid hown
           have HK8 := Lib.hid hk8
           clear hown hk8 hrow8))
      all_goals
        go_wp2_with fail
        refine ⟨⟨k + 1, no + n6, c8, A8, by omega, by go_num, rfl, by omega, Lib.hid ⟨by rw [hf.out, List.length_append, ← HNo.out, HS6.out.len], by rw [hf.out, spCells_app]; exact HO8.out, ((HKr.out.trans HK6.out)).then_ HK8.out (fun i hi h => by have h1 := (HO6.out.row h).1; omega)⟩⟩, ?_⟩
        simp [intOf]; try omega
    · obtain rfl : k = n5 := by omega
      have hki : ¬ (k : Int) < (k : Int) := by omega
      have HTk : Hid (lo.take k = lo) := Lib.hid (List.take_of_length_le (by have := HM5.out; omega))
      have HRd := Lib.hid HH.out.2.1
      rw [HTk.out] at HRd
      have hno2 : no ≤ 4000 := by have h1 := HN6.out; have h2 := HN.out; omega
      have HKf := Lib.hid (HK2.out.trans HH.out.2.2)
      have HC := Lib.hid (rnormk_any _ Ao no co _ wr (SpAt.of_own HRd.out) (by omega) (Nat.le_refl _))
      clear HH HRd hno2 hno
      go_wp2_with fail
      refine HC.out.mono ?_
      rintro e w131 ⟨A9, n9, c9, rfl, hn9, hs9, hkm⟩
      have HF : Hid (normM (lo.flatMap fun k => extM t k.1) = lockedM t l train) := Lib.hid (by unfold lockedM; rw [if_pos HCk.out, HLo.out]; skip)
      have HS9 := Lib.hid hs9
      clear hs9
      have HKg := Lib.hid (HKf.out.trans hkm)
      clear hkm
      go_wp2_with fail
      go_ret
      exact ⟨A9, n9, c9, rfl, Lib.hid (by rw [← HF.out]; exact hn9.out), by rw [← HF.out]; exact HS9.out, HKg.out⟩

set_option maxHeartbeats 4000000 in
set_option maxRecDepth 100000 in
theorem rtrain_any (train : Int) (w : World) :
    Calls Tryz.prog 31 #[.int .i64 train] w fun e w' => e = .returned (.bool (trainB train)) ∧ Keep Never w w' := by
  by_cases g0 : 0 ≤ train
  · have t0 : decide (train ≥ 0) = true := by simpa using g0
    by_cases g1 : train ≤ 16777215
    · have t1 : decide (train ≤ 16777215) = true := by simpa using g1
      have HF : Hid (trainB train = true) := Lib.hid (by unfold trainB; simp; omega)
      clear g0 g1
      go_enter Tryz.func31, Tryz.ntmps31
      go_wp2_with fail
      go_ret
      exact ⟨by rw [HF.out]; rfl, Keep.refl _ _⟩
    · have t1 : decide (train ≤ 16777215) = false := by simpa using g1
      have HF : Hid (trainB train = false) := Lib.hid (by unfold trainB; simp; omega)
      clear g0 g1
      go_enter Tryz.func31, Tryz.ntmps31
      go_wp2_with fail
      go_ret
      exact ⟨by rw [HF.out]; rfl, Keep.refl _ _⟩
  · have t0 : decide (train ≥ 0) = false := by simpa using g0
    have HF : Hid (trainB train = false) := Lib.hid (by unfold trainB; simp; omega)
    clear g0
    go_enter Tryz.func31, Tryz.ntmps31
    go_wp2_with fail
    go_ret
    exact ⟨by rw [HF.out]; rfl, Keep.refl _ _⟩

set_option maxHeartbeats 4000000 in
set_option maxRecDepth 100000 in
theorem there_any2 (A : Option Addr) (n c B : Nat) (l : List Lk) (route : Int) (w : World) (h : SpAt w B A n c l) (hn : n ≤ 1000000) :
    Calls Tryz.prog 33 #[.slice A n c, .int .i64 route] w fun e w' => e = .returned (.bool (lockedB l route)) ∧ Keep Never w w' := by
  have HR := Lib.hid h.rd
  have HL := Lib.hid h.len
  clear h
  go_enter Tryz.func33, Tryz.ntmps33
  go_wp2_with fail
  go_loopw [5] (fun i wr => ∃ k : Nat, k ≤ n ∧ i = .int .i64 k ∧ Hid (Keep Never w wr ∧ lockedB (l.take k) route = false)) (fun i _ => n - (intOf i).toNat)
  case atStart => exact ⟨0, by omega, rfl, Lib.hid ⟨Keep.refl _ _, rfl⟩⟩
  case round =>
    obtain ⟨k, hk, rfl, HH⟩ := hrel
    by_cases h0 : k < n
    · have hki : (k : Int) < (n : Int) := by omega
      obtain ⟨ad, s, hA, _, hs, c0, c1, c2⟩ := (HR.out.keep HH.out.1 (fun _ h => h.elim)).sp h0
      subst hA
      obtain ⟨s1, s2, s3⟩ := s
      simp only at c0 c1 c2
      have Hs := Lib.hid hs
      clear hs
      by_cases g : s1 = route
      · have t0 : (s1 == route) = true := by simpa using g
        have HF : Hid (lockedB l route = true) := Lib.hid (by unfold lockedB; rw [List.any_eq_true]; exact ⟨_, List.mem_of_getElem? Hs.out, t0⟩)
        clear g
        go_wp2_with fail
        go_ret
        exact ⟨by rw [HF.out]; rfl, HH.out.1⟩
      · have t0 : (s1 == route) = false := by simpa using g
        have HF : Hid (lockedB (l.take (k + 1)) route = false) := Lib.hid (by
          have h1 := HH.out.2
          unfold lockedB at h1 ⊢
          rw [List.take_add_one, Hs.out, List.any_append, h1]
          simpa using g)
        clear g
        go_wp2_with fail
        refine ⟨⟨k + 1, by omega, by go_num, Lib.hid ⟨HH.out.1, HF.out⟩⟩, ?_⟩
        simp [intOf]; try omega
    · obtain rfl : k = n := by omega
      have hki : ¬ (k : Int) < (k : Int) := by omega
      have HF : Hid (lockedB l route = false) := Lib.hid (by have h1 := HH.out.2; rwa [List.take_of_length_le (by have := HL.out; omega)] at h1)
      go_wp2_with fail
      go_ret
      exact ⟨by rw [HF.out]; rfl, HH.out.1⟩

set_option maxHeartbeats 8000000 in
set_option maxRecDepth 100000 in
theorem rmet_any (x : TA) (t : Tp) (B : Nat) (A : Option Addr) (n c : Nat) (l : List Lk) (route train : Int) (w : World) (ht : TpAt w B x t) (hs : TpSmall x t) (hB : B ≤ w.heap.size) (hl : SpAt w B A n c l) (hn : n ≤ 1000000) :
    Calls Tryz.prog 34 #[.agg x.cs, .slice A n c, .int .i64 route, .int .i64 train] w fun e w' => e = .returned (.bool (metB t l route train)) ∧ Keep Never w w' := by
  have HEx : Hid (∀ V r, Keep Never w V → Calls Tryz.prog 16 #[.agg x.cs, .int .i64 r] V (SpsRet (extM t r) V)) := Lib.hid (fun V r h => rext_any x t B r V (ht.keep h) hs (Nat.le_trans hB h.size))
  have HL := Lib.hid hl
  have HN : Hid (l.length = n) := Lib.hid hl.len
  obtain ⟨Ae, ne, ce, Aj, nj, cj, Ab, nb, cb, Ar, nr, cr⟩ := x
  simp only [TA.cs] at HEx ⊢
  clear ht hs hB hl
  obtain ⟨w1, hw1⟩ : ∃ V : World, w.alloc (.cells #[.slice Ae ne ce, .slice Aj nj cj, .slice Ab nb cb, .slice Ar nr cr] 27) = V := ⟨_, rfl⟩
  have kw1 : Keep Never w w1 := by rw [← hw1]; exact (Keep.refl _ _).alloc _
  have bw1 := Blk.new w 27 #[.slice Ae ne ce, .slice Aj nj cj, .slice Ab nb cb, .slice Ar nr cr]
  rw [hw1] at bw1
  have HB1 := Lib.hid bw1
  have HK := Lib.hid kw1
  clear kw1 bw1
  have y0 : w1.cell? ⟨w.heap.size, 0, none⟩ = some (.slice Ae ne ce) := HB1.out.cell 0
  have y1 : w1.cell? ⟨w.heap.size, 1, none⟩ = some (.slice Aj nj cj) := HB1.out.cell 1
  have y2 : w1.cell? ⟨w.heap.size, 2, none⟩ = some (.slice Ab nb cb) := HB1.out.cell 2
  have y3 : w1.cell? ⟨w.heap.size, 3, none⟩ = some (.slice Ar nr cr) := HB1.out.cell 3
  have HC := Lib.hid (HEx.out w1 route HK.out)
  go_enter Tryz.func34, Tryz.ntmps34
  go_wp2_with fail
  clear hw1
  refine HC.out.mono ?_
  rintro e w101 ⟨A6, n6, c6, rfl, hn6, hs6, hk1⟩
  have HS6 := Lib.hid hs6
  have HN6 : Hid (n6 ≤ 40) := Lib.hid (by have h1 := hs6.len; have h2 := extM_40 (t := t) route; omega)
  clear hs6 hn6
  have HK1 := Lib.hid (HK.out.trans hk1)
  have Hy1 := Lib.hid (HB1.out.keep hk1 (fun h => h))
  clear y0 y1 y2 y3 hk1 HC
  have HMe : Hid (∀ V A n c r, Keep Never w101 V → SpAt V V.heap.size A n c (extM t r) → Calls Tryz.prog 53 #[.slice A6 n6 c6, .slice A n c] V fun e w' => e = .returned (.bool (meetsM (extM t route) (extM t r))) ∧ Keep Never V w') := Lib.hid (fun V A n c r h hx => (rmeets_any V.heap.size A6 n6 c6 A n c (extM t route) _ V (HS6.out.here h) hx (by have := HN6.out; omega) (by have h1 := hx.len; have h2 := extM_40 (t := t) r; omega) (Nat.le_refl _)).mono (fun e w' ⟨r, h1, h2, h3⟩ => ⟨by rw [h1, meetsB_eq h2], h3⟩))
  go_wp2_with fail
  go_loopw [10] (fun i wr => ∃ k : Nat, k ≤ n ∧ i = .int .i64 k ∧ Hid (Keep Never w101 wr ∧ metB t (l.take k) route train = false)) (fun i _ => n - (intOf i).toNat)
  case atStart => exact ⟨0, by omega, rfl, Lib.hid ⟨Keep.refl _ _, rfl⟩⟩
  case round =>
    obtain ⟨k, hk, rfl, HH⟩ := hrel
    by_cases h0 : k < n
    · have hki : (k : Int) < (n : Int) := by omega
      obtain ⟨ad, s, hA, _, hs, c0, c1, c2⟩ := (HL.out.keep (HK1.out.trans HH.out.1)).rd.sp h0
      subst hA
      obtain ⟨s1, s2, s3⟩ := s
      simp only at c0 c1 c2
      have Hs := Lib.hid hs
      have HKr := Lib.hid HH.out.1
      have Hyr := Lib.hid (Hy1.out.keep HKr.out (fun h => h))
      have HCe := Lib.hid (fun V (h : Keep Never wr V) => HEx.out V s1 (HK1.out.trans (HKr.out.trans h)))
      obtain ⟨mb, hmb⟩ : ∃ z, meetsM (extM t route) (extM t s1) = z := ⟨_, rfl⟩
      have HCm := Lib.hid (fun V A n c (h : Keep Never wr V) (hx : SpAt V V.heap.size A n c (extM t s1)) => HMe.out V A n c s1 (HKr.out.trans h) hx)
      rw [hmb] at HCm
      have HMb := Lib.hid hmb
      clear hs hmb
      have y0 : wr.cell? ⟨w.heap.size, 0, none⟩ = some (.slice Ae ne ce) := Hyr.out.cell 0
      have y1 : wr.cell? ⟨w.heap.size, 1, none⟩ = some (.slice Aj nj cj) := Hyr.out.cell 1
      have y2 : wr.cell? ⟨w.heap.size, 2, none⟩ = some (.slice Ab nb cb) := Hyr.out.cell 2
      have y3 : wr.cell? ⟨w.heap.size, 3, none⟩ = some (.slice Ar nr cr) := Hyr.out.cell 3
      have HS2 : Hid (∀ W', Keep Never wr W' → Keep Never wr W' ∧ W'.cell? ⟨w.heap.size, 0, none⟩ = some (.slice Ae ne ce) ∧ W'.cell? ⟨w.heap.size, 1, none⟩ = some (.slice Aj nj cj) ∧ W'.cell? ⟨w.heap.size, 2, none⟩ = some (.slice Ab nb cb) ∧ W'.cell? ⟨w.heap.size, 3, none⟩ = some (.slice Ar nr cr) ∧ W'.cell? (ad.add (k * 3)) = some (.int .i64 s1) ∧ W'.cell? ⟨(ad.add (k * 3)).block, (ad.add (k * 3)).off + 1, none⟩ = some (.int .i64 s2)) := Lib.hid (fun W' h => ⟨h, keepT h y0, keepT h y1, keepT h y2, keepT h y3, keepT h c0, keepT h c1⟩)
      go_wp2_with fail
      clear y0 y1 y2 y3 c0 c1 c2
      go_region_held3 (fun W' => Keep Never wr W' ∧ W'.cell? ⟨w.heap.size, 0, none⟩ = some (.slice Ae ne ce) ∧ W'.cell? ⟨w.heap.size, 1, none⟩ = some (.slice Aj nj cj) ∧ W'.cell? ⟨w.heap.size, 2, none⟩ = some (.slice Ab nb cb) ∧ W'.cell? ⟨w.heap.size, 3, none⟩ = some (.slice Ar nr cr) ∧ W'.cell? (ad.add (k * 3)) = some (.int .i64 s1) ∧ W'.cell? ⟨(ad.add (k * 3)).block, (ad.add (k * 3)).off + 1, none⟩ = some (.int .i64 s2))
        (first | assumption | exact HS2.out _ ((Keep.refl Never wr).drew) | exact HS2.out _ (Keep.trans (And.left (by assumption)) hk3) | exact HS2.out _ (Keep.trans ((Keep.refl Never wr).drew) hk3))
        (first
          | (go_at_call 16; refine (HCe.out _ (by first | exact And.left (by assumption) | exact (Keep.refl Never wr).drew | exact Keep.refl Never wr)).mono ?_; rintro e w3 ⟨A7, n7, c7, rfl, hn7, hs7, hk3⟩; have HS7 : Hid (∀ V, Keep Never w3 V → SpAt V V.heap.size A7 n7 c7 (extM t s1)) := Lib.hid (fun V h => hs7.here h); have HK37 := Lib.hid (Keep.refl Never w3))
          | (go_at_call 53; refine (HCm.out _ A7 n7 c7 (by first | exact And.left (by assumption) | exact (Keep.refl Never wr).drew | exact Keep.refl Never wr) (HS7.out _ HK37.out)).mono ?_; rintro e w8 ⟨rfl, hk3⟩))
      all_goals
        rename_i hS
        have c1 := hS.2.2.2.2.2.2
        have HKe := Lib.hid (HKr.out.trans hS.1)
        clear hS
        by_cases g : s2 = train
        · have t0 : (s2 != train) = false := by simpa using g
          have HF : Hid (metB t (l.take (k + 1)) route train = false) := Lib.hid (by
            have h1 := HH.out.2
            unfold metB at h1 ⊢
            rw [List.take_add_one, Hs.out, List.any_append, h1]
            simp [g])
          clear g
          go_wp2_with fail
          refine ⟨⟨k + 1, by omega, by go_num, Lib.hid ⟨HKe.out, HF.out⟩⟩, ?_⟩
          simp [intOf]; try omega
        · have t0 : (s2 != train) = true := by simpa using g
          cases mb with
          | true =>
            have HF : Hid (metB t l route train = true) := Lib.hid (by unfold metB; rw [List.any_eq_true]; exact ⟨_, List.mem_of_getElem? Hs.out, by rw [t0, HMb.out]; rfl⟩)
            clear g
            go_wp2_with fail
            go_ret
            exact ⟨by rw [HF.out]; rfl, HK1.out.trans HKe.out⟩
          | false =>
            have HF : Hid (metB t (l.take (k + 1)) route train = false) := Lib.hid (by
              have h1 := HH.out.2
              unfold metB at h1 ⊢
              rw [List.take_add_one, Hs.out, List.any_append, h1]
              simp [HMb.out])
            clear g
            go_wp2_with fail
            refine ⟨⟨k + 1, by omega, by go_num, Lib.hid ⟨HKe.out, HF.out⟩⟩, ?_⟩
            simp [intOf]; try omega

    · obtain rfl : k = n := by omega
      have hki : ¬ (k : Int) < (k : Int) := by omega
      have HF : Hid (metB t l route train = false) := Lib.hid (by have h1 := HH.out.2; rwa [List.take_of_length_le (by have := HN.out; omega)] at h1)
      go_wp2_with fail
      go_ret
      exact ⟨by rw [HF.out]; rfl, HK1.out.trans HH.out.1⟩

end Go.Proofs.YtijdkjcjhfebfaaGreat
