/- Chapter 16: play, LockApart. -/
import Derived.Test.YtijdkjcjhfebfaaLckG
namespace Go.Proofs.Ytijdkjcjhfebfaa
open Go.RowKit

theorem o16_at {w : World} {B n c i : Nat} {A : Option Addr} {l : List Op16} (h : repO16.Sl w B A n c l) (hi : i < n) : ∃ ad s, A = some ad ∧ ad.block < B ∧ l[i]? = some s ∧ w.cell? (ad.add (i * 4)) = some (.bool s.1) ∧ w.cell? ⟨(ad.add (i * 4)).block, (ad.add (i * 4)).off + 1, none⟩ = some (.int .i64 s.2.1) ∧
    w.cell? ⟨(ad.add (i * 4)).block, (ad.add (i * 4)).off + 2, none⟩ = some (.int .i64 s.2.2.1) ∧ w.cell? ⟨(ad.add (i * 4)).block, (ad.add (i * 4)).off + 3, none⟩ = some (.int .i64 s.2.2.2) := by
  obtain ⟨ad, s, cs, e, hb, hs, ⟨c1, d1, rfl, rfl, ⟨c2, d2, rfl, ⟨rfl, _⟩, ⟨c3, d3, rfl, ⟨rfl, _⟩, ⟨rfl, _⟩⟩⟩⟩, hc⟩ := h.at_ hi
  have c0 := hc 0 (by decide)
  have c1 := hc 1 (by decide)
  have c2 := hc 2 (by decide)
  have c3 := hc 3 (by decide)
  have hsz : repO16.size = 4 := rfl
  rw [hsz] at c0 c1 c2 c3
  rw [fld _ _ (by omega)] at c1 c2 c3
  exact ⟨ad, s, e, hb, hs, c0, c1, c2, c3⟩
/-- one call of play -/
def stepI (t : Tp) (z : Itr) (o : Op16) : Itr := if o.1 = true then (if (freeI t z o.2.2.2).2 = 0 then (freeI t z o.2.2.2).1 else z) else (if (setI t z o.2.1 o.2.2.1).2.2 = 0 then (setI t z o.2.1 o.2.2.1).1 else z)
def playM (t : Tp) (l : List Op16) : Itr := l.foldl (stepI t) ([], 1)
theorem step_may {t : Tp} {z : Itr} {o : Op16} (h : mayI t z = true) : mayI t (stepI t z o) = true := by
  unfold stepI
  split
  · split
    · exact free_may (by assumption)
    · exact h
  · split
    · exact set_may (by assumption)
    · exact h
theorem play_take {t : Tp} {l : List Op16} {k : Nat} {o : Op16} (h : l[k]? = some o) : playM t (l.take (k + 1)) = stepI t (playM t (l.take k)) o := by
  unfold playM
  rw [List.take_add_one, h]
  simp [List.foldl_append]
theorem play_may {t : Tp} (h : mayI t ([], 1) = true) (l : List Op16) : mayI t (playM t l) = true := by
  unfold playM
  generalize (([], 1) : Itr) = z at h ⊢
  induction l generalizing z with
  | nil => exact h
  | cons o l ih => exact ih _ (step_may h)
/-- what play's loop keeps -/
structure PlayI (w w0 : World) (bx : Nat) (A : Option Addr) (n c : Nat) (z : Itr) (wr : World) : Prop where
  len : n = z.1.length
  blk : Blk wr bx 55 #[.slice A n c, .int .i64 z.2]
  own : Own wr w.heap.size 70 3 A n c (spCells z.1)
  box : Keep (fun q => q = bx) w0 wr
  keep : Keep Never w wr
/-- play answers -/
def PlayRet (z : Itr) (w : World) (e : Ending) (w' : World) : Prop := ∃ A n c, e = .returned (.tuple #[.agg #[.slice A n c, .int .i64 z.2], .bool true]) ∧ Hid (n = z.1.length) ∧ Own w' w.heap.size 70 3 A n c (spCells z.1) ∧ Keep Never w w'

set_option maxHeartbeats 16000000 in
set_option maxRecDepth 100000 in
theorem play_any (x : TA) (t : Tp) (B : Nat) (A1 : Option Addr) (m c1 : Nat) (l : List Op16) (w : World) (ht : TpAt w B x t) (hs : TpSmall x t) (hB : B ≤ w.heap.size) (hl : repO16.Sl w B A1 m c1 l) (hm : m ≤ 60) (hmay : mayI t ([], 1) = true) :
    Calls Try.prog 30 #[.agg x.cs, .slice A1 m c1] w (PlayRet (playM t l) w) := by
  have HFr : Hid (∀ V A n c l nx no, Keep Never w V → SpAt V V.heap.size A n c l → n ≤ 100 → Calls Try.prog 34 #[.agg x.cs, .agg #[.slice A n c, .int .i64 nx], .int .i64 no] V (FreeRet (freeI t (l, nx) no) V)) := Lib.hid (fun V A n c l nx no h hl hn => free16_any x t V.heap.size A n c l nx no V ((ht.keep h).wide (Nat.le_trans hB h.size)) hs (Nat.le_refl _) hl (by omega))
  have HSt : Hid (∀ V A n c l nx r tr, Keep Never w V → SpAt V V.heap.size A n c l → n ≤ 100 → Calls Try.prog 33 #[.agg x.cs, .agg #[.slice A n c, .int .i64 nx], .int .i64 r, .int .i64 tr] V (SetRet (setI t (l, nx) r tr) V)) := Lib.hid (fun V A n c l nx r tr h hl hn => set16_any x t V.heap.size A n c l nx r tr V ((ht.keep h).wide (Nat.le_trans hB h.size)) hs (Nat.le_refl _) hl (by omega))
  have HMy : Hid (∀ V A n c l nx, Keep Never w V → SpAt V V.heap.size A n c l → n ≤ 100 → Calls Try.prog 28 #[.agg x.cs, .agg #[.slice A n c, .int .i64 nx]] V fun e w' => e = .returned (.bool (mayI t (l, nx))) ∧ Keep Never V w') := Lib.hid (fun V A n c l nx h hl hn => may16_any x t V.heap.size A n c l nx V ((ht.keep h).wide (Nat.le_trans hB h.size)) hs (Nat.le_refl _) hl (by omega))
  have HL := Lib.hid hl
  have HLn : Hid (m = l.length) := Lib.hid hl.len
  have HMay := Lib.hid (play_may hmay)
  obtain ⟨Ae, ne, ce, Aj, nj, cj, Ab, nb, cb, Ar, nr, cr⟩ := x
  simp only [TA.cs] at HFr HSt HMy ⊢
  clear ht hs hB hl hmay
  obtain ⟨w1, hw1⟩ : ∃ V : World, w.alloc (.cells #[.slice Ae ne ce, .slice Aj nj cj, .slice Ab nb cb, .slice Ar nr cr] 27) = V := ⟨_, rfl⟩
  have zw1 : w1.heap.size = w.heap.size + 1 := by rw [← hw1]; simp
  have kw1 : Keep Never w w1 := by rw [← hw1]; exact (Keep.refl _ _).alloc _
  have bw1 := Blk.new w 27 #[.slice Ae ne ce, .slice Aj nj cj, .slice Ab nb cb, .slice Ar nr cr]
  rw [hw1] at bw1
  obtain ⟨w2, hw2⟩ : ∃ V : World, w1.alloc (.cells #[.slice none 0 0, .int .i64 0] 55) = V := ⟨_, rfl⟩
  have kw2 : Keep Never w1 w2 := by rw [← hw2]; exact (Keep.refl _ _).alloc _
  have bw2 := Blk.new w1 55 #[.slice none 0 0, .int .i64 0]
  rw [hw2, zw1] at bw2
  have HB1 := Lib.hid (bw1.keep kw2 (fun h => h))
  have HB2 := Lib.hid bw2
  have HK := Lib.hid (kw1.trans kw2)
  clear kw1 kw2 bw1 bw2
  have HN16 := Lib.hid (new16_any w2)
  go_enter Try.func30, Try.ntmps30
  go_wp2_with fail
  clear hw1 hw2 zw1
  refine HN16.out.mono ?_
  rintro en w101 ⟨rfl, hk1⟩
  have HK1 := Lib.hid (HK.out.trans hk1)
  have Hy1 := Lib.hid (HB1.out.keep hk1 (fun h => h))
  have Hr1 := Lib.hid (HB2.out.keep hk1 (fun h => h))
  clear hk1 HN16
  obtain ⟨w102, hw102⟩ : ∃ V : World, w101.alloc (.cells #[.slice none 0 0, .int .i64 1] 55) = V := ⟨_, rfl⟩
  have kx : Keep Never w101 w102 := by rw [← hw102]; exact (Keep.refl _ _).alloc _
  have bx := Blk.new w101 55 #[.slice none 0 0, .int .i64 1]
  rw [hw102] at bx
  obtain ⟨bo, hbo⟩ : ∃ q, w101.heap.size = q := ⟨_, rfl⟩
  rw [hbo] at bx
  have HBx2 := Lib.hid bx
  have HK2 := Lib.hid (HK1.out.trans kx)
  have Hy2 := Lib.hid (Hy1.out.keep kx (fun h => h))
  have Hr2 := Lib.hid (Hr1.out.keep kx (fun h => h))
  clear kx bx
  have HNb : Hid (w.heap.size + 1 < bo) := Lib.hid (by rw [← hbo]; exact Nat.lt_of_lt_of_le Hr1.out.lt (Nat.le_refl _))
  go_wp2_with fail
  clear hw102 hbo
  have HP0 : Hid (PlayI w w102 bo none 0 0 (playM t (l.take 0)) w102) := Lib.hid ⟨rfl, HBx2.out, Own.nil _ _ _ _, Keep.refl _ _, HK2.out⟩
  go_loopw [7] (fun i wr => ∃ k : Nat, k ≤ m ∧ i = .int .i64 k ∧ ∃ A n c, Hid (PlayI w w102 bo A n c (playM t (l.take k)) wr)) (fun i _ => m - (intOf i).toNat)
  case atStart => exact ⟨0, by omega, rfl, none, 0, 0, HP0.out⟩
  case round =>
    obtain ⟨k, hk, rfl, A, n, c, HH⟩ := hrel
    obtain ⟨⟨l0, nx⟩, hz⟩ : ∃ z, playM t (l.take k) = z := ⟨_, rfl⟩
    have HZ := Lib.hid hz
    rw [hz] at HH
    have hn24 : n ≤ 24 := by have h1 := (mayI_of (HMay.out (l.take k))).len; rw [hz] at h1; have h2 := HH.out.len; simp only at h1 h2; omega
    have Hn24 := Lib.hid hn24
    have Hx := Lib.hid HH.out.blk
    have HO := Lib.hid HH.out.own
    have HKr := Lib.hid HH.out.keep
    have HKb := Lib.hid HH.out.box
    have Hy := Lib.hid (Hy2.out.keep HKb.out (by have := HNb.out; omega))
    have Hr := Lib.hid (Hr2.out.keep HKb.out (by have := HNb.out; omega))
    clear HH hz hn24
    simp only at Hx HO
    by_cases h0 : k < m
    · have hkz : (k : Int) < (m : Int) := by omega
      obtain ⟨ad, s, hA, _, hs, c0, c1, c2, c3⟩ := o16_at (HL.out.keep HKr.out (fun _ h => h.elim)) h0
      obtain ⟨s1, s2, s3, s4⟩ := s
      simp only at c0 c1 c2 c3
      subst hA
      have HPk : Hid (playM t (l.take (k + 1)) = stepI t (l0, nx) (s1, s2, s3, s4)) := Lib.hid (by rw [play_take hs, HZ.out])
      clear hs
      cases s1 with
      | true =>
        have y0 : wr.cell? ⟨w.heap.size, 0, none⟩ = some (.slice Ae ne ce) := Hy.out.cell 0
        have y1 : wr.cell? ⟨w.heap.size, 1, none⟩ = some (.slice Aj nj cj) := Hy.out.cell 1
        have y2 : wr.cell? ⟨w.heap.size, 2, none⟩ = some (.slice Ab nb cb) := Hy.out.cell 2
        have y3 : wr.cell? ⟨w.heap.size, 3, none⟩ = some (.slice Ar nr cr) := Hy.out.cell 3
        have o0 : wr.cell? ⟨bo, 0, none⟩ = some (.slice A n c) := Hx.out.cell 0
        have o1 : wr.cell? ⟨bo, 1, none⟩ = some (.int .i64 nx) := Hx.out.cell 1
        obtain ⟨⟨⟨lz, nz⟩, ez⟩, hz⟩ : ∃ z, freeI t (l0, nx) s4 = z := ⟨_, rfl⟩
        have hw : ∀ V, Keep Never wr V → _ := fun V h => HFr.out V A n c l0 nx s4 (HKr.out.trans h) (lkAt_own (HO.out.keep h (fun _ _ h => h))) (by have := Hn24.out; omega)
        rw [hz] at hw
        unfold FreeRet at hw
        dsimp only at hw
        have HC := Lib.hid hw
        have HZz := Lib.hid hz
        clear hw hz
        have HS2 : Hid (∀ W', Keep Never wr W' → Keep Never wr W' ∧ W'.cell? ⟨w.heap.size, 0, none⟩ = some (.slice Ae ne ce) ∧ W'.cell? ⟨w.heap.size, 1, none⟩ = some (.slice Aj nj cj) ∧ W'.cell? ⟨w.heap.size, 2, none⟩ = some (.slice Ab nb cb) ∧ W'.cell? ⟨w.heap.size, 3, none⟩ = some (.slice Ar nr cr) ∧ W'.cell? ⟨bo, 0, none⟩ = some (.slice A n c) ∧ W'.cell? ⟨bo, 1, none⟩ = some (.int .i64 nx) ∧ W'.cell? ⟨(ad.add (k * 4)).block, (ad.add (k * 4)).off + 3, none⟩ = some (.int .i64 s4)) := Lib.hid (fun W' h => ⟨h, keepT h y0, keepT h y1, keepT h y2, keepT h y3, keepT h o0, keepT h o1, keepT h c3⟩)
        go_wp2_with fail
        clear y0 y1 y2 y3 o0 o1 c3 c0 c1 c2
        go_region_held3 (fun W' => Keep Never wr W' ∧ W'.cell? ⟨w.heap.size, 0, none⟩ = some (.slice Ae ne ce) ∧ W'.cell? ⟨w.heap.size, 1, none⟩ = some (.slice Aj nj cj) ∧ W'.cell? ⟨w.heap.size, 2, none⟩ = some (.slice Ab nb cb) ∧ W'.cell? ⟨w.heap.size, 3, none⟩ = some (.slice Ar nr cr) ∧ W'.cell? ⟨bo, 0, none⟩ = some (.slice A n c) ∧ W'.cell? ⟨bo, 1, none⟩ = some (.int .i64 nx) ∧ W'.cell? ⟨(ad.add (k * 4)).block, (ad.add (k * 4)).off + 3, none⟩ = some (.int .i64 s4))
          (first | assumption | exact HS2.out _ ((Keep.refl Never wr).drew) | exact HS2.out _ (Keep.trans (And.left (by assumption)) hk9) | exact HS2.out _ (Keep.trans ((Keep.refl Never wr).drew) hk9) | exact HS2.out _ (Keep.alloc (And.left (by assumption)) _) | exact HS2.out _ (Keep.alloc (Keep.trans ((Keep.refl Never wr).drew) hk9) _) | exact HS2.out _ (put2_keep (And.left (by assumption)) (.inr (by first | exact Nat.le_refl _ | exact (Keep.size (And.left (by assumption))) | omega)) _ _))
          (first
            | (go_at_call 34; refine (HC.out _ (by first | exact And.left (by assumption) | exact (Keep.refl Never wr).drew | exact Keep.refl Never wr | exact Keep.alloc (And.left (by assumption)) _)).mono ?_; rintro en w9 ⟨A4, n4, c4, rfl, hn4, ho4, hk9⟩; have HK9 : Hid (Keep Never wr w9) := Lib.hid (by first | exact Keep.trans (And.left (by assumption)) hk9 | exact Keep.trans ((Keep.refl Never wr).drew) hk9); have HO9 := Lib.hid ho4; have nb9 : Hid (Blk w9 wr.heap.size 55 #[.slice none 0 0, .int .i64 0]) := Lib.hid (by first | exact Blk.keep (Blk.new wr 55 #[.slice none 0 0, .int .i64 0]) hk9 (fun h => h) | exact Blk.keep (Blk.drew (Blk.new wr 55 #[.slice none 0 0, .int .i64 0])) hk9 (fun h => h) | exact Blk.keep (Blk.new wr.drew 55 #[.slice none 0 0, .int .i64 0]) hk9 (fun h => h)); have n0 : w9.cell? ⟨wr.heap.size, 0, none⟩ = some (.slice none 0 0) := nb9.out.cell 0; have n1 : w9.cell? ⟨wr.heap.size, 1, none⟩ = some (.int .i64 0) := nb9.out.cell 1; have m0 := nb9.out.frozen 0; have m1 := nb9.out.frozen 1)
            | (go_at_call 34; refine (HC.out _ (by first | exact And.left (by assumption) | exact (Keep.refl Never wr).drew | exact Keep.refl Never wr | exact Keep.alloc (And.left (by assumption)) _)).mono ?_; rintro en w9 ⟨A4, n4, c4, rfl, hn4, ho4, hk9⟩; have HK9 : Hid (Keep Never wr w9) := Lib.hid (by first | exact Keep.trans (And.left (by assumption)) hk9 | exact Keep.trans ((Keep.refl Never wr).drew) hk9); have HO9 := Lib.hid ho4))
        all_goals
          rename_i hS
          clear hS
          (try clear n0 n1 m0 m1)
          first
          | (obtain ⟨w7, hw7⟩ : ∃ V : World, (w9.setCell ⟨wr.heap.size, 0, none⟩ (.slice A4 n4 c4)).setCell ⟨wr.heap.size, 1, none⟩ (.int .i64 nz) = V := ⟨_, rfl⟩
             rw [hw7]
             obtain ⟨b7, hb7⟩ : ∃ q, wr.heap.size = q := ⟨_, rfl⟩
             rw [hb7] at nb9 hw7 ⊢
             have HB7 : Hid (Blk w7 b7 55 #[.slice A4 n4 c4, .int .i64 nz]) := Lib.hid (by rw [← hw7]; exact put2_blk nb9.out _ _)
             have HK7 : Hid (Keep Never wr w7) := Lib.hid (by rw [← hw7]; exact put2_keep HK9.out (.inr (by omega)) _ _)
             have HO7 := Lib.hid (HO9.out.keep (show Keep (fun i => i = b7) w9 w7 from by rw [← hw7]; exact put2_keep (Keep.refl (fun i => i = b7) w9) (.inl rfl) _ _) (HO9.out.ne_blk nb9.out (by decide)))
             have HN7 : Hid (wr.heap.size ≤ b7) := Lib.hid (by omega)
             clear hw7 hb7 nb9 HO9 HK9 hk9)
          | (obtain ⟨w7, hw7⟩ : ∃ V : World, w9.alloc (.cells #[.slice A4 n4 c4, .int .i64 nz] 55) = V := ⟨_, rfl⟩
             rw [hw7]
             obtain ⟨b7, hb7⟩ : ∃ q, w9.heap.size = q := ⟨_, rfl⟩
             rw [hb7]
             have HB7 : Hid (Blk w7 b7 55 #[.slice A4 n4 c4, .int .i64 nz]) := Lib.hid (by rw [← hw7, ← hb7]; exact Blk.new _ _ _)
             have HK7 : Hid (Keep Never wr w7) := Lib.hid (by rw [← hw7]; exact HK9.out.alloc _)
             have HO7 := Lib.hid (HO9.out.keep (show Keep Never w9 w7 from by rw [← hw7]; exact (Keep.refl _ _).alloc _) (fun _ _ h => h))
             have HN7 : Hid (wr.heap.size ≤ b7) := Lib.hid (by rw [← hb7]; exact HK9.out.size)
             clear hw7 hb7 HO9 HK9 hk9)
        all_goals
          have HKb7 := Lib.hid (HKb.out.trans (HK7.out.mono (fun _ _ h => h.elim)))
          have HKw7 := Lib.hid (HKr.out.trans HK7.out)
          have Hy7 := Lib.hid (Hy.out.keep HK7.out (fun h => h))
          have Hx7 := Lib.hid (Hx.out.keep HK7.out (fun h => h))
          have HOo7 := Lib.hid (HO.out.keep HK7.out (fun _ _ h => h))
          have HN4 := hn4
          have HO7b := Lib.hid (HO7.out.less (Nat.le_trans HKr.out.size (by first | exact Nat.le_refl _ | simp)))
          have HNn : Hid (bo < b7) := Lib.hid (Nat.lt_of_lt_of_le Hx.out.lt HN7.out)
          clear HS2 HC
          by_cases g : ez = 0
          · have t0 : (ez == 0) = true := by simpa using g
            have HF : Hid (playM t (l.take (k + 1)) = (lz, nz)) := Lib.hid (by rw [HPk.out]; unfold stepI; rw [if_pos (by rfl), if_pos (by rw [HZz.out]; exact g), HZz.out])
            have v0 : w7.cell? ⟨b7, 0, none⟩ = some (.slice A4 n4 c4) := HB7.out.cell 0
            have v1 : w7.cell? ⟨b7, 1, none⟩ = some (.int .i64 nz) := HB7.out.cell 1
            have o0 : w7.cell? ⟨bo, 0, none⟩ = some (.slice A n c) := Hx7.out.cell 0
            have o1 : w7.cell? ⟨bo, 1, none⟩ = some (.int .i64 nx) := Hx7.out.cell 1
            have f0 := Hx7.out.frozen 0
            have f1 := Hx7.out.frozen 1
            clear g
            go_upto_region 12 with (fail)
            obtain ⟨w8, hw8⟩ : ∃ V : World, (w7.setCell ⟨bo, 0, none⟩ (.slice A4 n4 c4)).setCell ⟨bo, 1, none⟩ (.int .i64 nz) = V := ⟨_, rfl⟩
            rw [hw8]
            have hk8 : Keep (fun q => q = bo) w7 w8 := by rw [← hw8]; exact put2_keep (Keep.refl (fun q => q = bo) w7) (.inl rfl) _ _
            have Hx8 : Hid (Blk w8 bo 55 #[.slice A4 n4 c4, .int .i64 nz]) := Lib.hid (by rw [← hw8]; exact put2_blk Hx7.out _ _)
            have HO8 := Lib.hid (HO7b.out.keep hk8 (HO7b.out.ne_blk Hx7.out (by decide)))
            have HKb8 := Lib.hid (HKb7.out.trans hk8)
            have HKw8 := Lib.hid (HKw7.out.then_ hk8 (fun i hi e => by have := HNb.out; omega))
            have HyT := Lib.hid (Hy7.out.keep hk8 (by have := HNb.out; omega))
            have HlnT : Hid (n4 = lz.length) := HN4
            have hn4b : n4 ≤ 100 := by have h1 := (mayI_of (HMay.out (l.take (k + 1)))).len; rw [HF.out] at h1; have h2 := HN4.out; simp only at h1 h2; omega
            have Hn4b := Lib.hid hn4b
            clear hw8 hk8 v0 v1 o0 o1 f0 f1 t0 hn4b
            have y0 : w8.cell? ⟨w.heap.size, 0, none⟩ = some (.slice Ae ne ce) := HyT.out.cell 0
            have y1 : w8.cell? ⟨w.heap.size, 1, none⟩ = some (.slice Aj nj cj) := HyT.out.cell 1
            have y2 : w8.cell? ⟨w.heap.size, 2, none⟩ = some (.slice Ab nb cb) := HyT.out.cell 2
            have y3 : w8.cell? ⟨w.heap.size, 3, none⟩ = some (.slice Ar nr cr) := HyT.out.cell 3
            have o0 : w8.cell? ⟨bo, 0, none⟩ = some (.slice A4 n4 c4) := Hx8.out.cell 0
            have o1 : w8.cell? ⟨bo, 1, none⟩ = some (.int .i64 nz) := Hx8.out.cell 1
            have hw := HMy.out w8 A4 n4 c4 lz nz HKw8.out (lkAt_own HO8.out) Hn4b.out
            have hm := HMay.out (l.take (k + 1))
            rw [HF.out] at hm
            rw [hm] at hw
            have HC := Lib.hid hw
            clear hw hm
            go_wp2_with fail
            refine HC.out.mono ?_
            rintro en w90 ⟨rfl, hk90⟩
            have HFin : Hid (PlayI w w102 bo A4 n4 c4 (playM t (l.take (k + 1))) w90) := Lib.hid (by
              rw [HF.out]
              exact ⟨HlnT.out, Hx8.out.keep hk90 (fun h => h), HO8.out.keep hk90 (fun _ _ h => h), HKb8.out.trans (hk90.mono (fun _ _ h => h.elim)), HKw8.out.trans hk90⟩)
            clear hk90 HC y0 y1 y2 y3 o0 o1
            go_wp2_with fail
            refine ⟨⟨k + 1, by omega, by go_num, A4, n4, c4, HFin.out⟩, ?_⟩
            simp [intOf]; try omega
          · have t0 : (ez == 0) = false := by simpa using g
            have HF : Hid (playM t (l.take (k + 1)) = (l0, nx)) := Lib.hid (by rw [HPk.out]; unfold stepI; rw [if_pos (by rfl), if_neg (by rw [HZz.out]; exact g)])
            clear g
            go_upto_region 12 with (fail)
            clear t0
            have HyT := Lib.hid Hy7.out
            have HlnT : Hid (n = l0.length) := Lib.hid (by have h1 := HOo7.out.len; rw [len_spCells] at h1; omega)
            have y0 : w7.cell? ⟨w.heap.size, 0, none⟩ = some (.slice Ae ne ce) := HyT.out.cell 0
            have y1 : w7.cell? ⟨w.heap.size, 1, none⟩ = some (.slice Aj nj cj) := HyT.out.cell 1
            have y2 : w7.cell? ⟨w.heap.size, 2, none⟩ = some (.slice Ab nb cb) := HyT.out.cell 2
            have y3 : w7.cell? ⟨w.heap.size, 3, none⟩ = some (.slice Ar nr cr) := HyT.out.cell 3
            have o0 : w7.cell? ⟨bo, 0, none⟩ = some (.slice A n c) := Hx7.out.cell 0
            have o1 : w7.cell? ⟨bo, 1, none⟩ = some (.int .i64 nx) := Hx7.out.cell 1
            have hw := HMy.out w7 A n c l0 nx HKw7.out (lkAt_own HOo7.out) (by have := Hn24.out; omega)
            have hm := HMay.out (l.take (k + 1))
            rw [HF.out] at hm
            rw [hm] at hw
            have HC := Lib.hid hw
            clear hw hm
            go_wp2_with fail
            refine HC.out.mono ?_
            rintro en w90 ⟨rfl, hk90⟩
            have HFin : Hid (PlayI w w102 bo A n c (playM t (l.take (k + 1))) w90) := Lib.hid (by
              rw [HF.out]
              exact ⟨HlnT.out, Hx7.out.keep hk90 (fun h => h), HOo7.out.keep hk90 (fun _ _ h => h), HKb7.out.trans (hk90.mono (fun _ _ h => h.elim)), HKw7.out.trans hk90⟩)
            clear hk90 HC y0 y1 y2 y3 o0 o1
            go_wp2_with fail
            refine ⟨⟨k + 1, by omega, by go_num, A, n, c, HFin.out⟩, ?_⟩
            simp [intOf]; try omega

      | false =>
        have y0 : wr.cell? ⟨w.heap.size, 0, none⟩ = some (.slice Ae ne ce) := Hy.out.cell 0
        have y1 : wr.cell? ⟨w.heap.size, 1, none⟩ = some (.slice Aj nj cj) := Hy.out.cell 1
        have y2 : wr.cell? ⟨w.heap.size, 2, none⟩ = some (.slice Ab nb cb) := Hy.out.cell 2
        have y3 : wr.cell? ⟨w.heap.size, 3, none⟩ = some (.slice Ar nr cr) := Hy.out.cell 3
        have o0 : wr.cell? ⟨bo, 0, none⟩ = some (.slice A n c) := Hx.out.cell 0
        have o1 : wr.cell? ⟨bo, 1, none⟩ = some (.int .i64 nx) := Hx.out.cell 1
        obtain ⟨⟨⟨lz, nz⟩, nz2, ez⟩, hz⟩ : ∃ z, setI t (l0, nx) s2 s3 = z := ⟨_, rfl⟩
        have hw : ∀ V, Keep Never wr V → _ := fun V h => HSt.out V A n c l0 nx s2 s3 (HKr.out.trans h) (lkAt_own (HO.out.keep h (fun _ _ h => h))) (by have := Hn24.out; omega)
        rw [hz] at hw
        unfold SetRet at hw
        dsimp only at hw
        have HC := Lib.hid hw
        have HZz := Lib.hid hz
        clear hw hz
        have HS2 : Hid (∀ W', Keep Never wr W' → Keep Never wr W' ∧ W'.cell? ⟨w.heap.size, 0, none⟩ = some (.slice Ae ne ce) ∧ W'.cell? ⟨w.heap.size, 1, none⟩ = some (.slice Aj nj cj) ∧ W'.cell? ⟨w.heap.size, 2, none⟩ = some (.slice Ab nb cb) ∧ W'.cell? ⟨w.heap.size, 3, none⟩ = some (.slice Ar nr cr) ∧ W'.cell? ⟨bo, 0, none⟩ = some (.slice A n c) ∧ W'.cell? ⟨bo, 1, none⟩ = some (.int .i64 nx) ∧ W'.cell? ⟨(ad.add (k * 4)).block, (ad.add (k * 4)).off + 1, none⟩ = some (.int .i64 s2) ∧ W'.cell? ⟨(ad.add (k * 4)).block, (ad.add (k * 4)).off + 2, none⟩ = some (.int .i64 s3)) := Lib.hid (fun W' h => ⟨h, keepT h y0, keepT h y1, keepT h y2, keepT h y3, keepT h o0, keepT h o1, keepT h c1, keepT h c2⟩)
        go_wp2_with fail
        clear y0 y1 y2 y3 o0 o1 c1 c2 c0 c3
        go_region_held3 (fun W' => Keep Never wr W' ∧ W'.cell? ⟨w.heap.size, 0, none⟩ = some (.slice Ae ne ce) ∧ W'.cell? ⟨w.heap.size, 1, none⟩ = some (.slice Aj nj cj) ∧ W'.cell? ⟨w.heap.size, 2, none⟩ = some (.slice Ab nb cb) ∧ W'.cell? ⟨w.heap.size, 3, none⟩ = some (.slice Ar nr cr) ∧ W'.cell? ⟨bo, 0, none⟩ = some (.slice A n c) ∧ W'.cell? ⟨bo, 1, none⟩ = some (.int .i64 nx) ∧ W'.cell? ⟨(ad.add (k * 4)).block, (ad.add (k * 4)).off + 1, none⟩ = some (.int .i64 s2) ∧ W'.cell? ⟨(ad.add (k * 4)).block, (ad.add (k * 4)).off + 2, none⟩ = some (.int .i64 s3))
          (first | assumption | exact HS2.out _ ((Keep.refl Never wr).drew) | exact HS2.out _ (Keep.trans (And.left (by assumption)) hk9) | exact HS2.out _ (Keep.trans ((Keep.refl Never wr).drew) hk9) | exact HS2.out _ (Keep.alloc (And.left (by assumption)) _) | exact HS2.out _ (Keep.alloc (Keep.trans ((Keep.refl Never wr).drew) hk9) _) | exact HS2.out _ (put2_keep (And.left (by assumption)) (.inr (by first | exact Nat.le_refl _ | exact (Keep.size (And.left (by assumption))) | omega)) _ _))
          (first
            | (go_at_call 33; refine (HC.out _ (by first | exact And.left (by assumption) | exact (Keep.refl Never wr).drew | exact Keep.refl Never wr | exact Keep.alloc (And.left (by assumption)) _)).mono ?_; rintro en w9 ⟨A4, n4, c4, rfl, hn4, ho4, hk9⟩; have HK9 : Hid (Keep Never wr w9) := Lib.hid (by first | exact Keep.trans (And.left (by assumption)) hk9 | exact Keep.trans ((Keep.refl Never wr).drew) hk9); have HO9 := Lib.hid ho4; have nb9 : Hid (Blk w9 wr.heap.size 55 #[.slice none 0 0, .int .i64 0]) := Lib.hid (by first | exact Blk.keep (Blk.new wr 55 #[.slice none 0 0, .int .i64 0]) hk9 (fun h => h) | exact Blk.keep (Blk.drew (Blk.new wr 55 #[.slice none 0 0, .int .i64 0])) hk9 (fun h => h) | exact Blk.keep (Blk.new wr.drew 55 #[.slice none 0 0, .int .i64 0]) hk9 (fun h => h)); have n0 : w9.cell? ⟨wr.heap.size, 0, none⟩ = some (.slice none 0 0) := nb9.out.cell 0; have n1 : w9.cell? ⟨wr.heap.size, 1, none⟩ = some (.int .i64 0) := nb9.out.cell 1; have m0 := nb9.out.frozen 0; have m1 := nb9.out.frozen 1)
            | (go_at_call 33; refine (HC.out _ (by first | exact And.left (by assumption) | exact (Keep.refl Never wr).drew | exact Keep.refl Never wr | exact Keep.alloc (And.left (by assumption)) _)).mono ?_; rintro en w9 ⟨A4, n4, c4, rfl, hn4, ho4, hk9⟩; have HK9 : Hid (Keep Never wr w9) := Lib.hid (by first | exact Keep.trans (And.left (by assumption)) hk9 | exact Keep.trans ((Keep.refl Never wr).drew) hk9); have HO9 := Lib.hid ho4))
        all_goals
          rename_i hS
          clear hS
          (try clear n0 n1 m0 m1)
          first
          | (obtain ⟨w7, hw7⟩ : ∃ V : World, (w9.setCell ⟨wr.heap.size, 0, none⟩ (.slice A4 n4 c4)).setCell ⟨wr.heap.size, 1, none⟩ (.int .i64 nz) = V := ⟨_, rfl⟩
             rw [hw7]
             obtain ⟨b7, hb7⟩ : ∃ q, wr.heap.size = q := ⟨_, rfl⟩
             rw [hb7] at nb9 hw7 ⊢
             have HB7 : Hid (Blk w7 b7 55 #[.slice A4 n4 c4, .int .i64 nz]) := Lib.hid (by rw [← hw7]; exact put2_blk nb9.out _ _)
             have HK7 : Hid (Keep Never wr w7) := Lib.hid (by rw [← hw7]; exact put2_keep HK9.out (.inr (by omega)) _ _)
             have HO7 := Lib.hid (HO9.out.keep (show Keep (fun i => i = b7) w9 w7 from by rw [← hw7]; exact put2_keep (Keep.refl (fun i => i = b7) w9) (.inl rfl) _ _) (HO9.out.ne_blk nb9.out (by decide)))
             have HN7 : Hid (wr.heap.size ≤ b7) := Lib.hid (by omega)
             clear hw7 hb7 nb9 HO9 HK9 hk9)
          | (obtain ⟨w7, hw7⟩ : ∃ V : World, w9.alloc (.cells #[.slice A4 n4 c4, .int .i64 nz] 55) = V := ⟨_, rfl⟩
             rw [hw7]
             obtain ⟨b7, hb7⟩ : ∃ q, w9.heap.size = q := ⟨_, rfl⟩
             rw [hb7]
             have HB7 : Hid (Blk w7 b7 55 #[.slice A4 n4 c4, .int .i64 nz]) := Lib.hid (by rw [← hw7, ← hb7]; exact Blk.new _ _ _)
             have HK7 : Hid (Keep Never wr w7) := Lib.hid (by rw [← hw7]; exact HK9.out.alloc _)
             have HO7 := Lib.hid (HO9.out.keep (show Keep Never w9 w7 from by rw [← hw7]; exact (Keep.refl _ _).alloc _) (fun _ _ h => h))
             have HN7 : Hid (wr.heap.size ≤ b7) := Lib.hid (by rw [← hb7]; exact HK9.out.size)
             clear hw7 hb7 HO9 HK9 hk9)
        all_goals
          have HKb7 := Lib.hid (HKb.out.trans (HK7.out.mono (fun _ _ h => h.elim)))
          have HKw7 := Lib.hid (HKr.out.trans HK7.out)
          have Hy7 := Lib.hid (Hy.out.keep HK7.out (fun h => h))
          have Hx7 := Lib.hid (Hx.out.keep HK7.out (fun h => h))
          have HOo7 := Lib.hid (HO.out.keep HK7.out (fun _ _ h => h))
          have HN4 := hn4
          have HO7b := Lib.hid (HO7.out.less (Nat.le_trans HKr.out.size (by first | exact Nat.le_refl _ | simp)))
          have HNn : Hid (bo < b7) := Lib.hid (Nat.lt_of_lt_of_le Hx.out.lt HN7.out)
          clear HS2 HC
          by_cases g : ez = 0
          · have t0 : (ez == 0) = true := by simpa using g
            have HF : Hid (playM t (l.take (k + 1)) = (lz, nz)) := Lib.hid (by rw [HPk.out]; unfold stepI; rw [if_neg (by simp), if_pos (by rw [HZz.out]; exact g), HZz.out])
            have v0 : w7.cell? ⟨b7, 0, none⟩ = some (.slice A4 n4 c4) := HB7.out.cell 0
            have v1 : w7.cell? ⟨b7, 1, none⟩ = some (.int .i64 nz) := HB7.out.cell 1
            have o0 : w7.cell? ⟨bo, 0, none⟩ = some (.slice A n c) := Hx7.out.cell 0
            have o1 : w7.cell? ⟨bo, 1, none⟩ = some (.int .i64 nx) := Hx7.out.cell 1
            have f0 := Hx7.out.frozen 0
            have f1 := Hx7.out.frozen 1
            clear g
            go_upto_region 12 with (fail)
            obtain ⟨w8, hw8⟩ : ∃ V : World, (w7.setCell ⟨bo, 0, none⟩ (.slice A4 n4 c4)).setCell ⟨bo, 1, none⟩ (.int .i64 nz) = V := ⟨_, rfl⟩
            rw [hw8]
            have hk8 : Keep (fun q => q = bo) w7 w8 := by rw [← hw8]; exact put2_keep (Keep.refl (fun q => q = bo) w7) (.inl rfl) _ _
            have Hx8 : Hid (Blk w8 bo 55 #[.slice A4 n4 c4, .int .i64 nz]) := Lib.hid (by rw [← hw8]; exact put2_blk Hx7.out _ _)
            have HO8 := Lib.hid (HO7b.out.keep hk8 (HO7b.out.ne_blk Hx7.out (by decide)))
            have HKb8 := Lib.hid (HKb7.out.trans hk8)
            have HKw8 := Lib.hid (HKw7.out.then_ hk8 (fun i hi e => by have := HNb.out; omega))
            have HyT := Lib.hid (Hy7.out.keep hk8 (by have := HNb.out; omega))
            have HlnT : Hid (n4 = lz.length) := HN4
            have hn4b : n4 ≤ 100 := by have h1 := (mayI_of (HMay.out (l.take (k + 1)))).len; rw [HF.out] at h1; have h2 := HN4.out; simp only at h1 h2; omega
            have Hn4b := Lib.hid hn4b
            clear hw8 hk8 v0 v1 o0 o1 f0 f1 t0 hn4b
            have y0 : w8.cell? ⟨w.heap.size, 0, none⟩ = some (.slice Ae ne ce) := HyT.out.cell 0
            have y1 : w8.cell? ⟨w.heap.size, 1, none⟩ = some (.slice Aj nj cj) := HyT.out.cell 1
            have y2 : w8.cell? ⟨w.heap.size, 2, none⟩ = some (.slice Ab nb cb) := HyT.out.cell 2
            have y3 : w8.cell? ⟨w.heap.size, 3, none⟩ = some (.slice Ar nr cr) := HyT.out.cell 3
            have o0 : w8.cell? ⟨bo, 0, none⟩ = some (.slice A4 n4 c4) := Hx8.out.cell 0
            have o1 : w8.cell? ⟨bo, 1, none⟩ = some (.int .i64 nz) := Hx8.out.cell 1
            have hw := HMy.out w8 A4 n4 c4 lz nz HKw8.out (lkAt_own HO8.out) Hn4b.out
            have hm := HMay.out (l.take (k + 1))
            rw [HF.out] at hm
            rw [hm] at hw
            have HC := Lib.hid hw
            clear hw hm
            go_wp2_with fail
            refine HC.out.mono ?_
            rintro en w90 ⟨rfl, hk90⟩
            have HFin : Hid (PlayI w w102 bo A4 n4 c4 (playM t (l.take (k + 1))) w90) := Lib.hid (by
              rw [HF.out]
              exact ⟨HlnT.out, Hx8.out.keep hk90 (fun h => h), HO8.out.keep hk90 (fun _ _ h => h), HKb8.out.trans (hk90.mono (fun _ _ h => h.elim)), HKw8.out.trans hk90⟩)
            clear hk90 HC y0 y1 y2 y3 o0 o1
            go_wp2_with fail
            refine ⟨⟨k + 1, by omega, by go_num, A4, n4, c4, HFin.out⟩, ?_⟩
            simp [intOf]; try omega
          · have t0 : (ez == 0) = false := by simpa using g
            have HF : Hid (playM t (l.take (k + 1)) = (l0, nx)) := Lib.hid (by rw [HPk.out]; unfold stepI; rw [if_neg (by simp), if_neg (by rw [HZz.out]; exact g)])
            clear g
            go_upto_region 12 with (fail)
            clear t0
            have HyT := Lib.hid Hy7.out
            have HlnT : Hid (n = l0.length) := Lib.hid (by have h1 := HOo7.out.len; rw [len_spCells] at h1; omega)
            have y0 : w7.cell? ⟨w.heap.size, 0, none⟩ = some (.slice Ae ne ce) := HyT.out.cell 0
            have y1 : w7.cell? ⟨w.heap.size, 1, none⟩ = some (.slice Aj nj cj) := HyT.out.cell 1
            have y2 : w7.cell? ⟨w.heap.size, 2, none⟩ = some (.slice Ab nb cb) := HyT.out.cell 2
            have y3 : w7.cell? ⟨w.heap.size, 3, none⟩ = some (.slice Ar nr cr) := HyT.out.cell 3
            have o0 : w7.cell? ⟨bo, 0, none⟩ = some (.slice A n c) := Hx7.out.cell 0
            have o1 : w7.cell? ⟨bo, 1, none⟩ = some (.int .i64 nx) := Hx7.out.cell 1
            have hw := HMy.out w7 A n c l0 nx HKw7.out (lkAt_own HOo7.out) (by have := Hn24.out; omega)
            have hm := HMay.out (l.take (k + 1))
            rw [HF.out] at hm
            rw [hm] at hw
            have HC := Lib.hid hw
            clear hw hm
            go_wp2_with fail
            refine HC.out.mono ?_
            rintro en w90 ⟨rfl, hk90⟩
            have HFin : Hid (PlayI w w102 bo A n c (playM t (l.take (k + 1))) w90) := Lib.hid (by
              rw [HF.out]
              exact ⟨HlnT.out, Hx7.out.keep hk90 (fun h => h), HOo7.out.keep hk90 (fun _ _ h => h), HKb7.out.trans (hk90.mono (fun _ _ h => h.elim)), HKw7.out.trans hk90⟩)
            clear hk90 HC y0 y1 y2 y3 o0 o1
            go_wp2_with fail
            refine ⟨⟨k + 1, by omega, by go_num, A, n, c, HFin.out⟩, ?_⟩
            simp [intOf]; try omega

    · obtain rfl : k = m := by omega
      have hkz : ¬ (k : Int) < (k : Int) := by omega
      have HT : Hid (playM t l = (l0, nx)) := Lib.hid (by rw [← HZ.out, List.take_of_length_le (by have := HLn.out; omega)])
      have o0 : wr.cell? ⟨bo, 0, none⟩ = some (.slice A n c) := Hx.out.cell 0
      have o1 : wr.cell? ⟨bo, 1, none⟩ = some (.int .i64 nx) := Hx.out.cell 1
      have r0 : wr.cell? ⟨w.heap.size + 1, 0, none⟩ = some (.slice none 0 0) := Hr.out.cell 0
      have r1 : wr.cell? ⟨w.heap.size + 1, 1, none⟩ = some (.int .i64 0) := Hr.out.cell 1
      have rf0 := Hr.out.frozen 0
      have rf1 := Hr.out.frozen 1
      have HBz := Lib.hid (put2_blk Hr.out (.slice A n c) (.int .i64 nx))
      have HKz := Lib.hid (put2_keep HKr.out (b := w.heap.size + 1) (.inr (by omega)) (.slice A n c) (.int .i64 nx))
      have HOz := Lib.hid (HO.out.keep (put2_keep (Keep.refl (fun q => q = w.heap.size + 1) wr) (b := w.heap.size + 1) (.inl rfl) (.slice A n c) (.int .i64 nx)) (HO.out.ne_blk Hr.out (by decide)))
      have HlnT : Hid (n = l0.length) := Lib.hid (by have h1 := HO.out.len; rw [len_spCells] at h1; omega)
      go_wp2_with fail
      (try simp only [Exit.inBlock, Exit.then])
      refine bodyPost_ret (it_results2 rfl HBz.out _ rfl) rfl ⟨A, n, c, by rw [HT.out]; rfl, Lib.hid (by rw [HT.out]; exact HlnT.out), by rw [HT.out]; exact HOz.out, HKz.out⟩

end Go.Proofs.Ytijdkjcjhfebfaa
