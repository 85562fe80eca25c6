/- Chapter 20 (border): BorderRises. -/
import Derived.Test.YtpahfobijmmmmaaBrdV
import Derived.Test.YtpahfobijmmmmaaBdBrdJ
namespace Go.Proofs.Ytpahfobijmmmmaa
open Go.RowKit

/-- note i of a list that came in -/
theorem nt_at {w : World} {B n c i : Nat} {A : Option Addr} {l : List Nt} (h : repNt.Sl w B A n c l) (hi : i < n) : ∃ ad e A1 n1 c1 A2 n2 c2, A = some ad ∧ ad.block < B ∧ l[i]? = some e ∧ w.cell? (ad.add (i * 6)) = some (.int .i64 e.1) ∧
    w.cell? ⟨(ad.add (i * 6)).block, (ad.add (i * 6)).off + 1, none⟩ = some (.int .i64 e.2.1) ∧ w.cell? ⟨(ad.add (i * 6)).block, (ad.add (i * 6)).off + 2, none⟩ = some (.int .i64 e.2.2.1) ∧ w.cell? ⟨(ad.add (i * 6)).block, (ad.add (i * 6)).off + 3, none⟩ = some (.int .i64 e.2.2.2.1) ∧
    w.cell? ⟨(ad.add (i * 6)).block, (ad.add (i * 6)).off + 4, none⟩ = some (.slice A1 n1 c1) ∧ w.cell? ⟨(ad.add (i * 6)).block, (ad.add (i * 6)).off + 5, none⟩ = some (.slice A2 n2 c2) ∧ SpAt w B A1 n1 c1 e.2.2.2.2.1 ∧ SpAt w B A2 n2 c2 e.2.2.2.2.2 ∧ (-9223372036854775808 ≤ e.2.2.1 ∧ e.2.2.1 ≤ 9223372036854775807) := by
  obtain ⟨ad, s, cs, e, hb, hs, ⟨a1, d1, rfl, ⟨rfl, _⟩, a2, d2, rfl, ⟨rfl, _⟩, a3, d3, rfl, ⟨rfl, hr⟩, a4, d4, rfl, ⟨rfl, _⟩, a5, d5, rfl, ⟨A1, n1, c1, rfl, h1⟩, ⟨A2, n2, c2, rfl, h2⟩⟩, hc⟩ := h.at_ hi
  have q0 := hc 0 (by decide)
  have q1 := hc 1 (by decide)
  have q2 := hc 2 (by decide)
  have q3 := hc 3 (by decide)
  have q4 := hc 4 (by decide)
  have q5 := hc 5 (by decide)
  have hsz : repNt.size = 6 := rfl
  rw [hsz] at q0 q1 q2 q3 q4 q5
  rw [fld _ _ (by omega)] at q1 q2 q3 q4 q5
  obtain ⟨b1, b2, b3, b4, b5, _⟩ := sps_rd h2
  exact ⟨ad, s, A1, n1, c1, A2, n2, c2, e, hb, hs, q0, q1, q2, q3, q4, q5, los_at h1, ⟨b1, b5, b3⟩, hr⟩
theorem lent_take {train : Int} {l : List Len} {k : Nat} {s : Len} (h : l[k]? = some s) : lentTo train (l.take (k + 1)) = lentTo train (l.take k) ++ (if s.1.2.1 == train then [s.1] else []) := by
  rw [List.take_add_one, h, lent_app]
  congr 1
  unfold lentTo
  simp only [Option.toList_some, List.filter_cons, List.filter_nil]
  split <;> rfl
set_option maxHeartbeats 8000000 in
set_option maxRecDepth 100000 in
theorem rises20_any (A : Option Addr) (n c : Nat) (l : List Nt) (train : Int) (W : World) (hl : repNt.Sl W W.heap.size A n c l) :
    Calls Try.prog 7 #[.slice A n c, .int .i64 train] W (fun e w' => e = .returned (.bool true) ∧ Keep Never W w') := by
  have HL := Lib.hid hl
  have HLn : Hid (l.length = n) := Lib.hid (by obtain ⟨_, _, _, _, _⟩ := hl; omega)
  have HA := Lib.hid (awake20_any W)
  clear hl
  go_enter Try.func7, Try.ntmps7
  go_wp2_with fail
  refine HA.out.mono ?_
  rintro e w2 ⟨rfl, hk2⟩
  have HK2 := Lib.hid hk2
  clear hk2 HA
  by_cases g1 : 60 < n
  · have u1 : decide ((n : Int) > 60) = true := decide_eq_true (by omega)
    clear g1
    go_wp2_with fail
    go_ret
    exact ⟨rfl, HK2.out⟩
  have u1 : decide ((n : Int) > 60) = false := decide_eq_false (by omega)
  have z0 : (w2.alloc (.cells #[.int .i64 0, .int .i64 0, .slice none 0 0] 39)).cell? ⟨w2.heap.size, 0, none⟩ = some (.int .i64 0) := (Blk.new w2 39 #[.int .i64 0, .int .i64 0, .slice none 0 0]).cell 0
  have zf0 := (Blk.new w2 39 #[.int .i64 0, .int .i64 0, .slice none 0 0]).frozen 0
  have z1 : (w2.alloc (.cells #[.int .i64 0, .int .i64 0, .slice none 0 0] 39)).cell? ⟨w2.heap.size, 1, none⟩ = some (.int .i64 0) := (Blk.new w2 39 #[.int .i64 0, .int .i64 0, .slice none 0 0]).cell 1
  have zf1 := (Blk.new w2 39 #[.int .i64 0, .int .i64 0, .slice none 0 0]).frozen 1
  have z2 : (w2.alloc (.cells #[.int .i64 0, .int .i64 0, .slice none 0 0] 39)).cell? ⟨w2.heap.size, 2, none⟩ = some (.slice none 0 0) := (Blk.new w2 39 #[.int .i64 0, .int .i64 0, .slice none 0 0]).cell 2
  have zf2 := (Blk.new w2 39 #[.int .i64 0, .int .i64 0, .slice none 0 0]).frozen 2
  go_upto_region 5 with (fail)
  clear z0 z1 z2 zf0 zf1 zf2 u1
  obtain ⟨w3, hw3⟩ : ∃ V : World, w2.alloc (.cells #[.int .i64 (-1), .int .i64 (-1), .slice none 0 0] 39) = V := ⟨_, rfl⟩
  have k3 : Keep Never w2 w3 := (by rw [← hw3]; exact (Keep.refl _ _).alloc _)
  have B3 := Blk.new w2 39 #[.int .i64 (-1), .int .i64 (-1), .slice none 0 0]
  rw [hw3] at B3 ⊢
  obtain ⟨bx, hbx⟩ : ∃ q, w2.heap.size = q := ⟨_, rfl⟩
  rw [hbx] at B3 ⊢
  have HK3 := Lib.hid (HK2.out.trans k3)
  have HX3 := Lib.hid B3
  have HBx : Hid (W.heap.size ≤ bx) := Lib.hid (by rw [← hbx]; exact HK2.out.size)
  have HN60 : Hid (n ≤ 60) := Lib.hid (by omega)
  clear k3 B3 hw3 hbx g1
  go_wp2_with fail
  go_loopw [7, 8, 9] (fun s7 s8 s9 wr => ∃ (k nw cw nx cx : Nat) (last : Int) (Aw Ax : Option Addr), k ≤ n ∧ s7 = .slice Aw nw cw ∧ s8 = .int .i64 last ∧ s9 = .int .i64 k ∧ Hid (Keep Never W wr ∧ Blk wr bx 39 #[.int .i64 (-1), .int .i64 last, .slice Ax nx cx] ∧ nw ≤ 60 ∧ (-1 ≤ last ∧ last ≤ 4294967294) ∧ ∃ (hv : List Len) (want : List Lok), Own wr W.heap.size 46 4 Ax nx cx (leCells hv) ∧ SpAt wr W.heap.size Aw nw cw want ∧ RiseI train (-1, last, hv) want last)) (fun _ _ i _ => n - (intOf i).toNat)
  case atStart => exact ⟨0, 0, 0, 0, 0, -1, none, none, by omega, rfl, rfl, rfl, Lib.hid ⟨HK3.out, HX3.out, by omega, by omega, [], [], Own.nil _ _ _ _, ⟨Rd.nil _ _ _ _, fun _ => rfl, Nat.le_refl _⟩, rise_start train⟩⟩
  case round =>
    obtain ⟨k, nw, cw, nx, cx, last, Aw, Ax, hk, rfl, rfl, rfl, HH⟩ := hrel
    have HKr := Lib.hid HH.out.1
    have HXr := Lib.hid HH.out.2.1
    have HNw := Lib.hid HH.out.2.2.1
    have HLs := Lib.hid HH.out.2.2.2.1
    obtain ⟨hv, want, ho, hsw, hri⟩ := HH.out.2.2.2.2
    have HOr := Lib.hid ho
    have HSw := Lib.hid hsw
    have HRi := Lib.hid hri
    clear HH ho hsw hri
    have hn60 : n ≤ 60 := HN60.out
    by_cases h0 : k < n
    · have hki : (k : Int) < (n : Int) := by omega
      have hLr : repNt.Sl wr W.heap.size A n c l := HL.out.keep HKr.out (fun _ h => h.elim)
      obtain ⟨ad, e, A1, n1, c1, A2, n2, c2, hA, _, hs, d0, d1, d2, d3, d4, d5, hl1, hl2, htt⟩ := nt_at hLr h0
      subst hA
      obtain ⟨k0, tr, tt, un, ln, h⟩ := e
      simp only at d0 d1 d2 d3 d4 d5 hl1 hl2 htt
      have Hd0 := Lib.hid d0
      have Hd1 := Lib.hid d1
      have Hd2 := Lib.hid d2
      have Hd3 := Lib.hid d3
      have Hd4 := Lib.hid d4
      have Hd5 := Lib.hid d5
      have HS1 := Lib.hid hl1
      have HS2' := Lib.hid hl2
      have HTt := Lib.hid htt
      clear hLr hs hl1 hl2 htt
      by_cases g1 : 60 < n1
      · have t1 : decide ((n1 : Int) > 60) = true := decide_eq_true (by omega)
        clear g1
        go_wp2_with fail
        go_ret
        exact ⟨rfl, HKr.out⟩
      have t1 : decide ((n1 : Int) > 60) = false := decide_eq_false (by omega)
      by_cases g2 : 60 < n2
      · have t2 : decide ((n2 : Int) > 60) = true := decide_eq_true (by omega)
        clear g1 g2
        go_wp2_with fail
        go_ret
        exact ⟨rfl, HKr.out⟩
      have t2 : decide ((n2 : Int) > 60) = false := decide_eq_false (by omega)
      have HN1 : Hid (n1 ≤ 60 ∧ n2 ≤ 60) := Lib.hid (by omega)
      have HNx : Hid (nx ≤ 48) := Lib.hid (by have h1 := HRi.out.right; rw [rightX_eq] at h1; simp only [Bool.and_eq_true, decide_eq_true_eq] at h1; have h2 := HOr.out.rd.le_len; omega)
      have HTk : Hid (∀ V, Keep Never wr V → Calls Try.prog 16 #[.agg #[.int .i64 (-1), .int .i64 last, .slice Ax nx cx], .agg #[.int .i64 k0, .int .i64 tr, .int .i64 tt, .int .i64 un, .slice A1 n1 c1, .slice A2 n2 c2]] V (TkRet (takeM (-1, last, hv) (k0, tr, tt, un, ln, h)) V)) := Lib.hid (fun V hV => take20_any (-1) last Ax nx cx hv k0 tr tt un A1 A2 n1 c1 n2 c2 V.heap.size ln h V (((LeAt.of_own HOr.out).keep hV).more hV.size) ((HS1.out.keep hV).more (HKr.out.trans hV).size) ((HS2'.out.keep hV).more (HKr.out.trans hV).size) (by have := HNx.out; omega) (by have := HN1.out; omega) (by have := HN1.out; omega) (Nat.le_refl _) HTt.out (by omega) (by have := HLs.out; omega))
      unfold TkRet at HTk
      have HSt : Hid ((takeM (-1, last, hv) (k0, tr, tt, un, ln, h)).2 = 0 → (takeM (-1, last, hv) (k0, tr, tt, un, ln, h)).1.1 = -1 ∧ last < tt ∧ (takeM (-1, last, hv) (k0, tr, tt, un, ln, h)).1.2.1 = tt ∧ rightX (takeM (-1, last, hv) (k0, tr, tt, un, ln, h)).1 = true ∧ RiseI train (takeM (-1, last, hv) (k0, tr, tt, un, ln, h)).1 (if k0 = 2 ∧ tr = train then ln else want) tt ∧ (0 ≤ tt ∧ tt ≤ 4294967294)) := Lib.hid (fun h0 => by
        have a1 := rise_step HRi.out h0
        have a2 := take_ok h0
        refine ⟨by rw [a2.2.2.2.2], a1.1, a1.2.1, a1.2.2.1, a1.2.2.2, (mayN_iff.1 a2.2.1).time⟩)
      obtain ⟨⟨⟨ys, yg, yh⟩, er⟩, hz⟩ : ∃ z, takeM (-1, last, hv) (k0, tr, tt, un, ln, h) = z := ⟨_, rfl⟩
      rw [hz] at HTk HSt
      dsimp only at HTk HSt
      clear hz g1 g2
      have x0 : wr.cell? ⟨bx, 0, none⟩ = some (.int .i64 (-1)) := HXr.out.cell 0
      have x1 : wr.cell? ⟨bx, 1, none⟩ = some (.int .i64 last) := HXr.out.cell 1
      have x2 : wr.cell? ⟨bx, 2, none⟩ = some (.slice Ax nx cx) := HXr.out.cell 2
      have HSf : Hid (∀ W', Keep Never wr W' → Keep Never wr W' ∧ W'.cell? ⟨bx, 0, none⟩ = some (.int .i64 (-1)) ∧ W'.cell? ⟨bx, 1, none⟩ = some (.int .i64 last) ∧ W'.cell? ⟨bx, 2, none⟩ = some (.slice Ax nx cx) ∧ W'.cell? (ad.add (k * 6)) = some (.int .i64 k0) ∧ W'.cell? ⟨(ad.add (k * 6)).block, (ad.add (k * 6)).off + 1, none⟩ = some (.int .i64 tr) ∧ W'.cell? ⟨(ad.add (k * 6)).block, (ad.add (k * 6)).off + 2, none⟩ = some (.int .i64 tt) ∧ W'.cell? ⟨(ad.add (k * 6)).block, (ad.add (k * 6)).off + 3, none⟩ = some (.int .i64 un) ∧ W'.cell? ⟨(ad.add (k * 6)).block, (ad.add (k * 6)).off + 4, none⟩ = some (.slice A1 n1 c1) ∧ W'.cell? ⟨(ad.add (k * 6)).block, (ad.add (k * 6)).off + 5, none⟩ = some (.slice A2 n2 c2)) := Lib.hid (fun W' h => ⟨h, keepT h x0, keepT h x1, keepT h x2, keepT h d0, keepT h d1, keepT h d2, keepT h d3, keepT h d4, keepT h d5⟩)
      go_wp2_with fail
      clear x0 x1 x2 d0 d1 d2 d3 d4 d5 t1 t2
      go_region_held3 (fun W' => Keep Never wr W' ∧ W'.cell? ⟨bx, 0, none⟩ = some (.int .i64 (-1)) ∧ W'.cell? ⟨bx, 1, none⟩ = some (.int .i64 last) ∧ W'.cell? ⟨bx, 2, none⟩ = some (.slice Ax nx cx) ∧ W'.cell? (ad.add (k * 6)) = some (.int .i64 k0) ∧ W'.cell? ⟨(ad.add (k * 6)).block, (ad.add (k * 6)).off + 1, none⟩ = some (.int .i64 tr) ∧ W'.cell? ⟨(ad.add (k * 6)).block, (ad.add (k * 6)).off + 2, none⟩ = some (.int .i64 tt) ∧ W'.cell? ⟨(ad.add (k * 6)).block, (ad.add (k * 6)).off + 3, none⟩ = some (.int .i64 un) ∧ W'.cell? ⟨(ad.add (k * 6)).block, (ad.add (k * 6)).off + 4, none⟩ = some (.slice A1 n1 c1) ∧ W'.cell? ⟨(ad.add (k * 6)).block, (ad.add (k * 6)).off + 5, none⟩ = some (.slice A2 n2 c2))
        (first | assumption | exact HSf.out _ ((Keep.refl Never wr).drew) | exact HSf.out _ (Keep.trans (And.left (by assumption)) hk9) | exact HSf.out _ (Keep.trans ((Keep.refl Never wr).drew) hk9) | exact HSf.out _ (Keep.alloc (And.left (by assumption)) _) | exact HSf.out _ (Keep.alloc (Keep.trans ((Keep.refl Never wr).drew) hk9) _) | exact HSf.out _ (put3S_keep (And.left (by assumption)) (.inr (by first | exact Nat.le_refl _ | exact (Keep.size (And.left (by assumption))) | omega)) _ _ _))
        (first
          | (go_at_call 16; refine (HTk.out _ (by first | exact And.left (by assumption) | exact (Keep.refl Never wr).drew | exact Keep.refl Never wr | exact Keep.alloc (And.left (by assumption)) _)).mono ?_; rintro en w9 ⟨A9, n9, c9, rfl, ho9, hk9⟩; have HK9 : Hid (Keep Never wr w9) := Lib.hid (by first | exact Keep.trans (And.left (by assumption)) hk9 | exact Keep.trans ((Keep.refl Never wr).drew) hk9); have HO9 := Lib.hid ho9; have nb9 : Hid (Blk w9 wr.heap.size 39 #[.int .i64 0, .int .i64 0, .slice none 0 0]) := Lib.hid (by first | exact Blk.keep (Blk.new wr 39 #[.int .i64 0, .int .i64 0, .slice none 0 0]) hk9 (fun h => h) | exact Blk.keep (Blk.drew (Blk.new wr 39 #[.int .i64 0, .int .i64 0, .slice none 0 0])) hk9 (fun h => h) | exact Blk.keep (Blk.new wr.drew 39 #[.int .i64 0, .int .i64 0, .slice none 0 0]) hk9 (fun h => h)); have n0 : w9.cell? ⟨wr.heap.size, 0, none⟩ = some (.int .i64 0) := nb9.out.cell 0; have m0 := nb9.out.frozen 0; have n1 : w9.cell? ⟨wr.heap.size, 1, none⟩ = some (.int .i64 0) := nb9.out.cell 1; have m1 := nb9.out.frozen 1; have n2 : w9.cell? ⟨wr.heap.size, 2, none⟩ = some (.slice none 0 0) := nb9.out.cell 2; have m2 := nb9.out.frozen 2)
          | (go_at_call 16; refine (HTk.out _ (by first | exact And.left (by assumption) | exact (Keep.refl Never wr).drew | exact Keep.refl Never wr | exact Keep.alloc (And.left (by assumption)) _)).mono ?_; rintro en w9 ⟨A9, n9, c9, rfl, ho9, hk9⟩; have HK9 : Hid (Keep Never wr w9) := Lib.hid (by first | exact Keep.trans (And.left (by assumption)) hk9 | exact Keep.trans ((Keep.refl Never wr).drew) hk9); have HO9 := Lib.hid ho9; have n0 : (w9.alloc (.cells #[.int .i64 0, .int .i64 0, .slice none 0 0] 39)).cell? ⟨w9.heap.size, 0, none⟩ = some (.int .i64 0) := (Blk.new w9 39 #[.int .i64 0, .int .i64 0, .slice none 0 0]).cell 0; have m0 := (Blk.new w9 39 #[.int .i64 0, .int .i64 0, .slice none 0 0]).frozen 0; have n1 : (w9.alloc (.cells #[.int .i64 0, .int .i64 0, .slice none 0 0] 39)).cell? ⟨w9.heap.size, 1, none⟩ = some (.int .i64 0) := (Blk.new w9 39 #[.int .i64 0, .int .i64 0, .slice none 0 0]).cell 1; have m1 := (Blk.new w9 39 #[.int .i64 0, .int .i64 0, .slice none 0 0]).frozen 1; have n2 : (w9.alloc (.cells #[.int .i64 0, .int .i64 0, .slice none 0 0] 39)).cell? ⟨w9.heap.size, 2, none⟩ = some (.slice none 0 0) := (Blk.new w9 39 #[.int .i64 0, .int .i64 0, .slice none 0 0]).cell 2; have m2 := (Blk.new w9 39 #[.int .i64 0, .int .i64 0, .slice none 0 0]).frozen 2))
      all_goals
        rename_i hS
        clear hS
        (try clear n0 n1 n2 m0 m1 m2)
        first
        | (obtain ⟨w7, hw7⟩ : ∃ V : World, ((w9.setCell ⟨wr.heap.size, 0, none⟩ (.int .i64 ys)).setCell ⟨wr.heap.size, 1, none⟩ (.int .i64 yg)).setCell ⟨wr.heap.size, 2, none⟩ (.slice A9 n9 c9) = V := ⟨_, rfl⟩
           rw [hw7]
           obtain ⟨b7, hb7⟩ : ∃ q, wr.heap.size = q := ⟨_, rfl⟩
           rw [hb7] at nb9 hw7 ⊢
           have HB7 : Hid (Blk w7 b7 39 #[.int .i64 ys, .int .i64 yg, .slice A9 n9 c9]) := Lib.hid (by rw [← hw7]; exact put3S_blk nb9.out _ _ _)
           have HK7 : Hid (Keep Never wr w7) := Lib.hid (by rw [← hw7]; exact put3S_keep HK9.out (.inr (by omega)) _ _ _)
           have HO7 := Lib.hid (HO9.out.keep (show Keep (fun i => i = b7) w9 w7 from by rw [← hw7]; exact put3S_keep (Keep.refl (fun i => i = b7) w9) (.inl rfl) _ _ _) (HO9.out.ne_blk nb9.out (by decide)))
           have HN7 : Hid (wr.heap.size ≤ b7) := Lib.hid (by omega)
           clear hw7 hb7 nb9 HO9 HK9 hk9)
        | (obtain ⟨w7, hw7⟩ : ∃ V : World, w9.alloc (.cells #[.int .i64 ys, .int .i64 yg, .slice A9 n9 c9] 39) = V := ⟨_, rfl⟩
           rw [hw7]
           obtain ⟨b7, hb7⟩ : ∃ q, w9.heap.size = q := ⟨_, rfl⟩
           rw [hb7]
           have HB7 : Hid (Blk w7 b7 39 #[.int .i64 ys, .int .i64 yg, .slice A9 n9 c9]) := Lib.hid (by rw [← hw7, ← hb7]; exact Blk.new _ _ _)
           have HK7 : Hid (Keep Never wr w7) := Lib.hid (by rw [← hw7]; exact HK9.out.alloc _)
           have HO7 := Lib.hid (HO9.out.keep (show Keep Never w9 w7 from by rw [← hw7]; exact (Keep.refl _ _).alloc _) (fun _ _ h => h))
           have HN7 : Hid (wr.heap.size ≤ b7) := Lib.hid (by rw [← hb7]; exact HK9.out.size)
           clear hw7 hb7 HO9 HK9 hk9)
      all_goals
        have HK7w := Lib.hid (HKr.out.trans HK7.out)
        have HX7 := Lib.hid (HXr.out.keep HK7.out (fun h => h))
        have HOo := Lib.hid (HOr.out.keep HK7.out (fun _ _ h => h))
        have HO7b := Lib.hid (Own.less HO7.out (Nat.le_trans HKr.out.size (by first | exact Nat.le_refl _ | simp | (simp; omega))))
        have HSw7 := Lib.hid (HSw.out.keep HK7.out)
        by_cases ge : er = 0
        rotate_left
        · have te : (er != 0) = true := by simpa using ge
          clear ge
          go_wp2_with fail
          refine ⟨⟨k + 1, nw, cw, nx, cx, last, Aw, Ax, by omega, rfl, rfl, by go_num, Lib.hid ⟨HK7w.out, HX7.out, HNw.out, HLs.out, hv, want, HOo.out, HSw7.out, HRi.out⟩⟩, ?_⟩
          simp [intOf]; try omega
        · subst ge
          obtain ⟨hy1, hlt, hy2, hry, hri2, hck⟩ := HSt.out rfl
          subst hy1 hy2
          have HRy := Lib.hid hry
          have HRi2 := Lib.hid hri2
          have HCk := Lib.hid hck
          have te : ((0 : Int) != 0) = false := by decide
          have tl : decide (yg ≤ last) = false := decide_eq_false (by omega)
          have tn : (yg != yg) = false := by simp
          clear hry hri2 hck hlt
          have HR : Hid (∀ V, Keep Never w7 V → Calls Try.prog 17 #[.agg #[.int .i64 (-1), .int .i64 yg, .slice A9 n9 c9]] V fun e w' => e = .returned (.bool true) ∧ Keep Never V w') := Lib.hid (fun V hV => by
            have h1 := right20_any (-1) yg A9 n9 c9 w7.heap.size yh V ((LeAt.of_own HO7.out).keep hV) (by omega) (by have := HCk.out; omega) (by have h1 := HRy.out; rw [rightX_eq] at h1; simp only [Bool.and_eq_true, decide_eq_true_eq] at h1; have h2 := HO7.out.rd.le_len; omega)
            rwa [HRy.out] at h1)
          have d0 : w7.cell? (ad.add (k * 6)) = some (.int .i64 k0) := (HK7.out.cell (cell_lt Hd0.out) (fun h => h)).trans Hd0.out
          have d1 : w7.cell? ⟨(ad.add (k * 6)).block, (ad.add (k * 6)).off + 1, none⟩ = some (.int .i64 tr) := (HK7.out.cell (cell_lt Hd1.out) (fun h => h)).trans Hd1.out
          have d2 : w7.cell? ⟨(ad.add (k * 6)).block, (ad.add (k * 6)).off + 2, none⟩ = some (.int .i64 yg) := (HK7.out.cell (cell_lt Hd2.out) (fun h => h)).trans Hd2.out
          have d3 : w7.cell? ⟨(ad.add (k * 6)).block, (ad.add (k * 6)).off + 3, none⟩ = some (.int .i64 un) := (HK7.out.cell (cell_lt Hd3.out) (fun h => h)).trans Hd3.out
          have d4 : w7.cell? ⟨(ad.add (k * 6)).block, (ad.add (k * 6)).off + 4, none⟩ = some (.slice A1 n1 c1) := (HK7.out.cell (cell_lt Hd4.out) (fun h => h)).trans Hd4.out
          have d5 : w7.cell? ⟨(ad.add (k * 6)).block, (ad.add (k * 6)).off + 5, none⟩ = some (.slice A2 n2 c2) := (HK7.out.cell (cell_lt Hd5.out) (fun h => h)).trans Hd5.out
          have y0 : w7.cell? ⟨b7, 0, none⟩ = some (.int .i64 (-1)) := HB7.out.cell 0
          have y1 : w7.cell? ⟨b7, 1, none⟩ = some (.int .i64 yg) := HB7.out.cell 1
          have y2 : w7.cell? ⟨b7, 2, none⟩ = some (.slice A9 n9 c9) := HB7.out.cell 2
          have HSg : Hid (∀ W', Keep Never w7 W' → Keep Never w7 W' ∧ W'.cell? ⟨b7, 0, none⟩ = some (.int .i64 (-1)) ∧ W'.cell? ⟨b7, 1, none⟩ = some (.int .i64 yg) ∧ W'.cell? ⟨b7, 2, none⟩ = some (.slice A9 n9 c9) ∧ W'.cell? ⟨(ad.add (k * 6)).block, (ad.add (k * 6)).off + 2, none⟩ = some (.int .i64 yg)) := Lib.hid (fun W' h => ⟨h, keepT h y0, keepT h y1, keepT h y2, keepT h d2⟩)
          go_wp2_with fail
          clear y0 y1 y2 d0 d1 d2 d3 d4 d5
          go_region_held3 (fun W' => Keep Never w7 W' ∧ W'.cell? ⟨b7, 0, none⟩ = some (.int .i64 (-1)) ∧ W'.cell? ⟨b7, 1, none⟩ = some (.int .i64 yg) ∧ W'.cell? ⟨b7, 2, none⟩ = some (.slice A9 n9 c9) ∧ W'.cell? ⟨(ad.add (k * 6)).block, (ad.add (k * 6)).off + 2, none⟩ = some (.int .i64 yg))
            (first | assumption | exact HSg.out _ ((Keep.refl Never w7).drew) | exact HSg.out _ (Keep.trans (And.left (by assumption)) hk3) | exact HSg.out _ (Keep.trans ((Keep.refl Never w7).drew) hk3))
            (first
              | (go_at_call 17; refine (HR.out _ (by first | exact And.left (by assumption) | exact (Keep.refl Never w7).drew | exact Keep.refl Never w7)).mono ?_; rintro e w8 ⟨rfl, hk3⟩))
          all_goals
            rename_i hS
            have HK8 := Lib.hid (HK7.out.trans hS.1)
            have HK8w := Lib.hid (HK7w.out.trans hS.1)
            have HX8 := Lib.hid (HX7.out.keep hS.1 (fun h => h))
            have HY8 := Lib.hid (HB7.out.keep hS.1 (fun h => h))
            have HO8 := Lib.hid (HO7b.out.keep hS.1 (fun _ _ h => h))
            have HSw8 := Lib.hid (HSw7.out.keep hS.1)
            have HS18 := Lib.hid (HS1.out.keep HK8.out)
            rename World => w8
            clear hS HSg HR tl tn te
            have d0 : w8.cell? (ad.add (k * 6)) = some (.int .i64 k0) := (HK8.out.cell (cell_lt Hd0.out) (fun h => h)).trans Hd0.out
            have d1 : w8.cell? ⟨(ad.add (k * 6)).block, (ad.add (k * 6)).off + 1, none⟩ = some (.int .i64 tr) := (HK8.out.cell (cell_lt Hd1.out) (fun h => h)).trans Hd1.out
            have d2 : w8.cell? ⟨(ad.add (k * 6)).block, (ad.add (k * 6)).off + 2, none⟩ = some (.int .i64 yg) := (HK8.out.cell (cell_lt Hd2.out) (fun h => h)).trans Hd2.out
            have d3 : w8.cell? ⟨(ad.add (k * 6)).block, (ad.add (k * 6)).off + 3, none⟩ = some (.int .i64 un) := (HK8.out.cell (cell_lt Hd3.out) (fun h => h)).trans Hd3.out
            have d4 : w8.cell? ⟨(ad.add (k * 6)).block, (ad.add (k * 6)).off + 4, none⟩ = some (.slice A1 n1 c1) := (HK8.out.cell (cell_lt Hd4.out) (fun h => h)).trans Hd4.out
            have d5 : w8.cell? ⟨(ad.add (k * 6)).block, (ad.add (k * 6)).off + 5, none⟩ = some (.slice A2 n2 c2) := (HK8.out.cell (cell_lt Hd5.out) (fun h => h)).trans Hd5.out
            have y0 : w8.cell? ⟨b7, 0, none⟩ = some (.int .i64 (-1)) := HY8.out.cell 0
            have y1 : w8.cell? ⟨b7, 1, none⟩ = some (.int .i64 yg) := HY8.out.cell 1
            have y2 : w8.cell? ⟨b7, 2, none⟩ = some (.slice A9 n9 c9) := HY8.out.cell 2
            have x0 : w8.cell? ⟨bx, 0, none⟩ = some (.int .i64 (-1)) := HX8.out.cell 0
            have xf0 := HX8.out.frozen 0
            have x1 : w8.cell? ⟨bx, 1, none⟩ = some (.int .i64 last) := HX8.out.cell 1
            have xf1 := HX8.out.frozen 1
            have x2 : w8.cell? ⟨bx, 2, none⟩ = some (.slice Ax nx cx) := HX8.out.cell 2
            have xf2 := HX8.out.frozen 2
            by_cases gk : k0 = 2 ∧ tr = train
            rotate_left
            · have HRi3 := HRi2.out
              rw [if_neg gk] at HRi3
              have HRi4 := Lib.hid HRi3
              have hcs : (k0 == 2) = false ∨ ((k0 == 2) = true ∧ (tr == train) = false) := by
                by_cases a : k0 = 2
                · right; exact ⟨by simpa using a, by simpa using fun b => gk ⟨a, b⟩⟩
                · left; simpa using a
              clear gk HRi3
              rcases hcs with ta | ⟨ta, tb⟩
              all_goals
                go_wp2_with fail
                obtain ⟨wE, hwE⟩ : ∃ V : World, ((w8.setCell ⟨bx, 0, none⟩ (.int .i64 (-1))).setCell ⟨bx, 1, none⟩ (.int .i64 yg)).setCell ⟨bx, 2, none⟩ (.slice A9 n9 c9) = V := ⟨_, rfl⟩
                (try rw [hwE])
                have kE : Keep (fun i => i = bx) w8 wE := by rw [← hwE]; exact put3S_keep (Keep.refl (fun i => i = bx) w8) (.inl rfl) _ _ _
                have HXE : Hid (Blk wE bx 39 #[.int .i64 (-1), .int .i64 yg, .slice A9 n9 c9]) := Lib.hid (by rw [← hwE]; exact put3S_blk HX8.out _ _ _)
                have HKE := Lib.hid (HK8w.out.then_ kE (fun i hi e => by have := HBx.out; omega))
                have HOE := Lib.hid (HO8.out.keep kE (HO8.out.ne_blk HX8.out (by decide)))
                have HKx := Lib.hid kE
                clear kE hwE
                refine ⟨⟨k + 1, nw, cw, n9, c9, yg, Aw, A9, by omega, rfl, rfl, by go_num, Lib.hid ⟨HKE.out, HXE.out, HNw.out, by have := HCk.out; omega, yh, want, HOE.out, ⟨HSw8.out.rd.keep HKx.out (fun i e => by have := HBx.out; omega), HSw8.out.nil, HSw8.out.cap⟩, HRi4.out⟩⟩, ?_⟩
                simp [intOf]; try omega
            · have ta : (k0 == 2) = true := by simpa using gk.1
              have tb : (tr == train) = true := by simpa using gk.2
              have HRi3 := HRi2.out
              rw [if_pos gk] at HRi3
              have HRi4 := Lib.hid HRi3
              clear gk HRi3
              go_wp2_with fail
              obtain ⟨wE, hwE⟩ : ∃ V : World, ((w8.setCell ⟨bx, 0, none⟩ (.int .i64 (-1))).setCell ⟨bx, 1, none⟩ (.int .i64 yg)).setCell ⟨bx, 2, none⟩ (.slice A9 n9 c9) = V := ⟨_, rfl⟩
              (try rw [hwE])
              have kE : Keep (fun i => i = bx) w8 wE := by rw [← hwE]; exact put3S_keep (Keep.refl (fun i => i = bx) w8) (.inl rfl) _ _ _
              have HXE : Hid (Blk wE bx 39 #[.int .i64 (-1), .int .i64 yg, .slice A9 n9 c9]) := Lib.hid (by rw [← hwE]; exact put3S_blk HX8.out _ _ _)
              have HKE := Lib.hid (HK8w.out.then_ kE (fun i hi e => by have := HBx.out; omega))
              have HOE := Lib.hid (HO8.out.keep kE (HO8.out.ne_blk HX8.out (by decide)))
              have HKx := Lib.hid kE
              clear kE hwE
              refine ⟨⟨k + 1, n1, c1, n9, c9, yg, A1, A9, by omega, rfl, rfl, by go_num, Lib.hid ⟨HKE.out, HXE.out, HN1.out.1, by have := HCk.out; omega, yh, ln, HOE.out, ⟨HS18.out.rd.keep HKx.out (fun i e => by have := HBx.out; omega), HS18.out.nil, HS18.out.cap⟩, HRi4.out⟩⟩, ?_⟩
              simp [intOf]; try omega
    · obtain rfl : k = n := by omega
      have hki : ¬ (k : Int) < (k : Int) := by omega
      rename World => wq
      go_wp2_with fail
      go_loopw [12, 13] (fun s12 s13 wz => ∃ (j ng cg : Nat) (Ag : Option Addr), j ≤ nx ∧ s12 = .slice Ag ng cg ∧ s13 = .int .i64 j ∧ ng ≤ j ∧ Hid (Keep Never W wz ∧ Keep Never wq wz ∧ Blk wz bx 39 #[.int .i64 (-1), .int .i64 last, .slice Ax nx cx] ∧ Own wz wq.heap.size 44 3 Ag ng cg (spCells (lentTo train (hv.take j))))) (fun _ i _ => nx - (intOf i).toNat)
      case atStart => exact ⟨0, 0, 0, none, by omega, rfl, rfl, by omega, Lib.hid ⟨HKr.out, Keep.refl _ _, HXr.out, Own.nil _ _ _ _⟩⟩
      case round =>
        obtain ⟨j, ng, cg, Ag, hj, rfl, rfl, hng, HH⟩ := hrel
        have HKz := Lib.hid HH.out.1
        have HKq := Lib.hid HH.out.2.1
        have HXz := Lib.hid HH.out.2.2.1
        have HGz := Lib.hid HH.out.2.2.2
        clear HH
        rename World => wz
        have hj48 : nx ≤ 48 := by have h1 := HRi.out.right; rw [rightX_eq] at h1; simp only [Bool.and_eq_true, decide_eq_true_eq] at h1; have h2 := HOr.out.rd.le_len; omega
        have hOz : Own wz W.heap.size 46 4 Ax nx cx (leCells hv) := HOr.out.keep HKq.out (fun _ _ h => h)
        have x0 : wz.cell? ⟨bx, 0, none⟩ = some (.int .i64 (-1)) := HXz.out.cell 0
        have x1 : wz.cell? ⟨bx, 1, none⟩ = some (.int .i64 last) := HXz.out.cell 1
        have x2 : wz.cell? ⟨bx, 2, none⟩ = some (.slice Ax nx cx) := HXz.out.cell 2
        by_cases h0 : j < nx
        · have hji : (j : Int) < (nx : Int) := by omega
          obtain ⟨ad, s, hA, _, hs, c0, c1', c2', c3'⟩ := hOz.rd.le h0
          subst hA
          obtain ⟨⟨s1, s2, s3⟩, s4⟩ := s
          simp only at c0 c1' c2' c3'
          have HTk := Lib.hid (lent_take (train := train) hs)
          simp only at HTk
          clear hs hOz
          by_cases g : s2 = train
          · have t0 : (s2 == train) = true := by simpa using g
            have HTn : Hid (lentTo train (hv.take (j + 1)) = lentTo train (hv.take j) ++ [(s1, s2, s3)]) := Lib.hid (by rw [HTk.out, if_pos t0])
            have hsz : wq.heap.size ≤ (wz.alloc (.cells #[.int .i64 s1, .int .i64 s2, .int .i64 s3] 44)).heap.size := by have := HKq.out.size; simp; omega
            clear g HTk
            go_wp2_with (at_builtin; refine wpList_app _ rfl (.tmp 121) (.tmp 128) _ rfl elemLo wq.heap.size (A := Ag) (n := ng) (c := cg) (by go_simp) (HGz.out.alloc _) _ (A' := some ⟨wz.heap.size, 0, none⟩) (m := 1) (c' := 1) (by go_simp) (Rd.of_blk (n := 1) (cs := [.int .i64 s1, .int .i64 s2, .int .i64 s3]) (Blk.new wz _ _) rfl) (by simp [Value.oneCell']) (by omega) (by unfold maxLen; omega) hsz ?_; intro A5 c5 w16 hown hk hrow; have hk16 : Keep (InRow Ag) wz w16 := ((Keep.refl (InRow Ag) _).alloc _).trans hk; have HG16 := Lib.hid hown; have HX16 := Lib.hid (HXz.out.keep hk16 (fun h => HGz.out.ne_blk HXz.out (by decide) _ h rfl)); have HKq16 := Lib.hid (HKq.out.then_ hk16 (fun i hi h => by have := (HGz.out.row h).1; omega)); have HKz16 := Lib.hid (HKr.out.trans HKq16.out); clear hown hk hrow hk16)
            go_roundw
            case measure => simp [intOf]; try omega
            case rel => exact ⟨j + 1, ng + 1, c5, A5, by omega, rfl, by go_num, by omega, Lib.hid ⟨HKz16.out, HKq16.out, HX16.out, by rw [HTn.out, spCells_app]; exact HG16.out⟩⟩
          · have t0 : (s2 == train) = false := by simpa using g
            have HTn : Hid (lentTo train (hv.take (j + 1)) = lentTo train (hv.take j)) := Lib.hid (by rw [HTk.out, if_neg (by rw [t0]; simp), List.append_nil])
            clear g HTk
            go_wp2_with fail
            refine ⟨⟨j + 1, ng, cg, Ag, by omega, rfl, by go_num, by omega, Lib.hid ⟨HKz.out, HKq.out, HXz.out, by rw [HTn.out]; exact HGz.out⟩⟩, ?_⟩
            simp [intOf]; try omega
        · obtain rfl : j = nx := by omega
          have hji : ¬ (j : Int) < (j : Int) := by omega
          have HE : Hid (lentTo train (hv.take j) = want) := Lib.hid (by rw [List.take_of_length_le (by have := HOr.out.rd.le_len; omega)]; exact HRi.out.lent)
          have HG2 := HGz.out
          rw [HE.out] at HG2
          have HC := Lib.hid (locks20_any want want Ag Aw ng nw cg cw wz.heap.size W.heap.size wz HG2.rd (HSw.out.keep HKq.out).rd (by omega) (by have := HNw.out; omega))
          clear HG2 hOz
          go_wp2_with fail
          refine HC.out.mono ?_
          rintro en w5 ⟨rfl, hk5⟩
          have HK5 := Lib.hid (HKz.out.trans hk5)
          clear hk5 HC
          simp only [decide_true]
          go_wp2_with fail
          go_ret
          exact ⟨rfl, HK5.out⟩

theorem borderRises_walk (W : World) (A : Option Addr) (n c : Nat) (l : List Nt) (s : repNt.Sl W W.heap.size A n c l) (train : Int) (_b : -9223372036854775808 ≤ train) (_c : train ≤ 9223372036854775807) :
    Calls Try.prog 7 #[.slice A n c, .int .i64 train] W fun e W' => e = .returned (.bool true) ∧ Keep Never W W' := rises20_any A n c l train W s

end Go.Proofs.Ytpahfobijmmmmaa
