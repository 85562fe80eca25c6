/- Chapter 14 (place): Locate. -/
import Derived.Test.YtijdkjcjhfebfaaPlcD
import Derived.Test.YtijdkjcjhfebfaaTopM
namespace Go.Proofs.Ytijdkjcjhfebfaa
open Go.RowKit

def locP (t : Tp) (id : Int) (rev : Bool) (n : Int) : Ps × Int := if checkM t = 0 then (match balM t.2.2.1 id with | none => (noP, 4) | some b => walkP t (b.2.1, b.2.2, rev) n) else (noP, 1)

set_option maxHeartbeats 8000000 in
set_option maxRecDepth 100000 in
theorem plocate_any (x : TA) (t : Tp) (B : Nat) (id : Int) (r : Bool) (n : Int) (w : World) (h : TpAt w B x t) (hs : TpSmall x t) (hB : B ≤ w.heap.size) :
    Calls Try.prog 15 #[.agg x.cs, .int .i64 id, .bool r, .int .i64 n] w (PsRet2 (locP t id r n) w) := by
  have HCh := Lib.hid (fun (W : World) (hk : Keep Never w W) => check_any x t B W (h.keep hk) hs (Nat.le_trans hB hk.size))
  have HBa := Lib.hid (fun (W : World) (hk : Keep Never w W) => bal_any x t B id W (h.keep hk) hs.b)
  have HWk := Lib.hid (fun (W : World) (hk : Keep Never w W) (e a : Int) => pwalk_any x t B e a r n W (h.keep hk) hs (Nat.le_trans hB hk.size))
  obtain ⟨Ae, ne, ce, Aj, nj, cj, Ab, nb, cb, Ar, nr, cr⟩ := x
  simp only [TA.cs] at HCh HBa HWk ⊢
  clear h hs hB
  obtain ⟨w1, hw1⟩ : ∃ V : World, w.alloc (.cells #[.slice Ae ne ce, .slice Aj nj cj, .slice Ab nb cb, .slice Ar nr cr] 27) = V := ⟨_, rfl⟩
  have zw1 : w1.heap.size = w.heap.size + 1 := by rw [← hw1]; simp
  have kw1 : Keep Never w w1 := by rw [← hw1]; exact (Keep.refl _ _).alloc _
  have bw1 := Blk.new w 27 #[.slice Ae ne ce, .slice Aj nj cj, .slice Ab nb cb, .slice Ar nr cr]
  rw [hw1] at bw1
  obtain ⟨w2, hw2⟩ : ∃ V : World, w1.alloc (.cells #[.int .i64 0, .int .i64 0, .bool false] 29) = V := ⟨_, rfl⟩
  have kw2 : Keep Never w1 w2 := by rw [← hw2]; exact (Keep.refl _ _).alloc _
  have bw2 := Blk.new w1 29 #[.int .i64 0, .int .i64 0, .bool false]
  rw [hw2, zw1] at bw2
  have HB1 := Lib.hid (bw1.keep kw2 (fun h => h))
  have HB2 := Lib.hid bw2
  have HK := Lib.hid (kw1.trans kw2)
  clear kw1 kw2 bw1 bw2
  have y0 : w2.cell? ⟨w.heap.size, 0, none⟩ = some (.slice Ae ne ce) := HB1.out.cell 0
  have y1 : w2.cell? ⟨w.heap.size, 1, none⟩ = some (.slice Aj nj cj) := HB1.out.cell 1
  have y2 : w2.cell? ⟨w.heap.size, 2, none⟩ = some (.slice Ab nb cb) := HB1.out.cell 2
  have y3 : w2.cell? ⟨w.heap.size, 3, none⟩ = some (.slice Ar nr cr) := HB1.out.cell 3
  have HC := Lib.hid (HCh.out w2 HK.out)
  obtain ⟨ck, hck⟩ : ∃ z, checkM t = z := ⟨_, rfl⟩
  rw [hck] at HC
  go_enter Try.func15, Try.ntmps15
  go_wp2_with fail
  refine HC.out.mono ?_
  rintro en w4 ⟨rfl, hk4⟩
  have HK4 := Lib.hid (HK.out.trans hk4)
  have HT4 := Lib.hid (HB1.out.keep hk4 (fun h => h))
  have HZ4 := Lib.hid (HB2.out.keep hk4 (fun h => h))
  clear hk4 HC HCh HB1 HB2 y0 y1 y2 y3 hw1 hw2 zw1
  by_cases g : ck = 0
  case neg =>
    have t0 : (ck != 0) = true := by simpa using g
    have HF : Hid (locP t id r n = (noP, 1)) := Lib.hid (by unfold locP; rw [if_neg (by rw [hck]; exact g)])
    clear g hck
    have z0 : w4.cell? ⟨w.heap.size + 1, 0, none⟩ = some (.int .i64 0) := HZ4.out.cell 0
    have z1 : w4.cell? ⟨w.heap.size + 1, 1, none⟩ = some (.int .i64 0) := HZ4.out.cell 1
    have z2 : w4.cell? ⟨w.heap.size + 1, 2, none⟩ = some (.bool false) := HZ4.out.cell 2
    have zf0 := HZ4.out.frozen 0
    have zf1 := HZ4.out.frozen 1
    have zf2 := HZ4.out.frozen 2
    go_wp2_with fail
    (try simp only [Exit.inBlock, Exit.then])
    have hp := ps3_keep HK4.out (b := w.heap.size + 1) (.inr (by omega)) (.int .i64 0) (.int .i64 0) (.bool false)
    refine bodyPost_ret (ps_results2 (fn := Try.f15) (r := 8) (s := 9) rfl (ps3_blk HZ4.out (.int .i64 0) (.int .i64 0) (.bool false)) _ rfl) rfl ⟨by rw [HF.out]; rfl, hp⟩
  have t0 : (ck != 0) = false := by simpa using g
  have HF0 : Hid (locP t id r n = match balM t.2.2.1 id with | none => (noP, 4) | some b => walkP t (b.2.1, b.2.2, r) n) := Lib.hid (by unfold locP; rw [if_pos (by rw [hck]; exact g)])
  clear g hck
  have hC0 := HBa.out w4 HK4.out
  unfold BalRet at hC0
  obtain ⟨ob, hob⟩ : ∃ z, balM t.2.2.1 id = z := ⟨_, rfl⟩
  rw [hob] at hC0 HF0
  have HC := Lib.hid hC0
  clear hC0 hob HBa
  have y0 : w4.cell? ⟨w.heap.size, 0, none⟩ = some (.slice Ae ne ce) := HT4.out.cell 0
  have y1 : w4.cell? ⟨w.heap.size, 1, none⟩ = some (.slice Aj nj cj) := HT4.out.cell 1
  have y2 : w4.cell? ⟨w.heap.size, 2, none⟩ = some (.slice Ab nb cb) := HT4.out.cell 2
  have y3 : w4.cell? ⟨w.heap.size, 3, none⟩ = some (.slice Ar nr cr) := HT4.out.cell 3
  cases ob with
  | none =>
    have HF : Hid (locP t id r n = (noP, 4)) := Lib.hid HF0.out
    go_wp2_with fail
    refine HC.out.mono ?_
    rintro en w5 ⟨rfl, hk5⟩
    have HK5 := Lib.hid (HK4.out.trans hk5)
    have HZ5 := Lib.hid (HZ4.out.keep hk5 (fun h => h))
    clear hk5 HC y0 y1 y2 y3
    simp only [Option.getD, Option.isSome]
    have HK6 := Lib.hid (HK5.out.trans ((Keep.refl Never w5).alloc (.cells #[.int .i64 0, .int .i64 0, .int .i64 0] 82)))
    have HZ6 := Lib.hid (HZ5.out.alloc (.cells #[.int .i64 0, .int .i64 0, .int .i64 0] 82))
    have z0 : (w5.alloc (.cells #[.int .i64 0, .int .i64 0, .int .i64 0] 82)).cell? ⟨w.heap.size + 1, 0, none⟩ = some (.int .i64 0) := HZ6.out.cell 0
    have z1 : (w5.alloc (.cells #[.int .i64 0, .int .i64 0, .int .i64 0] 82)).cell? ⟨w.heap.size + 1, 1, none⟩ = some (.int .i64 0) := HZ6.out.cell 1
    have z2 : (w5.alloc (.cells #[.int .i64 0, .int .i64 0, .int .i64 0] 82)).cell? ⟨w.heap.size + 1, 2, none⟩ = some (.bool false) := HZ6.out.cell 2
    have zf0 := HZ6.out.frozen 0
    have zf1 := HZ6.out.frozen 1
    have zf2 := HZ6.out.frozen 2
    go_wp2_with fail
    (try simp only [Exit.inBlock, Exit.then])
    have hp := ps3_keep HK6.out (b := w.heap.size + 1) (.inr (by omega)) (.int .i64 0) (.int .i64 0) (.bool false)
    refine bodyPost_ret (ps_results2 (fn := Try.f15) (r := 8) (s := 9) rfl (ps3_blk HZ6.out (.int .i64 0) (.int .i64 0) (.bool false)) _ rfl) rfl ⟨by rw [HF.out]; rfl, hp⟩
  | some b =>
    obtain ⟨b1, b2, b3⟩ := b
    have HF : Hid (locP t id r n = walkP t (b2, b3, r) n) := Lib.hid HF0.out
    go_wp2_with fail
    refine HC.out.mono ?_
    rintro en w5 ⟨rfl, hk5⟩
    have HK5 := Lib.hid (HK4.out.trans hk5)
    have HT5 := Lib.hid (HT4.out.keep hk5 (fun h => h))
    have HZ5 := Lib.hid (HZ4.out.keep hk5 (fun h => h))
    clear hk5 HC y0 y1 y2 y3
    simp only [Option.getD, Option.isSome]
    obtain ⟨w6, hw6⟩ : ∃ V : World, w5.alloc (.cells #[.int .i64 b1, .int .i64 b2, .int .i64 b3] 82) = V := ⟨_, rfl⟩
    have K6 : Keep Never w5 w6 := by rw [← hw6]; exact (Keep.refl _ _).alloc _
    have B6 := Blk.new w5 82 #[.int .i64 b1, .int .i64 b2, .int .i64 b3]
    rw [hw6] at B6
    obtain ⟨bb, hbb⟩ : ∃ q, w5.heap.size = q := ⟨_, rfl⟩
    rw [hbb] at B6
    have HK6 := Lib.hid (HK5.out.trans K6)
    have HT6 := Lib.hid (HT5.out.keep K6 (fun h => h))
    have HZ6 := Lib.hid (HZ5.out.keep K6 (fun h => h))
    have HB6 := Lib.hid B6
    clear K6 B6
    have y0 : w6.cell? ⟨w.heap.size, 0, none⟩ = some (.slice Ae ne ce) := HT6.out.cell 0
    have y1 : w6.cell? ⟨w.heap.size, 1, none⟩ = some (.slice Aj nj cj) := HT6.out.cell 1
    have y2 : w6.cell? ⟨w.heap.size, 2, none⟩ = some (.slice Ab nb cb) := HT6.out.cell 2
    have y3 : w6.cell? ⟨w.heap.size, 3, none⟩ = some (.slice Ar nr cr) := HT6.out.cell 3
    have q0 : w6.cell? ⟨bb, 0, none⟩ = some (.int .i64 b1) := HB6.out.cell 0
    have q1 : w6.cell? ⟨bb, 1, none⟩ = some (.int .i64 b2) := HB6.out.cell 1
    have q2 : w6.cell? ⟨bb, 2, none⟩ = some (.int .i64 b3) := HB6.out.cell 2
    have HC := Lib.hid (HWk.out w6 HK6.out b2 b3)
    go_wp2_with fail
    refine HC.out.mono ?_
    clear hw6 hbb
    rintro en w7 ⟨rfl, hk7⟩
    have HK7 := Lib.hid (HK6.out.trans hk7)
    have HZ7 := Lib.hid (HZ6.out.keep hk7 (fun h => h))
    clear hk7 HC y0 y1 y2 y3 q0 q1 q2
    obtain ⟨⟨⟨o1, o2, o3⟩, oe⟩, hov⟩ : ∃ z, walkP t (b2, b3, r) n = z := ⟨_, rfl⟩
    rw [hov] at HF
    rw [hov]
    clear hov
    have z0 : w7.cell? ⟨w.heap.size + 1, 0, none⟩ = some (.int .i64 0) := HZ7.out.cell 0
    have z1 : w7.cell? ⟨w.heap.size + 1, 1, none⟩ = some (.int .i64 0) := HZ7.out.cell 1
    have z2 : w7.cell? ⟨w.heap.size + 1, 2, none⟩ = some (.bool false) := HZ7.out.cell 2
    have zf0 := HZ7.out.frozen 0
    have zf1 := HZ7.out.frozen 1
    have zf2 := HZ7.out.frozen 2
    go_wp2_with fail
    (try simp only [Exit.inBlock, Exit.then])
    have hp := ps3_keep HK7.out (b := w.heap.size + 1) (.inr (by omega)) (.int .i64 o1) (.int .i64 o2) (.bool o3)
    refine bodyPost_ret (ps_results2 (fn := Try.f15) (r := 8) (s := 9) rfl (ps3_blk HZ7.out (.int .i64 o1) (.int .i64 o2) (.bool o3)) _ rfl) rfl ⟨by rw [HF.out]; rfl, hp⟩
end Go.Proofs.Ytijdkjcjhfebfaa
