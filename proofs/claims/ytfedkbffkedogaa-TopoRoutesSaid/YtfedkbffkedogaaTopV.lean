/- Chapter 13: TopoRoutes. -/
import Derived.Test.YtfedkbffkedogaaTopU
namespace Go.Proofs.Ytfedkbffkedogaa
open Go.RowKit

def RtRet2 (o : Option Rt) (w : World) (e : Ending) (w' : World) : Prop :=
  ∃ A n c, e = .returned (.tuple #[.agg #[.int .i64 (o.getD (0, [], 0, 0)).1, .slice A n c, .int .i64 (o.getD (0, [], 0, 0)).2.2.1, .int .i64 (o.getD (0, [], 0, 0)).2.2.2], .bool o.isSome]) ∧ (∀ W', Keep (fun q => q < w.heap.size) w' W' → repStp.Sl W' W'.heap.size A n c (o.getD (0, [], 0, 0)).2.1) ∧ Keep Never w w'
set_option maxHeartbeats 4000000 in
set_option maxRecDepth 100000 in
theorem route_any2 (x : TA) (t : Tp) (B : Nat) (id : Int) (w : World) (ht : TpAt w B x t) (hn : x.nr ≤ 100000000) (hp : ∀ r ∈ t.2.2.2, r.2.1.length ≤ 100000000) (hB : B ≤ w.heap.size) :
    Calls Try.prog 18 #[.agg x.cs, .int .i64 id] w (RtRet2 (rtM t.2.2.2 id) w) := by
  have HR := Lib.hid ht.r
  obtain ⟨Ae, ne, ce, Aj, nj, cj, Ab, nb, cb, Ar, nr, cr⟩ := x
  simp only [TA.cs] at HR hn ⊢
  obtain ⟨w1, hw1⟩ : ∃ W : World, w.alloc (.cells #[.slice Ae ne ce, .slice Aj nj cj, .slice Ab nb cb, .slice Ar nr cr] 27) = W := ⟨_, rfl⟩
  obtain ⟨w2, hw2⟩ : ∃ W : World, w1.alloc (.cells #[.int .i64 id] 3) = W := ⟨_, rfl⟩
  obtain ⟨w3, hw3⟩ : ∃ W : World, w2.alloc (.cells #[.int .i64 0, .slice none 0 0, .int .i64 0, .int .i64 0] 36) = W := ⟨_, rfl⟩
  have z1 : w1.heap.size = w.heap.size + 1 := by rw [← hw1]; simp
  have z2 : w2.heap.size = w.heap.size + 1 + 1 := by rw [← hw2, ← z1]; simp
  have k1 : Keep Never w w1 := by rw [← hw1]; exact (Keep.refl _ _).alloc _
  have k2 : Keep Never w1 w2 := by rw [← hw2]; exact (Keep.refl _ _).alloc _
  have k3 : Keep Never w2 w3 := by rw [← hw3]; exact (Keep.refl _ _).alloc _
  have b1 := Blk.new w 27 #[.slice Ae ne ce, .slice Aj nj cj, .slice Ab nb cb, .slice Ar nr cr]
  rw [hw1] at b1
  have b2 := Blk.new w1 3 #[.int .i64 id]
  rw [hw2, z1] at b2
  have b3 := Blk.new w2 36 #[.int .i64 0, .slice none 0 0, .int .i64 0, .int .i64 0]
  rw [hw3, z2] at b3
  have HB1 := Lib.hid ((b1.keep k2 (fun h => h)).keep k3 (fun h => h))
  have HB3 := Lib.hid b3
  have HK := Lib.hid ((k1.trans k2).trans k3)
  have HZ := Lib.hid b3.lt
  have y2 : w3.cell? ⟨w.heap.size, 3, none⟩ = some (.slice Ar nr cr) := HB1.out.cell 3
  have v0 : w3.cell? ⟨w.heap.size + 1, 0, none⟩ = some (.int .i64 id) := (b2.keep k3 (fun h => h)).cell 0
  have HC := Lib.hid (indexfr_any 60 #[.pointer (some ⟨w.heap.size + 1, 0, none⟩)] (fun i => i == id) (enters_of Try.func60 (by kernel_rfl) rfl) Ar nr cr B t.2.2.2 w3 (HR.out.keep HK.out (fun _ h => h.elim)) (fun W i a b A n c hk => rtF_any i A n c a b id _ W (keepT hk v0)) (by omega))
  clear k1 k2 k3 b1 b2 b3 ht v0
  go_enter Try.func18, Try.ntmps18
  go_wp2_with fail
  refine HC.out.mono ?_
  rintro e w4 ⟨⟨i, s, rfl, h1, h2, h3⟩ | ⟨rfl, h1⟩, hk4⟩
  · have HM : Hid (rtM t.2.2.2 id = some s) := Lib.hid (find_idx h1 h2 h3)
    have HK4 := Lib.hid (HK.out.trans hk4)
    have hin : i < nr := by have := HR.out.len; have := (List.getElem?_eq_some_iff.1 h1).1; omega
    have hiz : (i : Int) < (nr : Int) := by omega
    have hi0 : ¬ (i : Int) < 0 := by omega
    have hps := hp s (List.mem_of_getElem? h1)
    obtain ⟨ad, s', A2, n2, d2, hA, _, hs, c0, c1, c2, c3, hsl⟩ := rt_at2 (HR.out.keep HK4.out (fun _ h => h.elim)) hin
    subst hA
    rw [h1] at hs
    injection hs with hs
    subst hs
    have hb1 := HB1.out.keep hk4 (fun h => h)
    have y2 : w4.cell? ⟨w.heap.size, 3, none⟩ = some (.slice (some ad) nr cr) := hb1.cell 3
    have HB4 := Lib.hid (HB3.out.keep hk4 (fun h => h))
    obtain ⟨s1, p, s2, s3⟩ := s
    simp only at c0 c1 c2 c3 hsl hps
    obtain ⟨W1, hW1⟩ : ∃ W : World, w4.alloc (.cells #[.int .i64 s1, .slice A2 n2 d2, .int .i64 s2, .int .i64 s3] 36) = W := ⟨_, rfl⟩
    have K1 : Keep Never w4 W1 := by rw [← hW1]; exact (Keep.refl _ _).alloc _
    have B1 := Blk.new w4 36 #[.int .i64 s1, .slice A2 n2 d2, .int .i64 s2, .int .i64 s3]
    rw [hW1] at B1
    have HB5 := Lib.hid B1
    have d1 : W1.cell? ⟨w4.heap.size, 1, none⟩ = some (.slice A2 n2 d2) := B1.cell 1
    obtain ⟨r1, r2, r3, r4, r5, r6⟩ := stps_rd (hsl.keep K1 (fun _ h => h.elim))
    have HCl := Lib.hid (cloneT_any A2 n2 d2 B p W1 r1 r5 r3 (by omega) (Nat.le_trans (Nat.le_trans hB HK4.out.size) K1.size))
    have HI6 := Lib.hid r6
    have HKW := Lib.hid (HK4.out.trans K1)
    have HBW := Lib.hid (HB4.out.keep K1 (fun h => h))
    have HZ4 : Hid (w.heap.size + 1 + 1 < w4.heap.size) := Lib.hid (Nat.lt_of_lt_of_le HZ.out hk4.size)
    clear h1 h2 h3 hk4 hb1 HC K1 B1 hsl r1 r2 r3 r4 r5 r6 HB1 HB3
    go_wp2_with fail
    refine HCl.out.mono ?_
    rintro e w5 ⟨A3, d3, rfl, ho5, hk5⟩
    have hb5 := HB5.out.keep hk5 (fun h => h)
    have HBr := Lib.hid (HBW.out.keep hk5 (fun h => h))
    have e0 : w5.cell? ⟨w4.heap.size, 0, none⟩ = some (.int .i64 s1) := hb5.cell 0
    have e1 : w5.cell? ⟨w4.heap.size, 1, none⟩ = some (.slice A2 n2 d2) := hb5.cell 1
    have e2 : w5.cell? ⟨w4.heap.size, 2, none⟩ = some (.int .i64 s2) := hb5.cell 2
    have e3 : w5.cell? ⟨w4.heap.size, 3, none⟩ = some (.int .i64 s3) := hb5.cell 3
    have f0 := hb5.frozen 0
    have f1 := hb5.frozen 1
    have f2 := hb5.frozen 2
    have f3 := hb5.frozen 3
    have g0 : w5.cell? ⟨w.heap.size + 1 + 1, 0, none⟩ = some (.int .i64 0) := HBr.out.cell 0
    have g1 : w5.cell? ⟨w.heap.size + 1 + 1, 1, none⟩ = some (.slice none 0 0) := HBr.out.cell 1
    have g2 : w5.cell? ⟨w.heap.size + 1 + 1, 2, none⟩ = some (.int .i64 0) := HBr.out.cell 2
    have g3 : w5.cell? ⟨w.heap.size + 1 + 1, 3, none⟩ = some (.int .i64 0) := HBr.out.cell 3
    have h0 := HBr.out.frozen 0
    have h1 := HBr.out.frozen 1
    have h2 := HBr.out.frozen 2
    have h3 := HBr.out.frozen 3
    have hne : w.heap.size + 1 + 1 ≠ w4.heap.size := by have := HZ4.out; omega
    have hset : Keep (fun k => k = w4.heap.size) w5 (w5.setCell ⟨w4.heap.size, 1, none⟩ (.slice A3 n2 d3)) := (Keep.refl (fun k => k = w4.heap.size) w5).set_ (p := ⟨w4.heap.size, 1, none⟩) (.inl rfl) _
    have HBs := Lib.hid (HBr.out.keep hset hne)
    have HKs : Hid (Keep Never w (w5.setCell ⟨w4.heap.size, 1, none⟩ (.slice A3 n2 d3))) := Lib.hid ((HKW.out.trans hk5).set_ (p := ⟨w4.heap.size, 1, none⟩) (.inr HK4.out.size) _)
    have hrow : ∀ q, InRow A3 q → W1.heap.size ≤ q := fun q h => (ho5.row h).1
    have HW1 : Hid (w4.heap.size < W1.heap.size) := Lib.hid HB5.out.lt
    have hos := ho5.keep hset (fun q h e => by have := hrow q h; have := HW1.out; omega)
    have hput : Keep (fun k => k = w.heap.size + 1 + 1) (w5.setCell ⟨w4.heap.size, 1, none⟩ (.slice A3 n2 d3)) (((((w5.setCell ⟨w4.heap.size, 1, none⟩ (.slice A3 n2 d3)).setCell ⟨w.heap.size + 1 + 1, 0, none⟩ (.int .i64 s1)).setCell ⟨w.heap.size + 1 + 1, 1, none⟩ (.slice A3 n2 d3)).setCell ⟨w.heap.size + 1 + 1, 2, none⟩ (.int .i64 s2)).setCell ⟨w.heap.size + 1 + 1, 3, none⟩ (.int .i64 s3)) := put4_keep (Keep.refl (fun k => k = w.heap.size + 1 + 1) _) (.inl rfl) _ _ _ _
    have hoz := hos.keep hput (fun q h e => by have := hrow q h; have := HZ4.out; have := HW1.out; omega)
    have HOz : Hid (∀ W', Keep (fun q => q < w.heap.size) (((((w5.setCell ⟨w4.heap.size, 1, none⟩ (.slice A3 n2 d3)).setCell ⟨w.heap.size + 1 + 1, 0, none⟩ (.int .i64 s1)).setCell ⟨w.heap.size + 1 + 1, 1, none⟩ (.slice A3 n2 d3)).setCell ⟨w.heap.size + 1 + 1, 2, none⟩ (.int .i64 s2)).setCell ⟨w.heap.size + 1 + 1, 3, none⟩ (.int .i64 s3)) W' → repStp.Sl W' W'.heap.size A3 n2 d3 p) := Lib.hid (fun W' hk => stps_own (hoz.keep hk (fun q h e => by have := hrow q h; have := HZ4.out; have := HW1.out; omega)) HI6.out)
    have HBz := Lib.hid (put4_blk HBs.out (.int .i64 s1) (.slice A3 n2 d3) (.int .i64 s2) (.int .i64 s3))
    have HKz := Lib.hid (put4_keep HKs.out (.inr (show w.heap.size ≤ w.heap.size + 1 + 1 by omega)) (.int .i64 s1) (.slice A3 n2 d3) (.int .i64 s2) (.int .i64 s3))
    clear hb5 ho5 hk5 HCl hset hrow hos hput hoz
    go_wp2_with fail
    (try simp only [Exit.inBlock, Exit.then])
    refine bodyPost_ret (rt_results HBz.out _ rfl) rfl ⟨A3, n2, d3, by rw [HM.out]; rfl, by rw [HM.out]; exact HOz.out, HKz.out⟩
  · have HM : Hid (rtM t.2.2.2 id = none) := Lib.hid (find_no h1)
    have HK4 := Lib.hid (HK.out.trans hk4)
    have HB4 := Lib.hid (HB3.out.keep hk4 (fun h => h))
    have f0 := HB4.out.frozen 0
    have f1 := HB4.out.frozen 1
    have f2 := HB4.out.frozen 2
    have f3 := HB4.out.frozen 3
    have g0 : w4.cell? ⟨w.heap.size + 1 + 1, 0, none⟩ = some (.int .i64 0) := HB4.out.cell 0
    have g1 : w4.cell? ⟨w.heap.size + 1 + 1, 1, none⟩ = some (.slice none 0 0) := HB4.out.cell 1
    have g2 : w4.cell? ⟨w.heap.size + 1 + 1, 2, none⟩ = some (.int .i64 0) := HB4.out.cell 2
    have g3 : w4.cell? ⟨w.heap.size + 1 + 1, 3, none⟩ = some (.int .i64 0) := HB4.out.cell 3
    have HBz := Lib.hid (put4_blk HB4.out (.int .i64 0) (.slice none 0 0) (.int .i64 0) (.int .i64 0))
    have HKz := Lib.hid (put4_keep HK4.out (.inr (show w.heap.size ≤ w.heap.size + 1 + 1 by omega)) (.int .i64 0) (.slice none 0 0) (.int .i64 0) (.int .i64 0))
    clear h1 hk4 HC y2
    go_wp2_with fail
    (try simp only [Exit.inBlock, Exit.then])
    refine bodyPost_ret (rt_results HBz.out _ rfl) rfl ⟨none, 0, 0, by rw [HM.out]; rfl, by rw [HM.out]; intro W' _; exact Rep.Sl.nil _ _ _, HKz.out⟩

theorem TpAt.more {w : World} {B B2 : Nat} {x : TA} {t : Tp} (h : TpAt w B x t) (hB : B ≤ B2) : TpAt w B2 x t := ⟨h.e.more hB, h.j.more hB, h.b.more hB, h.r.more hB⟩
theorem len_any2 (x : TA) (t : Tp) (B1 B : Nat) (A : Option Addr) (n c : Nat) (p : List Stp) (w : World) (ht : TpAt w B1 x t) (hp : repStp.Sl w B A n c p) (hn : x.nj ≤ 100000000) (hn2 : n ≤ 100000000) :
    Calls Try.prog 25 #[.agg x.cs, .slice A n c] w fun e w' => e = .returned (.tuple #[.int .i64 (lenM t p).1, .int .i64 (lenM t p).2]) ∧ Keep Never w w' :=
  length_any x t (max B1 B) A n c p w (ht.more (Nat.le_max_left _ _)) (hp.more (Nat.le_max_right _ _)) hn hn2
set_option maxHeartbeats 40000000 in
set_option maxRecDepth 100000 in
theorem topoRoutes_walk (W : World) (cs0 : Array Value) (t : Tp) (s0 : repTp.cells W W.heap.size t cs0.toList) :
    Calls Try.prog 5 #[.agg cs0] W fun e W' => e = .returned (.bool true) ∧ Keep Never W W' := by
  obtain ⟨x, hx, ht⟩ := TpAt.of s0
  obtain rfl : cs0 = x.cs := by apply Array.ext'; exact hx
  clear s0 hx
  have HLt : Hid (∀ w', Keep Never W w' → Calls Try.prog 15 #[.agg x.cs] w' fun e w'' => ∃ b, e = .returned (.bool b) ∧ Hid (b = true → TpLight x t) ∧ Keep Never w' w'') := Lib.hid (fun w' h => light13r_any x t W.heap.size w' (ht.keep h))
  have HCk : Hid (∀ w', Keep Never W w' → TpLight x t → Calls Try.prog 21 #[.agg x.cs] w' fun e w'' => e = .returned (.int .i64 (checkM t)) ∧ Keep Never w' w'') := Lib.hid (fun w' h hl => check_any x t W.heap.size w' (ht.keep h) hl.small h.size)
  have HRo : Hid (∀ (id : Int) w', Keep Never W w' → TpLight x t → Calls Try.prog 18 #[.agg x.cs, .int .i64 id] w' (RtRet2 (rtM t.2.2.2 id) w')) := Lib.hid (fun id w' h hl => route_any2 x t W.heap.size id w' (ht.keep h) (by have := hl.r; omega) (fun r hr => by have := hl.p r hr; omega) h.size)
  have HLn : Hid (∀ A n c B p w', Keep Never W w' → TpLight x t → repStp.Sl w' B A n c p → n ≤ 100000000 → Calls Try.prog 25 #[.agg x.cs, .slice A n c] w' fun e w'' => e = .returned (.tuple #[.int .i64 (lenM t p).1, .int .i64 (lenM t p).2]) ∧ Keep Never w' w'') := Lib.hid (fun A n c B p w' h hl hp hn => len_any2 x t W.heap.size B A n c p w' (ht.keep h) hp (by have := hl.j; omega) hn)
  have HAf : Hid (∀ (i : Int) (r : Bool) w', Keep Never W w' → TpLight x t → Calls Try.prog 24 #[.agg x.cs, .agg #[.int .i64 i, .bool r]] w' (AftRet (afterM t (i, r)) w')) := Lib.hid (fun i r w' h hl => after_any x t W.heap.size (i, r) w' (ht.keep h) (by have := hl.j; omega) (by have := hl.e; omega))
  have HTp := Lib.hid ht
  have HL : Hid (x.nb = t.2.2.1.length ∧ x.nr = t.2.2.2.length ∧ x.ne = t.1.length) := Lib.hid ⟨ht.b.len, ht.r.len, ht.e.len⟩
  obtain ⟨Ae, ne, ce, Aj, nj, cj, Ab, nb, cb, Ar, nr, cr⟩ := x
  simp only [TA.cs] at HLt HCk HRo HLn HAf HL ⊢
  clear ht
  obtain ⟨w1, hw1⟩ : ∃ wb : World, W.alloc (.cells #[.slice Ae ne ce, .slice Aj nj cj, .slice Ab nb cb, .slice Ar nr cr] 27) = wb := ⟨_, rfl⟩
  have k1 : Keep Never W w1 := by rw [← hw1]; exact (Keep.refl _ _).alloc _
  have c1 := Blk.new W 27 #[.slice Ae ne ce, .slice Aj nj cj, .slice Ab nb cb, .slice Ar nr cr]
  rw [hw1] at c1
  have HB1 := Lib.hid c1
  have HK := Lib.hid k1
  have HA := Lib.hid (awake13_any w1)
  clear k1 c1
  go_enter Try.func5, Try.ntmps5
  go_wp2_with fail
  refine HA.out.mono ?_
  rintro e w4 ⟨rfl, hk4⟩
  have HK4 := Lib.hid hk4
  have hb1 := HB1.out.keep hk4 (fun h => h)
  have y0 : w4.cell? ⟨W.heap.size, 0, none⟩ = some (.slice Ae ne ce) := hb1.cell 0
  have y1 : w4.cell? ⟨W.heap.size, 1, none⟩ = some (.slice Aj nj cj) := hb1.cell 1
  have y2 : w4.cell? ⟨W.heap.size, 2, none⟩ = some (.slice Ab nb cb) := hb1.cell 2
  have y3 : w4.cell? ⟨W.heap.size, 3, none⟩ = some (.slice Ar nr cr) := hb1.cell 3
  have HC := Lib.hid (HLt.out w4 (HK.out.trans hk4))
  clear hk4 hb1 HA HLt
  go_wp2_with fail
  refine HC.out.mono ?_
  rintro e w5 ⟨lt, rfl, hlt, hk5⟩
  have HK5 := Lib.hid (HK4.out.trans hk5)
  clear hk5 HC y0 y1 y2 y3 hw1
  cases lt with
  | false =>
    go_wp2_with fail
    go_ret
    exact ⟨rfl, HK.out.trans HK5.out⟩
  | true =>
    have HLi := Lib.hid (hlt.out rfl)
    have hnb : nb ≤ 100 := HLi.out.b
    have hnr : nr ≤ 100 := HLi.out.r
    clear hlt
    have hb1 := HB1.out.keep HK5.out (fun h => h)
    have y0 : w5.cell? ⟨W.heap.size, 0, none⟩ = some (.slice Ae ne ce) := hb1.cell 0
    have y1 : w5.cell? ⟨W.heap.size, 1, none⟩ = some (.slice Aj nj cj) := hb1.cell 1
    have y2 : w5.cell? ⟨W.heap.size, 2, none⟩ = some (.slice Ab nb cb) := hb1.cell 2
    have y3 : w5.cell? ⟨W.heap.size, 3, none⟩ = some (.slice Ar nr cr) := hb1.cell 3
    have HCc := Lib.hid (HCk.out w5 (HK.out.trans HK5.out) HLi.out)
    have HGd : Hid (checkM t = 0 → ∀ (i : Nat) (r : Rt), t.2.2.2[i]? = some r → RtGood t r) := Lib.hid (fun h i r hr => check_good h hr)
    obtain ⟨ck, hck⟩ : ∃ z, checkM t = z := ⟨_, rfl⟩
    rw [hck] at HCc HGd
    clear hck hb1 HCk
    go_wp2_with fail
    refine HCc.out.mono ?_
    rintro e w6 ⟨rfl, hk6⟩
    have HK6 := Lib.hid (HK5.out.trans hk6)
    clear hk6 HCc y0 y1 y2 y3
    by_cases g : ck = 0
    case neg =>
      have t0 : (ck != 0) = true := by simpa using g
      clear g
      go_wp2_with fail
      go_ret
      exact ⟨rfl, HK.out.trans HK6.out⟩
    have t0 : (ck != 0) = false := by simpa using g
    have HG := Lib.hid (HGd.out g)
    clear g HGd
    have y3 : w6.cell? ⟨W.heap.size, 3, none⟩ = some (.slice Ar nr cr) := (HB1.out.keep HK6.out (fun h => h)).cell 3
    go_wp2_with fail
    clear y3 t0
    go_loopw [5] (fun i wr => ∃ k : Nat, k ≤ nr ∧ i = .int .i64 k ∧ Hid (Keep Never w6 wr)) (fun i _ => nr - (intOf i).toNat)
    case atStart => exact ⟨0, by omega, rfl, Lib.hid (Keep.refl _ _)⟩
    case round =>
      obtain ⟨i, hi, rfl, HH⟩ := hrel
      have HKr := Lib.hid (HK6.out.trans HH.out)
      have hb1 := HB1.out.keep HKr.out (fun h => h)
      have y3 : wr.cell? ⟨W.heap.size, 3, none⟩ = some (.slice Ar nr cr) := hb1.cell 3
      by_cases h0 : i < nr
      case neg =>
        obtain rfl : nr = i := by omega
        have hiz : ¬ (nr : Int) < (nr : Int) := by omega
        clear hb1
        go_wp2_with fail
        go_ret
        exact ⟨rfl, HK.out.trans HKr.out⟩
      have hiz : (i : Int) < (nr : Int) := by omega
      have y0 : wr.cell? ⟨W.heap.size, 0, none⟩ = some (.slice Ae ne ce) := hb1.cell 0
      have y1 : wr.cell? ⟨W.heap.size, 1, none⟩ = some (.slice Aj nj cj) := hb1.cell 1
      have y2 : wr.cell? ⟨W.heap.size, 2, none⟩ = some (.slice Ab nb cb) := hb1.cell 2
      obtain ⟨ad, r, A2, n2, d2, hA, _, hr, c0, c1, c2, c3, hsl⟩ := rt_at2 (HTp.out.keep (HK.out.trans HKr.out)).r h0
      simp only at hA
      subst hA
      obtain ⟨x1, p, x2, x3⟩ := r
      simp only at c0 c1 c2 c3 hsl
      have HGr := Lib.hid (HG.out i _ hr)
      have hp8 : n2 ≤ 8 := by have := HGr.out.few; have := hsl.len; simp only at *; omega
      have HSl := Lib.hid hsl
      have HRc0 : ∀ w', Keep Never wr w' → Calls Try.prog 18 #[.agg #[.slice Ae ne ce, .slice Aj nj cj, .slice Ab nb cb, .slice (some ad) nr cr], .int .i64 x1] w' (RtRet2 (some (x1, p, x2, x3)) w') := fun w' h => by
        have h1 := HRo.out x1 w' (HK.out.trans (HKr.out.trans h)) HLi.out
        rw [HGr.out.fnd] at h1
        exact h1
      have HRc := Lib.hid HRc0
      have HS2 : Hid (∀ W', Keep Never wr W' → Keep Never wr W' ∧ W'.cell? ⟨W.heap.size, 0, none⟩ = some (.slice Ae ne ce) ∧ W'.cell? ⟨W.heap.size, 1, none⟩ = some (.slice Aj nj cj) ∧ W'.cell? ⟨W.heap.size, 2, none⟩ = some (.slice Ab nb cb) ∧ W'.cell? ⟨W.heap.size, 3, none⟩ = some (.slice (some ad) nr cr) ∧ W'.cell? (ad.add (i * 4)) = some (.int .i64 x1)) := Lib.hid (fun W' h => ⟨h, keepT h y0, keepT h y1, keepT h y2, keepT h y3, keepT h c0⟩)
      have HCs : Hid (wr.cell? (ad.add (i * 4)) = some (.int .i64 x1) ∧ wr.cell? ⟨(ad.add (i * 4)).block, (ad.add (i * 4)).off + 1, none⟩ = some (.slice A2 n2 d2) ∧ wr.cell? ⟨(ad.add (i * 4)).block, (ad.add (i * 4)).off + 2, none⟩ = some (.int .i64 x2) ∧ wr.cell? ⟨(ad.add (i * 4)).block, (ad.add (i * 4)).off + 3, none⟩ = some (.int .i64 x3)) := Lib.hid ⟨c0, c1, c2, c3⟩
      have HHk := Lib.hid HH.out
      clear hsl hr hb1 HRc0 HRo HG
      go_wp2_with fail
      clear c1 c2 c3
      go_region_held3 (fun W' => Keep Never wr W' ∧ W'.cell? ⟨W.heap.size, 0, none⟩ = some (.slice Ae ne ce) ∧ W'.cell? ⟨W.heap.size, 1, none⟩ = some (.slice Aj nj cj) ∧ W'.cell? ⟨W.heap.size, 2, none⟩ = some (.slice Ab nb cb) ∧ W'.cell? ⟨W.heap.size, 3, none⟩ = some (.slice (some ad) nr cr) ∧ W'.cell? (ad.add (i * 4)) = some (.int .i64 x1))
        (first | assumption | exact HS2.out _ ((Keep.refl Never wr).drew) | exact HS2.out _ (Keep.trans (And.left (by assumption)) hk9) | exact HS2.out _ (Keep.alloc (And.left (by assumption)) _) | exact HS2.out _ (Keep.alloc (Keep.trans ((Keep.refl Never wr).drew) hk9) _) | exact HS2.out _ (put4_keep (And.left (by assumption)) (.inr (by first | exact Nat.le_refl _ | exact (Keep.size (And.left (by assumption))) | omega)) _ _ _ _))
        (first
          | (go_at_call 18; refine (HRc.out _ (by first | exact And.left (by assumption) | exact (Keep.refl Never wr).drew)).mono ?_; rintro e w9 ⟨A5, n5, c5, rfl, hs9, hk9⟩; have nb9 : Blk w9 wr.heap.size 36 #[.int .i64 0, .slice none 0 0, .int .i64 0, .int .i64 0] := (by first | exact Blk.keep (Blk.new _ _ _) hk9 (fun h => h) | exact Blk.keep (Blk.drew (Blk.new _ _ _)) hk9 (fun h => h)); have n0 : w9.cell? ⟨wr.heap.size, 0, none⟩ = some (.int .i64 0) := nb9.cell 0; have n1 : w9.cell? ⟨wr.heap.size, 1, none⟩ = some (.slice none 0 0) := nb9.cell 1; have n2 : w9.cell? ⟨wr.heap.size, 2, none⟩ = some (.int .i64 0) := nb9.cell 2; have n3 : w9.cell? ⟨wr.heap.size, 3, none⟩ = some (.int .i64 0) := nb9.cell 3; have m0 : w9.frozen? ⟨wr.heap.size, 0, none⟩ = false := nb9.frozen 0; have m1 : w9.frozen? ⟨wr.heap.size, 1, none⟩ = false := nb9.frozen 1; have m2 : w9.frozen? ⟨wr.heap.size, 2, none⟩ = false := nb9.frozen 2; have m3 : w9.frozen? ⟨wr.heap.size, 3, none⟩ = false := nb9.frozen 3)
          | (go_at_call 18; refine (HRc.out _ (by first | exact And.left (by assumption) | exact (Keep.refl Never wr).drew)).mono ?_; rintro e w9 ⟨A5, n5, c5, rfl, hs9, hk9⟩))
      · rename_i hS
        obtain ⟨wB, hwB⟩ : ∃ z, w9.alloc (.cells #[.int .i64 x1, .slice A5 n5 c5, .int .i64 x2, .int .i64 x3] 36) = z := ⟨_, rfl⟩
        obtain ⟨bq, hbq⟩ : ∃ z, w9.heap.size = z := ⟨_, rfl⟩
        have hkB := hS.1
        have hbB := Blk.new w9 36 #[.int .i64 x1, .slice A5 n5 c5, .int .i64 x2, .int .i64 x3]
        have hsB : repStp.Sl _ _ A5 n5 c5 p := hs9 _ ((Keep.refl _ w9).alloc (.cells #[.int .i64 x1, .slice A5 n5 c5, .int .i64 x2, .int .i64 x3] 36))
        rw [hwB] at hkB hbB hsB ⊢
        rw [hbq] at hbB ⊢
        clear hS HRc HS2 hk9 hs9 hwB hbq y0 y1 y2 y3 c0
        have HKB := Lib.hid (HKr.out.trans hkB)
        have HHB := Lib.hid (HHk.out.trans hkB)
        have HBB := Lib.hid hbB
        have HSB := Lib.hid hsB
        have hn5 : n5 ≤ 8 := by have h5 := HGr.out.few; have := hsB.len; simp only at h5; omega
        have c0 := keepT hkB HCs.out.1
        have c1 := keepT hkB HCs.out.2.1
        have c2 := keepT hkB HCs.out.2.2.1
        have c3 := keepT hkB HCs.out.2.2.2
        have d0 : wB.cell? ⟨bq, 0, none⟩ = some (.int .i64 x1) := hbB.cell 0
        have d1 : wB.cell? ⟨bq, 1, none⟩ = some (.slice A5 n5 c5) := hbB.cell 1
        have d2' : wB.cell? ⟨bq, 2, none⟩ = some (.int .i64 x2) := hbB.cell 2
        have d3 : wB.cell? ⟨bq, 3, none⟩ = some (.int .i64 x3) := hbB.cell 3
        have y3 : wB.cell? ⟨W.heap.size, 3, none⟩ = some (.slice (some ad) nr cr) := (HB1.out.keep HKB.out (fun h => h)).cell 3
        have HSa : Hid (∀ w', Keep Never wB w' → Calls Try.prog 20 #[.agg #[.int .i64 x1, .slice A5 n5 c5, .int .i64 x2, .int .i64 x3], .agg #[.int .i64 x1, .slice A2 n2 d2, .int .i64 x2, .int .i64 x3]] w' fun e w'' => e = .returned (.bool true) ∧ Keep Never w' w'') := Lib.hid (fun w' h => by
          have := sameRt_any (x1, p, x2, x3) (x1, p, x2, x3) A5 A2 n5 n2 c5 d2 _ _ w' (stps_rd (HSB.out.keep h (fun _ h => h.elim))).1 (stps_rd (HSl.out.keep (hkB.trans h) (fun _ h => h.elim))).1 (by omega) (by omega)
          rw [decide_eq_true (rfl : ((x1, p, x2, x3) : Rt) = (x1, p, x2, x3))] at this
          exact this)
        have HS3 : Hid (∀ W', Keep Never wB W' → Keep Never wB W' ∧ W'.cell? ⟨bq, 0, none⟩ = some (.int .i64 x1) ∧ W'.cell? ⟨bq, 1, none⟩ = some (.slice A5 n5 c5) ∧ W'.cell? ⟨bq, 2, none⟩ = some (.int .i64 x2) ∧ W'.cell? ⟨bq, 3, none⟩ = some (.int .i64 x3) ∧ W'.cell? ⟨W.heap.size, 3, none⟩ = some (.slice (some ad) nr cr) ∧ W'.cell? (ad.add (i * 4)) = some (.int .i64 x1) ∧ W'.cell? ⟨(ad.add (i * 4)).block, (ad.add (i * 4)).off + 1, none⟩ = some (.slice A2 n2 d2) ∧ W'.cell? ⟨(ad.add (i * 4)).block, (ad.add (i * 4)).off + 2, none⟩ = some (.int .i64 x2) ∧ W'.cell? ⟨(ad.add (i * 4)).block, (ad.add (i * 4)).off + 3, none⟩ = some (.int .i64 x3)) := Lib.hid (fun W' h => ⟨h, keepT h d0, keepT h d1, keepT h d2', keepT h d3, keepT h y3, keepT h c0, keepT h c1, keepT h c2, keepT h c3⟩)
        clear hkB hbB hsB d0 d1 d2' d3 c0 c1 c2 c3 HCs
        go_wp2_with fail
        go_region_held3 (fun W' => Keep Never wB W' ∧ W'.cell? ⟨bq, 0, none⟩ = some (.int .i64 x1) ∧ W'.cell? ⟨bq, 1, none⟩ = some (.slice A5 n5 c5) ∧ W'.cell? ⟨bq, 2, none⟩ = some (.int .i64 x2) ∧ W'.cell? ⟨bq, 3, none⟩ = some (.int .i64 x3) ∧ W'.cell? ⟨W.heap.size, 3, none⟩ = some (.slice (some ad) nr cr) ∧ W'.cell? (ad.add (i * 4)) = some (.int .i64 x1) ∧ W'.cell? ⟨(ad.add (i * 4)).block, (ad.add (i * 4)).off + 1, none⟩ = some (.slice A2 n2 d2) ∧ W'.cell? ⟨(ad.add (i * 4)).block, (ad.add (i * 4)).off + 2, none⟩ = some (.int .i64 x2) ∧ W'.cell? ⟨(ad.add (i * 4)).block, (ad.add (i * 4)).off + 3, none⟩ = some (.int .i64 x3))
          (first | assumption | exact HS3.out _ ((Keep.refl Never wB).drew) | exact HS3.out _ (Keep.trans (And.left (by assumption)) hk9') | exact HS3.out _ (Keep.trans ((Keep.refl Never wB).drew) hk9'))
          (first
            | (go_at_call 20; refine (HSa.out _ (by first | exact And.left (by assumption) | exact (Keep.refl Never wB).drew)).mono ?_; rintro e w10 ⟨rfl, hk9'⟩))
        rename_i hS
        have hkC := hS.1
        have HKC := Lib.hid (HKB.out.trans hkC)
        have d1 := (HBB.out.keep hkC (fun h => h)).cell 1
        have y0 := (HB1.out.keep HKC.out (fun h => h)).cell 0
        have y1 := (HB1.out.keep HKC.out (fun h => h)).cell 1
        have y2 := (HB1.out.keep HKC.out (fun h => h)).cell 2
        have y3' := (HB1.out.keep HKC.out (fun h => h)).cell 3
        simp only [List.getElem?_toArray, List.getElem?_cons_succ, List.getElem?_cons_zero] at d1 y0 y1 y2 y3'
        obtain ⟨l1, hl1⟩ : ∃ z, (lenM t p).1 = z := ⟨_, rfl⟩
        have HLc0 := HLn.out A5 n5 c5 _ p _ (HK.out.trans HKC.out) HLi.out (HSB.out.keep hkC (fun _ h => h.elim)) (by omega)
        rw [HGr.out.err, hl1] at HLc0
        have HLc := Lib.hid HLc0
        have u1 : decide (l1 ≤ x2) = false := by have h5 := HGr.out.gap; simp only at h5; rw [hl1] at h5; simpa using h5
        have u2 : decide ((n5 : Int) > 8) = false := by simp; omega
        have HKE := Lib.hid (HHB.out.trans hkC)
        have HBC := Lib.hid (HBB.out.keep hkC (fun h => h))
        have HSC := Lib.hid (HSB.out.keep hkC (fun _ h => h.elim))
        clear HSa HS3 hS hk9' y3 hkC hl1 HLc0 HKB HHB HBB HSB
        go_wp2_with fail
        refine HLc.out.mono ?_
        rintro e w11 ⟨rfl, hk11⟩
        have HKD := Lib.hid (HKC.out.trans hk11)
        have HKG := Lib.hid (HKE.out.trans hk11)
        have HBD := Lib.hid (HBC.out.keep hk11 (fun h => h))
        have HSD := Lib.hid (HSC.out.keep hk11 (fun _ h => h.elim))
        clear hk11 HKC HKE HBC HSC HLc d1 y0 y1 y2 y3'
        have d1 : w11.cell? ⟨bq, 1, none⟩ = some (.slice A5 n5 c5) := HBD.out.cell 1
        have d2' : w11.cell? ⟨bq, 2, none⟩ = some (.int .i64 x2) := HBD.out.cell 2
        go_wp2_with fail
        clear d1 d2' u1 u2
        go_loopw [11] (fun i wr => ∃ k : Nat, k ≤ n5 ∧ i = .int .i64 k ∧ Hid (Keep Never w11 wr)) (fun i _ => n5 - (intOf i).toNat)
        case atStart => exact ⟨0, by omega, rfl, Lib.hid (Keep.refl _ _)⟩
        case round =>
          obtain ⟨k, hk, rfl, HH2⟩ := hrel
          have HK2 := Lib.hid (HKD.out.trans HH2.out)
          have d1 : wr.cell? ⟨bq, 1, none⟩ = some (.slice A5 n5 c5) := (HBD.out.keep HH2.out (fun h => h)).cell 1
          by_cases hk5 : k < n5
          case neg =>
            obtain rfl : n5 = k := by omega
            have hkz : ¬ (n5 : Int) < (n5 : Int) := by omega
            go_wp2_with fail
            refine ⟨⟨i + 1, by omega, by go_num, Lib.hid (HKG.out.trans HH2.out)⟩, ?_⟩
            simp [intOf]; try omega
          have hkz : (k : Int) < (n5 : Int) := by omega
          obtain ⟨ad5, sk, hA5, _, hu, e0, e1⟩ := ((stps_rd (HSD.out.keep HH2.out (fun _ h => h.elim))).1).stp hk5
          subst hA5
          obtain ⟨s1, s2⟩ := sk
          simp only at e0 e1
          have Hu := Lib.hid hu
          have HE : Hid (wr.cell? (ad5.add (k * 2)) = some (.int .i64 s1) ∧ wr.cell? ⟨(ad5.add (k * 2)).block, (ad5.add (k * 2)).off + 1, none⟩ = some (.bool s2)) := Lib.hid ⟨e0, e1⟩
          obtain ⟨wk, hwk⟩ : ∃ z, wr = z := ⟨_, rfl⟩
          rw [hwk] at HH2 HK2 HE d1
          have y2 : wk.cell? ⟨W.heap.size, 2, none⟩ = some (.slice Ab nb cb) := (HB1.out.keep HK2.out (fun h => h)).cell 2
          clear e0 e1 hu
          rw [hwk]
          clear hwk
          go_wp2_with fail
          clear d1 y2
          go_loopw [12, 13] (fun h i wr => ∃ q : Nat, q ≤ nb ∧ h = .bool ((t.2.2.1.take q).any (fun b => b.2.1 == s1)) ∧ i = .int .i64 q ∧ Hid (Keep Never wk wr)) (fun _ i _ => nb - (intOf i).toNat)
          case atStart => exact ⟨0, by omega, by simp, rfl, Lib.hid (Keep.refl _ _)⟩
          case round =>
            obtain ⟨q, hq, rfl, rfl, HH3⟩ := hrel
            have HK3 := Lib.hid (HK2.out.trans HH3.out)
            have y2 : wr.cell? ⟨W.heap.size, 2, none⟩ = some (.slice Ab nb cb) := (HB1.out.keep HK3.out (fun h => h)).cell 2
            have d1 : wr.cell? ⟨bq, 1, none⟩ = some (.slice (some ad5) n5 c5) := (HBD.out.keep (HH2.out.trans HH3.out) (fun h => h)).cell 1
            have e0 := keepT HH3.out HE.out.1
            have e1 := keepT HH3.out HE.out.2
            by_cases hqb : q < nb
            · have hqz : (q : Int) < (nb : Int) := by omega
              obtain ⟨ad6, b, hA6, _, hb, f0, f1, f2⟩ := (bl_rd (HTp.out.keep (HK.out.trans HK3.out)).b).sp hqb
              simp only at hA6
              subst hA6
              obtain ⟨b1, b2, b3⟩ := b
              simp only at f0 f1 f2
              have HNx : Hid ((t.2.2.1.take (q + 1)).any (fun b => b.2.1 == s1) = ((t.2.2.1.take q).any (fun b => b.2.1 == s1) || (b2 == s1))) := Lib.hid (by
                obtain ⟨h2, h3⟩ := List.getElem?_eq_some_iff.1 hb
                rw [List.take_succ_eq_append_getElem h2, h3]
                simp [List.any_append])
              obtain ⟨hs, hhs⟩ : ∃ z, (t.2.2.1.take q).any (fun b => b.2.1 == s1) = z := ⟨_, rfl⟩
              obtain ⟨z, hz⟩ : ∃ z, (b2 == s1) = z := ⟨_, rfl⟩
              rw [hhs, hz] at HNx
              rw [hhs]
              clear hhs hb
              cases hs with
              | true =>
                clear f0 f1 f2 hz
                go_wp2_with fail
                go_quiet (fail)
                go_wp2_with fail
                refine ⟨⟨q + 1, by omega, by rw [HNx.out]; rfl, by go_num, Lib.hid (HH3.out.drewN _)⟩, ?_⟩
                simp [intOf]; try omega
              | false =>
                go_wp2_with fail
                go_quiet (fail)
                go_wp2_with fail
                refine ⟨⟨q + 1, by omega, by rw [HNx.out]; rfl, by go_num, Lib.hid (HH3.out.drewN _)⟩, ?_⟩
                simp [intOf]; try omega
            · obtain rfl : nb = q := by omega
              have hqz : ¬ (nb : Int) < (nb : Int) := by omega
              have hany : (t.2.2.1.take nb).any (fun b => b.2.1 == s1) = true := by
                rw [List.take_of_length_le (by rw [← HL.out.1]; exact Nat.le_refl _)]
                exact HGr.out.bal k (s1, s2) Hu.out
              rw [hany]
              clear hany
              have HKv := Lib.hid (HH2.out.trans HH3.out)
              by_cases k0 : k = 0
              · subst k0
                go_wp2_with fail
                refine wp_region_noPanic ?_
                refine wp_region_held_drew (S := (fun W' => Keep Never wr W' ∧ True)) (by kernel_rfl) ?_ (fun hHeld => ?_)
                · exact ⟨(Keep.refl Never wr).drew, trivial⟩
                refine wpAnyH_take (i := 0) (oi := ?_) (v := ?_) ?_ (by kernel_rfl) (by kernel_rfl) (by kernel_rfl) (fun _ _ _ h => h) (Or.inl ⟨?_, ?_⟩) (by assumption) ?_
                rotate_left 2
                · (simp only [List.getElem?_toArray, List.getElem?_cons_succ, List.getElem?_cons_zero]; rfl)
                · rfl
                · (intro w hSw; (try dsimp only at hSw); go_simp; (try with_reducible rfl))
                try simp only [Act.put, List.setIfInBounds_toArray, List.set_cons_zero, List.set_cons_succ]
                refine wpAnyH_take (i := 1) (oi := ?_) (v := ?_) ?_ (by kernel_rfl) (by kernel_rfl) (by kernel_rfl) (fun _ _ _ h => h) (Or.inl ⟨?_, ?_⟩) (by assumption) ?_
                rotate_left 2
                · (simp only [List.getElem?_toArray, List.getElem?_cons_succ, List.getElem?_cons_zero]; rfl)
                · rfl
                · (intro w hSw; (try dsimp only at hSw); go_simp; (try with_reducible rfl))
                try simp only [Act.put, List.setIfInBounds_toArray, List.set_cons_zero, List.set_cons_succ]
                refine wpAnyH_take (i := 2) (oi := ?_) (v := ?_) ?_ (by kernel_rfl) (by kernel_rfl) (by kernel_rfl) (fun _ _ _ h => h) (Or.inl ⟨?_, ?_⟩) (by assumption) ?_
                rotate_left 2
                · (simp only [List.getElem?_toArray, List.getElem?_cons_succ, List.getElem?_cons_zero]; rfl)
                · rfl
                · (intro w hSw; (try dsimp only at hSw); go_simp; (try with_reducible rfl))
                try simp only [Act.put, List.setIfInBounds_toArray, List.set_cons_zero, List.set_cons_succ]
                refine wpAnyH_take (i := 3) (oi := ?_) (v := ?_) ?_ (by kernel_rfl) (by kernel_rfl) (by kernel_rfl) (fun _ _ _ h => h) (Or.inl ⟨?_, ?_⟩) (by assumption) ?_
                rotate_left 2
                · (simp only [List.getElem?_toArray, List.getElem?_cons_succ, List.getElem?_cons_zero]; rfl)
                · rfl
                · (intro w hSw; (try dsimp only at hSw); go_simp; (try with_reducible rfl))
                try simp only [Act.put, List.setIfInBounds_toArray, List.set_cons_zero, List.set_cons_succ]
                refine wpAnyH_take (i := 4) (oi := ?_) (v := ?_) ?_ (by kernel_rfl) (by kernel_rfl) (by kernel_rfl) (fun _ _ _ h => h) (Or.inl ⟨?_, ?_⟩) (by assumption) ?_
                rotate_left 2
                · (simp only [List.getElem?_toArray, List.getElem?_cons_succ, List.getElem?_cons_zero]; rfl)
                · rfl
                · (intro w hSw; (try dsimp only at hSw); go_simp; (try with_reducible rfl))
                try simp only [Act.put, List.setIfInBounds_toArray, List.set_cons_zero, List.set_cons_succ]
                refine wpAnyH_take (i := 5) (oi := ?_) (v := ?_) ?_ (by kernel_rfl) (by kernel_rfl) (by kernel_rfl) (fun _ _ _ h => h) (Or.inl ⟨?_, ?_⟩) (by assumption) ?_
                rotate_left 2
                · (simp only [List.getElem?_toArray, List.getElem?_cons_succ, List.getElem?_cons_zero]; rfl)
                · rfl
                · (intro w hSw; (try dsimp only at hSw); go_simp; (try with_reducible rfl))
                try simp only [Act.put, List.setIfInBounds_toArray, List.set_cons_zero, List.set_cons_succ]
                refine wpAnyH_take (i := 6) (oi := ?_) (v := undef) ?_ (by kernel_rfl) (by kernel_rfl) (by kernel_rfl) (fun _ _ _ h => h) (Or.inr ⟨?_, rfl⟩) (by assumption) ?_
                rotate_left 1
                · (simp only [List.getElem?_toArray, List.getElem?_cons_succ, List.getElem?_cons_zero]; rfl)
                · rfl
                try simp only [Act.put, List.setIfInBounds_toArray, List.set_cons_zero, List.set_cons_succ]
                refine wpAnyH_take (i := 7) (oi := ?_) (v := undef) ?_ (by kernel_rfl) (by kernel_rfl) (by kernel_rfl) (fun _ _ _ h => h) (Or.inr ⟨?_, rfl⟩) (by assumption) ?_
                rotate_left 1
                · (simp only [List.getElem?_toArray, List.getElem?_cons_succ, List.getElem?_cons_zero]; rfl)
                · rfl
                try simp only [Act.put, List.setIfInBounds_toArray, List.set_cons_zero, List.set_cons_succ]
                refine wpAnyH_take (i := 8) (oi := ?_) (v := undef) ?_ (by kernel_rfl) (by kernel_rfl) (by kernel_rfl) (fun _ _ _ h => h) (Or.inr ⟨?_, rfl⟩) (by assumption) ?_
                rotate_left 1
                · (simp only [List.getElem?_toArray, List.getElem?_cons_succ, List.getElem?_cons_zero]; rfl)
                · rfl
                try simp only [Act.put, List.setIfInBounds_toArray, List.set_cons_zero, List.set_cons_succ]
                refine wpAnyH_take (i := 9) (oi := ?_) (v := undef) ?_ (by kernel_rfl) (by kernel_rfl) (by kernel_rfl) (fun _ _ _ h => h) (Or.inr ⟨?_, rfl⟩) (by assumption) ?_
                rotate_left 1
                · (simp only [List.getElem?_toArray, List.getElem?_cons_succ, List.getElem?_cons_zero]; rfl)
                · rfl
                try simp only [Act.put, List.setIfInBounds_toArray, List.set_cons_zero, List.set_cons_succ]
                refine wpAnyH_take (i := 10) (oi := ?_) (v := undef) ?_ (by kernel_rfl) (by kernel_rfl) (by kernel_rfl) (fun _ _ _ h => h) (Or.inr ⟨?_, rfl⟩) (by assumption) ?_
                rotate_left 1
                · (simp only [List.getElem?_toArray, List.getElem?_cons_succ, List.getElem?_cons_zero]; rfl)
                · rfl
                try simp only [Act.put, List.setIfInBounds_toArray, List.set_cons_zero, List.set_cons_succ]
                refine wpAnyH_take (i := 11) (oi := ?_) (v := undef) ?_ (by kernel_rfl) (by kernel_rfl) (by kernel_rfl) (fun _ _ _ h => h) (Or.inr ⟨?_, rfl⟩) (by assumption) ?_
                rotate_left 1
                · (simp only [List.getElem?_toArray, List.getElem?_cons_succ, List.getElem?_cons_zero]; rfl)
                · rfl
                try simp only [Act.put, List.setIfInBounds_toArray, List.set_cons_zero, List.set_cons_succ]
                refine wpAnyH_take (i := 12) (oi := ?_) (v := undef) ?_ (by kernel_rfl) (by kernel_rfl) (by kernel_rfl) (fun _ _ _ h => h) (Or.inr ⟨?_, rfl⟩) (by assumption) ?_
                rotate_left 1
                · (simp only [List.getElem?_toArray, List.getElem?_cons_succ, List.getElem?_cons_zero]; rfl)
                · rfl
                try simp only [Act.put, List.setIfInBounds_toArray, List.set_cons_zero, List.set_cons_succ]
                refine wpAnyH_take (i := 13) (oi := ?_) (v := undef) ?_ (by kernel_rfl) (by kernel_rfl) (by kernel_rfl) (fun _ _ _ h => h) (Or.inr ⟨?_, rfl⟩) (by assumption) ?_
                rotate_left 1
                · (simp only [List.getElem?_toArray, List.getElem?_cons_succ, List.getElem?_cons_zero]; rfl)
                · rfl
                try simp only [Act.put, List.setIfInBounds_toArray, List.set_cons_zero, List.set_cons_succ]
                refine wpAnyH_take (i := 14) (oi := ?_) (v := undef) ?_ (by kernel_rfl) (by kernel_rfl) (by kernel_rfl) (fun _ _ _ h => h) (Or.inr ⟨?_, rfl⟩) (by assumption) ?_
                rotate_left 1
                · (simp only [List.getElem?_toArray, List.getElem?_cons_succ, List.getElem?_cons_zero]; rfl)
                · rfl
                try simp only [Act.put, List.setIfInBounds_toArray, List.set_cons_zero, List.set_cons_succ]
                refine wpAnyH_take (i := 15) (oi := ?_) (v := undef) ?_ (by kernel_rfl) (by kernel_rfl) (by kernel_rfl) (fun _ _ _ h => h) (Or.inr ⟨?_, rfl⟩) (by assumption) ?_
                rotate_left 1
                · (simp only [List.getElem?_toArray, List.getElem?_cons_succ, List.getElem?_cons_zero]; rfl)
                · rfl
                try simp only [Act.put, List.setIfInBounds_toArray, List.set_cons_zero, List.set_cons_succ]
                refine wpAnyH_take (i := 16) (oi := ?_) (v := undef) ?_ (by kernel_rfl) (by kernel_rfl) (by kernel_rfl) (fun _ _ _ h => h) (Or.inr ⟨?_, rfl⟩) (by assumption) ?_
                rotate_left 1
                · (simp only [List.getElem?_toArray, List.getElem?_cons_succ, List.getElem?_cons_zero]; rfl)
                · rfl
                try simp only [Act.put, List.setIfInBounds_toArray, List.set_cons_zero, List.set_cons_succ]
                refine wpAnyH_take (i := 17) (oi := ?_) (v := undef) ?_ (by kernel_rfl) (by kernel_rfl) (by kernel_rfl) (fun _ _ _ h => h) (Or.inr ⟨?_, rfl⟩) (by assumption) ?_
                rotate_left 1
                · (simp only [List.getElem?_toArray, List.getElem?_cons_succ, List.getElem?_cons_zero]; rfl)
                · rfl
                try simp only [Act.put, List.setIfInBounds_toArray, List.set_cons_zero, List.set_cons_succ]
                refine wpAnyH_take (i := 18) (oi := ?_) (v := undef) ?_ (by kernel_rfl) (by kernel_rfl) (by kernel_rfl) (fun _ _ _ h => h) (Or.inr ⟨?_, rfl⟩) (by assumption) ?_
                rotate_left 1
                · (simp only [List.getElem?_toArray, List.getElem?_cons_succ, List.getElem?_cons_zero]; rfl)
                · rfl
                try simp only [Act.put, List.setIfInBounds_toArray, List.set_cons_zero, List.set_cons_succ]
                refine wpAnyH_take (i := 19) (oi := ?_) (v := undef) ?_ (by kernel_rfl) (by kernel_rfl) (by kernel_rfl) (fun _ _ _ h => h) (Or.inr ⟨?_, rfl⟩) (by assumption) ?_
                rotate_left 1
                · (simp only [List.getElem?_toArray, List.getElem?_cons_succ, List.getElem?_cons_zero]; rfl)
                · rfl
                try simp only [Act.put, List.setIfInBounds_toArray, List.set_cons_zero, List.set_cons_succ]
                refine wpAnyH_take (i := 20) (oi := ?_) (v := undef) ?_ (by kernel_rfl) (by kernel_rfl) (by kernel_rfl) (fun _ _ _ h => h) (Or.inr ⟨?_, rfl⟩) (by assumption) ?_
                rotate_left 1
                · (simp only [List.getElem?_toArray, List.getElem?_cons_succ, List.getElem?_cons_zero]; rfl)
                · rfl
                try simp only [Act.put, List.setIfInBounds_toArray, List.set_cons_zero, List.set_cons_succ]
                refine wpAnyH_take (i := 21) (oi := ?_) (v := ?_) ?_ (by kernel_rfl) (by kernel_rfl) (by kernel_rfl) (fun _ _ _ h => h) (Or.inl ⟨?_, ?_⟩) (by assumption) ?_
                rotate_left 2
                · (simp only [List.getElem?_toArray, List.getElem?_cons_succ, List.getElem?_cons_zero]; rfl)
                · rfl
                · (intro w hSw; (try dsimp only at hSw); go_simp; (try with_reducible rfl))
                try simp only [Act.put, List.setIfInBounds_toArray, List.set_cons_zero, List.set_cons_succ]
                refine wpAnyH_take (i := 22) (oi := ?_) (v := ?_) ?_ (by kernel_rfl) (by kernel_rfl) (by kernel_rfl) (fun _ _ _ h => h) (Or.inl ⟨?_, ?_⟩) (by assumption) ?_
                rotate_left 2
                · (simp only [List.getElem?_toArray, List.getElem?_cons_succ, List.getElem?_cons_zero]; rfl)
                · rfl
                · (intro w hSw; (try dsimp only at hSw); go_simp; (try with_reducible rfl))
                try simp only [Act.put, List.setIfInBounds_toArray, List.set_cons_zero, List.set_cons_succ]
                refine wpAnyH_done (by kernel_rfl) ?_ _
                refine NoPanic.normal ?_
                have hS := hHeld
                have HKz := Lib.hid HH3.out.drew
                clear d1 e0 e1 y2 hS hHeld
                go_wp2_with fail
                go_loopw [14] (fun i wr => ∃ j : Nat, j ≤ 0 ∧ i = .int .i64 j ∧ Hid (Keep Never wk wr)) (fun i _ => 0 - (intOf i).toNat)
                case atStart => exact ⟨0, by omega, rfl, HKz⟩
                case round =>
                  obtain ⟨j, hj, rfl, HJ⟩ := hrel
                  obtain rfl : j = 0 := by omega
                  go_wp2_with fail
                  refine ⟨⟨0 + 1, by omega, by go_num, Lib.hid (HH2.out.trans HJ.out)⟩, ?_⟩
                  simp [intOf]; try omega
              · obtain ⟨m, rfl⟩ : ∃ m, k = m + 1 := ⟨k - 1, by omega⟩
                have hc : ((m + 1 : Nat) : Int) = (m : Int) + 1 := by omega
                have hm : m < n5 := by omega
                have y0 : wr.cell? ⟨W.heap.size, 0, none⟩ = some (.slice Ae ne ce) := (HB1.out.keep HK3.out (fun h => h)).cell 0
                have y1 : wr.cell? ⟨W.heap.size, 1, none⟩ = some (.slice Aj nj cj) := (HB1.out.keep HK3.out (fun h => h)).cell 1
                have y3 : wr.cell? ⟨W.heap.size, 3, none⟩ = some (.slice (some ad) nr cr) := (HB1.out.keep HK3.out (fun h => h)).cell 3
                obtain ⟨ad7, sj, hA7, _, hv, g0, g1⟩ := ((stps_rd (HSD.out.keep HKv.out (fun _ h => h.elim))).1).stp hm
                injection hA7 with hA7
                subst hA7
                obtain ⟨v1, v2⟩ := sj
                simp only at g0 g1
                have HMem : Hid (decide (((s1, s2) : Stp) ∈ afterM t (v1, v2)) = true) := Lib.hid (decide_eq_true (HGr.out.aft m (v1, v2) (s1, s2) hv Hu.out))
                have HAc : Hid (∀ w', Keep Never wr w' → Calls Try.prog 24 #[.agg #[.slice Ae ne ce, .slice Aj nj cj, .slice Ab nb cb, .slice (some ad) nr cr], .agg #[.int .i64 v1, .bool v2]] w' (AftRet (afterM t (v1, v2)) w')) := Lib.hid (fun w' h => HAf.out v1 v2 w' (HK.out.trans (HK3.out.trans h)) HLi.out)
                have HLm : Hid ((afterM t (v1, v2)).length ≤ 100000000) := Lib.hid (by have h5 := afterM_len t (v1, v2); have := HLi.out.e; have := HL.out.2.2; simp only at *; omega)
                have HS4 : Hid (∀ W', Keep Never wr W' → Keep Never wr W' ∧ W'.cell? ⟨W.heap.size, 0, none⟩ = some (.slice Ae ne ce) ∧ W'.cell? ⟨W.heap.size, 1, none⟩ = some (.slice Aj nj cj) ∧ W'.cell? ⟨W.heap.size, 2, none⟩ = some (.slice Ab nb cb) ∧ W'.cell? ⟨W.heap.size, 3, none⟩ = some (.slice (some ad) nr cr) ∧ W'.cell? ⟨bq, 1, none⟩ = some (.slice (some ad5) n5 c5) ∧ W'.cell? (ad5.add (m * 2)) = some (.int .i64 v1) ∧ W'.cell? ⟨(ad5.add (m * 2)).block, (ad5.add (m * 2)).off + 1, none⟩ = some (.bool v2) ∧ W'.cell? (ad5.add ((m + 1) * 2)) = some (.int .i64 s1) ∧ W'.cell? ⟨(ad5.add ((m + 1) * 2)).block, (ad5.add ((m + 1) * 2)).off + 1, none⟩ = some (.bool s2)) := Lib.hid (fun W' h => ⟨h, keepT h y0, keepT h y1, keepT h y2, keepT h y3, keepT h d1, keepT h g0, keepT h g1, keepT h e0, keepT h e1⟩)
                have hz1 : (m : Int) + 1 < (n5 : Int) := by omega
                have hz2 : (m : Int) < (n5 : Int) := by omega
                have hz3 : (0 : Int) ≤ (m : Int) + 1 := by omega
                have hz4 : ((m : Int) + 1).toNat = m + 1 := by omega
                have hz5 : IntKind.i64.wrap ((m : Int) + 1 - 1) = (m : Int) := by rw [show (m : Int) + 1 - 1 = m by omega]; exact IntWalk.i64_in _ (by omega)
                have hz6 : IntKind.i64.wrap (m : Int) = (m : Int) := IntWalk.i64_in _ (by omega)
                rw [hc]
                clear hv hc hkz
                go_wp2_with fail
                clear y0 y1 y2 y3 d1 g0 g1 e0 e1
                go_region_held3 (fun W' => Keep Never wr W' ∧ W'.cell? ⟨W.heap.size, 0, none⟩ = some (.slice Ae ne ce) ∧ W'.cell? ⟨W.heap.size, 1, none⟩ = some (.slice Aj nj cj) ∧ W'.cell? ⟨W.heap.size, 2, none⟩ = some (.slice Ab nb cb) ∧ W'.cell? ⟨W.heap.size, 3, none⟩ = some (.slice (some ad) nr cr) ∧ W'.cell? ⟨bq, 1, none⟩ = some (.slice (some ad5) n5 c5) ∧ W'.cell? (ad5.add (m * 2)) = some (.int .i64 v1) ∧ W'.cell? ⟨(ad5.add (m * 2)).block, (ad5.add (m * 2)).off + 1, none⟩ = some (.bool v2) ∧ W'.cell? (ad5.add ((m + 1) * 2)) = some (.int .i64 s1) ∧ W'.cell? ⟨(ad5.add ((m + 1) * 2)).block, (ad5.add ((m + 1) * 2)).off + 1, none⟩ = some (.bool s2))
                  (first | assumption | exact HS4.out _ ((Keep.refl Never wr).drew) | exact HS4.out _ (Keep.trans (And.left (by assumption)) hk21) | exact HS4.out _ (Keep.trans ((Keep.refl Never wr).drew) hk21) | exact HS4.out _ (Keep.trans (And.left (by assumption)) hk22))
                  (first
                    | (go_at_call 24; refine (HAc.out _ (by first | exact And.left (by assumption) | exact (Keep.refl Never wr).drew)).mono ?_; rintro e w21 ⟨A8, n8, c8, rfl, hn8, ho8, hk21⟩; have HAm : Hid (∀ w', Keep Never w21 w' → Calls Try.prog 23 #[.slice A8 n8 c8, .agg #[.int .i64 s1, .bool s2]] w' fun e w'' => e = .returned (.bool true) ∧ Keep Never w' w'') := Lib.hid (fun w' h => by have h5 := among13_any A8 n8 c8 _ (afterM t (v1, v2)) (s1, s2) w' (ho8.rd.keep h (fun _ h => h.elim)) (by rw [hn8.out]; exact HLm.out); rw [HMem.out] at h5; exact h5))
                    | (go_at_call 23; refine (HAm.out _ (by first | exact Keep.refl Never _ | exact (Keep.refl Never _).drew)).mono ?_; rintro e w22 ⟨rfl, hk22⟩))
                all_goals
                  rename_i hS
                  have hkS := hS.1
                  have HKz := Lib.hid (HH3.out.trans hkS)
                  clear hS hkS HS4 HAc hk21 hk22 ho8
                  go_wp2_with fail
                  go_loopw [14] (fun i wr => ∃ j : Nat, j ≤ m + 1 ∧ i = .int .i64 j ∧ Hid (Keep Never wk wr)) (fun i _ => m + 1 - (intOf i).toNat)
                  case atStart => exact ⟨0, by omega, rfl, HKz⟩
                  case round =>
                    obtain ⟨j, hj, rfl, HJ⟩ := hrel
                    have HKj := Lib.hid (HH2.out.trans HJ.out)
                    by_cases hjm : j < m + 1
                    · have hjz : (j : Int) < (m : Int) + 1 := by omega
                      have hj5 : j < n5 := by omega
                      have d1 : wr.cell? ⟨bq, 1, none⟩ = some (.slice (some ad5) n5 c5) := (HBD.out.keep HKj.out (fun h => h)).cell 1
                      have e0 := keepT HJ.out HE.out.1
                      obtain ⟨ad9, sj, hA9, _, hv, g0, g1⟩ := ((stps_rd (HSD.out.keep HKj.out (fun _ h => h.elim))).1).stp hj5
                      injection hA9 with hA9
                      subst hA9
                      obtain ⟨o1, o2⟩ := sj
                      simp only at g0 g1
                      have t9 : (o1 == s1) = false := by
                        have h5 := HGr.out.dis j (m + 1) (o1, o2) (s1, s2) hjm hv Hu.out
                        simpa using h5
                      clear hv
                      go_wp2_with fail
                      go_quiet (fail)
                      go_wp2_with fail
                      refine ⟨⟨j + 1, by omega, by go_num, Lib.hid (HJ.out.drewN _)⟩, ?_⟩
                      simp [intOf]; try omega
                    · obtain rfl : j = m + 1 := by omega
                      have hjz : ¬ (((m + 1 : Nat) : Int) < (m : Int) + 1) := by omega
                      go_wp2_with fail
                      refine ⟨⟨m + 1 + 1, by omega, by go_num, Lib.hid HKj.out⟩, ?_⟩
                      simp [intOf]; try omega


      · rename_i hS
        obtain ⟨wB, hwB⟩ : ∃ z, ((((w9.setCell ⟨wr.heap.size, 0, none⟩ (.int .i64 x1)).setCell ⟨wr.heap.size, 1, none⟩ (.slice A5 n5 c5)).setCell ⟨wr.heap.size, 2, none⟩ (.int .i64 x2)).setCell ⟨wr.heap.size, 3, none⟩ (.int .i64 x3)) = z := ⟨_, rfl⟩
        have hkB := hS.1
        have hbB := put4_blk nb9 (.int .i64 x1) (.slice A5 n5 c5) (.int .i64 x2) (.int .i64 x3)
        have hsB : repStp.Sl ((((w9.setCell ⟨wr.heap.size, 0, none⟩ (.int .i64 x1)).setCell ⟨wr.heap.size, 1, none⟩ (.slice A5 n5 c5)).setCell ⟨wr.heap.size, 2, none⟩ (.int .i64 x2)).setCell ⟨wr.heap.size, 3, none⟩ (.int .i64 x3)) ((((w9.setCell ⟨wr.heap.size, 0, none⟩ (.int .i64 x1)).setCell ⟨wr.heap.size, 1, none⟩ (.slice A5 n5 c5)).setCell ⟨wr.heap.size, 2, none⟩ (.int .i64 x2)).setCell ⟨wr.heap.size, 3, none⟩ (.int .i64 x3)).heap.size A5 n5 c5 p := by
          refine hs9 _ (put4_keep (Keep.refl _ w9) (.inl ?_) (.int .i64 x1) (.slice A5 n5 c5) (.int .i64 x2) (.int .i64 x3))
          first
            | (show wr.heap.size < (World.alloc _ _).heap.size; simp; done)
            | (show wr.heap.size < (World.drew (World.alloc _ _)).heap.size; simp; done)
        obtain ⟨bq, hbq⟩ : ∃ z, wr.heap.size = z := ⟨_, rfl⟩
        rw [hwB] at hkB hbB hsB ⊢
        rw [hbq] at hbB ⊢
        clear n0 n1 n2 n3 m0 m1 m2 m3 nb9
        clear hS HRc HS2 hk9 hs9 hwB hbq y0 y1 y2 y3 c0
        have HKB := Lib.hid (HKr.out.trans hkB)
        have HHB := Lib.hid (HHk.out.trans hkB)
        have HBB := Lib.hid hbB
        have HSB := Lib.hid hsB
        have hn5 : n5 ≤ 8 := by have h5 := HGr.out.few; have := hsB.len; simp only at h5; omega
        have c0 := keepT hkB HCs.out.1
        have c1 := keepT hkB HCs.out.2.1
        have c2 := keepT hkB HCs.out.2.2.1
        have c3 := keepT hkB HCs.out.2.2.2
        have d0 : wB.cell? ⟨bq, 0, none⟩ = some (.int .i64 x1) := hbB.cell 0
        have d1 : wB.cell? ⟨bq, 1, none⟩ = some (.slice A5 n5 c5) := hbB.cell 1
        have d2' : wB.cell? ⟨bq, 2, none⟩ = some (.int .i64 x2) := hbB.cell 2
        have d3 : wB.cell? ⟨bq, 3, none⟩ = some (.int .i64 x3) := hbB.cell 3
        have y3 : wB.cell? ⟨W.heap.size, 3, none⟩ = some (.slice (some ad) nr cr) := (HB1.out.keep HKB.out (fun h => h)).cell 3
        have HSa : Hid (∀ w', Keep Never wB w' → Calls Try.prog 20 #[.agg #[.int .i64 x1, .slice A5 n5 c5, .int .i64 x2, .int .i64 x3], .agg #[.int .i64 x1, .slice A2 n2 d2, .int .i64 x2, .int .i64 x3]] w' fun e w'' => e = .returned (.bool true) ∧ Keep Never w' w'') := Lib.hid (fun w' h => by
          have := sameRt_any (x1, p, x2, x3) (x1, p, x2, x3) A5 A2 n5 n2 c5 d2 _ _ w' (stps_rd (HSB.out.keep h (fun _ h => h.elim))).1 (stps_rd (HSl.out.keep (hkB.trans h) (fun _ h => h.elim))).1 (by omega) (by omega)
          rw [decide_eq_true (rfl : ((x1, p, x2, x3) : Rt) = (x1, p, x2, x3))] at this
          exact this)
        have HS3 : Hid (∀ W', Keep Never wB W' → Keep Never wB W' ∧ W'.cell? ⟨bq, 0, none⟩ = some (.int .i64 x1) ∧ W'.cell? ⟨bq, 1, none⟩ = some (.slice A5 n5 c5) ∧ W'.cell? ⟨bq, 2, none⟩ = some (.int .i64 x2) ∧ W'.cell? ⟨bq, 3, none⟩ = some (.int .i64 x3) ∧ W'.cell? ⟨W.heap.size, 3, none⟩ = some (.slice (some ad) nr cr) ∧ W'.cell? (ad.add (i * 4)) = some (.int .i64 x1) ∧ W'.cell? ⟨(ad.add (i * 4)).block, (ad.add (i * 4)).off + 1, none⟩ = some (.slice A2 n2 d2) ∧ W'.cell? ⟨(ad.add (i * 4)).block, (ad.add (i * 4)).off + 2, none⟩ = some (.int .i64 x2) ∧ W'.cell? ⟨(ad.add (i * 4)).block, (ad.add (i * 4)).off + 3, none⟩ = some (.int .i64 x3)) := Lib.hid (fun W' h => ⟨h, keepT h d0, keepT h d1, keepT h d2', keepT h d3, keepT h y3, keepT h c0, keepT h c1, keepT h c2, keepT h c3⟩)
        clear hkB hbB hsB d0 d1 d2' d3 c0 c1 c2 c3 HCs
        go_wp2_with fail
        go_region_held3 (fun W' => Keep Never wB W' ∧ W'.cell? ⟨bq, 0, none⟩ = some (.int .i64 x1) ∧ W'.cell? ⟨bq, 1, none⟩ = some (.slice A5 n5 c5) ∧ W'.cell? ⟨bq, 2, none⟩ = some (.int .i64 x2) ∧ W'.cell? ⟨bq, 3, none⟩ = some (.int .i64 x3) ∧ W'.cell? ⟨W.heap.size, 3, none⟩ = some (.slice (some ad) nr cr) ∧ W'.cell? (ad.add (i * 4)) = some (.int .i64 x1) ∧ W'.cell? ⟨(ad.add (i * 4)).block, (ad.add (i * 4)).off + 1, none⟩ = some (.slice A2 n2 d2) ∧ W'.cell? ⟨(ad.add (i * 4)).block, (ad.add (i * 4)).off + 2, none⟩ = some (.int .i64 x2) ∧ W'.cell? ⟨(ad.add (i * 4)).block, (ad.add (i * 4)).off + 3, none⟩ = some (.int .i64 x3))
          (first | assumption | exact HS3.out _ ((Keep.refl Never wB).drew) | exact HS3.out _ (Keep.trans (And.left (by assumption)) hk9') | exact HS3.out _ (Keep.trans ((Keep.refl Never wB).drew) hk9'))
          (first
            | (go_at_call 20; refine (HSa.out _ (by first | exact And.left (by assumption) | exact (Keep.refl Never wB).drew)).mono ?_; rintro e w10 ⟨rfl, hk9'⟩))
        rename_i hS
        have hkC := hS.1
        have HKC := Lib.hid (HKB.out.trans hkC)
        have d1 := (HBB.out.keep hkC (fun h => h)).cell 1
        have y0 := (HB1.out.keep HKC.out (fun h => h)).cell 0
        have y1 := (HB1.out.keep HKC.out (fun h => h)).cell 1
        have y2 := (HB1.out.keep HKC.out (fun h => h)).cell 2
        have y3' := (HB1.out.keep HKC.out (fun h => h)).cell 3
        simp only [List.getElem?_toArray, List.getElem?_cons_succ, List.getElem?_cons_zero] at d1 y0 y1 y2 y3'
        obtain ⟨l1, hl1⟩ : ∃ z, (lenM t p).1 = z := ⟨_, rfl⟩
        have HLc0 := HLn.out A5 n5 c5 _ p _ (HK.out.trans HKC.out) HLi.out (HSB.out.keep hkC (fun _ h => h.elim)) (by omega)
        rw [HGr.out.err, hl1] at HLc0
        have HLc := Lib.hid HLc0
        have u1 : decide (l1 ≤ x2) = false := by have h5 := HGr.out.gap; simp only at h5; rw [hl1] at h5; simpa using h5
        have u2 : decide ((n5 : Int) > 8) = false := by simp; omega
        have HKE := Lib.hid (HHB.out.trans hkC)
        have HBC := Lib.hid (HBB.out.keep hkC (fun h => h))
        have HSC := Lib.hid (HSB.out.keep hkC (fun _ h => h.elim))
        clear HSa HS3 hS hk9' y3 hkC hl1 HLc0 HKB HHB HBB HSB
        go_wp2_with fail
        refine HLc.out.mono ?_
        rintro e w11 ⟨rfl, hk11⟩
        have HKD := Lib.hid (HKC.out.trans hk11)
        have HKG := Lib.hid (HKE.out.trans hk11)
        have HBD := Lib.hid (HBC.out.keep hk11 (fun h => h))
        have HSD := Lib.hid (HSC.out.keep hk11 (fun _ h => h.elim))
        clear hk11 HKC HKE HBC HSC HLc d1 y0 y1 y2 y3'
        have d1 : w11.cell? ⟨bq, 1, none⟩ = some (.slice A5 n5 c5) := HBD.out.cell 1
        have d2' : w11.cell? ⟨bq, 2, none⟩ = some (.int .i64 x2) := HBD.out.cell 2
        go_wp2_with fail
        clear d1 d2' u1 u2
        go_loopw [11] (fun i wr => ∃ k : Nat, k ≤ n5 ∧ i = .int .i64 k ∧ Hid (Keep Never w11 wr)) (fun i _ => n5 - (intOf i).toNat)
        case atStart => exact ⟨0, by omega, rfl, Lib.hid (Keep.refl _ _)⟩
        case round =>
          obtain ⟨k, hk, rfl, HH2⟩ := hrel
          have HK2 := Lib.hid (HKD.out.trans HH2.out)
          have d1 : wr.cell? ⟨bq, 1, none⟩ = some (.slice A5 n5 c5) := (HBD.out.keep HH2.out (fun h => h)).cell 1
          by_cases hk5 : k < n5
          case neg =>
            obtain rfl : n5 = k := by omega
            have hkz : ¬ (n5 : Int) < (n5 : Int) := by omega
            go_wp2_with fail
            refine ⟨⟨i + 1, by omega, by go_num, Lib.hid (HKG.out.trans HH2.out)⟩, ?_⟩
            simp [intOf]; try omega
          have hkz : (k : Int) < (n5 : Int) := by omega
          obtain ⟨ad5, sk, hA5, _, hu, e0, e1⟩ := ((stps_rd (HSD.out.keep HH2.out (fun _ h => h.elim))).1).stp hk5
          subst hA5
          obtain ⟨s1, s2⟩ := sk
          simp only at e0 e1
          have Hu := Lib.hid hu
          have HE : Hid (wr.cell? (ad5.add (k * 2)) = some (.int .i64 s1) ∧ wr.cell? ⟨(ad5.add (k * 2)).block, (ad5.add (k * 2)).off + 1, none⟩ = some (.bool s2)) := Lib.hid ⟨e0, e1⟩
          obtain ⟨wk, hwk⟩ : ∃ z, wr = z := ⟨_, rfl⟩
          rw [hwk] at HH2 HK2 HE d1
          have y2 : wk.cell? ⟨W.heap.size, 2, none⟩ = some (.slice Ab nb cb) := (HB1.out.keep HK2.out (fun h => h)).cell 2
          clear e0 e1 hu
          rw [hwk]
          clear hwk
          go_wp2_with fail
          clear d1 y2
          go_loopw [12, 13] (fun h i wr => ∃ q : Nat, q ≤ nb ∧ h = .bool ((t.2.2.1.take q).any (fun b => b.2.1 == s1)) ∧ i = .int .i64 q ∧ Hid (Keep Never wk wr)) (fun _ i _ => nb - (intOf i).toNat)
          case atStart => exact ⟨0, by omega, by simp, rfl, Lib.hid (Keep.refl _ _)⟩
          case round =>
            obtain ⟨q, hq, rfl, rfl, HH3⟩ := hrel
            have HK3 := Lib.hid (HK2.out.trans HH3.out)
            have y2 : wr.cell? ⟨W.heap.size, 2, none⟩ = some (.slice Ab nb cb) := (HB1.out.keep HK3.out (fun h => h)).cell 2
            have d1 : wr.cell? ⟨bq, 1, none⟩ = some (.slice (some ad5) n5 c5) := (HBD.out.keep (HH2.out.trans HH3.out) (fun h => h)).cell 1
            have e0 := keepT HH3.out HE.out.1
            have e1 := keepT HH3.out HE.out.2
            by_cases hqb : q < nb
            · have hqz : (q : Int) < (nb : Int) := by omega
              obtain ⟨ad6, b, hA6, _, hb, f0, f1, f2⟩ := (bl_rd (HTp.out.keep (HK.out.trans HK3.out)).b).sp hqb
              simp only at hA6
              subst hA6
              obtain ⟨b1, b2, b3⟩ := b
              simp only at f0 f1 f2
              have HNx : Hid ((t.2.2.1.take (q + 1)).any (fun b => b.2.1 == s1) = ((t.2.2.1.take q).any (fun b => b.2.1 == s1) || (b2 == s1))) := Lib.hid (by
                obtain ⟨h2, h3⟩ := List.getElem?_eq_some_iff.1 hb
                rw [List.take_succ_eq_append_getElem h2, h3]
                simp [List.any_append])
              obtain ⟨hs, hhs⟩ : ∃ z, (t.2.2.1.take q).any (fun b => b.2.1 == s1) = z := ⟨_, rfl⟩
              obtain ⟨z, hz⟩ : ∃ z, (b2 == s1) = z := ⟨_, rfl⟩
              rw [hhs, hz] at HNx
              rw [hhs]
              clear hhs hb
              cases hs with
              | true =>
                clear f0 f1 f2 hz
                go_wp2_with fail
                go_quiet (fail)
                go_wp2_with fail
                refine ⟨⟨q + 1, by omega, by rw [HNx.out]; rfl, by go_num, Lib.hid (HH3.out.drewN _)⟩, ?_⟩
                simp [intOf]; try omega
              | false =>
                go_wp2_with fail
                go_quiet (fail)
                go_wp2_with fail
                refine ⟨⟨q + 1, by omega, by rw [HNx.out]; rfl, by go_num, Lib.hid (HH3.out.drewN _)⟩, ?_⟩
                simp [intOf]; try omega
            · obtain rfl : nb = q := by omega
              have hqz : ¬ (nb : Int) < (nb : Int) := by omega
              have hany : (t.2.2.1.take nb).any (fun b => b.2.1 == s1) = true := by
                rw [List.take_of_length_le (by rw [← HL.out.1]; exact Nat.le_refl _)]
                exact HGr.out.bal k (s1, s2) Hu.out
              rw [hany]
              clear hany
              have HKv := Lib.hid (HH2.out.trans HH3.out)
              by_cases k0 : k = 0
              · subst k0
                go_wp2_with fail
                refine wp_region_noPanic ?_
                refine wp_region_held_drew (S := (fun W' => Keep Never wr W' ∧ True)) (by kernel_rfl) ?_ (fun hHeld => ?_)
                · exact ⟨(Keep.refl Never wr).drew, trivial⟩
                refine wpAnyH_take (i := 0) (oi := ?_) (v := ?_) ?_ (by kernel_rfl) (by kernel_rfl) (by kernel_rfl) (fun _ _ _ h => h) (Or.inl ⟨?_, ?_⟩) (by assumption) ?_
                rotate_left 2
                · (simp only [List.getElem?_toArray, List.getElem?_cons_succ, List.getElem?_cons_zero]; rfl)
                · rfl
                · (intro w hSw; (try dsimp only at hSw); go_simp; (try with_reducible rfl))
                try simp only [Act.put, List.setIfInBounds_toArray, List.set_cons_zero, List.set_cons_succ]
                refine wpAnyH_take (i := 1) (oi := ?_) (v := ?_) ?_ (by kernel_rfl) (by kernel_rfl) (by kernel_rfl) (fun _ _ _ h => h) (Or.inl ⟨?_, ?_⟩) (by assumption) ?_
                rotate_left 2
                · (simp only [List.getElem?_toArray, List.getElem?_cons_succ, List.getElem?_cons_zero]; rfl)
                · rfl
                · (intro w hSw; (try dsimp only at hSw); go_simp; (try with_reducible rfl))
                try simp only [Act.put, List.setIfInBounds_toArray, List.set_cons_zero, List.set_cons_succ]
                refine wpAnyH_take (i := 2) (oi := ?_) (v := ?_) ?_ (by kernel_rfl) (by kernel_rfl) (by kernel_rfl) (fun _ _ _ h => h) (Or.inl ⟨?_, ?_⟩) (by assumption) ?_
                rotate_left 2
                · (simp only [List.getElem?_toArray, List.getElem?_cons_succ, List.getElem?_cons_zero]; rfl)
                · rfl
                · (intro w hSw; (try dsimp only at hSw); go_simp; (try with_reducible rfl))
                try simp only [Act.put, List.setIfInBounds_toArray, List.set_cons_zero, List.set_cons_succ]
                refine wpAnyH_take (i := 3) (oi := ?_) (v := ?_) ?_ (by kernel_rfl) (by kernel_rfl) (by kernel_rfl) (fun _ _ _ h => h) (Or.inl ⟨?_, ?_⟩) (by assumption) ?_
                rotate_left 2
                · (simp only [List.getElem?_toArray, List.getElem?_cons_succ, List.getElem?_cons_zero]; rfl)
                · rfl
                · (intro w hSw; (try dsimp only at hSw); go_simp; (try with_reducible rfl))
                try simp only [Act.put, List.setIfInBounds_toArray, List.set_cons_zero, List.set_cons_succ]
                refine wpAnyH_take (i := 4) (oi := ?_) (v := ?_) ?_ (by kernel_rfl) (by kernel_rfl) (by kernel_rfl) (fun _ _ _ h => h) (Or.inl ⟨?_, ?_⟩) (by assumption) ?_
                rotate_left 2
                · (simp only [List.getElem?_toArray, List.getElem?_cons_succ, List.getElem?_cons_zero]; rfl)
                · rfl
                · (intro w hSw; (try dsimp only at hSw); go_simp; (try with_reducible rfl))
                try simp only [Act.put, List.setIfInBounds_toArray, List.set_cons_zero, List.set_cons_succ]
                refine wpAnyH_take (i := 5) (oi := ?_) (v := ?_) ?_ (by kernel_rfl) (by kernel_rfl) (by kernel_rfl) (fun _ _ _ h => h) (Or.inl ⟨?_, ?_⟩) (by assumption) ?_
                rotate_left 2
                · (simp only [List.getElem?_toArray, List.getElem?_cons_succ, List.getElem?_cons_zero]; rfl)
                · rfl
                · (intro w hSw; (try dsimp only at hSw); go_simp; (try with_reducible rfl))
                try simp only [Act.put, List.setIfInBounds_toArray, List.set_cons_zero, List.set_cons_succ]
                refine wpAnyH_take (i := 6) (oi := ?_) (v := undef) ?_ (by kernel_rfl) (by kernel_rfl) (by kernel_rfl) (fun _ _ _ h => h) (Or.inr ⟨?_, rfl⟩) (by assumption) ?_
                rotate_left 1
                · (simp only [List.getElem?_toArray, List.getElem?_cons_succ, List.getElem?_cons_zero]; rfl)
                · rfl
                try simp only [Act.put, List.setIfInBounds_toArray, List.set_cons_zero, List.set_cons_succ]
                refine wpAnyH_take (i := 7) (oi := ?_) (v := undef) ?_ (by kernel_rfl) (by kernel_rfl) (by kernel_rfl) (fun _ _ _ h => h) (Or.inr ⟨?_, rfl⟩) (by assumption) ?_
                rotate_left 1
                · (simp only [List.getElem?_toArray, List.getElem?_cons_succ, List.getElem?_cons_zero]; rfl)
                · rfl
                try simp only [Act.put, List.setIfInBounds_toArray, List.set_cons_zero, List.set_cons_succ]
                refine wpAnyH_take (i := 8) (oi := ?_) (v := undef) ?_ (by kernel_rfl) (by kernel_rfl) (by kernel_rfl) (fun _ _ _ h => h) (Or.inr ⟨?_, rfl⟩) (by assumption) ?_
                rotate_left 1
                · (simp only [List.getElem?_toArray, List.getElem?_cons_succ, List.getElem?_cons_zero]; rfl)
                · rfl
                try simp only [Act.put, List.setIfInBounds_toArray, List.set_cons_zero, List.set_cons_succ]
                refine wpAnyH_take (i := 9) (oi := ?_) (v := undef) ?_ (by kernel_rfl) (by kernel_rfl) (by kernel_rfl) (fun _ _ _ h => h) (Or.inr ⟨?_, rfl⟩) (by assumption) ?_
                rotate_left 1
                · (simp only [List.getElem?_toArray, List.getElem?_cons_succ, List.getElem?_cons_zero]; rfl)
                · rfl
                try simp only [Act.put, List.setIfInBounds_toArray, List.set_cons_zero, List.set_cons_succ]
                refine wpAnyH_take (i := 10) (oi := ?_) (v := undef) ?_ (by kernel_rfl) (by kernel_rfl) (by kernel_rfl) (fun _ _ _ h => h) (Or.inr ⟨?_, rfl⟩) (by assumption) ?_
                rotate_left 1
                · (simp only [List.getElem?_toArray, List.getElem?_cons_succ, List.getElem?_cons_zero]; rfl)
                · rfl
                try simp only [Act.put, List.setIfInBounds_toArray, List.set_cons_zero, List.set_cons_succ]
                refine wpAnyH_take (i := 11) (oi := ?_) (v := undef) ?_ (by kernel_rfl) (by kernel_rfl) (by kernel_rfl) (fun _ _ _ h => h) (Or.inr ⟨?_, rfl⟩) (by assumption) ?_
                rotate_left 1
                · (simp only [List.getElem?_toArray, List.getElem?_cons_succ, List.getElem?_cons_zero]; rfl)
                · rfl
                try simp only [Act.put, List.setIfInBounds_toArray, List.set_cons_zero, List.set_cons_succ]
                refine wpAnyH_take (i := 12) (oi := ?_) (v := undef) ?_ (by kernel_rfl) (by kernel_rfl) (by kernel_rfl) (fun _ _ _ h => h) (Or.inr ⟨?_, rfl⟩) (by assumption) ?_
                rotate_left 1
                · (simp only [List.getElem?_toArray, List.getElem?_cons_succ, List.getElem?_cons_zero]; rfl)
                · rfl
                try simp only [Act.put, List.setIfInBounds_toArray, List.set_cons_zero, List.set_cons_succ]
                refine wpAnyH_take (i := 13) (oi := ?_) (v := undef) ?_ (by kernel_rfl) (by kernel_rfl) (by kernel_rfl) (fun _ _ _ h => h) (Or.inr ⟨?_, rfl⟩) (by assumption) ?_
                rotate_left 1
                · (simp only [List.getElem?_toArray, List.getElem?_cons_succ, List.getElem?_cons_zero]; rfl)
                · rfl
                try simp only [Act.put, List.setIfInBounds_toArray, List.set_cons_zero, List.set_cons_succ]
                refine wpAnyH_take (i := 14) (oi := ?_) (v := undef) ?_ (by kernel_rfl) (by kernel_rfl) (by kernel_rfl) (fun _ _ _ h => h) (Or.inr ⟨?_, rfl⟩) (by assumption) ?_
                rotate_left 1
                · (simp only [List.getElem?_toArray, List.getElem?_cons_succ, List.getElem?_cons_zero]; rfl)
                · rfl
                try simp only [Act.put, List.setIfInBounds_toArray, List.set_cons_zero, List.set_cons_succ]
                refine wpAnyH_take (i := 15) (oi := ?_) (v := undef) ?_ (by kernel_rfl) (by kernel_rfl) (by kernel_rfl) (fun _ _ _ h => h) (Or.inr ⟨?_, rfl⟩) (by assumption) ?_
                rotate_left 1
                · (simp only [List.getElem?_toArray, List.getElem?_cons_succ, List.getElem?_cons_zero]; rfl)
                · rfl
                try simp only [Act.put, List.setIfInBounds_toArray, List.set_cons_zero, List.set_cons_succ]
                refine wpAnyH_take (i := 16) (oi := ?_) (v := undef) ?_ (by kernel_rfl) (by kernel_rfl) (by kernel_rfl) (fun _ _ _ h => h) (Or.inr ⟨?_, rfl⟩) (by assumption) ?_
                rotate_left 1
                · (simp only [List.getElem?_toArray, List.getElem?_cons_succ, List.getElem?_cons_zero]; rfl)
                · rfl
                try simp only [Act.put, List.setIfInBounds_toArray, List.set_cons_zero, List.set_cons_succ]
                refine wpAnyH_take (i := 17) (oi := ?_) (v := undef) ?_ (by kernel_rfl) (by kernel_rfl) (by kernel_rfl) (fun _ _ _ h => h) (Or.inr ⟨?_, rfl⟩) (by assumption) ?_
                rotate_left 1
                · (simp only [List.getElem?_toArray, List.getElem?_cons_succ, List.getElem?_cons_zero]; rfl)
                · rfl
                try simp only [Act.put, List.setIfInBounds_toArray, List.set_cons_zero, List.set_cons_succ]
                refine wpAnyH_take (i := 18) (oi := ?_) (v := undef) ?_ (by kernel_rfl) (by kernel_rfl) (by kernel_rfl) (fun _ _ _ h => h) (Or.inr ⟨?_, rfl⟩) (by assumption) ?_
                rotate_left 1
                · (simp only [List.getElem?_toArray, List.getElem?_cons_succ, List.getElem?_cons_zero]; rfl)
                · rfl
                try simp only [Act.put, List.setIfInBounds_toArray, List.set_cons_zero, List.set_cons_succ]
                refine wpAnyH_take (i := 19) (oi := ?_) (v := undef) ?_ (by kernel_rfl) (by kernel_rfl) (by kernel_rfl) (fun _ _ _ h => h) (Or.inr ⟨?_, rfl⟩) (by assumption) ?_
                rotate_left 1
                · (simp only [List.getElem?_toArray, List.getElem?_cons_succ, List.getElem?_cons_zero]; rfl)
                · rfl
                try simp only [Act.put, List.setIfInBounds_toArray, List.set_cons_zero, List.set_cons_succ]
                refine wpAnyH_take (i := 20) (oi := ?_) (v := undef) ?_ (by kernel_rfl) (by kernel_rfl) (by kernel_rfl) (fun _ _ _ h => h) (Or.inr ⟨?_, rfl⟩) (by assumption) ?_
                rotate_left 1
                · (simp only [List.getElem?_toArray, List.getElem?_cons_succ, List.getElem?_cons_zero]; rfl)
                · rfl
                try simp only [Act.put, List.setIfInBounds_toArray, List.set_cons_zero, List.set_cons_succ]
                refine wpAnyH_take (i := 21) (oi := ?_) (v := ?_) ?_ (by kernel_rfl) (by kernel_rfl) (by kernel_rfl) (fun _ _ _ h => h) (Or.inl ⟨?_, ?_⟩) (by assumption) ?_
                rotate_left 2
                · (simp only [List.getElem?_toArray, List.getElem?_cons_succ, List.getElem?_cons_zero]; rfl)
                · rfl
                · (intro w hSw; (try dsimp only at hSw); go_simp; (try with_reducible rfl))
                try simp only [Act.put, List.setIfInBounds_toArray, List.set_cons_zero, List.set_cons_succ]
                refine wpAnyH_take (i := 22) (oi := ?_) (v := ?_) ?_ (by kernel_rfl) (by kernel_rfl) (by kernel_rfl) (fun _ _ _ h => h) (Or.inl ⟨?_, ?_⟩) (by assumption) ?_
                rotate_left 2
                · (simp only [List.getElem?_toArray, List.getElem?_cons_succ, List.getElem?_cons_zero]; rfl)
                · rfl
                · (intro w hSw; (try dsimp only at hSw); go_simp; (try with_reducible rfl))
                try simp only [Act.put, List.setIfInBounds_toArray, List.set_cons_zero, List.set_cons_succ]
                refine wpAnyH_done (by kernel_rfl) ?_ _
                refine NoPanic.normal ?_
                have hS := hHeld
                have HKz := Lib.hid HH3.out.drew
                clear d1 e0 e1 y2 hS hHeld
                go_wp2_with fail
                go_loopw [14] (fun i wr => ∃ j : Nat, j ≤ 0 ∧ i = .int .i64 j ∧ Hid (Keep Never wk wr)) (fun i _ => 0 - (intOf i).toNat)
                case atStart => exact ⟨0, by omega, rfl, HKz⟩
                case round =>
                  obtain ⟨j, hj, rfl, HJ⟩ := hrel
                  obtain rfl : j = 0 := by omega
                  go_wp2_with fail
                  refine ⟨⟨0 + 1, by omega, by go_num, Lib.hid (HH2.out.trans HJ.out)⟩, ?_⟩
                  simp [intOf]; try omega
              · obtain ⟨m, rfl⟩ : ∃ m, k = m + 1 := ⟨k - 1, by omega⟩
                have hc : ((m + 1 : Nat) : Int) = (m : Int) + 1 := by omega
                have hm : m < n5 := by omega
                have y0 : wr.cell? ⟨W.heap.size, 0, none⟩ = some (.slice Ae ne ce) := (HB1.out.keep HK3.out (fun h => h)).cell 0
                have y1 : wr.cell? ⟨W.heap.size, 1, none⟩ = some (.slice Aj nj cj) := (HB1.out.keep HK3.out (fun h => h)).cell 1
                have y3 : wr.cell? ⟨W.heap.size, 3, none⟩ = some (.slice (some ad) nr cr) := (HB1.out.keep HK3.out (fun h => h)).cell 3
                obtain ⟨ad7, sj, hA7, _, hv, g0, g1⟩ := ((stps_rd (HSD.out.keep HKv.out (fun _ h => h.elim))).1).stp hm
                injection hA7 with hA7
                subst hA7
                obtain ⟨v1, v2⟩ := sj
                simp only at g0 g1
                have HMem : Hid (decide (((s1, s2) : Stp) ∈ afterM t (v1, v2)) = true) := Lib.hid (decide_eq_true (HGr.out.aft m (v1, v2) (s1, s2) hv Hu.out))
                have HAc : Hid (∀ w', Keep Never wr w' → Calls Try.prog 24 #[.agg #[.slice Ae ne ce, .slice Aj nj cj, .slice Ab nb cb, .slice (some ad) nr cr], .agg #[.int .i64 v1, .bool v2]] w' (AftRet (afterM t (v1, v2)) w')) := Lib.hid (fun w' h => HAf.out v1 v2 w' (HK.out.trans (HK3.out.trans h)) HLi.out)
                have HLm : Hid ((afterM t (v1, v2)).length ≤ 100000000) := Lib.hid (by have h5 := afterM_len t (v1, v2); have := HLi.out.e; have := HL.out.2.2; simp only at *; omega)
                have HS4 : Hid (∀ W', Keep Never wr W' → Keep Never wr W' ∧ W'.cell? ⟨W.heap.size, 0, none⟩ = some (.slice Ae ne ce) ∧ W'.cell? ⟨W.heap.size, 1, none⟩ = some (.slice Aj nj cj) ∧ W'.cell? ⟨W.heap.size, 2, none⟩ = some (.slice Ab nb cb) ∧ W'.cell? ⟨W.heap.size, 3, none⟩ = some (.slice (some ad) nr cr) ∧ W'.cell? ⟨bq, 1, none⟩ = some (.slice (some ad5) n5 c5) ∧ W'.cell? (ad5.add (m * 2)) = some (.int .i64 v1) ∧ W'.cell? ⟨(ad5.add (m * 2)).block, (ad5.add (m * 2)).off + 1, none⟩ = some (.bool v2) ∧ W'.cell? (ad5.add ((m + 1) * 2)) = some (.int .i64 s1) ∧ W'.cell? ⟨(ad5.add ((m + 1) * 2)).block, (ad5.add ((m + 1) * 2)).off + 1, none⟩ = some (.bool s2)) := Lib.hid (fun W' h => ⟨h, keepT h y0, keepT h y1, keepT h y2, keepT h y3, keepT h d1, keepT h g0, keepT h g1, keepT h e0, keepT h e1⟩)
                have hz1 : (m : Int) + 1 < (n5 : Int) := by omega
                have hz2 : (m : Int) < (n5 : Int) := by omega
                have hz3 : (0 : Int) ≤ (m : Int) + 1 := by omega
                have hz4 : ((m : Int) + 1).toNat = m + 1 := by omega
                have hz5 : IntKind.i64.wrap ((m : Int) + 1 - 1) = (m : Int) := by rw [show (m : Int) + 1 - 1 = m by omega]; exact IntWalk.i64_in _ (by omega)
                have hz6 : IntKind.i64.wrap (m : Int) = (m : Int) := IntWalk.i64_in _ (by omega)
                rw [hc]
                clear hv hc hkz
                go_wp2_with fail
                clear y0 y1 y2 y3 d1 g0 g1 e0 e1
                go_region_held3 (fun W' => Keep Never wr W' ∧ W'.cell? ⟨W.heap.size, 0, none⟩ = some (.slice Ae ne ce) ∧ W'.cell? ⟨W.heap.size, 1, none⟩ = some (.slice Aj nj cj) ∧ W'.cell? ⟨W.heap.size, 2, none⟩ = some (.slice Ab nb cb) ∧ W'.cell? ⟨W.heap.size, 3, none⟩ = some (.slice (some ad) nr cr) ∧ W'.cell? ⟨bq, 1, none⟩ = some (.slice (some ad5) n5 c5) ∧ W'.cell? (ad5.add (m * 2)) = some (.int .i64 v1) ∧ W'.cell? ⟨(ad5.add (m * 2)).block, (ad5.add (m * 2)).off + 1, none⟩ = some (.bool v2) ∧ W'.cell? (ad5.add ((m + 1) * 2)) = some (.int .i64 s1) ∧ W'.cell? ⟨(ad5.add ((m + 1) * 2)).block, (ad5.add ((m + 1) * 2)).off + 1, none⟩ = some (.bool s2))
                  (first | assumption | exact HS4.out _ ((Keep.refl Never wr).drew) | exact HS4.out _ (Keep.trans (And.left (by assumption)) hk21) | exact HS4.out _ (Keep.trans ((Keep.refl Never wr).drew) hk21) | exact HS4.out _ (Keep.trans (And.left (by assumption)) hk22))
                  (first
                    | (go_at_call 24; refine (HAc.out _ (by first | exact And.left (by assumption) | exact (Keep.refl Never wr).drew)).mono ?_; rintro e w21 ⟨A8, n8, c8, rfl, hn8, ho8, hk21⟩; have HAm : Hid (∀ w', Keep Never w21 w' → Calls Try.prog 23 #[.slice A8 n8 c8, .agg #[.int .i64 s1, .bool s2]] w' fun e w'' => e = .returned (.bool true) ∧ Keep Never w' w'') := Lib.hid (fun w' h => by have h5 := among13_any A8 n8 c8 _ (afterM t (v1, v2)) (s1, s2) w' (ho8.rd.keep h (fun _ h => h.elim)) (by rw [hn8.out]; exact HLm.out); rw [HMem.out] at h5; exact h5))
                    | (go_at_call 23; refine (HAm.out _ (by first | exact Keep.refl Never _ | exact (Keep.refl Never _).drew)).mono ?_; rintro e w22 ⟨rfl, hk22⟩))
                all_goals
                  rename_i hS
                  have hkS := hS.1
                  have HKz := Lib.hid (HH3.out.trans hkS)
                  clear hS hkS HS4 HAc hk21 hk22 ho8
                  go_wp2_with fail
                  go_loopw [14] (fun i wr => ∃ j : Nat, j ≤ m + 1 ∧ i = .int .i64 j ∧ Hid (Keep Never wk wr)) (fun i _ => m + 1 - (intOf i).toNat)
                  case atStart => exact ⟨0, by omega, rfl, HKz⟩
                  case round =>
                    obtain ⟨j, hj, rfl, HJ⟩ := hrel
                    have HKj := Lib.hid (HH2.out.trans HJ.out)
                    by_cases hjm : j < m + 1
                    · have hjz : (j : Int) < (m : Int) + 1 := by omega
                      have hj5 : j < n5 := by omega
                      have d1 : wr.cell? ⟨bq, 1, none⟩ = some (.slice (some ad5) n5 c5) := (HBD.out.keep HKj.out (fun h => h)).cell 1
                      have e0 := keepT HJ.out HE.out.1
                      obtain ⟨ad9, sj, hA9, _, hv, g0, g1⟩ := ((stps_rd (HSD.out.keep HKj.out (fun _ h => h.elim))).1).stp hj5
                      injection hA9 with hA9
                      subst hA9
                      obtain ⟨o1, o2⟩ := sj
                      simp only at g0 g1
                      have t9 : (o1 == s1) = false := by
                        have h5 := HGr.out.dis j (m + 1) (o1, o2) (s1, s2) hjm hv Hu.out
                        simpa using h5
                      clear hv
                      go_wp2_with fail
                      go_quiet (fail)
                      go_wp2_with fail
                      refine ⟨⟨j + 1, by omega, by go_num, Lib.hid (HJ.out.drewN _)⟩, ?_⟩
                      simp [intOf]; try omega
                    · obtain rfl : j = m + 1 := by omega
                      have hjz : ¬ (((m + 1 : Nat) : Int) < (m : Int) + 1) := by omega
                      go_wp2_with fail
                      refine ⟨⟨m + 1 + 1, by omega, by go_num, Lib.hid HKj.out⟩, ?_⟩
                      simp [intOf]; try omega



end Go.Proofs.Ytfedkbffkedogaa
