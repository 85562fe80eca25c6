/- Texts of this claim, together: PmN, VarsK. -/
import Derived.Test.YtpapiojicbbheaaGreatDoorSh14
import Derived.Test.YtpapiojicbbheaaGreatDoorSh08
import Derived.Test.YtpapiojicbbheaaGreatDoorSh00
import Derived.Lib.LaidTab
namespace Go.Proofs.YtpapiojicbbheaaGreatDoor
open Go.RowKit
set_option maxHeartbeats 4000000 in
set_option maxRecDepth 100000 in
theorem light17_any (x : TA) (t : Tp) (B : Nat) (y : MX) (m : Ma) (w : World) (ht : TpAt w B x t) :
  Calls Tryz.prog 20 #[.agg x.cs, .agg (y.vs m)] w fun e w' => ∃ b, e = .returned (.bool b) ∧ Hid (b = true → TpLight x t ∧ y.np ≤ 100 ∧ y.ns ≤ 100) ∧ Keep Never w w' := by
 obtain ⟨ref, rv, P, S, g⟩ := m
 have HLt : Hid (∀ V, Keep Never w V → Calls Tryz.prog 10 #[.agg x.cs] V fun e w'' => ∃ b, e = .returned (.bool b) ∧ Hid (b = true → TpLight x t) ∧ Keep Never V w'') := Lib.hid (fun V h => light13r_any x t B V (ht.keep h))
 obtain ⟨Ae, ne, ce, Aj, nj, cj, Ab, nb, cb, Ar, nr, cr⟩ := x
 obtain ⟨Ap, np, cp, As, ns, cs⟩ := y
 simp only [TA.cs, MX.vs] at HLt ⊢
 clear ht
 obtain ⟨w1, hw1⟩ : ∃ V : World, w.alloc (.cells #[.slice Ae ne ce, .slice Aj nj cj, .slice Ab nb cb, .slice Ar nr cr] 27) = V := ⟨_, rfl⟩
 have zw1 : w1.heap.size = w.heap.size + 1 := by rw [← hw1]; simp
 have kw1 : Keep Never w w1 := by rw [← hw1]; exact (Keep.refl _ _).alloc _
 have bw1 := Blk.new w 27 #[.slice Ae ne ce, .slice Aj nj cj, .slice Ab nb cb, .slice Ar nr cr]
 rw [hw1] at bw1
 obtain ⟨w2, hw2⟩ : ∃ V : World, w1.alloc (.cells #[.int .i64 ref, .bool rv, .slice Ap np cp, .slice As ns cs, .int .i64 g] 38) = V := ⟨_, rfl⟩
 have kw2 : Keep Never w1 w2 := by rw [← hw2]; exact (Keep.refl _ _).alloc _
 have bw2 := Blk.new w1 38 #[.int .i64 ref, .bool rv, .slice Ap np cp, .slice As ns cs, .int .i64 g]
 rw [hw2, zw1] at bw2
 have HB1 := Lib.hid (bw1.keep kw2 (fun h => h))
 have HB2 := Lib.hid bw2
 have HK := Lib.hid (kw1.trans kw2)
 clear kw1 kw2 bw1 bw2
 have HC := Lib.hid (HLt.out w2 HK.out)
 have y0 : w2.cell? ⟨w.heap.size, 0, none⟩ = some (.slice Ae ne ce) := HB1.out.cell 0
 have y1 : w2.cell? ⟨w.heap.size, 1, none⟩ = some (.slice Aj nj cj) := HB1.out.cell 1
 have y2 : w2.cell? ⟨w.heap.size, 2, none⟩ = some (.slice Ab nb cb) := HB1.out.cell 2
 have y3 : w2.cell? ⟨w.heap.size, 3, none⟩ = some (.slice Ar nr cr) := HB1.out.cell 3
 have HM2 := HB2
 clear HB1 HB2
 go_enter Tryz.func20, Tryz.ntmps20
 go_wp2_with fail
 refine HC.out.mono ?_
 rintro e w3 ⟨lt, rfl, hlt, hk⟩
 have HK3 := Lib.hid (HK.out.trans hk)
 have HM3 := Lib.hid (HM2.out.keep hk (fun h => h))
 clear hk y0 y1 y2 y3 hw1 hw2 zw1 HC HLt HM2 HK
 cases lt with
 | false =>
  go_wp2_with fail
  go_ret
  exact ⟨false, rfl, Lib.hid (fun h => Bool.noConfusion h), HK3.out⟩
 | true =>
  have HLI := Lib.hid (hlt.out rfl)
  clear hlt
  have m2 : w3.cell? ⟨w.heap.size + 1, 2, none⟩ = some (.slice Ap np cp) := HM3.out.cell 2
  have m3 : w3.cell? ⟨w.heap.size + 1, 3, none⟩ = some (.slice As ns cs) := HM3.out.cell 3
  by_cases g1 : np ≤ 100
  case neg =>
   have t0 : decide ((np : Int) ≤ 100) = false := by simp; omega
   clear g1
   go_wp2_with fail
   go_ret
   exact ⟨false, rfl, Lib.hid (fun h => Bool.noConfusion h), HK3.out⟩
  have t0 : decide ((np : Int) ≤ 100) = true := by simp; omega
  have Hg1 := Lib.hid g1
  clear g1
  by_cases g2 : ns ≤ 100
  ·have t1 : decide ((ns : Int) ≤ 100) = true := by simp; omega
   have Hg2 := Lib.hid g2
   clear g2
   go_wp2_with fail
   go_ret
   exact ⟨true, rfl, Lib.hid (fun _ => ⟨HLI.out, Hg1.out, Hg2.out⟩), HK3.out⟩
  ·have t1 : decide ((ns : Int) ≤ 100) = false := by simp; omega
   clear g2
   go_wp2_with fail
   go_ret
   exact ⟨false, rfl, Lib.hid (fun h => Bool.noConfusion h), HK3.out⟩
set_option maxHeartbeats 4000000 in
set_option maxRecDepth 100000 in
theorem end17_any (t : Tp) (z : Int × Int) (B : Nat) (y : MX) (m : Ma) (w : World) (hm : MaAt w B y m) (ha : MayA t m z) :
  Calls Tryz.prog 23 #[.agg (y.vs m)] w fun e w' => e = .returned (.tuple #[.int .i64 (endS m.2.2.2.1), .int .i64 (endS m.2.2.2.1 + m.2.2.2.2)]) ∧ Keep Never w w' := by
 obtain ⟨ref, rv, P, S, g⟩ := m
 have HSt := Lib.hid hm.s
 obtain ⟨Ap, np, cp, As, ns, cs⟩ := y
 simp only [MX.vs] at HSt ⊢
 have h1 := ha.some_
 simp only at h1
 have hl := HSt.out.len
 obtain ⟨k, rfl⟩ : ∃ k, ns = k + 1 := ⟨ns - 1, by omega⟩
 obtain ⟨sad, sl, hAs, _, hsl, c0, c1⟩ := HSt.out.rd.sc (show k < k + 1 by omega)
 subst hAs
 have hse : endS S = sl.1 := by have := endS_take hsl; rwa [List.take_of_length_le (by omega)] at this
 have hbig := ha.sects.big sl (List.mem_of_getElem? hsl)
 have hlo := ha.sects.up k sl hsl
 have hp0 := ha.sects.pos (j := k) (by simp only; omega)
 have hg0 := ha.gap0
 have hg1 := ha.gap1
 have h8 := ha.eight
 simp only at hg0 hg1 hlo hp0 h8
 obtain ⟨sl1, sl2⟩ := sl
 simp only at c0 c1 hse hbig hlo
 rw [hse]
 have hz5 : IntKind.i64.wrap ((k : Int) + 1 - 1) = (k : Int) := by rw [show (k : Int) + 1 - 1 = k by omega]; exact IntWalk.i64_in _ (by omega)
 have hz5b : wrap64 ((k : Int) + 1 - 1) = (k : Int) := by have := hz5; rwa [IntWalk.i64_left] at this
 have hz6 : IntKind.i64.wrap (k : Int) = (k : Int) := IntWalk.i64_in _ (by omega)
 have hz0 : (k : Int) < (k : Int) + 1 := by omega
 have hz7 : IntKind.i64.wrap (sl1 + g) = sl1 + g := IntWalk.i64_in _ (by omega)
 have hz7b : wrap64 (sl1 + g) = sl1 + g := by have := hz7; rwa [IntWalk.i64_left] at this
 clear hsl hse hbig hlo hp0 hg0 hg1 h8 h1 hl hm ha
 obtain ⟨w1, hw1⟩ : ∃ V : World, w.alloc (.cells #[.int .i64 ref, .bool rv, .slice Ap np cp, .slice (some sad) (k + 1) cs, .int .i64 g] 38) = V := ⟨_, rfl⟩
 have kw1 : Keep Never w w1 := by rw [← hw1]; exact (Keep.refl _ _).alloc _
 have bw1 := Blk.new w 38 #[.int .i64 ref, .bool rv, .slice Ap np cp, .slice (some sad) (k + 1) cs, .int .i64 g]
 rw [hw1] at bw1
 have HB1 := Lib.hid bw1
 have HK := Lib.hid kw1
 clear kw1 bw1
 have c0 := keepT HK.out c0
 have m0 : w1.cell? ⟨w.heap.size, 0, none⟩ = some (.int .i64 ref) := HB1.out.cell 0
 have m1 : w1.cell? ⟨w.heap.size, 1, none⟩ = some (.bool rv) := HB1.out.cell 1
 have m2 : w1.cell? ⟨w.heap.size, 2, none⟩ = some (.slice Ap np cp) := HB1.out.cell 2
 have m3 : w1.cell? ⟨w.heap.size, 3, none⟩ = some (.slice (some sad) (k + 1) cs) := HB1.out.cell 3
 have m4 : w1.cell? ⟨w.heap.size, 4, none⟩ = some (.int .i64 g) := HB1.out.cell 4
 go_enter Tryz.func23, Tryz.ntmps23
 go_wp2_with fail
 go_quiet (fail)
 go_wp2_with fail
 (try rw [hz7])
 (try rw [hz7b])
 go_ret2
 exact ⟨rfl, HK.out.drewN _⟩
set_option maxHeartbeats 4000000 in
set_option maxRecDepth 100000 in
theorem planBack_walk (w : World) (hW : Widths w) (cs0 : Array Value) (t : Tp) (s0 : repTp.cells w w.heap.size t cs0.toList) (cs1 : Array Value) (m : Ma) (s1 : repMa.cells w w.heap.size m cs1.toList) (age : Int) :
  Calls Tryz.prog 5 #[.agg cs0, .agg cs1, .int .i64 age] w fun e w' => e = .returned (.bool true) ∧ Keep Never w w' := by
 obtain ⟨x, hx, ht⟩ := TpAt.of s0
 obtain rfl : cs0 = x.cs := by apply Array.ext'; exact hx
 obtain ⟨y, hy, hm, _, _⟩ := ma_of s1
 obtain rfl : cs1 = y.vs m := by apply Array.ext'; exact hy
 clear hx hy s0 s1
 have hgv : 0 < w.heap.size := cell_lt (hW 0 (by decide))
 have HAw := Lib.hid (fun (V : World) (hk : Keep Never w V) => awake17_any V (hW.keep hk (fun h => h)) (Nat.lt_of_lt_of_le hgv hk.size))
 have HLi := Lib.hid (fun (V : World) (hk : Keep Never w V) => light17_any x t w.heap.size y m V (ht.keep hk))
 have HPa := Lib.hid (fun (V : World) (hk : Keep Never w V) (hl : TpLight x t) (h1 : y.np ≤ 100) (h2 : y.ns ≤ 100) => packets_any x t w.heap.size m.1 m.2.1 m.2.2.1 m.2.2.2.1 m.2.2.2.2 y.Ap y.np y.cp y.As y.ns y.cs V (ht.keep hk) hl.small hk.size (hm.p.keep hk (fun _ h => h.elim)) (hm.s.keep hk) (by omega) (by omega))
 have HMy := Lib.hid (fun (V : World) (hk : Keep Never w V) (hl : TpLight x t) (h1 : y.np ≤ 100) (h2 : y.ns ≤ 100) => may17_any x t w.heap.size m.1 m.2.1 m.2.2.1 m.2.2.2.1 m.2.2.2.2 y.Ap y.np y.cp y.As y.ns y.cs V (ht.keep hk) hl.small hk.size (hm.p.keep hk (fun _ h => h.elim)) (hm.s.keep hk) (by omega) (by omega))
 have HEn := Lib.hid (fun (V : World) (hk : Keep Never w V) (z : Int × Int) (ha : MayA t m z) => end17_any t z w.heap.size y m V (hm.keep hk) ha)
 have HRd := Lib.hid (fun (V : World) (hk : Keep Never w V) (hl : TpLight x t) (A : Option Addr) (n c : Nat) (l : List Pk) (hp : PksAt V V.heap.size A n c l) (hn : n ≤ 1000000) => read_any x t V.heap.size m.1 m.2.1 A n c l V ((ht.keep hk).wide hk.size) hl.small (Nat.le_refl _) hp hn (hW.keep hk (fun h => h)) (Nat.lt_of_lt_of_le hgv hk.size))
 have HSp := Lib.hid (fun (V : World) (hk : Keep Never w V) (A : Option Addr) (n c : Nat) (l : List Stp) (hp : Rd V V.heap.size 2 A n (stpCells l)) (hn : n ≤ 100000000) (h1 : y.np ≤ 100) => steps_any A y.Ap n y.np c y.cp V.heap.size w.heap.size l m.2.2.1 V hp ((stps_rd hm.p).1.keep hk (fun _ h => h.elim)) hn (by omega))
 have HRe := Lib.hid (fun (V : World) (hk : Keep Never w V) (h2 : y.ns ≤ 100) => reach_any w.heap.size m.1 m.2.1 m.2.2.2.1 m.2.2.2.2 age y.Ap y.np y.cp y.As y.ns y.cs V (hm.s.keep hk) (by omega))
 have HSt := Lib.hid hm.s
 have HPl : Hid (m.2.2.1.length = y.np) := Lib.hid (stps_rd hm.p).2.1.symm
 obtain ⟨ref, rv, P, S, g⟩ := m
 obtain ⟨Ae, ne, ce, Aj, nj, cj, Ab, nb, cb, Ar, nr, cr⟩ := x
 obtain ⟨Ap, np, cp, As, ns, cs⟩ := y
 simp only [TA.cs, MX.vs] at HLi HPa HMy HEn HRd HSp HRe HSt HPl ⊢
 clear ht hm hgv hW
 obtain ⟨w1, hw1⟩ : ∃ V : World, w.alloc (.cells #[.slice Ae ne ce, .slice Aj nj cj, .slice Ab nb cb, .slice Ar nr cr] 27) = V := ⟨_, rfl⟩
 have zw1 : w1.heap.size = w.heap.size + 1 := by rw [← hw1]; simp
 have kw1 : Keep Never w w1 := by rw [← hw1]; exact (Keep.refl _ _).alloc _
 have bw1 := Blk.new w 27 #[.slice Ae ne ce, .slice Aj nj cj, .slice Ab nb cb, .slice Ar nr cr]
 rw [hw1] at bw1
 obtain ⟨w2, hw2⟩ : ∃ V : World, w1.alloc (.cells #[.int .i64 ref, .bool rv, .slice Ap np cp, .slice As ns cs, .int .i64 g] 38) = V := ⟨_, rfl⟩
 have kw2 : Keep Never w1 w2 := by rw [← hw2]; exact (Keep.refl _ _).alloc _
 have bw2 := Blk.new w1 38 #[.int .i64 ref, .bool rv, .slice Ap np cp, .slice As ns cs, .int .i64 g]
 rw [hw2, zw1] at bw2
 have HB1 := Lib.hid (bw1.keep kw2 (fun h => h))
 have HB2 := Lib.hid bw2
 have HK := Lib.hid (kw1.trans kw2)
 clear kw1 kw2 bw1 bw2
 have HT2 := HB1
 have HM2 := HB2
 have HK2 := HK
 have HC := Lib.hid (HAw.out w2 HK.out)
 clear HB1 HB2 HK HAw
 go_enter Tryz.func5, Tryz.ntmps5
 go_wp2_with fail
 refine HC.out.mono ?_
 rintro en w3 ⟨rfl, hk⟩
 have HK3 := Lib.hid (HK2.out.trans hk)
 have HT3 := Lib.hid (HT2.out.keep hk (fun h => h))
 have HM3 := Lib.hid (HM2.out.keep hk (fun h => h))
 clear hk HC HT2 HM2 HK2 hw1 hw2 zw1
 have HC := Lib.hid (HLi.out w3 HK3.out)
 have y0 : w3.cell? ⟨w.heap.size, 0, none⟩ = some (.slice Ae ne ce) := HT3.out.cell 0
 have y1 : w3.cell? ⟨w.heap.size, 1, none⟩ = some (.slice Aj nj cj) := HT3.out.cell 1
 have y2 : w3.cell? ⟨w.heap.size, 2, none⟩ = some (.slice Ab nb cb) := HT3.out.cell 2
 have y3 : w3.cell? ⟨w.heap.size, 3, none⟩ = some (.slice Ar nr cr) := HT3.out.cell 3
 have m0 : w3.cell? ⟨w.heap.size + 1, 0, none⟩ = some (.int .i64 ref) := HM3.out.cell 0
 have m1 : w3.cell? ⟨w.heap.size + 1, 1, none⟩ = some (.bool rv) := HM3.out.cell 1
 have m2 : w3.cell? ⟨w.heap.size + 1, 2, none⟩ = some (.slice Ap np cp) := HM3.out.cell 2
 have m3 : w3.cell? ⟨w.heap.size + 1, 3, none⟩ = some (.slice As ns cs) := HM3.out.cell 3
 have m4 : w3.cell? ⟨w.heap.size + 1, 4, none⟩ = some (.int .i64 g) := HM3.out.cell 4
 clear HLi
 go_wp2_with fail
 refine HC.out.mono ?_
 rintro en w4 ⟨lt, rfl, hlt, hk⟩
 have HK4 := Lib.hid (HK3.out.trans hk)
 have HT4 := Lib.hid (HT3.out.keep hk (fun h => h))
 have HM4 := Lib.hid (HM3.out.keep hk (fun h => h))
 clear hk HC HT3 HM3 HK3 y0 y1 y2 y3 m0 m1 m2 m3 m4
 cases lt with
 | false =>
  go_wp2_with fail
  go_ret
  exact ⟨rfl, HK4.out⟩
 | true =>
 have HLi := Lib.hid (hlt.out rfl)
 have hns : ns ≤ 100 := HLi.out.2.2
 clear hlt
 have hw := HPa.out w4 HK4.out HLi.out.1 HLi.out.2.1 HLi.out.2.2
 obtain ⟨r, hr⟩ : ∃ z, packsM17 t (ref, rv, P, S, g) = z := ⟨_, rfl⟩
 rw [hr] at hw
 unfold PksRet at hw
 have HPr := Lib.hid hr
 have y0 : w4.cell? ⟨w.heap.size, 0, none⟩ = some (.slice Ae ne ce) := HT4.out.cell 0
 have y1 : w4.cell? ⟨w.heap.size, 1, none⟩ = some (.slice Aj nj cj) := HT4.out.cell 1
 have y2 : w4.cell? ⟨w.heap.size, 2, none⟩ = some (.slice Ab nb cb) := HT4.out.cell 2
 have y3 : w4.cell? ⟨w.heap.size, 3, none⟩ = some (.slice Ar nr cr) := HT4.out.cell 3
 have m0 : w4.cell? ⟨w.heap.size + 1, 0, none⟩ = some (.int .i64 ref) := HM4.out.cell 0
 have m1 : w4.cell? ⟨w.heap.size + 1, 1, none⟩ = some (.bool rv) := HM4.out.cell 1
 have m2 : w4.cell? ⟨w.heap.size + 1, 2, none⟩ = some (.slice Ap np cp) := HM4.out.cell 2
 have m3 : w4.cell? ⟨w.heap.size + 1, 3, none⟩ = some (.slice As ns cs) := HM4.out.cell 3
 have m4 : w4.cell? ⟨w.heap.size + 1, 4, none⟩ = some (.int .i64 g) := HM4.out.cell 4
 clear hr HPa
 cases r with
 | error e0 =>
  simp only at hw
  have HC := Lib.hid hw
  clear hw
  go_wp2_with fail
  refine HC.out.mono ?_
  rintro en w5 ⟨hk, hne, rfl⟩
  have HK5 := Lib.hid (HK4.out.trans hk)
  have HT5 := Lib.hid (HT4.out.keep hk (fun h => h))
  have HM5 := Lib.hid (HM4.out.keep hk (fun h => h))
  clear hk HC HT4 HM4 HK4 y0 y1 y2 y3 m0 m1 m2 m3 m4
  rcases packs_err HPr.out with h | h
  ·subst h
   have hw := HMy.out w5 HK5.out HLi.out.1 HLi.out.2.1 HLi.out.2.2
   obtain ⟨mb, hmb⟩ : ∃ z, mayMA t (ref, rv, P, S, g) = z := ⟨_, rfl⟩
   rw [hmb] at hw
   have HC := Lib.hid hw
   clear hw hmb hne
   have y0 : w5.cell? ⟨w.heap.size, 0, none⟩ = some (.slice Ae ne ce) := HT5.out.cell 0
   have y1 : w5.cell? ⟨w.heap.size, 1, none⟩ = some (.slice Aj nj cj) := HT5.out.cell 1
   have y2 : w5.cell? ⟨w.heap.size, 2, none⟩ = some (.slice Ab nb cb) := HT5.out.cell 2
   have y3 : w5.cell? ⟨w.heap.size, 3, none⟩ = some (.slice Ar nr cr) := HT5.out.cell 3
   have m0 : w5.cell? ⟨w.heap.size + 1, 0, none⟩ = some (.int .i64 ref) := HM5.out.cell 0
   have m1 : w5.cell? ⟨w.heap.size + 1, 1, none⟩ = some (.bool rv) := HM5.out.cell 1
   have m2 : w5.cell? ⟨w.heap.size + 1, 2, none⟩ = some (.slice Ap np cp) := HM5.out.cell 2
   have m3 : w5.cell? ⟨w.heap.size + 1, 3, none⟩ = some (.slice As ns cs) := HM5.out.cell 3
   have m4 : w5.cell? ⟨w.heap.size + 1, 4, none⟩ = some (.int .i64 g) := HM5.out.cell 4
   go_wp2_with fail
   refine HC.out.mono ?_
   rintro en w6 ⟨rfl, hk⟩
   have HK6 := Lib.hid (HK5.out.trans hk)
   clear hk HC y0 y1 y2 y3 m0 m1 m2 m3 m4
   cases mb <;> (go_wp2_with fail; go_ret; exact ⟨rfl, HK6.out⟩)
  ·subst h
   clear hne
   go_wp2_with fail
   go_ret
   exact ⟨rfl, HK5.out⟩
 | ok l =>
 simp only at hw
 have HC := Lib.hid hw
 clear hw
 go_wp2_with fail
 refine HC.out.mono ?_
 rintro en w5 ⟨hk, A2, n2, c2, rfl, hp⟩
 have HK5 := Lib.hid (HK4.out.trans hk)
 have HT5 := Lib.hid (HT4.out.keep hk (fun h => h))
 have HM5 := Lib.hid (HM4.out.keep hk (fun h => h))
 have HPk5 := Lib.hid hp
 obtain ⟨z, v0, hmay, hb0, hsn, hl2⟩ := packs_ok HPr.out
 have HMz := Lib.hid hmay
 obtain ⟨hun, hrd⟩ := back17 HPr.out (packs_good HPr.out)
 simp only at hun hrd hb0
 have hn2 : n2 ≤ 1000000 := by
  have h1 := hp.len
  rcases hl2 with ⟨_, _, e⟩ | ⟨_, _, _, _, _, _, _, e⟩ <;> (rw [e] at h1; simp at h1; omega)
 have HN2 := Lib.hid hn2
 have HRr := Lib.hid hrd
 obtain ⟨u, hu⟩ : ∃ z, bestM (endS S + g) = z := ⟨_, rfl⟩
 rw [hu] at HRr hun
 have HUn : Hid (0 < unitM u) := Lib.hid hun
 have hg0 := hmay.gap0
 have hg1 := hmay.gap1
 simp only at hg0 hg1
 have HGb : Hid (0 ≤ g ∧ g ≤ 1099511627776) := Lib.hid ⟨hg0, hg1⟩
 have HSb : Hid (SectsI S) := Lib.hid hmay.sects
 have hc := HEn.out w5 HK5.out z HMz.out
 have HC := Lib.hid hc
 have m0 : w5.cell? ⟨w.heap.size + 1, 0, none⟩ = some (.int .i64 ref) := HM5.out.cell 0
 have m1 : w5.cell? ⟨w.heap.size + 1, 1, none⟩ = some (.bool rv) := HM5.out.cell 1
 have m2 : w5.cell? ⟨w.heap.size + 1, 2, none⟩ = some (.slice Ap np cp) := HM5.out.cell 2
 have m3 : w5.cell? ⟨w.heap.size + 1, 3, none⟩ = some (.slice As ns cs) := HM5.out.cell 3
 have m4 : w5.cell? ⟨w.heap.size + 1, 4, none⟩ = some (.int .i64 g) := HM5.out.cell 4
 clear hk HT4 HM4 HK4 y0 y1 y2 y3 hp hmay hb0 hsn hl2 hn2 hrd hun hg0 hg1 hc HEn
 obtain ⟨en1, hen1⟩ : ∃ z, endS S = z := ⟨_, rfl⟩
 obtain ⟨en2, hen2⟩ : ∃ z, endS S + g = z := ⟨_, rfl⟩
 rw [hen2] at HC hu
 rw [hen1] at HC
 have HU := Lib.hid hu
 clear hen1 hen2 hu
 go_wp2_with fail
 refine HC.out.mono ?_
 rintro en w6 ⟨rfl, hk⟩
 have HK6 := Lib.hid (HK5.out.trans hk)
 have HT6 := Lib.hid (HT5.out.keep hk (fun h => h))
 have HM6 := Lib.hid (HM5.out.keep hk (fun h => h))
 have HPk6 := Lib.hid ((HPk5.out.keep hk).more hk.size)
 clear hk HC HT5 HM5 HK5 HPk5 m0 m1 m2 m3 m4
 have hc := best_any en2 w6
 rw [HU.out] at hc
 have HC := Lib.hid hc
 clear hc
 go_wp2_with fail
 refine HC.out.mono ?_
 rintro en w7 ⟨rfl, hk⟩
 have HK7 := Lib.hid (HK6.out.trans hk)
 have HT7 := Lib.hid (HT6.out.keep hk (fun h => h))
 have HM7 := Lib.hid (HM6.out.keep hk (fun h => h))
 have HPk7 := Lib.hid ((HPk6.out.keep hk).more hk.size)
 clear hk HC HT6 HM6 HK6 HPk6
 have HC := Lib.hid (unit_any u w7)
 go_wp2_with fail
 refine HC.out.mono ?_
 rintro en w8 ⟨rfl, hk⟩
 have HK8 := Lib.hid (HK7.out.trans hk)
 have HT8 := Lib.hid (HT7.out.keep hk (fun h => h))
 have HM8 := Lib.hid (HM7.out.keep hk (fun h => h))
 have HPk8 := Lib.hid ((HPk7.out.keep hk).more hk.size)
 clear hk HC HT7 HM7 HK7 HPk7
 have hw := HRd.out w8 HK8.out HLi.out.1 A2 n2 c2 l HPk8.out HN2.out
 rw [HRr.out] at hw
 unfold MaRet at hw
 simp only at hw
 have HC := Lib.hid hw
 have y0 : w8.cell? ⟨w.heap.size, 0, none⟩ = some (.slice Ae ne ce) := HT8.out.cell 0
 have y1 : w8.cell? ⟨w.heap.size, 1, none⟩ = some (.slice Aj nj cj) := HT8.out.cell 1
 have y2 : w8.cell? ⟨w.heap.size, 2, none⟩ = some (.slice Ab nb cb) := HT8.out.cell 2
 have y3 : w8.cell? ⟨w.heap.size, 3, none⟩ = some (.slice Ar nr cr) := HT8.out.cell 3
 have m0 : w8.cell? ⟨w.heap.size + 1, 0, none⟩ = some (.int .i64 ref) := HM8.out.cell 0
 have m1 : w8.cell? ⟨w.heap.size + 1, 1, none⟩ = some (.bool rv) := HM8.out.cell 1
 have m2 : w8.cell? ⟨w.heap.size + 1, 2, none⟩ = some (.slice Ap np cp) := HM8.out.cell 2
 have m3 : w8.cell? ⟨w.heap.size + 1, 3, none⟩ = some (.slice As ns cs) := HM8.out.cell 3
 have m4 : w8.cell? ⟨w.heap.size + 1, 4, none⟩ = some (.int .i64 g) := HM8.out.cell 4
 clear hw HRd
 go_wp2_with fail
 refine HC.out.mono ?_
 rintro en w9 ⟨yz, rfl, hmz, hk⟩
 have HK9 := Lib.hid (HK8.out.trans hk)
 have HT9 := Lib.hid (HT8.out.keep hk (fun h => h))
 have HM9 := Lib.hid (HM8.out.keep hk (fun h => h))
 have HX9 := Lib.hid hmz
 clear hk HC HT8 HM8 HK8 HPk8 hmz y0 y1 y2 y3 m0 m1 m2 m3 m4
 obtain ⟨Aq, nq, cq, At, nt, ct⟩ := yz
 have hnq := (stps_rd HX9.out.p).2.1
 simp only at hnq
 rw [HPl.out] at hnq
 obtain rfl : nt = ns := by have h1 := HX9.out.s.len; have h2 := HSt.out.len; simp only [dnS, List.length_map] at h1; omega
 subst hnq
 simp only [MX.vs]
 obtain ⟨gd, hgd⟩ : ∃ z, dnI u g = z := ⟨_, rfl⟩
 obtain ⟨um, hum⟩ : ∃ z, unitM u = z := ⟨_, rfl⟩
 have hdg := dn_le (x := g) HUn.out
 have hdn := dn_nonneg HUn.out HGb.out.1
 rw [hgd, hum] at hdg
 rw [hgd] at hdn HX9
 have HDg : Hid (gd ≤ g ∧ g - gd < um ∧ 0 ≤ gd) := Lib.hid ⟨hdg.1, hdg.2, hdn⟩
 have HUm := Lib.hid hum
 rw [hgd, hum]
 clear hgd hum hdg hdn
 go_upto_region 11 with (fail)
 obtain ⟨w10, hw10⟩ : ∃ V : World, w9.alloc (.cells #[.int .i64 ref, .bool rv, .slice Aq nq cq, .slice At nt ct, .int .i64 gd] 38) = V := ⟨_, rfl⟩
 have hk : Keep Never w9 w10 := by rw [← hw10]; exact (Keep.refl _ _).alloc _
 have B10 := Blk.new w9 38 #[.int .i64 ref, .bool rv, .slice Aq nq cq, .slice At nt ct, .int .i64 gd]
 rw [hw10] at B10
 obtain ⟨bx, hbx⟩ : ∃ q, w9.heap.size = q := ⟨_, rfl⟩
 rw [hbx] at B10
 rw [hw10, hbx]
 have HK10 := Lib.hid (HK9.out.trans hk)
 have HT10 := Lib.hid (HT9.out.keep hk (fun h => h))
 have HM10 := Lib.hid (HM9.out.keep hk (fun h => h))
 have HX10 := Lib.hid ((HX9.out.keep hk).more hk.size)
 have HN10 := Lib.hid B10
 clear hk B10 HT9 HM9 HK9 HX9 hw10 hbx
 have hw := HSp.out w10 HK10.out Aq nq cq P (stps_rd HX10.out.p).1 (by have := HLi.out.2.1; omega) HLi.out.2.1
 rw [show decide (P = P) = true from by simp] at hw
 have HC := Lib.hid hw
 have m0 : w10.cell? ⟨w.heap.size + 1, 0, none⟩ = some (.int .i64 ref) := HM10.out.cell 0
 have m1 : w10.cell? ⟨w.heap.size + 1, 1, none⟩ = some (.bool rv) := HM10.out.cell 1
 have m2 : w10.cell? ⟨w.heap.size + 1, 2, none⟩ = some (.slice Ap nq cp) := HM10.out.cell 2
 have m3 : w10.cell? ⟨w.heap.size + 1, 3, none⟩ = some (.slice As nt cs) := HM10.out.cell 3
 have m4 : w10.cell? ⟨w.heap.size + 1, 4, none⟩ = some (.int .i64 g) := HM10.out.cell 4
 have n0 : w10.cell? ⟨bx, 0, none⟩ = some (.int .i64 ref) := HN10.out.cell 0
 have n1 : w10.cell? ⟨bx, 1, none⟩ = some (.bool rv) := HN10.out.cell 1
 have n2 : w10.cell? ⟨bx, 2, none⟩ = some (.slice Aq nq cq) := HN10.out.cell 2
 have n3 : w10.cell? ⟨bx, 3, none⟩ = some (.slice At nt ct) := HN10.out.cell 3
 have n4 : w10.cell? ⟨bx, 4, none⟩ = some (.int .i64 gd) := HN10.out.cell 4
 clear hw HSp
 go_wp2_with fail
 refine HC.out.mono ?_
 rintro en w11 ⟨rfl, hk⟩
 have HK11 := Lib.hid (HK10.out.trans hk)
 have HT11 := Lib.hid (HT10.out.keep hk (fun h => h))
 have HM11 := Lib.hid (HM10.out.keep hk (fun h => h))
 have HN11 := Lib.hid (HN10.out.keep hk (fun h => h))
 have HX11 := Lib.hid ((HX10.out.keep hk).more hk.size)
 clear hk HC HT10 HM10 HK10 HX10 HN10 m0 m1 m2 m3 m4 n0 n1 n2 n3 n4
 have hdg := HDg.out
 have hgb := HGb.out
 have t1 : decide (gd > g) = false := by simp; omega
 have hz7 : IntKind.i64.wrap (g - gd) = g - gd := IntWalk.i64_in _ (by omega)
 have hz7b : wrap64 (g - gd) = g - gd := by have := hz7; rwa [IntWalk.i64_left] at this
 have t2 : decide (g - gd ≥ um) = false := by simp; omega
 clear hdg hgb
 have m0 : w11.cell? ⟨w.heap.size + 1, 0, none⟩ = some (.int .i64 ref) := HM11.out.cell 0
 have m1 : w11.cell? ⟨w.heap.size + 1, 1, none⟩ = some (.bool rv) := HM11.out.cell 1
 have m2 : w11.cell? ⟨w.heap.size + 1, 2, none⟩ = some (.slice Ap nq cp) := HM11.out.cell 2
 have m3 : w11.cell? ⟨w.heap.size + 1, 3, none⟩ = some (.slice As nt cs) := HM11.out.cell 3
 have m4 : w11.cell? ⟨w.heap.size + 1, 4, none⟩ = some (.int .i64 g) := HM11.out.cell 4
 have n0 : w11.cell? ⟨bx, 0, none⟩ = some (.int .i64 ref) := HN11.out.cell 0
 have n1 : w11.cell? ⟨bx, 1, none⟩ = some (.bool rv) := HN11.out.cell 1
 have n2 : w11.cell? ⟨bx, 2, none⟩ = some (.slice Aq nq cq) := HN11.out.cell 2
 have n3 : w11.cell? ⟨bx, 3, none⟩ = some (.slice At nt ct) := HN11.out.cell 3
 have n4 : w11.cell? ⟨bx, 4, none⟩ = some (.int .i64 gd) := HN11.out.cell 4
 go_upto_region 15 with (fail)
 clear m0 m1 m2 m3 m4 n0 n1 n2 n3 n4 t1 t2 hz7 hz7b
 go_loopw [17] (fun s17 wr => ∃ k : Nat, k ≤ nt ∧ s17 = .int .i64 k ∧ Hid (Keep Never w11 wr)) (fun si _ => nt - (intOf si).toNat)
 case atStart => exact ⟨0, by omega, rfl, Lib.hid (Keep.refl _ _)⟩
 case round =>
  obtain ⟨k, hk, rfl, HH⟩ := hrel
  have HMr := Lib.hid (HM11.out.keep HH.out (fun h => h))
  have HNr := Lib.hid (HN11.out.keep HH.out (fun h => h))
  have m0 : wr.cell? ⟨w.heap.size + 1, 0, none⟩ = some (.int .i64 ref) := HMr.out.cell 0
  have m1 : wr.cell? ⟨w.heap.size + 1, 1, none⟩ = some (.bool rv) := HMr.out.cell 1
  have m2 : wr.cell? ⟨w.heap.size + 1, 2, none⟩ = some (.slice Ap nq cp) := HMr.out.cell 2
  have m3 : wr.cell? ⟨w.heap.size + 1, 3, none⟩ = some (.slice As nt cs) := HMr.out.cell 3
  have m4 : wr.cell? ⟨w.heap.size + 1, 4, none⟩ = some (.int .i64 g) := HMr.out.cell 4
  have n0 : wr.cell? ⟨bx, 0, none⟩ = some (.int .i64 ref) := HNr.out.cell 0
  have n1 : wr.cell? ⟨bx, 1, none⟩ = some (.bool rv) := HNr.out.cell 1
  have n2 : wr.cell? ⟨bx, 2, none⟩ = some (.slice Aq nq cq) := HNr.out.cell 2
  have n3 : wr.cell? ⟨bx, 3, none⟩ = some (.slice At nt ct) := HNr.out.cell 3
  have n4 : wr.cell? ⟨bx, 4, none⟩ = some (.int .i64 gd) := HNr.out.cell 4
  by_cases h0 : k < nt
  ·have hki : (k : Int) < (nt : Int) := by omega
   obtain ⟨ad, s, hA, _, hs, c0, c1⟩ := ((HSt.out.keep (HK11.out.trans HH.out)).rd).sc h0
   obtain ⟨ae, s', hA', _, hs', d0, d1⟩ := (((HX11.out.keep HH.out).s).rd).sc h0
   have hsd : s' = (dnI u s.1, s.2) := by
    simp only [dnS, List.getElem?_map, hs, Option.map_some, Option.some.injEq] at hs'
    exact hs'.symm
   subst hsd
   have hlo := HSb.out.up k s hs
   have hp0 := HSb.out.pos (j := k) (by have := (List.getElem?_eq_some_iff.1 hs).1; omega)
   have hbig := HSb.out.big s (List.mem_of_getElem? hs)
   have hd := dn_le (x := s.1) HUn.out
   have hd0 := dn_nonneg (x := s.1) HUn.out (by omega)
   rw [HUm.out] at hd
   obtain ⟨s1, s2⟩ := s
   simp only at c0 c1 d0 d1 hlo hbig hd hd0
   obtain ⟨q1, hq1⟩ : ∃ z, dnI u s1 = z := ⟨_, rfl⟩
   rw [hq1] at d0 hd hd0
   subst hA hA'
   have t1 : (s2 != s2) = false := by simp
   have t2 : decide (q1 > s1) = false := by simp; omega
   have hz7 : IntKind.i64.wrap (s1 - q1) = s1 - q1 := IntWalk.i64_in _ (by omega)
   have t3 : decide (s1 - q1 ≥ um) = false := by simp; omega
   clear hs hs' hlo hp0 hbig hd hd0 hq1
   go_wp2_with fail
   go_quiet (fail)
   go_wp2_with fail
   refine ⟨⟨k + 1, by omega, by go_num, Lib.hid (HH.out.drewN _)⟩, ?_⟩
   simp [intOf]; try omega
  ·obtain rfl : k = nt := by omega
   have hki : ¬ (k : Int) < (k : Int) := by omega
   have HKr := Lib.hid (HK11.out.trans HH.out)
   have HXr := Lib.hid ((HX11.out.keep HH.out).more HH.out.size)
   go_upto_region 19 with (fail)
   have HLe : Hid (reachM (dnS u S) age ≤ reachM S age) := Lib.hid (reach_dn HUn.out S age)
   obtain ⟨ra, hra⟩ : ∃ z, reachM (dnS u S) age = z := ⟨_, rfl⟩
   obtain ⟨rb, hrb⟩ : ∃ z, reachM S age = z := ⟨_, rfl⟩
   have HC1 : Hid (∀ V, Keep Never wr V → Calls Tryz.prog 27 #[.agg #[.int .i64 ref, .bool rv, .slice Aq nq cq, .slice At k ct, .int .i64 gd], .int .i64 age] V fun en w' => en = .returned (.int .i64 ra) ∧ Keep Never V w') := Lib.hid (fun V hV => by
    have h := reach_any V.heap.size ref rv (dnS u S) gd age Aq nq cq At k ct V (((HXr.out.keep hV).more hV.size).s) (by omega)
    rw [hra] at h; exact h)
   have HC2 : Hid (∀ V, Keep Never wr V → Calls Tryz.prog 27 #[.agg #[.int .i64 ref, .bool rv, .slice Ap nq cp, .slice As k cs, .int .i64 g], .int .i64 age] V fun en w' => en = .returned (.int .i64 rb) ∧ Keep Never V w') := Lib.hid (fun V hV => by
    have h := HRe.out V (HKr.out.trans hV) HLi.out.2.2
    rw [hrb] at h; exact h)
   rw [hra, hrb] at HLe
   clear hra hrb
   have t9 : decide (ra ≤ rb) = true := by simpa using HLe.out
   have HS2 : Hid (∀ W', Keep Never wr W' → Keep Never wr W' ∧ W'.cell? ⟨w.heap.size + 1, 0, none⟩ = some (.int .i64 ref) ∧ W'.cell? ⟨w.heap.size + 1, 1, none⟩ = some (.bool rv) ∧ W'.cell? ⟨w.heap.size + 1, 2, none⟩ = some (.slice Ap nq cp) ∧ W'.cell? ⟨w.heap.size + 1, 3, none⟩ = some (.slice As k cs) ∧ W'.cell? ⟨w.heap.size + 1, 4, none⟩ = some (.int .i64 g) ∧ W'.cell? ⟨bx, 0, none⟩ = some (.int .i64 ref) ∧ W'.cell? ⟨bx, 1, none⟩ = some (.bool rv) ∧ W'.cell? ⟨bx, 2, none⟩ = some (.slice Aq nq cq) ∧ W'.cell? ⟨bx, 3, none⟩ = some (.slice At k ct) ∧ W'.cell? ⟨bx, 4, none⟩ = some (.int .i64 gd)) := Lib.hid (fun W' h => ⟨h, keepT h m0, keepT h m1, keepT h m2, keepT h m3, keepT h m4, keepT h n0, keepT h n1, keepT h n2, keepT h n3, keepT h n4⟩)
   clear m0 m1 m2 m3 m4 n0 n1 n2 n3 n4
   go_region_held3 (fun W' => Keep Never wr W' ∧ W'.cell? ⟨w.heap.size + 1, 0, none⟩ = some (.int .i64 ref) ∧ W'.cell? ⟨w.heap.size + 1, 1, none⟩ = some (.bool rv) ∧ W'.cell? ⟨w.heap.size + 1, 2, none⟩ = some (.slice Ap nq cp) ∧ W'.cell? ⟨w.heap.size + 1, 3, none⟩ = some (.slice As k cs) ∧ W'.cell? ⟨w.heap.size + 1, 4, none⟩ = some (.int .i64 g) ∧ W'.cell? ⟨bx, 0, none⟩ = some (.int .i64 ref) ∧ W'.cell? ⟨bx, 1, none⟩ = some (.bool rv) ∧ W'.cell? ⟨bx, 2, none⟩ = some (.slice Aq nq cq) ∧ W'.cell? ⟨bx, 3, none⟩ = some (.slice At k ct) ∧ W'.cell? ⟨bx, 4, none⟩ = some (.int .i64 gd))
    (first | assumption | exact HS2.out _ ((Keep.refl Never wr).drew) | exact HS2.out _ (Keep.trans (And.left (by assumption)) hk3) | exact HS2.out _ (Keep.trans ((Keep.refl Never wr).drew) hk3))
    (first
     | (go_at_call 27; with_reducible refine (HC1.out _ (by first | exact And.left (by assumption) | exact (Keep.refl Never wr).drew | exact Keep.refl Never wr)).mono ?_; rintro e w21 ⟨rfl, hk3⟩)
     | (go_at_call 27; with_reducible refine (HC2.out _ (by first | exact And.left (by assumption) | exact (Keep.refl Never wr).drew | exact Keep.refl Never wr)).mono ?_; rintro e w22 ⟨rfl, hk3⟩))
   all_goals
    rename_i hS
    have HKe := Lib.hid hS.1
    clear hS
    go_wp2_with fail
    go_ret
    exact ⟨rfl, HKr.out.trans HKe.out⟩
end Go.Proofs.YtpapiojicbbheaaGreatDoor

namespace Go.Proofs.YtpapiojicbbheaaGreatDoor
open Go.RowKit Go.ChangeShapes Go.WideShapes Go.ChangeAt
theorem gTab : Tryz.prog.globalNamed "lineside/vars.widths" = some 0 := by kernel_rfl
theorem gTabType : (Tryz.prog.globals[0]?).map (·.type) = some 238 := by kernel_rfl
theorem cellsTab : Tryz.prog.cellsOf 238 = 96 := by kernel_rfl
theorem laid_gives {W : World} (h : laidMetH Tryz.prog [("lineside/vars.widths", Rows.laid_lineside_vars_widths)] W) : Widths W := by
 have hT : Lib.TabIs Tryz.prog W "lineside/vars.widths" .i64 wtab := Lib.tabIs_of_head (rest := []) gTab gTabType Tryz.underlying238 Tryz.underlying3 cellsInt cellsTab h
 intro i hi
 have := hT.cell gTab i (by show i < 96; exact hi)
 rw [this]
noncomputable def laidWorld (os : Os) : World :=
 { World.holding Tryz.prog os ⟨#[], #[], []⟩ with heap := (World.holding Tryz.prog os ⟨#[], #[], []⟩).heap.modify 0 fun
   | .cells _ t frozen => .cells (wtab.map (Value.int .i64)).toArray t frozen
   | o => o }
end Go.Proofs.YtpapiojicbbheaaGreatDoor
