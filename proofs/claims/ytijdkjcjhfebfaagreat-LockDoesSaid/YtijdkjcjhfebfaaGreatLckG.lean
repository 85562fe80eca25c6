/- Chapter 16: the laws' own functions: Line, awake, few. -/
import Derived.Test.YtijdkjcjhfebfaaGreatLckE
import Derived.Test.YtijdkjcjhfebfaaGreatBdTopP
import Derived.Deep.DeepCutAuto
namespace Go.Proofs.YtijdkjcjhfebfaaGreat
open Go.RowKit

def lineT : Tp := ([100, 200, 300], [((0, 1), (1, 0)), ((1, 1), (2, 0))], [(7, 0, 10), (8, 1, 20), (9, 2, 30)], [(1, [(0, false), (1, false)], 0, 30), (2, [(1, false), (2, false)], 50, 20)])
theorem line_run1 : setI lineT ([], 1) 1 5 = (([(1, 5, 1)], 2), 1, 0) := by decide +kernel
theorem line_run2 : setI lineT ([(1, 5, 1)], 2) 2 6 = (noI, 0, 160) := by decide +kernel
theorem line_run3 : setI lineT ([(1, 5, 1)], 2) 2 5 = (([(1, 5, 1), (2, 5, 2)], 3), 2, 0) := by decide +kernel
theorem line_run4 : freeI lineT ([(1, 5, 1), (2, 5, 2)], 3) 1 = (([(2, 5, 2)], 3), 0) := by decide +kernel
theorem line_run5 : setI lineT ([(2, 5, 2)], 3) 1 6 = (noI, 0, 160) := by decide +kernel
theorem line_run6 : mayI lineT ([(1, 5, 1), (2, 5, 2)], 3) = true := by decide +kernel
theorem line_run7 : cntL (normM (lockedM lineT [(1, 5, 1), (2, 5, 2)] 5)) = 600 := by decide +kernel
theorem line_run8 : (lockedM lineT [(1, 5, 1), (2, 5, 2)] 5).length ≤ 1000 := by decide +kernel
theorem line_small {w : World} {B : Nat} {x : TA} (h : TpAt w B x lineT) : TpSmall x lineT :=
  ⟨by rw [h.e.len]; decide, by rw [h.j.len]; decide, by rw [h.b.len]; decide, by rw [h.r.len]; decide, by decide⟩
set_option maxRecDepth 100000 in
theorem line_results {w : World} {b : Nat} {v0 v1 v2 v3 : Value} (hb : Blk w b 27 #[v0, v1, v2, v3]) (tmps : Array Value) (ht : tmps.getD 0 undef = .pointer (some ⟨b, 0, none⟩)) :
    (results Tryz.f22 tmps).run Tryz.prog w = .ok (.agg #[v0, v1, v2, v3]) w := by
  have q0 : w.cell? ⟨b, 0, none⟩ = some v0 := hb.cell 0
  have q1 : w.cell? ⟨b, 1, none⟩ = some v1 := hb.cell 1
  have q2 : w.cell? ⟨b, 2, none⟩ = some v2 := hb.cell 2
  have q3 : w.cell? ⟨b, 3, none⟩ = some v3 := hb.cell 3
  have ht' : tmps[0]?.getD undef = .pointer (some ⟨b, 0, none⟩) := by rw [← Array.getD_eq_getD_getElem?]; exact ht
  simp [results, ht', go_sem, q0, q1, q2, q3]

set_option maxHeartbeats 8000000 in
set_option maxRecDepth 100000 in
theorem line_any (w : World) : Calls Tryz.prog 22 #[] w fun e w' => ∃ x : TA, e = .returned (.agg x.cs) ∧ TpAt w' w'.heap.size x lineT ∧ Keep Never w w' := by
  obtain ⟨w1, hw1⟩ : ∃ W : World, w.alloc (.cells #[.slice none 0 0, .slice none 0 0, .slice none 0 0, .slice none 0 0] 27) = W := ⟨_, rfl⟩
  have k1 : Keep Never w w1 := by rw [← hw1]; exact (Keep.refl _ _).alloc _
  have b1 := Blk.new w 27 #[.slice none 0 0, .slice none 0 0, .slice none 0 0, .slice none 0 0]
  rw [hw1] at b1
  obtain ⟨w2, hw2⟩ : ∃ W : World, w1.alloc (.cells #[.int .i64 100, .int .i64 200, .int .i64 300] 3) = W := ⟨_, rfl⟩
  have k2 : Keep Never w1 w2 := by rw [← hw2]; exact (Keep.refl _ _).alloc _
  have b2 := Blk.new w1 3 #[.int .i64 100, .int .i64 200, .int .i64 300]
  rw [hw2] at b2
  obtain ⟨w3, hw3⟩ : ∃ W : World, w2.alloc (.cells #[.int .i64 0, .int .i64 1, .int .i64 1, .int .i64 0, .int .i64 1, .int .i64 1, .int .i64 2, .int .i64 0] 77) = W := ⟨_, rfl⟩
  have k3 : Keep Never w2 w3 := by rw [← hw3]; exact (Keep.refl _ _).alloc _
  have b3 := Blk.new w2 77 #[.int .i64 0, .int .i64 1, .int .i64 1, .int .i64 0, .int .i64 1, .int .i64 1, .int .i64 2, .int .i64 0]
  rw [hw3] at b3
  obtain ⟨w4, hw4⟩ : ∃ W : World, w3.alloc (.cells #[.int .i64 7, .int .i64 0, .int .i64 10, .int .i64 8, .int .i64 1, .int .i64 20, .int .i64 9, .int .i64 2, .int .i64 30] 79) = W := ⟨_, rfl⟩
  have k4 : Keep Never w3 w4 := by rw [← hw4]; exact (Keep.refl _ _).alloc _
  have b4 := Blk.new w3 79 #[.int .i64 7, .int .i64 0, .int .i64 10, .int .i64 8, .int .i64 1, .int .i64 20, .int .i64 9, .int .i64 2, .int .i64 30]
  rw [hw4] at b4
  obtain ⟨w5, hw5⟩ : ∃ W : World, w4.alloc (.cells #[.int .i64 0, .bool false, .int .i64 1, .bool false] 81) = W := ⟨_, rfl⟩
  have k5 : Keep Never w4 w5 := by rw [← hw5]; exact (Keep.refl _ _).alloc _
  have b5 := Blk.new w4 81 #[.int .i64 0, .bool false, .int .i64 1, .bool false]
  rw [hw5] at b5
  obtain ⟨w6, hw6⟩ : ∃ W : World, w5.alloc (.cells #[.int .i64 1, .bool false, .int .i64 2, .bool false] 81) = W := ⟨_, rfl⟩
  have k6 : Keep Never w5 w6 := by rw [← hw6]; exact (Keep.refl _ _).alloc _
  have b6 := Blk.new w5 81 #[.int .i64 1, .bool false, .int .i64 2, .bool false]
  rw [hw6] at b6
  obtain ⟨w7, hw7⟩ : ∃ W : World, w6.alloc (.cells #[.int .i64 1, .slice (some ⟨w4.heap.size, 0, none⟩) 2 2, .int .i64 0, .int .i64 30, .int .i64 2, .slice (some ⟨w5.heap.size, 0, none⟩) 2 2, .int .i64 50, .int .i64 20] 57) = W := ⟨_, rfl⟩
  have k7 : Keep Never w6 w7 := by rw [← hw7]; exact (Keep.refl _ _).alloc _
  have b7 := Blk.new w6 57 #[.int .i64 1, .slice (some ⟨w4.heap.size, 0, none⟩) 2 2, .int .i64 0, .int .i64 30, .int .i64 2, .slice (some ⟨w5.heap.size, 0, none⟩) 2 2, .int .i64 50, .int .i64 20]
  rw [hw7] at b7
  have B1 := ((((((b1.keep k2 (fun h => h)).keep k3 (fun h => h)).keep k4 (fun h => h)).keep k5 (fun h => h)).keep k6 (fun h => h)).keep k7 (fun h => h))
  have B2 := (((((b2.keep k3 (fun h => h)).keep k4 (fun h => h)).keep k5 (fun h => h)).keep k6 (fun h => h)).keep k7 (fun h => h))
  have B3 := ((((b3.keep k4 (fun h => h)).keep k5 (fun h => h)).keep k6 (fun h => h)).keep k7 (fun h => h))
  have B4 := (((b4.keep k5 (fun h => h)).keep k6 (fun h => h)).keep k7 (fun h => h))
  have B5 := ((b5.keep k6 (fun h => h)).keep k7 (fun h => h))
  have B6 := (b6.keep k7 (fun h => h))
  have B7 := b7
  have g0 : w7.cell? ⟨w.heap.size, 0, none⟩ = some (.slice none 0 0) := B1.cell 0
  have m0 := B1.frozen 0
  have g1 : w7.cell? ⟨w.heap.size, 1, none⟩ = some (.slice none 0 0) := B1.cell 1
  have m1 := B1.frozen 1
  have g2 : w7.cell? ⟨w.heap.size, 2, none⟩ = some (.slice none 0 0) := B1.cell 2
  have m2 := B1.frozen 2
  have g3 : w7.cell? ⟨w.heap.size, 3, none⟩ = some (.slice none 0 0) := B1.cell 3
  have m3 := B1.frozen 3
  have HLt : Hid (w.heap.size < w1.heap.size ∧ w1.heap.size < w2.heap.size ∧ w2.heap.size < w3.heap.size ∧ w3.heap.size < w4.heap.size ∧ w4.heap.size < w5.heap.size ∧ w5.heap.size < w6.heap.size ∧ w6.heap.size < w7.heap.size) := Lib.hid ⟨b1.lt, b2.lt, b3.lt, b4.lt, b5.lt, b6.lt, b7.lt⟩
  have HBz := Lib.hid (put4_blk B1 (.slice (some ⟨w1.heap.size, 0, none⟩) 3 3) (.slice (some ⟨w2.heap.size, 0, none⟩) 2 2) (.slice (some ⟨w3.heap.size, 0, none⟩) 3 3) (.slice (some ⟨w6.heap.size, 0, none⟩) 2 2))
  have HKz := Lib.hid (put4_keep ((((((k1.trans k2).trans k3).trans k4).trans k5).trans k6).trans k7) (.inr (Nat.le_refl _)) (.slice (some ⟨w1.heap.size, 0, none⟩) 3 3) (.slice (some ⟨w2.heap.size, 0, none⟩) 2 2) (.slice (some ⟨w3.heap.size, 0, none⟩) 3 3) (.slice (some ⟨w6.heap.size, 0, none⟩) 2 2))
  have hput := put4_keep (b := w.heap.size) (Keep.refl (fun k => k = w.heap.size) w7) (.inl rfl) (.slice (some ⟨w1.heap.size, 0, none⟩) 3 3) (.slice (some ⟨w2.heap.size, 0, none⟩) 2 2) (.slice (some ⟨w3.heap.size, 0, none⟩) 3 3) (.slice (some ⟨w6.heap.size, 0, none⟩) 2 2)
  have hlt := HLt.out
  obtain ⟨wz, hwz⟩ : ∃ W : World, (((w7.setCell ⟨w.heap.size, 0, none⟩ (.slice (some ⟨w1.heap.size, 0, none⟩) 3 3)).setCell ⟨w.heap.size, 1, none⟩ (.slice (some ⟨w2.heap.size, 0, none⟩) 2 2)).setCell ⟨w.heap.size, 2, none⟩ (.slice (some ⟨w3.heap.size, 0, none⟩) 3 3)).setCell ⟨w.heap.size, 3, none⟩ (.slice (some ⟨w6.heap.size, 0, none⟩) 2 2) = W := ⟨_, rfl⟩
  rw [hwz] at hput HBz HKz
  have HE := Lib.hid (Rd.of_blk (size := 1) (n := 3) (cs := [.int .i64 100, .int .i64 200, .int .i64 300]) (B2.keep hput (by omega)) rfl)
  have HJ := Lib.hid (Rd.of_blk (size := 4) (n := 2) (cs := [.int .i64 0, .int .i64 1, .int .i64 1, .int .i64 0, .int .i64 1, .int .i64 1, .int .i64 2, .int .i64 0]) (B3.keep hput (by omega)) rfl)
  have HL := Lib.hid (Rd.of_blk (size := 3) (n := 3) (cs := [.int .i64 7, .int .i64 0, .int .i64 10, .int .i64 8, .int .i64 1, .int .i64 20, .int .i64 9, .int .i64 2, .int .i64 30]) (B4.keep hput (by omega)) rfl)
  have HP := Lib.hid (Rd.of_blk (size := 2) (n := 2) (cs := [.int .i64 0, .bool false, .int .i64 1, .bool false]) (B5.keep hput (by omega)) rfl)
  have HQ := Lib.hid (Rd.of_blk (size := 2) (n := 2) (cs := [.int .i64 1, .bool false, .int .i64 2, .bool false]) (B6.keep hput (by omega)) rfl)
  have HR := Lib.hid (Rd.of_blk (size := 4) (n := 2) (cs := [.int .i64 1, .slice (some ⟨w4.heap.size, 0, none⟩) 2 2, .int .i64 0, .int .i64 30, .int .i64 2, .slice (some ⟨w5.heap.size, 0, none⟩) 2 2, .int .i64 50, .int .i64 20]) (B7.keep hput (by omega)) rfl)
  clear k1 k2 k3 k4 k5 k6 k7 b1 b2 b3 b4 b5 b6 b7 B1 B2 B3 B4 B5 B6 B7 hput hlt
  have HW := Lib.hid hwz
  clear hwz
  go_enter Tryz.func22, Tryz.ntmps22
  go_wp2_with fail
  (try simp only [Exit.inBlock, Exit.then])
  rw [HW.out]
  refine bodyPost_ret (line_results HBz.out _ rfl) rfl ⟨⟨some ⟨w1.heap.size, 0, none⟩, 3, 3, some ⟨w2.heap.size, 0, none⟩, 2, 2, some ⟨w3.heap.size, 0, none⟩, 3, 3, some ⟨w6.heap.size, 0, none⟩, 2, 2⟩, rfl, ⟨?_, ?_, ?_, ?_⟩, HKz.out⟩
  · exact ⟨rfl, Nat.le_refl _, by unfold maxLen; simp only; omega, by simp, [[.int .i64 100], [.int .i64 200], [.int .i64 300]], HE.out, ⟨rfl, by decide⟩, ⟨rfl, by decide⟩, ⟨rfl, by decide⟩, trivial⟩
  · exact ⟨rfl, Nat.le_refl _, by unfold maxLen; simp only; omega, by simp, [[.int .i64 0, .int .i64 1, .int .i64 1, .int .i64 0], [.int .i64 1, .int .i64 1, .int .i64 2, .int .i64 0]], HJ.out, ⟨[.int .i64 0, .int .i64 1], [.int .i64 1, .int .i64 0], rfl, ⟨[.int .i64 0], [.int .i64 1], rfl, ⟨rfl, by decide⟩, ⟨rfl, by decide⟩⟩, ⟨[.int .i64 1], [.int .i64 0], rfl, ⟨rfl, by decide⟩, ⟨rfl, by decide⟩⟩⟩, ⟨[.int .i64 1, .int .i64 1], [.int .i64 2, .int .i64 0], rfl, ⟨[.int .i64 1], [.int .i64 1], rfl, ⟨rfl, by decide⟩, ⟨rfl, by decide⟩⟩, ⟨[.int .i64 2], [.int .i64 0], rfl, ⟨rfl, by decide⟩, ⟨rfl, by decide⟩⟩⟩, trivial⟩
  · exact ⟨rfl, Nat.le_refl _, by unfold maxLen; simp only; omega, by simp, [[.int .i64 7, .int .i64 0, .int .i64 10], [.int .i64 8, .int .i64 1, .int .i64 20], [.int .i64 9, .int .i64 2, .int .i64 30]], HL.out, ⟨[.int .i64 7], [.int .i64 0, .int .i64 10], rfl, ⟨rfl, by decide⟩, [.int .i64 0], [.int .i64 10], rfl, ⟨rfl, by decide⟩, ⟨rfl, by decide⟩⟩, ⟨[.int .i64 8], [.int .i64 1, .int .i64 20], rfl, ⟨rfl, by decide⟩, [.int .i64 1], [.int .i64 20], rfl, ⟨rfl, by decide⟩, ⟨rfl, by decide⟩⟩, ⟨[.int .i64 9], [.int .i64 2, .int .i64 30], rfl, ⟨rfl, by decide⟩, [.int .i64 2], [.int .i64 30], rfl, ⟨rfl, by decide⟩, ⟨rfl, by decide⟩⟩, trivial⟩
  · exact ⟨rfl, Nat.le_refl _, by unfold maxLen; simp only; omega, by simp, [[.int .i64 1, .slice (some ⟨w4.heap.size, 0, none⟩) 2 2, .int .i64 0, .int .i64 30], [.int .i64 2, .slice (some ⟨w5.heap.size, 0, none⟩) 2 2, .int .i64 50, .int .i64 20]], HR.out, ⟨[.int .i64 1], [.slice (some ⟨w4.heap.size, 0, none⟩) 2 2, .int .i64 0, .int .i64 30], rfl, ⟨rfl, by decide⟩, [.slice (some ⟨w4.heap.size, 0, none⟩) 2 2], [.int .i64 0, .int .i64 30], rfl, ⟨some ⟨w4.heap.size, 0, none⟩, 2, 2, rfl, stps_sl HP.out (by omega) (by unfold maxLen; omega) (by simp) (by intro s hs; simp at hs; rcases hs with rfl | rfl <;> (constructor <;> simp))⟩, [.int .i64 0], [.int .i64 30], rfl, ⟨rfl, by decide⟩, ⟨rfl, by decide⟩⟩, ⟨[.int .i64 2], [.slice (some ⟨w5.heap.size, 0, none⟩) 2 2, .int .i64 50, .int .i64 20], rfl, ⟨rfl, by decide⟩, [.slice (some ⟨w5.heap.size, 0, none⟩) 2 2], [.int .i64 50, .int .i64 20], rfl, ⟨some ⟨w5.heap.size, 0, none⟩, 2, 2, rfl, stps_sl HQ.out (by omega) (by unfold maxLen; omega) (by simp) (by intro s hs; simp at hs; rcases hs with rfl | rfl <;> (constructor <;> simp))⟩, [.int .i64 50], [.int .i64 20], rfl, ⟨rfl, by decide⟩, ⟨rfl, by decide⟩⟩, trivial⟩

set_option maxHeartbeats 4000000 in
set_option maxRecDepth 100000 in
theorem few_any (x : TA) (t : Tp) (B : Nat) (A : Option Addr) (n c : Nat) (w : World) (ht : TpAt w B x t) :
    Calls Tryz.prog 6 #[.agg x.cs, .slice A n c] w fun e w' => ∃ b, e = .returned (.bool b) ∧ Hid (b = true → TpLight x t ∧ n ≤ 100) ∧ Keep Never w w' := by
  have HLt : Hid (∀ V, Keep Never w V → Calls Tryz.prog 25 #[.agg x.cs] V fun e w'' => ∃ b, e = .returned (.bool b) ∧ Hid (b = true → TpLight x t) ∧ Keep Never V w'') := Lib.hid (fun V h => light13r_any x t B V (ht.keep h))
  obtain ⟨Ae, ne, ce, Aj, nj, cj, Ab, nb, cb, Ar, nr, cr⟩ := x
  simp only [TA.cs] at HLt ⊢
  clear ht
  obtain ⟨w1, hw1⟩ : ∃ V : World, w.alloc (.cells #[.slice Ae ne ce, .slice Aj nj cj, .slice Ab nb cb, .slice Ar nr cr] 27) = V := ⟨_, rfl⟩
  have kw1 : Keep Never w w1 := by rw [← hw1]; exact (Keep.refl _ _).alloc _
  have bw1 := Blk.new w 27 #[.slice Ae ne ce, .slice Aj nj cj, .slice Ab nb cb, .slice Ar nr cr]
  rw [hw1] at bw1
  have HB1 := Lib.hid bw1
  have HK := Lib.hid kw1
  have y0 : w1.cell? ⟨w.heap.size, 0, none⟩ = some (.slice Ae ne ce) := HB1.out.cell 0
  have y1 : w1.cell? ⟨w.heap.size, 1, none⟩ = some (.slice Aj nj cj) := HB1.out.cell 1
  have y2 : w1.cell? ⟨w.heap.size, 2, none⟩ = some (.slice Ab nb cb) := HB1.out.cell 2
  have y3 : w1.cell? ⟨w.heap.size, 3, none⟩ = some (.slice Ar nr cr) := HB1.out.cell 3
  clear kw1 bw1
  have HC := Lib.hid (HLt.out w1 HK.out)
  go_enter Tryz.func6, Tryz.ntmps6
  go_wp2_with fail
  refine HC.out.mono ?_
  rintro e w2 ⟨lt, rfl, hlt, hk⟩
  have HK2 := Lib.hid (HK.out.trans hk)
  clear hk y0 y1 y2 y3 hw1 HC HLt
  cases lt with
  | false =>
    go_wp2_with fail
    go_ret
    exact ⟨false, rfl, Lib.hid (fun h => Bool.noConfusion h), HK2.out⟩
  | true =>
    have HLI := Lib.hid (hlt.out rfl)
    clear hlt
    by_cases g : n ≤ 100
    · have t0 : decide ((n : Int) ≤ 100) = true := by simp; omega
      have Hg := Lib.hid g
      clear g
      go_wp2_with fail
      go_ret
      exact ⟨true, rfl, Lib.hid (fun _ => ⟨HLI.out, Hg.out⟩), HK2.out⟩
    · have t0 : decide ((n : Int) ≤ 100) = false := by simp; omega
      clear g
      go_wp2_with fail
      go_ret
      exact ⟨false, rfl, Lib.hid (fun h => Bool.noConfusion h), HK2.out⟩

set_option maxHeartbeats 16000000 in
set_option maxRecDepth 100000 in
theorem awake16_any (w : World) :
    Calls Tryz.prog 5 #[] w fun e w' => e = .returned (.bool true) ∧ Keep Never w w' := by
  have HLn := Lib.hid line_any
  have HSt : Hid (∀ (V : World) (x : TA) (A : Option Addr) (n c : Nat) (l : List Lk) (nx r tr : Int), TpAt V V.heap.size x lineT → SpAt V V.heap.size A n c l → n ≤ 1000 → Calls Tryz.prog 7 #[.agg x.cs, .agg #[.slice A n c, .int .i64 nx], .int .i64 r, .int .i64 tr] V (SetRet (setI lineT (l, nx) r tr) V)) := Lib.hid (fun V x A n c l nx r tr ht hl hn => set16_any x lineT V.heap.size A n c l nx r tr V ht (line_small ht) (Nat.le_refl _) hl (by omega))
  have HFr : Hid (∀ (V : World) (x : TA) (A : Option Addr) (n c : Nat) (l : List Lk) (nx no : Int), TpAt V V.heap.size x lineT → SpAt V V.heap.size A n c l → n ≤ 1000 → Calls Tryz.prog 10 #[.agg x.cs, .agg #[.slice A n c, .int .i64 nx], .int .i64 no] V (FreeRet (freeI lineT (l, nx) no) V)) := Lib.hid (fun V x A n c l nx no ht hl hn => free16_any x lineT V.heap.size A n c l nx no V ht (line_small ht) (Nat.le_refl _) hl (by omega))
  have HMy : Hid (∀ (V : World) (x : TA) (A : Option Addr) (n c : Nat) (l : List Lk) (nx : Int), TpAt V V.heap.size x lineT → SpAt V V.heap.size A n c l → n ≤ 1000 → Calls Tryz.prog 12 #[.agg x.cs, .agg #[.slice A n c, .int .i64 nx]] V fun e w' => e = .returned (.bool (mayI lineT (l, nx))) ∧ Keep Never V w') := Lib.hid (fun V x A n c l nx ht hl hn => may16_any x lineT V.heap.size A n c l nx V ht (line_small ht) (Nat.le_refl _) hl (by omega))
  have HLd : Hid (∀ (V : World) (x : TA) (A : Option Addr) (n c : Nat) (l : List Lk) (tr : Int), TpAt V V.heap.size x lineT → SpAt V V.heap.size A n c l → n ≤ 1000 → Calls Tryz.prog 17 #[.agg x.cs, .slice A n c, .int .i64 tr] V (SpsRet (lockedM lineT l tr) V)) := Lib.hid (fun V x A n c l tr ht hl hn => lockd_any x lineT V.heap.size A n c l tr V ht (line_small ht) (Nat.le_refl _) hl (by omega))
  have HK0 := Lib.hid (Keep.refl Never w)
  go_enter Tryz.func5, Tryz.ntmps5
  go_wp2_with fail
  refine (HLn.out _).mono ?_
  rintro en w101 ⟨x, rfl, ht, hk1⟩
  have Ht := Lib.hid ht
  clear ht
  have HK1 := Lib.hid (HK0.out.trans hk1)
  clear hk1
  go_wp2_with fail
  refine (new16_any _).mono ?_
  rintro en w102 ⟨rfl, hk2⟩
  have Ht := Lib.hid ((Ht.out.keep hk2).wide hk2.size)
  have HK2 := Lib.hid (HK1.out.trans hk2)
  clear hk2
  have hw := HSt.out w102 x none 0 0 [] 1 1 5 Ht.out (nilAt _) (by omega)
  rw [line_run1] at hw
  unfold SetRet at hw
  dsimp only at hw
  have HC := Lib.hid hw
  clear hw
  go_wp2_with fail
  refine HC.out.mono ?_
  rintro en w103 ⟨A1, n1, c1, rfl, hn1, ho1, hk3⟩
  have hn1' : n1 = 1 := hn1.out
  subst hn1'
  have HS1 := Lib.hid (lkAt_own ho1)
  clear ho1 hn1 Ht
  have HK3 := Lib.hid (HK2.out.trans hk3)
  clear hk3 HC
  obtain ⟨w104, hw104⟩ : ∃ V : World, w103.alloc (.cells #[.slice A1 1 c1, .int .i64 2] 30) = V := ⟨_, rfl⟩
  have kx : Keep Never w103 w104 := by rw [← hw104]; exact (Keep.refl _ _).alloc _
  have bx := Blk.new w103 30 #[.slice A1 1 c1, .int .i64 2]
  rw [hw104] at bx
  obtain ⟨bo, hbo⟩ : ∃ q, w103.heap.size = q := ⟨_, rfl⟩
  rw [hbo] at bx
  have HBx4 := Lib.hid bx
  have HK4 := Lib.hid (HK3.out.trans kx)
  clear kx bx
  have HBo : Hid (w.heap.size ≤ bo) := Lib.hid (by rw [← hbo]; exact HK3.out.size)
  have HS1 := Lib.hid (HS1.out.here (show Keep Never w103 w104 from by rw [← hw104]; exact (Keep.refl Never _).alloc _))
  have o0 : w104.cell? ⟨bo, 0, none⟩ = some (.slice A1 1 c1) := HBx4.out.cell 0
  have o1 : w104.cell? ⟨bo, 1, none⟩ = some (.int .i64 2) := HBx4.out.cell 1
  have o0a : ∀ o, (w104.alloc o).cell? ⟨bo, 0, none⟩ = some (.slice A1 1 c1) := fun o => keepT ((Keep.refl Never _).alloc o) o0
  have o1a : ∀ o, (w104.alloc o).cell? ⟨bo, 1, none⟩ = some (.int .i64 2) := fun o => keepT ((Keep.refl Never _).alloc o) o1
  go_wp2_with fail
  clear hw104 hbo
  have HSw : Hid (∀ (V : World), Keep Never w104 V → SpAt V V.heap.size A1 1 c1 [(1, 5, 1)]) := Lib.hid (fun V h => HS1.out.here h)
  have HC2 : Hid (∀ (V : World) (xl : TA), Keep Never w104 V → TpAt V V.heap.size xl lineT → Calls Tryz.prog 7 #[.agg xl.cs, .agg #[.slice A1 1 c1, .int .i64 2], .int .i64 2, .int .i64 6] V (SetRet (noI, 0, 160) V)) := Lib.hid (fun V xl h ht => by have hw := HSt.out V xl A1 1 c1 [(1, 5, 1)] 2 2 6 ht (HSw.out V h) (by omega); rw [line_run2] at hw; exact hw)
  unfold SetRet at HC2
  dsimp only at HC2
  go_cut [6] (fun s6 wc => s6 = .int .i64 160 ∧ Hid (Keep Never w104 wc))
  case first =>
    go_region_law (first
      | (go_simp; go_at_call 22; refine (HLn.out _).mono ?_; rintro en w3 ⟨xl, rfl, htl, hkl⟩
         have HKl : Hid (Keep Never w104 w3) := Lib.hid (by first | exact hkl.drewL | exact hkl | exact (((Keep.refl Never w104).alloc _).drew).trans hkl | exact (((Keep.refl Never w104).drew).alloc _).trans hkl | exact ((Keep.refl Never w104).alloc _).trans hkl)
         have Htl := Lib.hid htl
         have X0 := keepT HKl.out o0
         have X0a : ∀ o, (w3.alloc o).cell? ⟨bo, 0, none⟩ = some (.slice A1 1 c1) := fun o => keepT ((Keep.refl Never w3).alloc o) X0
         have X1 := keepT HKl.out o1
         have X1a : ∀ o, (w3.alloc o).cell? ⟨bo, 1, none⟩ = some (.int .i64 2) := fun o => keepT ((Keep.refl Never w3).alloc o) X1
         (try have nbA : Hid (Blk w3 w104.heap.size 30 #[.slice none 0 0, .int .i64 0]) := Lib.hid (by first | exact Blk.keep (Blk.drew (Blk.new w104 30 #[.slice none 0 0, .int .i64 0])) hkl (fun h => h) | exact Blk.keep (Blk.new w104 30 #[.slice none 0 0, .int .i64 0]) hkl (fun h => h) | exact Blk.keep (Blk.new w104.drew 30 #[.slice none 0 0, .int .i64 0]) hkl (fun h => h)))
         clear htl hkl)
      | (go_simp; go_at_call 7; refine (HC2.out _ xl (by first | exact HKl.out | exact HKl.out.alloc _) (by first | exact Htl.out | exact (Htl.out.keep ((Keep.refl Never w3).alloc _)).wide (by simp))).mono ?_; rintro en w4 ⟨A4, n4, c4, rfl, _, ho4, hk4⟩
         have HKs : Hid (Keep Never w104 w4) := Lib.hid (by first | exact HKl.out.trans hk4 | exact (HKl.out.alloc _).trans hk4)
         have HOs := Lib.hid ho4
         skip
         (first | (have nb := Lib.hid (nbA.out.keep hk4 (fun h => h)); have n0 : w4.cell? ⟨w104.heap.size, 0, none⟩ = some (.slice none 0 0) := nb.out.cell 0; have n1 : w4.cell? ⟨w104.heap.size, 1, none⟩ = some (.int .i64 0) := nb.out.cell 1; have m0 := nb.out.frozen 0; have m1 := nb.out.frozen 1) | (have nb := Lib.hid (Blk.keep (Blk.new w3 30 #[.slice none 0 0, .int .i64 0]) hk4 (fun h => h)); have n0 : w4.cell? ⟨w3.heap.size, 0, none⟩ = some (.slice none 0 0) := nb.out.cell 0; have n1 : w4.cell? ⟨w3.heap.size, 1, none⟩ = some (.int .i64 0) := nb.out.cell 1; have m0 := nb.out.frozen 0; have m1 := nb.out.frozen 1) | skip)
         clear hk4 ho4))
    all_goals
      go_wp2_with fail
      go_meet
      refine ⟨rfl, ?_⟩
      first | exact Lib.hid (put2_keep HKs.out (b := w104.heap.size) (.inr (Nat.le_refl _)) _ _) | exact Lib.hid (put2_keep HKs.out (b := w3.heap.size) (.inr HKl.out.size) _ _) | exact Lib.hid (HKs.out.alloc _)
  case rest =>
  obtain ⟨rfl, hR⟩ := hcut
  rename World => w105
  have HR := hR.out
  clear hR HC2
  have HS1 := Lib.hid (HS1.out.here HR)
  have HK5 := Lib.hid (HK4.out.trans HR)
  have Ho5 := Lib.hid (HBx4.out.keep HR (fun h => h))
  clear o0 o1 o0a o1a HR HSw
  have o0 : w105.cell? ⟨bo, 0, none⟩ = some (.slice A1 1 c1) := Ho5.out.cell 0
  have o1 : w105.cell? ⟨bo, 1, none⟩ = some (.int .i64 2) := Ho5.out.cell 1
  have o0a : ∀ o, (w105.alloc o).cell? ⟨bo, 0, none⟩ = some (.slice A1 1 c1) := fun o => keepT ((Keep.refl Never _).alloc o) o0
  have o1a : ∀ o, (w105.alloc o).cell? ⟨bo, 1, none⟩ = some (.int .i64 2) := fun o => keepT ((Keep.refl Never _).alloc o) o1
  go_wp2_with fail
  have HSw : Hid (∀ (V : World), Keep Never w105 V → SpAt V V.heap.size A1 1 c1 [(1, 5, 1)]) := Lib.hid (fun V h => HS1.out.here h)
  have HC2 : Hid (∀ (V : World) (xl : TA), Keep Never w105 V → TpAt V V.heap.size xl lineT → Calls Tryz.prog 7 #[.agg xl.cs, .agg #[.slice A1 1 c1, .int .i64 2], .int .i64 2, .int .i64 5] V (SetRet (([(1, 5, 1), (2, 5, 2)], 3), 2, 0) V)) := Lib.hid (fun V xl h ht => by have hw := HSt.out V xl A1 1 c1 [(1, 5, 1)] 2 2 5 ht (HSw.out V h) (by omega); rw [line_run3] at hw; exact hw)
  unfold SetRet at HC2
  dsimp only at HC2
  go_cut [7, 8] (fun s7 s8 wc => s7 = .int .i64 2 ∧ s8 = .int .i64 0 ∧ ∃ A n c, Hid (Keep Never w wc ∧ Blk wc bo 30 #[.slice A n c, .int .i64 3] ∧ n = 2 ∧ SpAt wc wc.heap.size A n c [(1, 5, 1), (2, 5, 2)]))
  case first =>
    go_region_law (first
      | (go_simp; go_at_call 22; refine (HLn.out _).mono ?_; rintro en w3 ⟨xl, rfl, htl, hkl⟩
         have HKl : Hid (Keep Never w105 w3) := Lib.hid (by first | exact hkl.drewL | exact hkl | exact (((Keep.refl Never w105).alloc _).drew).trans hkl | exact (((Keep.refl Never w105).drew).alloc _).trans hkl | exact ((Keep.refl Never w105).alloc _).trans hkl)
         have Htl := Lib.hid htl
         have X0 := keepT HKl.out o0
         have X0a : ∀ o, (w3.alloc o).cell? ⟨bo, 0, none⟩ = some (.slice A1 1 c1) := fun o => keepT ((Keep.refl Never w3).alloc o) X0
         have X1 := keepT HKl.out o1
         have X1a : ∀ o, (w3.alloc o).cell? ⟨bo, 1, none⟩ = some (.int .i64 2) := fun o => keepT ((Keep.refl Never w3).alloc o) X1
         (try have nbA : Hid (Blk w3 w105.heap.size 30 #[.slice none 0 0, .int .i64 0]) := Lib.hid (by first | exact Blk.keep (Blk.drew (Blk.new w105 30 #[.slice none 0 0, .int .i64 0])) hkl (fun h => h) | exact Blk.keep (Blk.new w105 30 #[.slice none 0 0, .int .i64 0]) hkl (fun h => h) | exact Blk.keep (Blk.new w105.drew 30 #[.slice none 0 0, .int .i64 0]) hkl (fun h => h)))
         clear htl hkl)
      | (go_simp; go_at_call 7; refine (HC2.out _ xl (by first | exact HKl.out | exact HKl.out.alloc _) (by first | exact Htl.out | exact (Htl.out.keep ((Keep.refl Never w3).alloc _)).wide (by simp))).mono ?_; rintro en w4 ⟨A4, n4, c4, rfl, hn4, ho4, hk4⟩
         have HKs : Hid (Keep Never w105 w4) := Lib.hid (by first | exact HKl.out.trans hk4 | exact (HKl.out.alloc _).trans hk4)
         have HOs := Lib.hid ho4
         have HX4 := Lib.hid (Ho5.out.keep (HKl.out.trans hk4) (fun h => h)); have P0 : w4.cell? ⟨bo, 0, none⟩ = some (.slice A1 1 c1) := HX4.out.cell 0; have P1 : w4.cell? ⟨bo, 1, none⟩ = some (.int .i64 2) := HX4.out.cell 1; have P2 := HX4.out.frozen 0; have P3 := HX4.out.frozen 1; have HN4 := hn4
         (first | (have nb := Lib.hid (nbA.out.keep hk4 (fun h => h)); have n0 : w4.cell? ⟨w105.heap.size, 0, none⟩ = some (.slice none 0 0) := nb.out.cell 0; have n1 : w4.cell? ⟨w105.heap.size, 1, none⟩ = some (.int .i64 0) := nb.out.cell 1; have m0 := nb.out.frozen 0; have m1 := nb.out.frozen 1) | (have nb := Lib.hid (Blk.keep (Blk.new w3 30 #[.slice none 0 0, .int .i64 0]) hk4 (fun h => h)); have n0 : w4.cell? ⟨w3.heap.size, 0, none⟩ = some (.slice none 0 0) := nb.out.cell 0; have n1 : w4.cell? ⟨w3.heap.size, 1, none⟩ = some (.int .i64 0) := nb.out.cell 1; have m0 := nb.out.frozen 0; have m1 := nb.out.frozen 1) | skip)
         clear hk4 ho4))
    all_goals
      go_wp2_with fail
      go_meet
      refine ⟨rfl, rfl, A4, n4, c4, Lib.hid ⟨put2_keep (HK5.out.trans HKs.out) (.inr HBo.out) _ _, put2_blk HX4.out _ _, HN4.out, ?_⟩⟩
      exact lkAt_own (HOs.out.keep (put2_keep (Keep.refl (fun i => i = bo) w4) (b := bo) (.inl rfl) (.slice A4 n4 c4) (.int .i64 3)) (HOs.out.ne_blk HX4.out (by decide)))
  case rest =>
  obtain ⟨rfl, rfl, A5, n5, c5, hR⟩ := hcut
  rename World => w106
  obtain ⟨HK6, hB6, hn5, hS5⟩ := hR.out
  subst hn5
  have HS5 := Lib.hid hS5
  have HKx6 := Lib.hid HK6
  have Ho6 := Lib.hid hB6
  clear hR HC2 hB6 hS5 HK6 HSw HS1
  clear o0 o1 o0a o1a
  have o0 : w106.cell? ⟨bo, 0, none⟩ = some (.slice A5 2 c5) := Ho6.out.cell 0
  have o1 : w106.cell? ⟨bo, 1, none⟩ = some (.int .i64 3) := Ho6.out.cell 1
  have o0a : ∀ o, (w106.alloc o).cell? ⟨bo, 0, none⟩ = some (.slice A5 2 c5) := fun o => keepT ((Keep.refl Never _).alloc o) o0
  have o1a : ∀ o, (w106.alloc o).cell? ⟨bo, 1, none⟩ = some (.int .i64 3) := fun o => keepT ((Keep.refl Never _).alloc o) o1
  go_wp2_with fail
  have HSw : Hid (∀ (V : World), Keep Never w106 V → SpAt V V.heap.size A5 2 c5 [(1, 5, 1), (2, 5, 2)]) := Lib.hid (fun V h => HS5.out.here h)
  have HC2 : Hid (∀ (V : World) (xl : TA), Keep Never w106 V → TpAt V V.heap.size xl lineT → Calls Tryz.prog 10 #[.agg xl.cs, .agg #[.slice A5 2 c5, .int .i64 3], .int .i64 1] V (FreeRet (([(2, 5, 2)], 3), 0) V)) := Lib.hid (fun V xl h ht => by have hw := HFr.out V xl A5 2 c5 [(1, 5, 1), (2, 5, 2)] 3 1 ht (HSw.out V h) (by omega); rw [line_run4] at hw; exact hw)
  unfold FreeRet at HC2
  dsimp only at HC2
  go_cut [9, 10] (fun s9 s10 wc => s10 = .int .i64 0 ∧ ∃ b A n c, s9 = .pointer (some ⟨b, 0, none⟩) ∧ Hid (Keep Never w106 wc ∧ Blk wc b 30 #[.slice A n c, .int .i64 3] ∧ n = 1 ∧ SpAt wc wc.heap.size A n c [(2, 5, 2)]))
  case first =>
    go_region_law (first
      | (go_simp; go_at_call 22; refine (HLn.out _).mono ?_; rintro en w3 ⟨xl, rfl, htl, hkl⟩
         have HKl : Hid (Keep Never w106 w3) := Lib.hid (by first | exact hkl.drewL | exact hkl | exact (((Keep.refl Never w106).alloc _).drew).trans hkl | exact (((Keep.refl Never w106).drew).alloc _).trans hkl | exact ((Keep.refl Never w106).alloc _).trans hkl)
         have Htl := Lib.hid htl
         have X0 := keepT HKl.out o0
         have X0a : ∀ o, (w3.alloc o).cell? ⟨bo, 0, none⟩ = some (.slice A5 2 c5) := fun o => keepT ((Keep.refl Never w3).alloc o) X0
         have X1 := keepT HKl.out o1
         have X1a : ∀ o, (w3.alloc o).cell? ⟨bo, 1, none⟩ = some (.int .i64 3) := fun o => keepT ((Keep.refl Never w3).alloc o) X1
         (try have nbA : Hid (Blk w3 w106.heap.size 30 #[.slice none 0 0, .int .i64 0]) := Lib.hid (by first | exact Blk.keep (Blk.drew (Blk.new w106 30 #[.slice none 0 0, .int .i64 0])) hkl (fun h => h) | exact Blk.keep (Blk.new w106 30 #[.slice none 0 0, .int .i64 0]) hkl (fun h => h) | exact Blk.keep (Blk.new w106.drew 30 #[.slice none 0 0, .int .i64 0]) hkl (fun h => h)))
         clear htl hkl)
      | (go_simp; go_at_call 10; refine (HC2.out _ xl (by first | exact HKl.out | exact HKl.out.alloc _) (by first | exact Htl.out | exact (Htl.out.keep ((Keep.refl Never w3).alloc _)).wide (by simp))).mono ?_; rintro en w4 ⟨A4, n4, c4, rfl, hn4, ho4, hk4⟩
         have HKs : Hid (Keep Never w106 w4) := Lib.hid (by first | exact HKl.out.trans hk4 | exact (HKl.out.alloc _).trans hk4)
         have HOs := Lib.hid ho4
         have HN4 := hn4
         (first | (have nb := Lib.hid (nbA.out.keep hk4 (fun h => h)); have n0 : w4.cell? ⟨w106.heap.size, 0, none⟩ = some (.slice none 0 0) := nb.out.cell 0; have n1 : w4.cell? ⟨w106.heap.size, 1, none⟩ = some (.int .i64 0) := nb.out.cell 1; have m0 := nb.out.frozen 0; have m1 := nb.out.frozen 1) | (have nb := Lib.hid (Blk.keep (Blk.new w3 30 #[.slice none 0 0, .int .i64 0]) hk4 (fun h => h)); have n0 : w4.cell? ⟨w3.heap.size, 0, none⟩ = some (.slice none 0 0) := nb.out.cell 0; have n1 : w4.cell? ⟨w3.heap.size, 1, none⟩ = some (.int .i64 0) := nb.out.cell 1; have m0 := nb.out.frozen 0; have m1 := nb.out.frozen 1) | skip)
         clear hk4 ho4))
    all_goals
      go_wp2_with fail
      go_meet
      refine ⟨rfl, ?_⟩
      first
        | exact ⟨w106.heap.size, A4, n4, c4, rfl, Lib.hid ⟨put2_keep HKs.out (.inr (Nat.le_refl _)) _ _, put2_blk nb.out _ _, HN4.out, lkAt_own (HOs.out.keep (put2_keep (Keep.refl (fun i => i = w106.heap.size) w4) (b := w106.heap.size) (.inl rfl) _ _) (HOs.out.ne_blk nb.out (by decide)))⟩⟩
        | exact ⟨w3.heap.size, A4, n4, c4, rfl, Lib.hid ⟨put2_keep HKs.out (.inr HKl.out.size) _ _, put2_blk nb.out _ _, HN4.out, lkAt_own (HOs.out.keep (put2_keep (Keep.refl (fun i => i = w3.heap.size) w4) (b := w3.heap.size) (.inl rfl) _ _) (HOs.out.ne_blk nb.out (by decide)))⟩⟩
        | exact ⟨w4.heap.size, A4, n4, c4, rfl, Lib.hid ⟨HKs.out.alloc _, Blk.new _ _ _, HN4.out, lkAt_own (HOs.out.alloc _)⟩⟩
  case rest =>
  obtain ⟨rfl, by_, A7, n7, c7, rfl, hR⟩ := hcut
  rename World => w107
  obtain ⟨hk7, hB7, hn7, hS7⟩ := hR.out
  subst hn7
  have HS7 := Lib.hid hS7
  have Hp7 := Lib.hid hB7
  have HS5 := Lib.hid (HS5.out.here hk7)
  clear hR HC2 hB7 hS7 HSw
  have HK21 := Lib.hid (HKx6.out.trans hk7)
  have Ho21 := Lib.hid (Ho6.out.keep hk7 (fun h => h))
  clear o0 o1 o0a o1a hk7
  have p0 : w107.cell? ⟨by_, 0, none⟩ = some (.slice A7 1 c7) := Hp7.out.cell 0
  have p1 : w107.cell? ⟨by_, 1, none⟩ = some (.int .i64 3) := Hp7.out.cell 1
  have p0a : ∀ o, (w107.alloc o).cell? ⟨by_, 0, none⟩ = some (.slice A7 1 c7) := fun o => keepT ((Keep.refl Never _).alloc o) p0
  have p1a : ∀ o, (w107.alloc o).cell? ⟨by_, 1, none⟩ = some (.int .i64 3) := fun o => keepT ((Keep.refl Never _).alloc o) p1
  go_wp2_with fail
  have HSw : Hid (∀ (V : World), Keep Never w107 V → SpAt V V.heap.size A7 1 c7 [(2, 5, 2)]) := Lib.hid (fun V h => HS7.out.here h)
  have HC2 : Hid (∀ (V : World) (xl : TA), Keep Never w107 V → TpAt V V.heap.size xl lineT → Calls Tryz.prog 7 #[.agg xl.cs, .agg #[.slice A7 1 c7, .int .i64 3], .int .i64 1, .int .i64 6] V (SetRet (noI, 0, 160) V)) := Lib.hid (fun V xl h ht => by have hw := HSt.out V xl A7 1 c7 [(2, 5, 2)] 3 1 6 ht (HSw.out V h) (by omega); rw [line_run5] at hw; exact hw)
  unfold SetRet at HC2
  dsimp only at HC2
  go_cut [13] (fun s6 wc => s6 = .int .i64 160 ∧ Hid (Keep Never w107 wc))
  case first =>
    go_region_law (first
      | (go_simp; go_at_call 22; refine (HLn.out _).mono ?_; rintro en w3 ⟨xl, rfl, htl, hkl⟩
         have HKl : Hid (Keep Never w107 w3) := Lib.hid (by first | exact hkl.drewL | exact hkl | exact (((Keep.refl Never w107).alloc _).drew).trans hkl | exact (((Keep.refl Never w107).drew).alloc _).trans hkl | exact ((Keep.refl Never w107).alloc _).trans hkl)
         have Htl := Lib.hid htl
         have X0 := keepT HKl.out p0
         have X0a : ∀ o, (w3.alloc o).cell? ⟨by_, 0, none⟩ = some (.slice A7 1 c7) := fun o => keepT ((Keep.refl Never w3).alloc o) X0
         have X1 := keepT HKl.out p1
         have X1a : ∀ o, (w3.alloc o).cell? ⟨by_, 1, none⟩ = some (.int .i64 3) := fun o => keepT ((Keep.refl Never w3).alloc o) X1
         (try have nbA : Hid (Blk w3 w107.heap.size 30 #[.slice none 0 0, .int .i64 0]) := Lib.hid (by first | exact Blk.keep (Blk.drew (Blk.new w107 30 #[.slice none 0 0, .int .i64 0])) hkl (fun h => h) | exact Blk.keep (Blk.new w107 30 #[.slice none 0 0, .int .i64 0]) hkl (fun h => h) | exact Blk.keep (Blk.new w107.drew 30 #[.slice none 0 0, .int .i64 0]) hkl (fun h => h)))
         clear htl hkl)
      | (go_simp; go_at_call 7; refine (HC2.out _ xl (by first | exact HKl.out | exact HKl.out.alloc _) (by first | exact Htl.out | exact (Htl.out.keep ((Keep.refl Never w3).alloc _)).wide (by simp))).mono ?_; rintro en w4 ⟨A4, n4, c4, rfl, _, ho4, hk4⟩
         have HKs : Hid (Keep Never w107 w4) := Lib.hid (by first | exact HKl.out.trans hk4 | exact (HKl.out.alloc _).trans hk4)
         have HOs := Lib.hid ho4
         skip
         (first | (have nb := Lib.hid (nbA.out.keep hk4 (fun h => h)); have n0 : w4.cell? ⟨w107.heap.size, 0, none⟩ = some (.slice none 0 0) := nb.out.cell 0; have n1 : w4.cell? ⟨w107.heap.size, 1, none⟩ = some (.int .i64 0) := nb.out.cell 1; have m0 := nb.out.frozen 0; have m1 := nb.out.frozen 1) | (have nb := Lib.hid (Blk.keep (Blk.new w3 30 #[.slice none 0 0, .int .i64 0]) hk4 (fun h => h)); have n0 : w4.cell? ⟨w3.heap.size, 0, none⟩ = some (.slice none 0 0) := nb.out.cell 0; have n1 : w4.cell? ⟨w3.heap.size, 1, none⟩ = some (.int .i64 0) := nb.out.cell 1; have m0 := nb.out.frozen 0; have m1 := nb.out.frozen 1) | skip)
         clear hk4 ho4))
    all_goals
      go_wp2_with fail
      go_meet
      refine ⟨rfl, ?_⟩
      first | exact Lib.hid (put2_keep HKs.out (b := w107.heap.size) (.inr (Nat.le_refl _)) _ _) | exact Lib.hid (put2_keep HKs.out (b := w3.heap.size) (.inr HKl.out.size) _ _) | exact Lib.hid (HKs.out.alloc _)
  case rest =>
  obtain ⟨rfl, hR⟩ := hcut
  rename World => w108
  have HR := hR.out
  have HS5 := Lib.hid (HS5.out.here HR)
  clear hR HC2
  have HK22 := Lib.hid (HK21.out.trans HR)
  have Ho22 := Lib.hid (Ho21.out.keep HR (fun h => h))
  have Hp22 := Lib.hid (Hp7.out.keep HR (fun h => h))
  clear p0 p1 p0a p1a HR HSw
  have o0 : w108.cell? ⟨bo, 0, none⟩ = some (.slice A5 2 c5) := Ho22.out.cell 0
  have o1 : w108.cell? ⟨bo, 1, none⟩ = some (.int .i64 3) := Ho22.out.cell 1
  have HS2 : Hid (∀ W', Keep Never w108 W' → Keep Never w108 W' ∧ W'.cell? ⟨bo, 0, none⟩ = some (.slice A5 2 c5) ∧ W'.cell? ⟨bo, 1, none⟩ = some (.int .i64 3)) := Lib.hid (fun W' h => ⟨h, keepT h o0, keepT h o1⟩)
  go_wp2_with fail
  clear o0 o1
  have HSw : Hid (∀ (V : World), Keep Never w108 V → SpAt V V.heap.size A5 2 c5 [(1, 5, 1), (2, 5, 2)]) := Lib.hid (fun V h => HS5.out.here h)
  have HM1 : Hid (∀ (V : World) (xl : TA), Keep Never w108 V → TpAt V V.heap.size xl lineT → Calls Tryz.prog 12 #[.agg xl.cs, .agg #[.slice A5 2 c5, .int .i64 3]] V fun e w' => e = .returned (.bool true) ∧ Keep Never V w') := Lib.hid (fun V xl h ht => by have hw := HMy.out V xl A5 2 c5 [(1, 5, 1), (2, 5, 2)] 3 ht (HSw.out V h) (by omega); rw [line_run6] at hw; exact hw)
  have HL1 : Hid (∀ (V : World) (xl : TA), Keep Never w108 V → TpAt V V.heap.size xl lineT → Calls Tryz.prog 17 #[.agg xl.cs, .slice A5 2 c5, .int .i64 5] V (SpsRet (lockedM lineT [(1, 5, 1), (2, 5, 2)] 5) V)) := Lib.hid (fun V xl h ht => HLd.out V xl A5 2 c5 [(1, 5, 1), (2, 5, 2)] 5 ht (HSw.out V h) (by omega))
  have HT1 : Hid (∀ (V : World) (A : Option Addr) (n c : Nat), SpAt V V.heap.size A n c (lockedM lineT [(1, 5, 1), (2, 5, 2)] 5) → Calls Tryz.prog 24 #[.slice A n c] V fun e w' => e = .returned (.int .i64 600) ∧ Keep Never V w') := Lib.hid (fun V A n c hs => (total_sp V.heap.size A n c _ V hs (by have h1 := hs.len; have h2 := line_run8; omega) (Nat.le_refl _)).mono (fun e w' ⟨m, h1, h2, h3⟩ => ⟨by rw [h1, normM_eq h2, line_run7], h3⟩))
  go_region_held3 (fun W' => Keep Never w108 W' ∧ W'.cell? ⟨bo, 0, none⟩ = some (.slice A5 2 c5) ∧ W'.cell? ⟨bo, 1, none⟩ = some (.int .i64 3))
    (first | assumption | exact HS2.out _ ((Keep.refl Never w108).drew) | exact HS2.out _ (Keep.trans (And.left (by assumption)) hk3) | exact HS2.out _ (Keep.trans ((Keep.refl Never w108).drew) hk3))
    (first
      | (go_at_call 22; refine (HLn.out _).mono ?_; rintro e w3 ⟨xl, rfl, htl, hk3⟩; have HTl : Hid (∀ V, Keep Never w3 V → TpAt V V.heap.size xl lineT) := Lib.hid (fun V h => (htl.keep h).wide h.size); have HK36 := Lib.hid (Keep.refl Never w3))
      | (go_at_call 12; refine (HM1.out _ xl (by first | exact And.left (by assumption) | exact (Keep.refl Never w108).drew | exact Keep.refl Never w108) (HTl.out _ HK36.out)).mono ?_; rintro e w4 ⟨rfl, hk3⟩)
      | (go_at_call 17; refine (HL1.out _ xl (by first | exact And.left (by assumption) | exact (Keep.refl Never w108).drew | exact Keep.refl Never w108) (HTl.out _ HK36.out)).mono ?_; rintro e w5 ⟨A9, n9, c9, rfl, _, hs9, hk3⟩; have HS9 := Lib.hid hs9)
      | (go_at_call 24; refine (HT1.out _ A9 n9 c9 HS9.out).mono ?_; rintro e w6 ⟨rfl, hk3⟩))
  all_goals
    rename_i hS
    have HKe := Lib.hid (HK22.out.trans hS.1)
    clear hS
    go_wp2_with fail
    go_ret
    exact ⟨rfl, HKe.out⟩


end Go.Proofs.YtijdkjcjhfebfaaGreat
