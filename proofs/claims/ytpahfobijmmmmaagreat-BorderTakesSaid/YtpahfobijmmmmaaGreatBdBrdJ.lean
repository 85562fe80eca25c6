/- Chapter 20 (border): Right and Take at a border that lends nothing. -/
import Derived.Test.YtpahfobijmmmmaaGreatBrdI
import Derived.Test.YtpahfobijmmmmaaGreatBrdU
namespace Go.Proofs.YtpahfobijmmmmaaGreat
open Go.RowKit

theorem bd_results {fn : Func} {r s : Nat} (h : fn.results = #[.cell r 30, .tmp s]) {w : World} {b : Nat} {v0 v1 v2 : Value} (hb : Blk w b 30 #[v0, v1, v2]) (tmps : Array Value) (ht : tmps.getD r undef = .pointer (some ⟨b, 0, none⟩)) :
    (results fn tmps).run Tryz.prog w = .ok (.tuple #[.agg #[v0, v1, v2], tmps.getD s undef]) w := by
  have q0 : w.cell? ⟨b, 0, none⟩ = some v0 := hb.cell 0
  have q1 : w.cell? ⟨b, 1, none⟩ = some v1 := hb.cell 1
  have q2 : w.cell? ⟨b, 2, none⟩ = some v2 := hb.cell 2
  have ht' : tmps[r]?.getD undef = .pointer (some ⟨b, 0, none⟩) := by rw [← Array.getD_eq_getD_getElem?]; exact ht
  simp [results, h, ht', go_sem, q0, q1, q2]
set_option maxHeartbeats 1000000 in
set_option maxRecDepth 100000 in
theorem indexfT_nil (g : Nat) (lb : Array Value) (w : World) :
    Calls Tryz.prog 48 #[.slice none 0 0, .func (.func g) #[] lb] w (fun e w' => e = .returned (.int .i64 (-1)) ∧ Keep Never w w') := by
  go_enter Tryz.func48, Tryz.ntmps48
  go_wp2_with fail
  go_loopw [5, 8] (fun _ s8 wr => s8 = .int .i64 0 ∧ Hid (Keep Never w wr)) (fun _ i _ => 0 - (intOf i).toNat)
  case atStart => exact ⟨rfl, Lib.hid (Keep.refl _ _)⟩
  case round =>
    obtain ⟨rfl, HH⟩ := hrel
    go_wp2_with fail
    go_ret
    exact ⟨rfl, HH.out⟩

set_option maxHeartbeats 1000000 in
set_option maxRecDepth 100000 in
theorem containsfT_nil (g : Nat) (lb : Array Value) (w : World) :
    Calls Tryz.prog 31 #[.slice none 0 0, .func (.func g) #[] lb] w (fun e w' => e = .returned (.bool false) ∧ Keep Never w w') := by
  have HI := Lib.hid (indexfT_nil g lb w)
  go_enter Tryz.func31, Tryz.ntmps31
  go_wp2_with fail
  refine HI.out.mono ?_
  rintro e w' ⟨rfl, hk⟩
  have HK := Lib.hid hk
  clear hk
  go_wp2_with fail
  go_ret
  exact ⟨rfl, HK.out⟩

set_option maxHeartbeats 1000000 in
set_option maxRecDepth 100000 in
theorem cloneT_nil (w : World) :
    Calls Tryz.prog 19 #[.slice none 0 0] w (fun e w' => e = .returned (.slice none 0 0) ∧ Keep Never w w') := by
  have q22 : ∀ (w : World) (a : Option Addr) (n c n' c' : Nat), (binOp .eql 28 (.slice a n c) (.slice none n' c')).run Tryz.prog w = .ok (.bool a.isNone) w := fun w a n c n' c' => Lib.run_eql_slice_nil w _ _ a n c n' c' Tryz.underlying28
  go_enter Tryz.func19, Tryz.ntmps19
  go_wp2_with fail
  go_ret
  exact ⟨rfl, Keep.refl _ _⟩

set_option maxHeartbeats 4000000 in
set_option maxRecDepth 100000 in
theorem right20_nil (w : World) :
    Calls Tryz.prog 14 #[.agg #[.int .i64 (-1), .int .i64 (-1), .slice none 0 0]] w (fun e w' => e = .returned (.bool true) ∧ Keep Never w w') := by
  have HC : Hid (∀ V, Calls Tryz.prog 31 #[.slice none 0 0, .func (.func 29) #[] #[]] V fun e w' => e = .returned (.bool false) ∧ Keep Never V w') := Lib.hid (fun V => containsfT_nil _ _ V)
  go_enter Tryz.func14, Tryz.ntmps14
  go_wp2_with fail
  refine (HC.out _).mono ?_
  rintro e w2 ⟨rfl, hk2⟩
  have HK2 : Hid (Keep Never w w2) := Lib.hid (((Keep.refl _ _).alloc _).trans hk2)
  clear hk2 HC
  go_wp2_with fail
  go_ret
  exact ⟨rfl, HK2.out⟩

set_option maxHeartbeats 4000000 in
set_option maxRecDepth 100000 in
theorem take20_ask (k0 tr tt un : Int) (A1 A2 : Option Addr) (n1 c1 n2 c2 B : Nat) (l : List Lok) (h : List Sp) (w : World) (hl : SpAt w B A1 n1 c1 l) (hh : SpAt w B A2 n2 c2 h) (hn1 : n1 ≤ 1000000) (hn2 : n2 ≤ 1000000) (hB : B ≤ w.heap.size) (hb : -9223372036854775808 ≤ tt ∧ tt ≤ 9223372036854775807) (hm : mayN (k0, tr, tt, un, l, h) = true) (ht : 0 ≤ tt) (hk : k0 ≠ 2) :
    Calls Tryz.prog 6 #[.agg #[.int .i64 (-1), .int .i64 (-1), .slice none 0 0], .agg #[.int .i64 k0, .int .i64 tr, .int .i64 tt, .int .i64 un, .slice A1 n1 c1, .slice A2 n2 c2]] w (fun e w' => e = .returned (.tuple #[.agg #[.int .i64 (-1), .int .i64 tt, .slice none 0 0], .int .i64 0]) ∧ Keep Never w w') := by
  have HR : Hid (∀ V, Calls Tryz.prog 14 #[.agg #[.int .i64 (-1), .int .i64 (-1), .slice none 0 0]] V fun e w' => e = .returned (.bool true) ∧ Keep Never V w') := Lib.hid (fun V => right20_nil V)
  have HMy : Hid (∀ V, Keep Never w V → Calls Tryz.prog 18 #[.agg #[.int .i64 k0, .int .i64 tr, .int .i64 tt, .int .i64 un, .slice A1 n1 c1, .slice A2 n2 c2]] V fun e w' => e = .returned (.bool true) ∧ Keep Never V w') := Lib.hid (fun V hV => by have := may20_any k0 tr tt un A1 A2 n1 c1 n2 c2 B l h V (hl.keep hV) (hh.keep hV) hn1 hn2 (Nat.le_trans hB hV.size) hb; rwa [hm] at this)
  have HCl : Hid (∀ V, Calls Tryz.prog 19 #[.slice none 0 0] V fun e w' => e = .returned (.slice none 0 0) ∧ Keep Never V w') := Lib.hid (fun V => cloneT_nil V)
  have ht1 : decide (tt ≤ -1) = false := decide_eq_false (by omega)
  have hk2 : (k0 == 2) = false := by simpa using hk
  clear hl hh hn1 hn2 hB hb hm ht hk
  obtain ⟨w1, hw1⟩ : ∃ V : World, w.alloc (.cells #[.int .i64 (-1), .int .i64 (-1), .slice none 0 0] 30) = V := ⟨_, rfl⟩
  have zw1 : w1.heap.size = w.heap.size + 1 := by rw [← hw1]; simp
  have kw1 : Keep Never w w1 := by rw [← hw1]; exact (Keep.refl _ _).alloc _
  have bw1 := Blk.new w 30 #[.int .i64 (-1), .int .i64 (-1), .slice none 0 0]
  rw [hw1] at bw1
  obtain ⟨w2, hw2⟩ : ∃ V : World, w1.alloc (.cells #[.int .i64 k0, .int .i64 tr, .int .i64 tt, .int .i64 un, .slice A1 n1 c1, .slice A2 n2 c2] 34) = V := ⟨_, rfl⟩
  have zw2 : w2.heap.size = w.heap.size + 1 + 1 := by rw [← hw2]; simp [zw1]
  have kw2 : Keep Never w1 w2 := by rw [← hw2]; exact (Keep.refl _ _).alloc _
  have bw2 := Blk.new w1 34 #[.int .i64 k0, .int .i64 tr, .int .i64 tt, .int .i64 un, .slice A1 n1 c1, .slice A2 n2 c2]
  rw [hw2, zw1] at bw2
  obtain ⟨w3, hw3⟩ : ∃ V : World, w2.alloc (.cells #[.int .i64 0, .int .i64 0, .slice none 0 0] 30) = V := ⟨_, rfl⟩
  have kw3 : Keep Never w2 w3 := by rw [← hw3]; exact (Keep.refl _ _).alloc _
  have bw3 := Blk.new w2 30 #[.int .i64 0, .int .i64 0, .slice none 0 0]
  rw [hw3, zw2] at bw3
  have HB1 := Lib.hid ((bw1.keep kw2 (fun h => h)).keep kw3 (fun h => h))
  have HB2 := Lib.hid (bw2.keep kw3 (fun h => h))
  have HB3 := Lib.hid bw3
  have HK := Lib.hid ((kw1.trans kw2).trans kw3)
  clear kw1 kw2 kw3 bw1 bw2 bw3
  have x0 : w3.cell? ⟨w.heap.size, 0, none⟩ = some (.int .i64 (-1)) := HB1.out.cell 0
  have x1 : w3.cell? ⟨w.heap.size, 1, none⟩ = some (.int .i64 (-1)) := HB1.out.cell 1
  have x2 : w3.cell? ⟨w.heap.size, 2, none⟩ = some (.slice none 0 0) := HB1.out.cell 2
  go_enter Tryz.func6, Tryz.ntmps6
  go_wp2_with fail
  refine (HR.out _).mono ?_
  rintro e w4 ⟨rfl, hk4⟩
  have HB14 := Lib.hid (HB1.out.keep hk4 (fun h => h))
  have HB24 := Lib.hid (HB2.out.keep hk4 (fun h => h))
  have HB34 := Lib.hid (HB3.out.keep hk4 (fun h => h))
  have HK4 := Lib.hid (HK.out.trans hk4)
  clear hk4 HR x0 x1 x2
  have m0 : w4.cell? ⟨w.heap.size + 1, 0, none⟩ = some (.int .i64 k0) := HB24.out.cell 0
  have m1 : w4.cell? ⟨w.heap.size + 1, 1, none⟩ = some (.int .i64 tr) := HB24.out.cell 1
  have m2 : w4.cell? ⟨w.heap.size + 1, 2, none⟩ = some (.int .i64 tt) := HB24.out.cell 2
  have m3 : w4.cell? ⟨w.heap.size + 1, 3, none⟩ = some (.int .i64 un) := HB24.out.cell 3
  have m4 : w4.cell? ⟨w.heap.size + 1, 4, none⟩ = some (.slice A1 n1 c1) := HB24.out.cell 4
  have m5 : w4.cell? ⟨w.heap.size + 1, 5, none⟩ = some (.slice A2 n2 c2) := HB24.out.cell 5
  go_wp2_with fail
  refine (HMy.out _ HK4.out).mono ?_
  rintro e w5 ⟨rfl, hk5⟩
  have HB15 := Lib.hid (HB14.out.keep hk5 (fun h => h))
  have HB25 := Lib.hid (HB24.out.keep hk5 (fun h => h))
  have HB35 := Lib.hid (HB34.out.keep hk5 (fun h => h))
  have HK5 := Lib.hid (HK4.out.trans hk5)
  clear hk5 HMy m0 m1 m2 m3 m4 m5
  have m2 : w5.cell? ⟨w.heap.size + 1, 2, none⟩ = some (.int .i64 tt) := HB25.out.cell 2
  have x1 : w5.cell? ⟨w.heap.size, 1, none⟩ = some (.int .i64 (-1)) := HB15.out.cell 1
  have xf1 := HB15.out.frozen 1
  go_upto_region 7 with (fail)
  clear m2 x1 xf1
  obtain ⟨w6, hw6⟩ : ∃ V : World, w5.setCell ⟨w.heap.size, 1, none⟩ (.int .i64 tt) = V := ⟨_, rfl⟩
  rw [hw6]
  have hk6 : Keep (fun i => i = w.heap.size) w5 w6 := by rw [← hw6]; exact (Keep.refl (fun i => i = w.heap.size) w5).set_ (p := ⟨w.heap.size, 1, none⟩) (.inl rfl) _
  have HB16 : Hid (Blk w6 w.heap.size 30 #[.int .i64 (-1), .int .i64 tt, .slice none 0 0]) := Lib.hid (by rw [← hw6]; have := HB15.out.set_ 1 (.int .i64 tt); simpa using this)
  have HB26 := Lib.hid (HB25.out.keep hk6 (fun h => by omega))
  have HB36 := Lib.hid (HB35.out.keep hk6 (fun h => by omega))
  have HK6 := Lib.hid (HK5.out.then_ hk6 (fun i hi e => by omega))
  clear hw6 hk6
  have x2 : w6.cell? ⟨w.heap.size, 2, none⟩ = some (.slice none 0 0) := HB16.out.cell 2
  go_wp2_with fail
  refine (HCl.out _).mono ?_
  rintro e w7 ⟨rfl, hk7⟩
  have HB17 := Lib.hid (HB16.out.keep hk7 (fun h => h))
  have HB27 := Lib.hid (HB26.out.keep hk7 (fun h => h))
  have HB37 := Lib.hid (HB36.out.keep hk7 (fun h => h))
  have HK7 := Lib.hid (HK6.out.trans hk7)
  clear hk7 HCl x2
  have x2 : w7.cell? ⟨w.heap.size, 2, none⟩ = some (.slice none 0 0) := HB17.out.cell 2
  have xf2 := HB17.out.frozen 2
  go_upto_region 8 with (fail)
  clear x2 xf2
  obtain ⟨w8, hw8⟩ : ∃ V : World, w7.setCell ⟨w.heap.size, 2, none⟩ (.slice none 0 0) = V := ⟨_, rfl⟩
  rw [hw8]
  have hk8 : Keep (fun i => i = w.heap.size) w7 w8 := by rw [← hw8]; exact (Keep.refl (fun i => i = w.heap.size) w7).set_ (p := ⟨w.heap.size, 2, none⟩) (.inl rfl) _
  have HB18 : Hid (Blk w8 w.heap.size 30 #[.int .i64 (-1), .int .i64 tt, .slice none 0 0]) := Lib.hid (by rw [← hw8]; have := HB17.out.set_ 2 (.slice none 0 0); simpa using this)
  have HB28 := Lib.hid (HB27.out.keep hk8 (fun h => by omega))
  have HB38 := Lib.hid (HB37.out.keep hk8 (fun h => by omega))
  have HK8 := Lib.hid (HK7.out.then_ hk8 (fun i hi e => by omega))
  clear hw8 hk8
  have m0 : w8.cell? ⟨w.heap.size + 1, 0, none⟩ = some (.int .i64 k0) := HB28.out.cell 0
  have x0 : w8.cell? ⟨w.heap.size, 0, none⟩ = some (.int .i64 (-1)) := HB18.out.cell 0
  have x1 : w8.cell? ⟨w.heap.size, 1, none⟩ = some (.int .i64 tt) := HB18.out.cell 1
  have x2 : w8.cell? ⟨w.heap.size, 2, none⟩ = some (.slice none 0 0) := HB18.out.cell 2
  have r0 : w8.cell? ⟨w.heap.size + 1 + 1, 0, none⟩ = some (.int .i64 0) := HB38.out.cell 0
  have r1 : w8.cell? ⟨w.heap.size + 1 + 1, 1, none⟩ = some (.int .i64 0) := HB38.out.cell 1
  have r2 : w8.cell? ⟨w.heap.size + 1 + 1, 2, none⟩ = some (.slice none 0 0) := HB38.out.cell 2
  have rf0 := HB38.out.frozen 0
  have rf1 := HB38.out.frozen 1
  have rf2 := HB38.out.frozen 2
  go_wp2_with fail
  refine bodyPost_ret (bd_results rfl (put3S_blk HB38.out _ _ _) _ rfl) rfl ⟨rfl, put3S_keep HK8.out (.inr (by omega)) _ _ _⟩


end Go.Proofs.YtpahfobijmmmmaaGreat

namespace Go.Proofs.YtpahfobijmmmmaaGreat
open Go.RowKit

/-- what Take answers: its row is new -/
def TkRet (z : Bdr × Int) (w : World) (e : Ending) (w' : World) : Prop := ∃ A' n' c', e = .returned (.tuple #[.agg #[.int .i64 z.1.1, .int .i64 z.1.2.1, .slice A' n' c'], .int .i64 z.2]) ∧ Own w' w.heap.size 59 4 A' n' c' (leCells z.1.2.2) ∧ Keep Never w w'
set_option maxHeartbeats 8000000 in
set_option maxRecDepth 100000 in
theorem take20_any (sn gt : Int) (A : Option Addr) (n c : Nat) (l : List Len) (k0 tr tt un : Int) (A1 A2 : Option Addr) (n1 c1 n2 c2 B : Nat) (ln : List Lok) (h : List Sp) (w : World) (hx : LeAt w B A n c l) (hl : SpAt w B A1 n1 c1 ln) (hh : SpAt w B A2 n2 c2 h) (hn : n ≤ 1000000) (hn1 : n1 ≤ 1000000) (hn2 : n2 ≤ 1000000) (hB : B ≤ w.heap.size) (hb : -9223372036854775808 ≤ tt ∧ tt ≤ 9223372036854775807) (hsn : -9223372036854775808 ≤ sn ∧ sn ≤ 9223372036854775807) (hgt : -9223372036854775808 ≤ gt ∧ gt ≤ 9223372036854775807) :
    Calls Tryz.prog 6 #[.agg #[.int .i64 sn, .int .i64 gt, .slice A n c], .agg #[.int .i64 k0, .int .i64 tr, .int .i64 tt, .int .i64 un, .slice A1 n1 c1, .slice A2 n2 c2]] w (TkRet (takeM (sn, gt, l) (k0, tr, tt, un, ln, h)) w) := by
  have HR : Hid (∀ V, Keep Never w V → Calls Tryz.prog 14 #[.agg #[.int .i64 sn, .int .i64 gt, .slice A n c]] V fun e w' => e = .returned (.bool (rightX (sn, gt, l))) ∧ Keep Never V w') := Lib.hid (fun V hV => right20_any sn gt A n c B l V (hx.keep hV) hsn hgt (by omega))
  have HMy : Hid (∀ V, Keep Never w V → Calls Tryz.prog 18 #[.agg #[.int .i64 k0, .int .i64 tr, .int .i64 tt, .int .i64 un, .slice A1 n1 c1, .slice A2 n2 c2]] V fun e w' => e = .returned (.bool (mayN (k0, tr, tt, un, ln, h))) ∧ Keep Never V w') := Lib.hid (fun V hV => may20_any k0 tr tt un A1 A2 n1 c1 n2 c2 B ln h V (hl.keep hV) (hh.keep hV) hn1 hn2 (Nat.le_trans hB hV.size) hb)
  have HCl : Hid (∀ V, Keep Never w V → Calls Tryz.prog 19 #[.slice A n c] V fun e w' => ∃ A' c', e = .returned (.slice A' n c') ∧ Own w' V.heap.size 59 4 A' n c' (leCells l) ∧ Keep Never V w') := Lib.hid (fun V hV => clone20T_any A n c B l V (hx.keep hV).rd hx.nil hx.cap (by omega) (Nat.le_trans hB hV.size))
  have HLx : Hid (l.length = n) := Lib.hid hx.len
  have HLl := Lib.hid hl
  have HN1 : Hid (ln.length = n1) := Lib.hid hl.len
  have eg := enters_of Tryz.func20 (by kernel_rfl) rfl
  clear hx hl hh hn1 hn2 hB hb hsn hgt hn
  obtain ⟨w1, hw1⟩ : ∃ V : World, w.alloc (.cells #[.int .i64 sn, .int .i64 gt, .slice A n c] 30) = V := ⟨_, rfl⟩
  have zw1 : w1.heap.size = w.heap.size + 1 := by rw [← hw1]; simp
  have kw1 : Keep Never w w1 := by rw [← hw1]; exact (Keep.refl _ _).alloc _
  have bw1 := Blk.new w 30 #[.int .i64 sn, .int .i64 gt, .slice A n c]
  rw [hw1] at bw1
  obtain ⟨w2, hw2⟩ : ∃ V : World, w1.alloc (.cells #[.int .i64 k0, .int .i64 tr, .int .i64 tt, .int .i64 un, .slice A1 n1 c1, .slice A2 n2 c2] 34) = V := ⟨_, rfl⟩
  have zw2 : w2.heap.size = w.heap.size + 1 + 1 := by rw [← hw2]; simp [zw1]
  have kw2 : Keep Never w1 w2 := by rw [← hw2]; exact (Keep.refl _ _).alloc _
  have bw2 := Blk.new w1 34 #[.int .i64 k0, .int .i64 tr, .int .i64 tt, .int .i64 un, .slice A1 n1 c1, .slice A2 n2 c2]
  rw [hw2, zw1] at bw2
  obtain ⟨w3, hw3⟩ : ∃ V : World, w2.alloc (.cells #[.int .i64 0, .int .i64 0, .slice none 0 0] 30) = V := ⟨_, rfl⟩
  have kw3 : Keep Never w2 w3 := by rw [← hw3]; exact (Keep.refl _ _).alloc _
  have bw3 := Blk.new w2 30 #[.int .i64 0, .int .i64 0, .slice none 0 0]
  rw [hw3, zw2] at bw3
  have HB1 := Lib.hid ((bw1.keep kw2 (fun h => h)).keep kw3 (fun h => h))
  have HB2 := Lib.hid (bw2.keep kw3 (fun h => h))
  have HB3 := Lib.hid bw3
  have HK := Lib.hid ((kw1.trans kw2).trans kw3)
  clear kw1 kw2 kw3 bw1 bw2 bw3
  obtain ⟨rx, hrx⟩ : ∃ y, rightX (sn, gt, l) = y := ⟨_, rfl⟩
  obtain ⟨my, hmy⟩ : ∃ y, mayN (k0, tr, tt, un, ln, h) = y := ⟨_, rfl⟩
  rw [hrx] at HR
  rw [hmy] at HMy
  have HRx := Lib.hid hrx
  have HMx := Lib.hid hmy
  clear hrx hmy
  have x0 : w3.cell? ⟨w.heap.size, 0, none⟩ = some (.int .i64 sn) := HB1.out.cell 0
  have x1 : w3.cell? ⟨w.heap.size, 1, none⟩ = some (.int .i64 gt) := HB1.out.cell 1
  have x2 : w3.cell? ⟨w.heap.size, 2, none⟩ = some (.slice A n c) := HB1.out.cell 2
  go_enter Tryz.func6, Tryz.ntmps6
  go_wp2_with fail
  refine (HR.out _ HK.out).mono ?_
  rintro e w4 ⟨rfl, hk4⟩
  have HB14 := Lib.hid (HB1.out.keep hk4 (fun h => h))
  have HB24 := Lib.hid (HB2.out.keep hk4 (fun h => h))
  have HB34 := Lib.hid (HB3.out.keep hk4 (fun h => h))
  have HK4 := Lib.hid (HK.out.trans hk4)
  clear hk4 HR x0 x1 x2 hw1 hw2 hw3
  cases rx with
  | false =>
    have HF : Hid (takeM (sn, gt, l) (k0, tr, tt, un, ln, h) = (noX, 1)) := Lib.hid (by unfold takeM; rw [if_neg (fun h => by rw [HRx.out] at h; cases h.1)])
    have r0 : w4.cell? ⟨w.heap.size + 1 + 1, 0, none⟩ = some (.int .i64 0) := HB34.out.cell 0
    have rf0 := HB34.out.frozen 0
    have r1 : w4.cell? ⟨w.heap.size + 1 + 1, 1, none⟩ = some (.int .i64 0) := HB34.out.cell 1
    have rf1 := HB34.out.frozen 1
    have r2 : w4.cell? ⟨w.heap.size + 1 + 1, 2, none⟩ = some (.slice none 0 0) := HB34.out.cell 2
    have rf2 := HB34.out.frozen 2
    go_wp2_with fail
    refine bodyPost_ret (bd_results rfl (put3S_blk HB34.out _ _ _) _ rfl) rfl ⟨none, 0, 0, ?_, ?_, put3S_keep HK4.out (.inr (by omega)) _ _ _⟩
    · rw [HF.out]; rfl
    · rw [HF.out]; exact Own.nil _ _ _ _
  | true =>
  have m0 : w4.cell? ⟨w.heap.size + 1, 0, none⟩ = some (.int .i64 k0) := HB24.out.cell 0
  have m1 : w4.cell? ⟨w.heap.size + 1, 1, none⟩ = some (.int .i64 tr) := HB24.out.cell 1
  have m2 : w4.cell? ⟨w.heap.size + 1, 2, none⟩ = some (.int .i64 tt) := HB24.out.cell 2
  have m3 : w4.cell? ⟨w.heap.size + 1, 3, none⟩ = some (.int .i64 un) := HB24.out.cell 3
  have m4 : w4.cell? ⟨w.heap.size + 1, 4, none⟩ = some (.slice A1 n1 c1) := HB24.out.cell 4
  have m5 : w4.cell? ⟨w.heap.size + 1, 5, none⟩ = some (.slice A2 n2 c2) := HB24.out.cell 5
  go_wp2_with fail
  refine (HMy.out _ HK4.out).mono ?_
  rintro e w5 ⟨rfl, hk5⟩
  have HB15 := Lib.hid (HB14.out.keep hk5 (fun h => h))
  have HB25 := Lib.hid (HB24.out.keep hk5 (fun h => h))
  have HB35 := Lib.hid (HB34.out.keep hk5 (fun h => h))
  have HK5 := Lib.hid (HK4.out.trans hk5)
  clear hk5 HMy m0 m1 m2 m3 m4 m5
  cases my with
  | false =>
    have HF : Hid (takeM (sn, gt, l) (k0, tr, tt, un, ln, h) = (noX, 1)) := Lib.hid (by unfold takeM; rw [if_neg (fun h => by rw [HMx.out] at h; cases h.2)])
    have r0 : w5.cell? ⟨w.heap.size + 1 + 1, 0, none⟩ = some (.int .i64 0) := HB35.out.cell 0
    have rf0 := HB35.out.frozen 0
    have r1 : w5.cell? ⟨w.heap.size + 1 + 1, 1, none⟩ = some (.int .i64 0) := HB35.out.cell 1
    have rf1 := HB35.out.frozen 1
    have r2 : w5.cell? ⟨w.heap.size + 1 + 1, 2, none⟩ = some (.slice none 0 0) := HB35.out.cell 2
    have rf2 := HB35.out.frozen 2
    go_wp2_with fail
    refine bodyPost_ret (bd_results rfl (put3S_blk HB35.out _ _ _) _ rfl) rfl ⟨none, 0, 0, ?_, ?_, put3S_keep HK5.out (.inr (by omega)) _ _ _⟩
    · rw [HF.out]; rfl
    · rw [HF.out]; exact Own.nil _ _ _ _
  | true =>
  have HFt : Hid (takeM (sn, gt, l) (k0, tr, tt, un, ln, h) = if tt ≤ gt then (noX, 110) else if 48 < (haveM (sn, gt, l) (k0, tr, tt, un, ln, h)).length then (noX, 1) else ((sn, tt, haveM (sn, gt, l) (k0, tr, tt, un, ln, h)), 0)) := Lib.hid (by unfold takeM; rw [if_pos ⟨HRx.out, HMx.out⟩])
  have HMn := Lib.hid (mayN_iff.1 HMx.out)
  have HN48 : Hid (n ≤ 48) := Lib.hid (by have h1 := HRx.out; rw [rightX_eq] at h1; simp only [Bool.and_eq_true, decide_eq_true_eq] at h1; have := HLx.out; omega)
  have HN24 : Hid (n1 ≤ 24) := Lib.hid (by have h1 := HMn.out.few; have := HN1.out; simp only at h1; omega)
  have m2 : w5.cell? ⟨w.heap.size + 1, 2, none⟩ = some (.int .i64 tt) := HB25.out.cell 2
  have x1 : w5.cell? ⟨w.heap.size, 1, none⟩ = some (.int .i64 gt) := HB15.out.cell 1
  have xf1 := HB15.out.frozen 1
  by_cases g1 : tt ≤ gt
  · have t1 : decide (tt ≤ gt) = true := decide_eq_true g1
    have HF : Hid (takeM (sn, gt, l) (k0, tr, tt, un, ln, h) = (noX, 110)) := Lib.hid (by rw [HFt.out, if_pos g1])
    clear g1
    have r0 : w5.cell? ⟨w.heap.size + 1 + 1, 0, none⟩ = some (.int .i64 0) := HB35.out.cell 0
    have rf0 := HB35.out.frozen 0
    have r1 : w5.cell? ⟨w.heap.size + 1 + 1, 1, none⟩ = some (.int .i64 0) := HB35.out.cell 1
    have rf1 := HB35.out.frozen 1
    have r2 : w5.cell? ⟨w.heap.size + 1 + 1, 2, none⟩ = some (.slice none 0 0) := HB35.out.cell 2
    have rf2 := HB35.out.frozen 2
    go_wp2_with fail
    refine bodyPost_ret (bd_results rfl (put3S_blk HB35.out _ _ _) _ rfl) rfl ⟨none, 0, 0, ?_, ?_, put3S_keep HK5.out (.inr (by omega)) _ _ _⟩
    · rw [HF.out]; rfl
    · rw [HF.out]; exact Own.nil _ _ _ _
  have t1 : decide (tt ≤ gt) = false := decide_eq_false g1
  have HFh : Hid (takeM (sn, gt, l) (k0, tr, tt, un, ln, h) = if 48 < (haveM (sn, gt, l) (k0, tr, tt, un, ln, h)).length then (noX, 1) else ((sn, tt, haveM (sn, gt, l) (k0, tr, tt, un, ln, h)), 0)) := Lib.hid (by rw [HFt.out, if_neg g1])
  clear g1 HFt
  go_upto_region 7 with (fail)
  clear m2 x1 xf1 t1
  obtain ⟨w6, hw6⟩ : ∃ V : World, w5.setCell ⟨w.heap.size, 1, none⟩ (.int .i64 tt) = V := ⟨_, rfl⟩
  rw [hw6]
  have hk6 : Keep (fun i => i = w.heap.size) w5 w6 := by rw [← hw6]; exact (Keep.refl (fun i => i = w.heap.size) w5).set_ (p := ⟨w.heap.size, 1, none⟩) (.inl rfl) _
  have HB16 : Hid (Blk w6 w.heap.size 30 #[.int .i64 sn, .int .i64 tt, .slice A n c]) := Lib.hid (by rw [← hw6]; have := HB15.out.set_ 1 (.int .i64 tt); simpa using this)
  have HB26 := Lib.hid (HB25.out.keep hk6 (fun h => by omega))
  have HB36 := Lib.hid (HB35.out.keep hk6 (fun h => by omega))
  have HK6 := Lib.hid (HK5.out.then_ hk6 (fun i hi e => by omega))
  clear hw6 hk6
  have x2 : w6.cell? ⟨w.heap.size, 2, none⟩ = some (.slice A n c) := HB16.out.cell 2
  go_wp2_with fail
  refine (HCl.out _ HK6.out).mono ?_
  rintro e w7 ⟨A7, c7, rfl, ho7, hk7⟩
  have HB17 := Lib.hid (HB16.out.keep hk7 (fun h => h))
  have HB27 := Lib.hid (HB26.out.keep hk7 (fun h => h))
  have HB37 := Lib.hid (HB36.out.keep hk7 (fun h => h))
  have HO7 := Lib.hid (Own.less ho7 HK6.out.size)
  have HK7 := Lib.hid (HK6.out.trans hk7)
  clear hk7 HCl x2 ho7
  have x2 : w7.cell? ⟨w.heap.size, 2, none⟩ = some (.slice A n c) := HB17.out.cell 2
  have xf2 := HB17.out.frozen 2
  go_upto_region 8 with (fail)
  clear x2 xf2
  obtain ⟨w8, hw8⟩ : ∃ V : World, w7.setCell ⟨w.heap.size, 2, none⟩ (.slice A7 n c7) = V := ⟨_, rfl⟩
  rw [hw8]
  have hk8 : Keep (fun i => i = w.heap.size) w7 w8 := by rw [← hw8]; exact (Keep.refl (fun i => i = w.heap.size) w7).set_ (p := ⟨w.heap.size, 2, none⟩) (.inl rfl) _
  have HB18 : Hid (Blk w8 w.heap.size 30 #[.int .i64 sn, .int .i64 tt, .slice A7 n c7]) := Lib.hid (by rw [← hw8]; have := HB17.out.set_ 2 (.slice A7 n c7); simpa using this)
  have HB28 := Lib.hid (HB27.out.keep hk8 (fun h => by omega))
  have HB38 := Lib.hid (HB37.out.keep hk8 (fun h => by omega))
  have HO8 := Lib.hid (HO7.out.keep hk8 (HO7.out.ne_blk HB17.out (by decide)))
  have HK8 := Lib.hid (HK7.out.then_ hk8 (fun i hi e => by omega))
  clear hw8 hk8 HO7
  have m0 : w8.cell? ⟨w.heap.size + 1, 0, none⟩ = some (.int .i64 k0) := HB28.out.cell 0
  by_cases g2 : k0 = 2
  case neg =>
    have t2 : (k0 == 2) = false := by simpa using g2
    have HF : Hid (takeM (sn, gt, l) (k0, tr, tt, un, ln, h) = ((sn, tt, l), 0)) := Lib.hid (by
      have e : haveM (sn, gt, l) (k0, tr, tt, un, ln, h) = l := by unfold haveM; rw [if_neg g2]
      rw [HFh.out, e, if_neg (by have a1 := HN48.out; have a2 := HLx.out; omega)])
    have t3 : decide ((n : Int) > 48) = false := decide_eq_false (by have := HN48.out; omega)
    clear g2
    have x0 : w8.cell? ⟨w.heap.size, 0, none⟩ = some (.int .i64 sn) := HB18.out.cell 0
    have x1 : w8.cell? ⟨w.heap.size, 1, none⟩ = some (.int .i64 tt) := HB18.out.cell 1
    have x2 : w8.cell? ⟨w.heap.size, 2, none⟩ = some (.slice A7 n c7) := HB18.out.cell 2
    have r0 : w8.cell? ⟨w.heap.size + 1 + 1, 0, none⟩ = some (.int .i64 0) := HB38.out.cell 0
    have rf0 := HB38.out.frozen 0
    have r1 : w8.cell? ⟨w.heap.size + 1 + 1, 1, none⟩ = some (.int .i64 0) := HB38.out.cell 1
    have rf1 := HB38.out.frozen 1
    have r2 : w8.cell? ⟨w.heap.size + 1 + 1, 2, none⟩ = some (.slice none 0 0) := HB38.out.cell 2
    have rf2 := HB38.out.frozen 2
    go_wp2_with fail
    refine bodyPost_ret (bd_results rfl (put3S_blk HB38.out _ _ _) _ rfl) rfl ⟨A7, n, c7, ?_, ?_, put3S_keep HK8.out (.inr (by omega)) _ _ _⟩
    · rw [HF.out]; rfl
    · rw [HF.out]; exact HO8.out.keep (put3S_keep (Keep.refl (fun i => i = w.heap.size + 1 + 1) w8) (.inl rfl) _ _ _) (HO8.out.ne_blk HB38.out (by decide))
  case pos =>
  have t2 : (k0 == 2) = true := by simpa using g2
  have HHv : Hid (haveM (sn, gt, l) (k0, tr, tt, un, ln, h) = (l.filter fun s => !(s.1.2.1 == tr)) ++ ln.map fun k => (k, un)) := Lib.hid (by unfold haveM; rw [if_pos g2]; rfl)
  have HDl := Lib.hid (deletefT_any 20 #[.pointer (some ⟨w.heap.size + 1, 0, none⟩)] (fun s => s.1.2.1 == tr) eg w.heap.size A7 n c7 l w8 HO8.out (fun W s hk => own20_any k0 tr tt un A1 A2 n1 c1 n2 c2 _ s W (HB28.out.keep hk (fun h => HO8.out.ne_blk HB28.out (by decide) _ h rfl))) (by have := HN48.out; omega))
  obtain ⟨L2, hL2⟩ : ∃ z, (l.filter fun s => !(s.1.2.1 == tr)) = z := ⟨_, rfl⟩
  have HL48 : Hid (L2.length ≤ 48) := Lib.hid (by rw [← hL2]; have h1 := List.length_filter_le (fun s : Len => !(s.1.2.1 == tr)) l; have h2 := HLx.out; have h3 := HN48.out; omega)
  rw [hL2] at HDl HHv
  obtain ⟨m2, hm2⟩ : ∃ z, L2.length = z := ⟨_, rfl⟩
  rw [hm2] at HDl HL48
  have HM2 := Lib.hid hm2
  clear g2 hL2 hm2
  have x2 : w8.cell? ⟨w.heap.size, 2, none⟩ = some (.slice A7 n c7) := HB18.out.cell 2
  go_wp2_with fail
  refine HDl.out.mono ?_
  rintro e w9 ⟨rfl, ho9, hk9⟩
  have HB19 := Lib.hid (HB18.out.keep hk9 (fun h => HO8.out.ne_blk HB18.out (by decide) _ h rfl))
  have HB29 := Lib.hid (HB28.out.keep hk9 (fun h => HO8.out.ne_blk HB28.out (by decide) _ h rfl))
  have HB39 := Lib.hid (HB38.out.keep hk9 (fun h => HO8.out.ne_blk HB38.out (by decide) _ h rfl))
  have HO9 := Lib.hid ho9
  have HK9 := Lib.hid (HK8.out.then_ hk9 (fun i hi h => by have := (HO8.out.row h).1; omega))
  clear hk9 ho9 HDl x2 m0 t2
  have x2 : w9.cell? ⟨w.heap.size, 2, none⟩ = some (.slice A7 n c7) := HB19.out.cell 2
  have xf2 := HB19.out.frozen 2
  go_upto_region 11 with (fail)
  clear x2 xf2
  obtain ⟨w10, hw10⟩ : ∃ V : World, w9.setCell ⟨w.heap.size, 2, none⟩ (.slice A7 m2 c7) = V := ⟨_, rfl⟩
  rw [hw10]
  have hk10 : Keep (fun i => i = w.heap.size) w9 w10 := by rw [← hw10]; exact (Keep.refl (fun i => i = w.heap.size) w9).set_ (p := ⟨w.heap.size, 2, none⟩) (.inl rfl) _
  have HB1a : Hid (Blk w10 w.heap.size 30 #[.int .i64 sn, .int .i64 tt, .slice A7 m2 c7]) := Lib.hid (by rw [← hw10]; have := HB19.out.set_ 2 (.slice A7 m2 c7); simpa using this)
  have HB2a := Lib.hid (HB29.out.keep hk10 (fun h => by omega))
  have HB3a := Lib.hid (HB39.out.keep hk10 (fun h => by omega))
  have HOa := Lib.hid (HO9.out.keep hk10 (HO9.out.ne_blk HB19.out (by decide)))
  have HKa := Lib.hid (HK9.out.then_ hk10 (fun i hi e => by omega))
  clear hw10 hk10 HO9
  have m4 : w10.cell? ⟨w.heap.size + 1, 4, none⟩ = some (.slice A1 n1 c1) := HB2a.out.cell 4
  go_wp2_with fail
  clear m4
  go_loopw [43] (fun si wr => ∃ (k co : Nat) (Ao : Option Addr), k ≤ n1 ∧ si = .int .i64 k ∧ Hid (Keep Never w wr ∧ Blk wr w.heap.size 30 #[.int .i64 sn, .int .i64 tt, .slice Ao (m2 + k) co] ∧ Blk wr (w.heap.size + 1) 34 #[.int .i64 k0, .int .i64 tr, .int .i64 tt, .int .i64 un, .slice A1 n1 c1, .slice A2 n2 c2] ∧ Blk wr (w.heap.size + 1 + 1) 30 #[.int .i64 0, .int .i64 0, .slice none 0 0] ∧ Own wr w.heap.size 59 4 Ao (m2 + k) co (leCells (L2 ++ (ln.take k).map fun k => (k, un))))) (fun si _ => n1 - (intOf si).toNat)
  case atStart => exact ⟨0, c7, A7, by omega, rfl, Lib.hid ⟨HKa.out, HB1a.out, HB2a.out, HB3a.out, by have h1 := HOa.out; simpa using h1⟩⟩
  case round =>
    obtain ⟨k, co, Ao, hk, rfl, HH⟩ := hrel
    have HKr := Lib.hid HH.out.1
    have HB1r := Lib.hid HH.out.2.1
    have HB2r := Lib.hid HH.out.2.2.1
    have HB3r := Lib.hid HH.out.2.2.2.1
    have HOr := Lib.hid HH.out.2.2.2.2
    clear HH
    by_cases h0 : k < n1
    · have hki : (k : Int) < (n1 : Int) := by omega
      obtain ⟨ad, s, hA, _, hs, d0, d1, d2⟩ := (HLl.out.keep HKr.out).rd.sp h0
      subst hA
      obtain ⟨s1, s2, s3⟩ := s
      simp only at d0 d1 d2
      have HTk : Hid ((ln.take (k + 1)).map (fun k => ((k, un) : Len)) = (ln.take k).map (fun k => ((k, un) : Len)) ++ [((s1, s2, s3), un)]) := Lib.hid (by rw [List.take_add_one, hs]; simp)
      clear hs
      have z0 : (wr.alloc (.cells #[.int .i64 0, .int .i64 0, .int .i64 0] 57)).cell? ⟨wr.heap.size, 0, none⟩ = some (.int .i64 0) := (Blk.new wr 57 #[.int .i64 0, .int .i64 0, .int .i64 0]).cell 0
      have zf0 := (Blk.new wr 57 #[.int .i64 0, .int .i64 0, .int .i64 0]).frozen 0
      have z1 : (wr.alloc (.cells #[.int .i64 0, .int .i64 0, .int .i64 0] 57)).cell? ⟨wr.heap.size, 1, none⟩ = some (.int .i64 0) := (Blk.new wr 57 #[.int .i64 0, .int .i64 0, .int .i64 0]).cell 1
      have zf1 := (Blk.new wr 57 #[.int .i64 0, .int .i64 0, .int .i64 0]).frozen 1
      have z2 : (wr.alloc (.cells #[.int .i64 0, .int .i64 0, .int .i64 0] 57)).cell? ⟨wr.heap.size, 2, none⟩ = some (.int .i64 0) := (Blk.new wr 57 #[.int .i64 0, .int .i64 0, .int .i64 0]).cell 2
      have zf2 := (Blk.new wr 57 #[.int .i64 0, .int .i64 0, .int .i64 0]).frozen 2
      go_upto_region 14 with (fail)
      clear z0 z1 z2 zf0 zf1 zf2 d0 d1 d2
      obtain ⟨wb, hwb⟩ : ∃ V : World, wr.alloc (.cells #[.int .i64 s1, .int .i64 s2, .int .i64 s3] 57) = V := ⟨_, rfl⟩
      have kb : Keep Never wr wb := (by rw [← hwb]; exact (Keep.refl _ _).alloc _)
      have bb := Blk.new wr 57 #[.int .i64 s1, .int .i64 s2, .int .i64 s3]
      rw [hwb] at bb ⊢
      obtain ⟨bl, hbl⟩ : ∃ q, wr.heap.size = q := ⟨_, rfl⟩
      rw [hbl] at bb ⊢
      have HKb := Lib.hid (HKr.out.trans kb)
      have HB1b := Lib.hid (HB1r.out.keep kb (fun h => h))
      have HB2b := Lib.hid (HB2r.out.keep kb (fun h => h))
      have HB3b := Lib.hid (HB3r.out.keep kb (fun h => h))
      have HOb := Lib.hid (HOr.out.keep kb (fun _ _ h => h))
      clear kb hwb hbl
      have y0 : wb.cell? ⟨bl, 0, none⟩ = some (.int .i64 s1) := bb.cell 0
      have y1 : wb.cell? ⟨bl, 1, none⟩ = some (.int .i64 s2) := bb.cell 1
      have y2 : wb.cell? ⟨bl, 2, none⟩ = some (.int .i64 s3) := bb.cell 2
      have x2 : wb.cell? ⟨w.heap.size, 2, none⟩ = some (.slice Ao (m2 + k) co) := HB1b.out.cell 2
      have m3 : wb.cell? ⟨w.heap.size + 1, 3, none⟩ = some (.int .i64 un) := HB2b.out.cell 3
      clear bb
      have hm48 := HL48.out
      have hn24 := HN24.out
      have hsz : w.heap.size ≤ (wb.alloc (.cells #[.int .i64 s1, .int .i64 s2, .int .i64 s3, .int .i64 un] 59)).heap.size := by have := HKb.out.size; simp; omega
      go_wp2_with (at_builtin; refine wpList_app _ rfl (.tmp 48) (.tmp 53) _ rfl elemLe w.heap.size (A := Ao) (n := m2 + k) (c := co) (by go_simp) (HOb.out.alloc _) _ (A' := some ⟨wb.heap.size, 0, none⟩) (m := 1) (c' := 1) (by go_simp) (Rd.of_blk (n := 1) (cs := [.int .i64 s1, .int .i64 s2, .int .i64 s3, .int .i64 un]) (Blk.new wb _ _) rfl) (by simp [Value.oneCell']) (by omega) (by unfold maxLen; omega) hsz ?_; intro A5 c5 w16 hown hk hrow; have hk16 : Keep (InRow Ao) wb w16 := ((Keep.refl (InRow Ao) _).alloc _).trans hk; have HO16 := Lib.hid hown; have HK16 := Lib.hid (HKb.out.then_ hk16 (fun i hi h => by have := (HOb.out.row h).1; omega)); have HB1c := Lib.hid (HB1b.out.keep hk16 (fun h => HOb.out.ne_blk HB1b.out (by decide) _ h rfl)); have HB2c := Lib.hid (HB2b.out.keep hk16 (fun h => HOb.out.ne_blk HB2b.out (by decide) _ h rfl)); have HB3c := Lib.hid (HB3b.out.keep hk16 (fun h => HOb.out.ne_blk HB3b.out (by decide) _ h rfl)); have o2 : w16.cell? ⟨w.heap.size, 2, none⟩ = some (.slice Ao (m2 + k) co) := HB1c.out.cell 2; have f2 := HB1c.out.frozen 2; clear hown hk hrow hk16)
      go_roundw
      case measure => simp [intOf]; try omega
      case rel =>
        have hk17 : Keep (fun i => i = w.heap.size) w16 (w16.setCell ⟨w.heap.size, 2, none⟩ (.slice A5 (m2 + k + 1) c5)) := (Keep.refl (fun i => i = w.heap.size) w16).set_ (p := ⟨w.heap.size, 2, none⟩) (.inl rfl) _
        refine ⟨k + 1, c5, A5, by omega, by go_num, Lib.hid ⟨HK16.out.then_ hk17 (fun i hi e => by omega), ?_, HB2c.out.keep hk17 (fun h => by omega), HB3c.out.keep hk17 (fun h => by omega), ?_⟩⟩
        · have := HB1c.out.set_ 2 (.slice A5 (m2 + k + 1) c5)
          rw [show m2 + (k + 1) = m2 + k + 1 from rfl]
          simpa using this
        · rw [HTk.out, ← List.append_assoc, leCells_app]
          exact HO16.out.far (p := ⟨w.heap.size, 2, none⟩) (HO16.out.ne_blk HB1c.out (by decide)) _
    · obtain rfl : k = n1 := by omega
      have hki : ¬ (k : Int) < (k : Int) := by omega
      have HHl : Hid ((haveM (sn, gt, l) (k0, tr, tt, un, ln, h)).length = m2 + k) := Lib.hid (by rw [HHv.out, List.length_append, List.length_map, HM2.out, HN1.out])
      have HTk : Hid (ln.take k = ln) := Lib.hid (List.take_of_length_le (by have := HN1.out; omega))
      have x0 : wr.cell? ⟨w.heap.size, 0, none⟩ = some (.int .i64 sn) := HB1r.out.cell 0
      have x1 : wr.cell? ⟨w.heap.size, 1, none⟩ = some (.int .i64 tt) := HB1r.out.cell 1
      have x2 : wr.cell? ⟨w.heap.size, 2, none⟩ = some (.slice Ao (m2 + k) co) := HB1r.out.cell 2
      by_cases g3 : 48 < m2 + k
      · have t3 : decide (((m2 + k : Nat) : Int) > 48) = true := decide_eq_true (by omega)
        have t4 : decide ((m2 : Int) + (k : Int) > 48) = true := decide_eq_true (by omega)
        have HF : Hid (takeM (sn, gt, l) (k0, tr, tt, un, ln, h) = (noX, 1)) := Lib.hid (by rw [HFh.out, HHl.out, if_pos g3])
        clear g3
        have r0 : wr.cell? ⟨w.heap.size + 1 + 1, 0, none⟩ = some (.int .i64 0) := HB3r.out.cell 0
        have rf0 := HB3r.out.frozen 0
        have r1 : wr.cell? ⟨w.heap.size + 1 + 1, 1, none⟩ = some (.int .i64 0) := HB3r.out.cell 1
        have rf1 := HB3r.out.frozen 1
        have r2 : wr.cell? ⟨w.heap.size + 1 + 1, 2, none⟩ = some (.slice none 0 0) := HB3r.out.cell 2
        have rf2 := HB3r.out.frozen 2
        go_wp2_with fail
        refine bodyPost_ret (bd_results rfl (put3S_blk HB3r.out _ _ _) _ rfl) rfl ⟨none, 0, 0, ?_, ?_, put3S_keep HKr.out (.inr (by omega)) _ _ _⟩
        · rw [HF.out]; rfl
        · rw [HF.out]; exact Own.nil _ _ _ _
      · have t3 : decide (((m2 + k : Nat) : Int) > 48) = false := decide_eq_false (by omega)
        have t4 : decide ((m2 : Int) + (k : Int) > 48) = false := decide_eq_false (by omega)
        have HF : Hid (takeM (sn, gt, l) (k0, tr, tt, un, ln, h) = ((sn, tt, L2 ++ (ln.take k).map fun k => (k, un)), 0)) := Lib.hid (by rw [HFh.out, HHl.out, if_neg g3, HHv.out, HTk.out])
        clear g3
        have r0 : wr.cell? ⟨w.heap.size + 1 + 1, 0, none⟩ = some (.int .i64 0) := HB3r.out.cell 0
        have rf0 := HB3r.out.frozen 0
        have r1 : wr.cell? ⟨w.heap.size + 1 + 1, 1, none⟩ = some (.int .i64 0) := HB3r.out.cell 1
        have rf1 := HB3r.out.frozen 1
        have r2 : wr.cell? ⟨w.heap.size + 1 + 1, 2, none⟩ = some (.slice none 0 0) := HB3r.out.cell 2
        have rf2 := HB3r.out.frozen 2
        go_wp2_with fail
        refine bodyPost_ret (bd_results rfl (put3S_blk HB3r.out _ _ _) _ rfl) rfl ⟨Ao, m2 + k, co, ?_, ?_, put3S_keep HKr.out (.inr (by omega)) _ _ _⟩
        · rw [HF.out]; rfl
        · rw [HF.out]; exact HOr.out.keep (put3S_keep (Keep.refl (fun i => i = w.heap.size + 1 + 1) wr) (.inl rfl) _ _ _) (HOr.out.ne_blk HB3r.out (by decide))


end Go.Proofs.YtpahfobijmmmmaaGreat
