/- Chapter 20 (border): Right and Take at a border that lends nothing. -/
import Derived.Test.YtpahfobijmmmmaaBrdI
import Derived.Lib.SlBytesConst
import Derived.Test.YtpahfobijmmmmaaSpnM
namespace Go.Proofs.Ytpahfobijmmmmaa
open Go.RowKit

theorem bd_results {fn : Func} {r s : Nat} (h : fn.results = #[.cell r 39, .tmp s]) {w : World} {b : Nat} {v0 v1 v2 : Value} (hb : Blk w b 39 #[v0, v1, v2]) (tmps : Array Value) (ht : tmps.getD r undef = .pointer (some ⟨b, 0, none⟩)) :
    (results fn tmps).run Try.prog w = .ok (.tuple #[.agg #[v0, v1, v2], tmps.getD s undef]) w := by
  have q0 : w.cell? ⟨b, 0, none⟩ = some v0 := hb.cell 0
  have q1 : w.cell? ⟨b, 1, none⟩ = some v1 := hb.cell 1
  have q2 : w.cell? ⟨b, 2, none⟩ = some v2 := hb.cell 2
  have ht' : tmps[r]?.getD undef = .pointer (some ⟨b, 0, none⟩) := by rw [← Array.getD_eq_getD_getElem?]; exact ht
  simp [results, h, ht', go_sem, q0, q1, q2]
set_option maxHeartbeats 1000000 in
set_option maxRecDepth 100000 in
theorem indexfT_nil (g : Nat) (lb : Array Value) (w : World) :
    Calls Try.prog 63 #[.slice none 0 0, .func (.func g) #[] lb] w (fun e w' => e = .returned (.int .i64 (-1)) ∧ Keep Never w w') := by
  go_enter Try.func63, Try.ntmps63
  go_wp2_with fail
  go_loopw [5, 8] (fun _ s8 wr => s8 = .int .i64 0 ∧ Hid (Keep Never w wr)) (fun _ i _ => 0 - (intOf i).toNat)
  case atStart => exact ⟨rfl, Lib.hid (Keep.refl _ _)⟩
  case round =>
    obtain ⟨rfl, HH⟩ := hrel
    go_wp2_with fail
    go_ret
    exact ⟨rfl, HH.out⟩

set_option maxHeartbeats 1000000 in
set_option maxRecDepth 100000 in
theorem containsfT_nil (g : Nat) (lb : Array Value) (w : World) :
    Calls Try.prog 46 #[.slice none 0 0, .func (.func g) #[] lb] w (fun e w' => e = .returned (.bool false) ∧ Keep Never w w') := by
  have HI := Lib.hid (indexfT_nil g lb w)
  go_enter Try.func46, Try.ntmps46
  go_wp2_with fail
  refine HI.out.mono ?_
  rintro e w' ⟨rfl, hk⟩
  have HK := Lib.hid hk
  clear hk
  go_wp2_with fail
  go_ret
  exact ⟨rfl, HK.out⟩

set_option maxHeartbeats 1000000 in
set_option maxRecDepth 100000 in
theorem cloneT_nil (w : World) :
    Calls Try.prog 42 #[.slice none 0 0] w (fun e w' => e = .returned (.slice none 0 0) ∧ Keep Never w w') := by
  have q22 : ∀ (w : World) (a : Option Addr) (n c n' c' : Nat), (binOp .eql 37 (.slice a n c) (.slice none n' c')).run Try.prog w = .ok (.bool a.isNone) w := fun w a n c n' c' => Lib.run_eql_slice_nil w _ _ a n c n' c' Try.underlying37
  go_enter Try.func42, Try.ntmps42
  go_wp2_with fail
  go_ret
  exact ⟨rfl, Keep.refl _ _⟩

set_option maxHeartbeats 4000000 in
set_option maxRecDepth 100000 in
theorem right20_nil (w : World) :
    Calls Try.prog 17 #[.agg #[.int .i64 (-1), .int .i64 (-1), .slice none 0 0]] w (fun e w' => e = .returned (.bool true) ∧ Keep Never w w') := by
  have HC : Hid (∀ V, Calls Try.prog 46 #[.slice none 0 0, .func (.func 45) #[] #[]] V fun e w' => e = .returned (.bool false) ∧ Keep Never V w') := Lib.hid (fun V => containsfT_nil _ _ V)
  go_enter Try.func17, Try.ntmps17
  go_wp2_with fail
  refine (HC.out _).mono ?_
  rintro e w2 ⟨rfl, hk2⟩
  have HK2 : Hid (Keep Never w w2) := Lib.hid (((Keep.refl _ _).alloc _).trans hk2)
  clear hk2 HC
  go_wp2_with fail
  go_ret
  exact ⟨rfl, HK2.out⟩

set_option maxHeartbeats 4000000 in
set_option maxRecDepth 100000 in
theorem take20_ask (k0 tr tt un : Int) (A1 A2 : Option Addr) (n1 c1 n2 c2 B : Nat) (l : List Lok) (h : List Sp) (w : World) (hl : SpAt w B A1 n1 c1 l) (hh : SpAt w B A2 n2 c2 h) (hn1 : n1 ≤ 1000000) (hn2 : n2 ≤ 1000000) (hB : B ≤ w.heap.size) (hb : -9223372036854775808 ≤ tt ∧ tt ≤ 9223372036854775807) (hm : mayN (k0, tr, tt, un, l, h) = true) (ht : 0 ≤ tt) (hk : k0 ≠ 2) :
    Calls Try.prog 16 #[.agg #[.int .i64 (-1), .int .i64 (-1), .slice none 0 0], .agg #[.int .i64 k0, .int .i64 tr, .int .i64 tt, .int .i64 un, .slice A1 n1 c1, .slice A2 n2 c2]] w (fun e w' => e = .returned (.tuple #[.agg #[.int .i64 (-1), .int .i64 tt, .slice none 0 0], .int .i64 0]) ∧ Keep Never w w') := by
  have HR : Hid (∀ V, Calls Try.prog 17 #[.agg #[.int .i64 (-1), .int .i64 (-1), .slice none 0 0]] V fun e w' => e = .returned (.bool true) ∧ Keep Never V w') := Lib.hid (fun V => right20_nil V)
  have HMy : Hid (∀ V, Keep Never w V → Calls Try.prog 11 #[.agg #[.int .i64 k0, .int .i64 tr, .int .i64 tt, .int .i64 un, .slice A1 n1 c1, .slice A2 n2 c2]] V fun e w' => e = .returned (.bool true) ∧ Keep Never V w') := Lib.hid (fun V hV => by have := may20_any k0 tr tt un A1 A2 n1 c1 n2 c2 B l h V (hl.keep hV) (hh.keep hV) hn1 hn2 (Nat.le_trans hB hV.size) hb; rwa [hm] at this)
  have HCl : Hid (∀ V, Calls Try.prog 42 #[.slice none 0 0] V fun e w' => e = .returned (.slice none 0 0) ∧ Keep Never V w') := Lib.hid (fun V => cloneT_nil V)
  have ht1 : decide (tt ≤ -1) = false := decide_eq_false (by omega)
  have hk2 : (k0 == 2) = false := by simpa using hk
  clear hl hh hn1 hn2 hB hb hm ht hk
  obtain ⟨w1, hw1⟩ : ∃ V : World, w.alloc (.cells #[.int .i64 (-1), .int .i64 (-1), .slice none 0 0] 39) = V := ⟨_, rfl⟩
  have zw1 : w1.heap.size = w.heap.size + 1 := by rw [← hw1]; simp
  have kw1 : Keep Never w w1 := by rw [← hw1]; exact (Keep.refl _ _).alloc _
  have bw1 := Blk.new w 39 #[.int .i64 (-1), .int .i64 (-1), .slice none 0 0]
  rw [hw1] at bw1
  obtain ⟨w2, hw2⟩ : ∃ V : World, w1.alloc (.cells #[.int .i64 k0, .int .i64 tr, .int .i64 tt, .int .i64 un, .slice A1 n1 c1, .slice A2 n2 c2] 25) = V := ⟨_, rfl⟩
  have zw2 : w2.heap.size = w.heap.size + 1 + 1 := by rw [← hw2]; simp [zw1]
  have kw2 : Keep Never w1 w2 := by rw [← hw2]; exact (Keep.refl _ _).alloc _
  have bw2 := Blk.new w1 25 #[.int .i64 k0, .int .i64 tr, .int .i64 tt, .int .i64 un, .slice A1 n1 c1, .slice A2 n2 c2]
  rw [hw2, zw1] at bw2
  obtain ⟨w3, hw3⟩ : ∃ V : World, w2.alloc (.cells #[.int .i64 0, .int .i64 0, .slice none 0 0] 39) = V := ⟨_, rfl⟩
  have kw3 : Keep Never w2 w3 := by rw [← hw3]; exact (Keep.refl _ _).alloc _
  have bw3 := Blk.new w2 39 #[.int .i64 0, .int .i64 0, .slice none 0 0]
  rw [hw3, zw2] at bw3
  have HB1 := Lib.hid ((bw1.keep kw2 (fun h => h)).keep kw3 (fun h => h))
  have HB2 := Lib.hid (bw2.keep kw3 (fun h => h))
  have HB3 := Lib.hid bw3
  have HK := Lib.hid ((kw1.trans kw2).trans kw3)
  clear kw1 kw2 kw3 bw1 bw2 bw3
  have x0 : w3.cell? ⟨w.heap.size, 0, none⟩ = some (.int .i64 (-1)) := HB1.out.cell 0
  have x1 : w3.cell? ⟨w.heap.size, 1, none⟩ = some (.int .i64 (-1)) := HB1.out.cell 1
  have x2 : w3.cell? ⟨w.heap.size, 2, none⟩ = some (.slice none 0 0) := HB1.out.cell 2
  go_enter Try.func16, Try.ntmps16
  go_wp2_with fail
  refine (HR.out _).mono ?_
  rintro e w4 ⟨rfl, hk4⟩
  have HB14 := Lib.hid (HB1.out.keep hk4 (fun h => h))
  have HB24 := Lib.hid (HB2.out.keep hk4 (fun h => h))
  have HB34 := Lib.hid (HB3.out.keep hk4 (fun h => h))
  have HK4 := Lib.hid (HK.out.trans hk4)
  clear hk4 HR x0 x1 x2
  have m0 : w4.cell? ⟨w.heap.size + 1, 0, none⟩ = some (.int .i64 k0) := HB24.out.cell 0
  have m1 : w4.cell? ⟨w.heap.size + 1, 1, none⟩ = some (.int .i64 tr) := HB24.out.cell 1
  have m2 : w4.cell? ⟨w.heap.size + 1, 2, none⟩ = some (.int .i64 tt) := HB24.out.cell 2
  have m3 : w4.cell? ⟨w.heap.size + 1, 3, none⟩ = some (.int .i64 un) := HB24.out.cell 3
  have m4 : w4.cell? ⟨w.heap.size + 1, 4, none⟩ = some (.slice A1 n1 c1) := HB24.out.cell 4
  have m5 : w4.cell? ⟨w.heap.size + 1, 5, none⟩ = some (.slice A2 n2 c2) := HB24.out.cell 5
  go_wp2_with fail
  refine (HMy.out _ HK4.out).mono ?_
  rintro e w5 ⟨rfl, hk5⟩
  have HB15 := Lib.hid (HB14.out.keep hk5 (fun h => h))
  have HB25 := Lib.hid (HB24.out.keep hk5 (fun h => h))
  have HB35 := Lib.hid (HB34.out.keep hk5 (fun h => h))
  have HK5 := Lib.hid (HK4.out.trans hk5)
  clear hk5 HMy m0 m1 m2 m3 m4 m5
  have m2 : w5.cell? ⟨w.heap.size + 1, 2, none⟩ = some (.int .i64 tt) := HB25.out.cell 2
  have x1 : w5.cell? ⟨w.heap.size, 1, none⟩ = some (.int .i64 (-1)) := HB15.out.cell 1
  have xf1 := HB15.out.frozen 1
  go_upto_region 7 with (fail)
  clear m2 x1 xf1
  obtain ⟨w6, hw6⟩ : ∃ V : World, w5.setCell ⟨w.heap.size, 1, none⟩ (.int .i64 tt) = V := ⟨_, rfl⟩
  rw [hw6]
  have hk6 : Keep (fun i => i = w.heap.size) w5 w6 := by rw [← hw6]; exact (Keep.refl (fun i => i = w.heap.size) w5).set_ (p := ⟨w.heap.size, 1, none⟩) (.inl rfl) _
  have HB16 : Hid (Blk w6 w.heap.size 39 #[.int .i64 (-1), .int .i64 tt, .slice none 0 0]) := Lib.hid (by rw [← hw6]; have := HB15.out.set_ 1 (.int .i64 tt); simpa using this)
  have HB26 := Lib.hid (HB25.out.keep hk6 (fun h => by omega))
  have HB36 := Lib.hid (HB35.out.keep hk6 (fun h => by omega))
  have HK6 := Lib.hid (HK5.out.then_ hk6 (fun i hi e => by omega))
  clear hw6 hk6
  have x2 : w6.cell? ⟨w.heap.size, 2, none⟩ = some (.slice none 0 0) := HB16.out.cell 2
  go_wp2_with fail
  refine (HCl.out _).mono ?_
  rintro e w7 ⟨rfl, hk7⟩
  have HB17 := Lib.hid (HB16.out.keep hk7 (fun h => h))
  have HB27 := Lib.hid (HB26.out.keep hk7 (fun h => h))
  have HB37 := Lib.hid (HB36.out.keep hk7 (fun h => h))
  have HK7 := Lib.hid (HK6.out.trans hk7)
  clear hk7 HCl x2
  have x2 : w7.cell? ⟨w.heap.size, 2, none⟩ = some (.slice none 0 0) := HB17.out.cell 2
  have xf2 := HB17.out.frozen 2
  go_upto_region 8 with (fail)
  clear x2 xf2
  obtain ⟨w8, hw8⟩ : ∃ V : World, w7.setCell ⟨w.heap.size, 2, none⟩ (.slice none 0 0) = V := ⟨_, rfl⟩
  rw [hw8]
  have hk8 : Keep (fun i => i = w.heap.size) w7 w8 := by rw [← hw8]; exact (Keep.refl (fun i => i = w.heap.size) w7).set_ (p := ⟨w.heap.size, 2, none⟩) (.inl rfl) _
  have HB18 : Hid (Blk w8 w.heap.size 39 #[.int .i64 (-1), .int .i64 tt, .slice none 0 0]) := Lib.hid (by rw [← hw8]; have := HB17.out.set_ 2 (.slice none 0 0); simpa using this)
  have HB28 := Lib.hid (HB27.out.keep hk8 (fun h => by omega))
  have HB38 := Lib.hid (HB37.out.keep hk8 (fun h => by omega))
  have HK8 := Lib.hid (HK7.out.then_ hk8 (fun i hi e => by omega))
  clear hw8 hk8
  have m0 : w8.cell? ⟨w.heap.size + 1, 0, none⟩ = some (.int .i64 k0) := HB28.out.cell 0
  have x0 : w8.cell? ⟨w.heap.size, 0, none⟩ = some (.int .i64 (-1)) := HB18.out.cell 0
  have x1 : w8.cell? ⟨w.heap.size, 1, none⟩ = some (.int .i64 tt) := HB18.out.cell 1
  have x2 : w8.cell? ⟨w.heap.size, 2, none⟩ = some (.slice none 0 0) := HB18.out.cell 2
  have r0 : w8.cell? ⟨w.heap.size + 1 + 1, 0, none⟩ = some (.int .i64 0) := HB38.out.cell 0
  have r1 : w8.cell? ⟨w.heap.size + 1 + 1, 1, none⟩ = some (.int .i64 0) := HB38.out.cell 1
  have r2 : w8.cell? ⟨w.heap.size + 1 + 1, 2, none⟩ = some (.slice none 0 0) := HB38.out.cell 2
  have rf0 := HB38.out.frozen 0
  have rf1 := HB38.out.frozen 1
  have rf2 := HB38.out.frozen 2
  go_wp2_with fail
  refine bodyPost_ret (bd_results rfl (put3S_blk HB38.out _ _ _) _ rfl) rfl ⟨rfl, put3S_keep HK8.out (.inr (by omega)) _ _ _⟩


end Go.Proofs.Ytpahfobijmmmmaa

namespace Go.Proofs.Ytpahfobijmmmmaa
open Go.RowKit

theorem run_front20 {P : Program} {t e size : Nat} (ht : P.underlying t = some (.slice e)) (hsz : ∀ w, (sizeOf e).run P w = .ok size w) (A : Option Addr) (n c k : Nat) (hj : k ≤ n) (hc : n ≤ c) (w : World) :
    (Instr.slice t (.slice A n c) none (some (.int .i64 k)) none).run P w = .ok (.slice A k c) w := by
  have hjc : k ≤ c := by omega
  have e0 : (if c = 0 then A else A.map (·.add (0 * size))) = A := by
    split
    · rfl
    · cases A <;> simp [show ∀ a : Addr, a.add 0 = a from fun a => by unfold Addr.add; split <;> simp_all]
  have : (Instr.slice t (.slice A n c) none (some (.int .i64 k)) none).run P w = .ok (.slice (if c = 0 then A else A.map (·.add (0 * size))) (k - 0) (c - 0)) w := by
    simp [Instr.slice, run_underlying ht, Instr.sliceBounds, Instr.sliceBound, asIntOf, hsz, hjc, Result.andThen]
  rw [this, e0]; simp
theorem ex_may : mayN (1, 5, 9, 0, [], []) = true := by decide
set_option maxRecDepth 100000 in
theorem ex_enc : encN (1, 5, 9, 0, [], []) = [1, 0, 0, 5, 0, 0, 0, 9, 0, 0, 0, 0, 0, 0, 0, 0] := by decide
theorem rd_lit (w : World) (xs : List Value) (t : TypeId) (fr : Nat × Nat) (n : Nat) (hn : n = xs.length) : Rd (w.alloc (.cells xs.toArray t fr)) (w.alloc (.cells xs.toArray t fr)).heap.size 1 (some ⟨w.heap.size, 0, none⟩) n xs := by
  subst hn
  refine ⟨by simp, fun _ => ⟨_, rfl, by simp, fun j u hu => ?_⟩⟩
  have hadd : (⟨w.heap.size, 0, none⟩ : Addr).add j = ⟨w.heap.size, j, none⟩ := by unfold Addr.add; split <;> simp_all
  rw [hadd, World.cell?_alloc_mark]
  simpa using hu
theorem keep_mark (w : World) (o : Obj) : Keep Never w (w.alloc o) := (Keep.refl _ _).alloc _
set_option maxHeartbeats 4000000 in
set_option maxRecDepth 100000 in
theorem awake20_any (w : World) :
    Calls Try.prog 8 #[] w (fun e w' => e = .returned (.bool true) ∧ Keep Never w w') := by
  have HE := Lib.hid (fun V => enc20_any 1 5 9 0 none none 0 0 0 0 V.heap.size [] [] V (spAt_own3 (e := 0) (base := 0) (l := []) (Own.nil _ _ _ _)) (spAt_own3 (e := 0) (base := 0) (l := []) (Own.nil _ _ _ _)) (by omega) (by omega) (Nat.le_refl _) (by omega))
  go_enter Try.func8, Try.ntmps8
  go_wp2_with fail
  refine (HE.out w).mono ?_
  rintro e w2 ⟨Ae, ce, rfl, ho2, hk2⟩
  have h16 : (encN (1, 5, 9, 0, [], [])).length = 16 := by rw [ex_enc]; rfl
  rw [ex_may] at ho2
  simp only [if_true] at ho2
  rw [h16] at ho2
  simp only [ex_may, if_true, h16]
  clear HE h16
  have HO2 := Lib.hid ho2
  have HK2 := Lib.hid hk2
  clear ho2 hk2
  have HDc : Hid (∀ fr, Calls Try.prog 13 #[.slice (some ⟨w2.heap.size, 0, none⟩) 16 16] (w2.alloc (.cells #[.int .u8 1, .int .u8 0, .int .u8 0, .int .u8 5, .int .u8 0, .int .u8 0, .int .u8 0, .int .u8 9, .int .u8 0, .int .u8 0, .int .u8 0, .int .u8 0, .int .u8 0, .int .u8 0, .int .u8 0, .int .u8 0] 5 fr)) (DecRet ((1, 5, 9, 0, [], []), 0) (w2.alloc (.cells #[.int .u8 1, .int .u8 0, .int .u8 0, .int .u8 5, .int .u8 0, .int .u8 0, .int .u8 0, .int .u8 9, .int .u8 0, .int .u8 0, .int .u8 0, .int .u8 0, .int .u8 0, .int .u8 0, .int .u8 0, .int .u8 0] 5 fr)))) := Lib.hid (fun fr => by
    have h := dec20_any (some ⟨w2.heap.size, 0, none⟩) 16 16 _ [1, 0, 0, 5, 0, 0, 0, 9, 0, 0, 0, 0, 0, 0, 0, 0] (w2.alloc (.cells #[.int .u8 1, .int .u8 0, .int .u8 0, .int .u8 5, .int .u8 0, .int .u8 0, .int .u8 0, .int .u8 9, .int .u8 0, .int .u8 0, .int .u8 0, .int .u8 0, .int .u8 0, .int .u8 0, .int .u8 0, .int .u8 0] 5 fr)) (rd_lit w2 [.int .u8 1, .int .u8 0, .int .u8 0, .int .u8 5, .int .u8 0, .int .u8 0, .int .u8 0, .int .u8 9, .int .u8 0, .int .u8 0, .int .u8 0, .int .u8 0, .int .u8 0, .int .u8 0, .int .u8 0, .int .u8 0] 5 fr 16 rfl) (by decide) (by omega)
    rw [← ex_enc, dec_back gP_ok (by omega) (by omega) ex_may] at h
    exact h)
  have kc := Lib.run_convert_bytes_const (P := Try.prog) w2 27 5 #[.int .u8 1, .int .u8 0, .int .u8 0, .int .u8 5, .int .u8 0, .int .u8 0, .int .u8 0, .int .u8 9, .int .u8 0, .int .u8 0, .int .u8 0, .int .u8 0, .int .u8 0, .int .u8 0, .int .u8 0, .int .u8 0] 16 16 Try.underlying27 Try.underlying5
  go_wp2_with fail
  refine (HDc.out _).mono ?_
  rintro e w3 ⟨⟨A1, n1, c1, A2, n2, c2⟩, rfl, hnt, hk3⟩
  have HK3 := Lib.hid ((HK2.out.trans (keep_mark w2 _)).trans hk3)
  have HO3 := Lib.hid (HO2.out.keep ((keep_mark w2 _).trans hk3) (fun _ _ h => h))
  have HNt := Lib.hid hnt
  have hn1 : n1 = 0 := hnt.l.len.symm
  have hn2 : n2 = 0 := hnt.h.len.symm
  subst hn1
  subst hn2
  clear hk3 hnt HDc kc
  dsimp only [NA.cs]
  have z0 : (w3.alloc (.cells #[.int .i64 0, .int .i64 0, .int .i64 0, .int .i64 0, .slice none 0 0, .slice none 0 0] 25)).cell? ⟨w3.heap.size, 0, none⟩ = some (.int .i64 0) := (Blk.new w3 25 #[.int .i64 0, .int .i64 0, .int .i64 0, .int .i64 0, .slice none 0 0, .slice none 0 0]).cell 0
  have zf0 : (w3.alloc (.cells #[.int .i64 0, .int .i64 0, .int .i64 0, .int .i64 0, .slice none 0 0, .slice none 0 0] 25)).frozen? ⟨w3.heap.size, 0, none⟩ = false := (Blk.new w3 25 #[.int .i64 0, .int .i64 0, .int .i64 0, .int .i64 0, .slice none 0 0, .slice none 0 0]).frozen 0
  have z1 : (w3.alloc (.cells #[.int .i64 0, .int .i64 0, .int .i64 0, .int .i64 0, .slice none 0 0, .slice none 0 0] 25)).cell? ⟨w3.heap.size, 1, none⟩ = some (.int .i64 0) := (Blk.new w3 25 #[.int .i64 0, .int .i64 0, .int .i64 0, .int .i64 0, .slice none 0 0, .slice none 0 0]).cell 1
  have zf1 : (w3.alloc (.cells #[.int .i64 0, .int .i64 0, .int .i64 0, .int .i64 0, .slice none 0 0, .slice none 0 0] 25)).frozen? ⟨w3.heap.size, 1, none⟩ = false := (Blk.new w3 25 #[.int .i64 0, .int .i64 0, .int .i64 0, .int .i64 0, .slice none 0 0, .slice none 0 0]).frozen 1
  have z2 : (w3.alloc (.cells #[.int .i64 0, .int .i64 0, .int .i64 0, .int .i64 0, .slice none 0 0, .slice none 0 0] 25)).cell? ⟨w3.heap.size, 2, none⟩ = some (.int .i64 0) := (Blk.new w3 25 #[.int .i64 0, .int .i64 0, .int .i64 0, .int .i64 0, .slice none 0 0, .slice none 0 0]).cell 2
  have zf2 : (w3.alloc (.cells #[.int .i64 0, .int .i64 0, .int .i64 0, .int .i64 0, .slice none 0 0, .slice none 0 0] 25)).frozen? ⟨w3.heap.size, 2, none⟩ = false := (Blk.new w3 25 #[.int .i64 0, .int .i64 0, .int .i64 0, .int .i64 0, .slice none 0 0, .slice none 0 0]).frozen 2
  have z3 : (w3.alloc (.cells #[.int .i64 0, .int .i64 0, .int .i64 0, .int .i64 0, .slice none 0 0, .slice none 0 0] 25)).cell? ⟨w3.heap.size, 3, none⟩ = some (.int .i64 0) := (Blk.new w3 25 #[.int .i64 0, .int .i64 0, .int .i64 0, .int .i64 0, .slice none 0 0, .slice none 0 0]).cell 3
  have zf3 : (w3.alloc (.cells #[.int .i64 0, .int .i64 0, .int .i64 0, .int .i64 0, .slice none 0 0, .slice none 0 0] 25)).frozen? ⟨w3.heap.size, 3, none⟩ = false := (Blk.new w3 25 #[.int .i64 0, .int .i64 0, .int .i64 0, .int .i64 0, .slice none 0 0, .slice none 0 0]).frozen 3
  have z4 : (w3.alloc (.cells #[.int .i64 0, .int .i64 0, .int .i64 0, .int .i64 0, .slice none 0 0, .slice none 0 0] 25)).cell? ⟨w3.heap.size, 4, none⟩ = some (.slice none 0 0) := (Blk.new w3 25 #[.int .i64 0, .int .i64 0, .int .i64 0, .int .i64 0, .slice none 0 0, .slice none 0 0]).cell 4
  have zf4 : (w3.alloc (.cells #[.int .i64 0, .int .i64 0, .int .i64 0, .int .i64 0, .slice none 0 0, .slice none 0 0] 25)).frozen? ⟨w3.heap.size, 4, none⟩ = false := (Blk.new w3 25 #[.int .i64 0, .int .i64 0, .int .i64 0, .int .i64 0, .slice none 0 0, .slice none 0 0]).frozen 4
  have z5 : (w3.alloc (.cells #[.int .i64 0, .int .i64 0, .int .i64 0, .int .i64 0, .slice none 0 0, .slice none 0 0] 25)).cell? ⟨w3.heap.size, 5, none⟩ = some (.slice none 0 0) := (Blk.new w3 25 #[.int .i64 0, .int .i64 0, .int .i64 0, .int .i64 0, .slice none 0 0, .slice none 0 0]).cell 5
  have zf5 : (w3.alloc (.cells #[.int .i64 0, .int .i64 0, .int .i64 0, .int .i64 0, .slice none 0 0, .slice none 0 0] 25)).frozen? ⟨w3.heap.size, 5, none⟩ = false := (Blk.new w3 25 #[.int .i64 0, .int .i64 0, .int .i64 0, .int .i64 0, .slice none 0 0, .slice none 0 0]).frozen 5
  go_upto_region 3 with (fail)
  clear z0 zf0 z1 zf1 z2 zf2 z3 zf3 z4 zf4 z5 zf5
  obtain ⟨w4, hw4⟩ : ∃ V : World, w3.alloc (.cells #[.int .i64 1, .int .i64 5, .int .i64 9, .int .i64 0, .slice A1 0 c1, .slice A2 0 c2] 25) = V := ⟨_, rfl⟩
  have k4 : Keep Never w3 w4 := (by rw [← hw4]; exact (Keep.refl _ _).alloc _)
  have B4 := Blk.new w3 25 #[.int .i64 1, .int .i64 5, .int .i64 9, .int .i64 0, .slice A1 0 c1, .slice A2 0 c2]
  rw [hw4] at B4 ⊢
  obtain ⟨bn, hbn⟩ : ∃ q, w3.heap.size = q := ⟨_, rfl⟩
  rw [hbn] at B4 ⊢
  have Hn4 := Lib.hid B4
  have HK4 := Lib.hid (HK3.out.trans k4)
  have HO4 := Lib.hid (HO3.out.keep k4 (fun _ _ h => h))
  have HT := Lib.hid (take20_ask 1 5 9 0 A1 A2 0 c1 0 c2 _ [] [] w4 (HNt.out.keep k4).l (HNt.out.keep k4).h (by omega) (by omega) k4.size (by omega) ex_may (by omega) (by omega))
  clear k4 B4 hw4 hbn
  have m0 : w4.cell? ⟨bn, 0, none⟩ = some (.int .i64 1) := Hn4.out.cell 0
  have m1 : w4.cell? ⟨bn, 1, none⟩ = some (.int .i64 5) := Hn4.out.cell 1
  have m2 : w4.cell? ⟨bn, 2, none⟩ = some (.int .i64 9) := Hn4.out.cell 2
  have m3 : w4.cell? ⟨bn, 3, none⟩ = some (.int .i64 0) := Hn4.out.cell 3
  have m4 : w4.cell? ⟨bn, 4, none⟩ = some (.slice A1 0 c1) := Hn4.out.cell 4
  have m5 : w4.cell? ⟨bn, 5, none⟩ = some (.slice A2 0 c2) := Hn4.out.cell 5
  go_wp2_with fail
  refine HT.out.mono ?_
  rintro e w5 ⟨rfl, hk5⟩
  clear HT m0 m1 m2 m3 m4 m5
  have Hn5 := Lib.hid (Hn4.out.keep hk5 (fun h => h))
  have HK5 := Lib.hid (HK4.out.trans hk5)
  have HO5 := Lib.hid (HO4.out.keep hk5 (fun _ _ h => h))
  clear hk5
  have z0 : (w5.alloc (.cells #[.int .i64 0, .int .i64 0, .slice none 0 0] 39)).cell? ⟨w5.heap.size, 0, none⟩ = some (.int .i64 0) := (Blk.new w5 39 #[.int .i64 0, .int .i64 0, .slice none 0 0]).cell 0
  have zf0 : (w5.alloc (.cells #[.int .i64 0, .int .i64 0, .slice none 0 0] 39)).frozen? ⟨w5.heap.size, 0, none⟩ = false := (Blk.new w5 39 #[.int .i64 0, .int .i64 0, .slice none 0 0]).frozen 0
  have z1 : (w5.alloc (.cells #[.int .i64 0, .int .i64 0, .slice none 0 0] 39)).cell? ⟨w5.heap.size, 1, none⟩ = some (.int .i64 0) := (Blk.new w5 39 #[.int .i64 0, .int .i64 0, .slice none 0 0]).cell 1
  have zf1 : (w5.alloc (.cells #[.int .i64 0, .int .i64 0, .slice none 0 0] 39)).frozen? ⟨w5.heap.size, 1, none⟩ = false := (Blk.new w5 39 #[.int .i64 0, .int .i64 0, .slice none 0 0]).frozen 1
  have z2 : (w5.alloc (.cells #[.int .i64 0, .int .i64 0, .slice none 0 0] 39)).cell? ⟨w5.heap.size, 2, none⟩ = some (.slice none 0 0) := (Blk.new w5 39 #[.int .i64 0, .int .i64 0, .slice none 0 0]).cell 2
  have zf2 : (w5.alloc (.cells #[.int .i64 0, .int .i64 0, .slice none 0 0] 39)).frozen? ⟨w5.heap.size, 2, none⟩ = false := (Blk.new w5 39 #[.int .i64 0, .int .i64 0, .slice none 0 0]).frozen 2
  go_upto_region 4 with (fail)
  clear z0 zf0 z1 zf1 z2 zf2
  obtain ⟨w6, hw6⟩ : ∃ V : World, w5.alloc (.cells #[.int .i64 (-1), .int .i64 9, .slice none 0 0] 39) = V := ⟨_, rfl⟩
  have k6 : Keep Never w5 w6 := (by rw [← hw6]; exact (Keep.refl _ _).alloc _)
  have B6 := Blk.new w5 39 #[.int .i64 (-1), .int .i64 9, .slice none 0 0]
  rw [hw6] at B6 ⊢
  obtain ⟨bx, hbx⟩ : ∃ q, w5.heap.size = q := ⟨_, rfl⟩
  rw [hbx] at B6 ⊢
  have Hn6 := Lib.hid (Hn5.out.keep k6 (fun h => h))
  have HK6 := Lib.hid (HK5.out.trans k6)
  have HO6 := Lib.hid (HO5.out.keep k6 (fun _ _ h => h))
  have n1 : w6.cell? ⟨bn, 1, none⟩ = some (.int .i64 5) := Hn6.out.cell 1
  have n2 : w6.cell? ⟨bn, 2, none⟩ = some (.int .i64 9) := Hn6.out.cell 2
  have x1 : w6.cell? ⟨bx, 1, none⟩ = some (.int .i64 9) := B6.cell 1
  clear k6 B6 hw6 hbx
  have HXs : Hid ((encN (1, 5, 9, 0, [], [])).map u8v = [1, 0, 0, 5, 0, 0, 0, 9, 0, 0, 0, 0, 0, 0, 0, 0].map u8v) := Lib.hid (by rw [ex_enc])
  have hcap : 16 ≤ ce := HO6.out.cap_le
  have hq : ∀ w, (Instr.slice 27 (.slice Ae 16 ce) none (some (.int .i64 8)) none).run Try.prog w = .ok (.slice Ae 8 ce) w := fun w => run_front20 (P := Try.prog) Try.underlying27 Try.sizeOf5 Ae 16 ce 8 (by omega) hcap w
  have hc8 := run_str (P := Try.prog) (src := 27) (dst := 9) Try.underlying27 Try.underlying5 Try.underlying9 (l := [1, 0, 0, 5, 0, 0, 0, 9]) (by have h := HO6.out.rd; rw [HXs.out] at h; exact h.front (k := 8) (by omega)) (by decide) ce
  rw [show strOf [1, 0, 0, 5, 0, 0, 0, 9] = { data := #[1, 0, 0, 5, 0, 0, 0, 9] } from rfl] at hc8
  clear hcap
  go_wp2_with fail
  go_ret
  exact ⟨rfl, HK6.out⟩


end Go.Proofs.Ytpahfobijmmmmaa

namespace Go.Proofs.Ytpahfobijmmmmaa
open Go.RowKit

set_option maxHeartbeats 2000000 in
set_option maxRecDepth 100000 in
theorem locks20_any (l m : List Sp) (A A' : Option Addr) (n n' c c' B B' : Nat) (w : World) (hr : Rd w B 3 A n (spCells l)) (hr' : Rd w B' 3 A' n' (spCells m)) (hn : n ≤ 100000000000) (hn' : n' ≤ 100000000000) :
    Calls Try.prog 18 #[.slice A n c, .slice A' n' c'] w fun e w' => e = .returned (.bool (decide (l = m))) ∧ Keep Never w w' := by
  have Hl := Lib.hid hr.sp_len
  have Hm := Lib.hid hr'.sp_len
  have Hr := Lib.hid hr
  have Hr' := Lib.hid hr'
  clear hr hr'
  by_cases hne : n = n'
  · subst hne
    go_enter Try.func18, Try.ntmps18
    go_wp2_with fail
    go_loopw [5] (fun i wr => ∃ k : Nat, k ≤ n ∧ i = .int .i64 k ∧ Hid (Keep Never w wr ∧ l.take k = m.take k)) (fun i _ => n - (intOf i).toNat)
    case atStart => exact ⟨0, by omega, rfl, Keep.refl _ _, by simp⟩
    case round =>
      obtain ⟨k, hk, rfl, HH⟩ := hrel
      by_cases h0 : k < n
      · obtain ⟨ad, x, hA, _, hx, c0, c1, c2⟩ := (Hr.out.keep HH.out.1 (fun _ h => h.elim)).sp h0
        obtain ⟨ad', y, hA', _, hy, d0, d1, d2⟩ := (Hr'.out.keep HH.out.1 (fun _ h => h.elim)).sp h0
        subst hA
        subst hA'
        obtain ⟨x1, x2, x3⟩ := x
        obtain ⟨y1, y2, y3⟩ := y
        simp only at c0 c1 c2 d0 d1 d2
        have HX := Lib.hid hx
        have HY := Lib.hid hy
        have hki : (k : Int) < (n : Int) := by omega
        have hk00 : (0 : Int) ≤ (k : Int) := by omega
        clear hx hy
        have htx : Hid (l.take (k + 1) = l.take k ++ [(x1, x2, x3)]) := by
          obtain ⟨h2, h3⟩ := List.getElem?_eq_some_iff.1 HX.out
          show _ = _
          rw [List.take_succ_eq_append_getElem h2, h3]
        have hty : Hid (m.take (k + 1) = m.take k ++ [(y1, y2, y3)]) := by
          obtain ⟨h2, h3⟩ := List.getElem?_eq_some_iff.1 HY.out
          show _ = _
          rw [List.take_succ_eq_append_getElem h2, h3]
        by_cases hxy : x1 = y1 ∧ x2 = y2 ∧ x3 = y3
        · obtain ⟨rfl, rfl, rfl⟩ := hxy
          go_wp2_with fail
          go_quiet (fail)
          go_wp2_with fail
          go_roundw
          case rel => exact ⟨k + 1, by omega, by go_num, HH.out.1.drewN _, by rw [htx.out, hty.out, HH.out.2]⟩
          case measure => simp [intOf]; try omega
        · have hb : (x1 == y1) = false ∨ ((x1 == y1) = true ∧ (x2 == y2) = false) ∨ ((x1 == y1) = true ∧ (x2 == y2) = true ∧ (x3 == y3) = false) := by
            by_cases h : x1 = y1
            · right
              by_cases h2 : x2 = y2
              · right; exact ⟨by simpa using h, by simpa using h2, by simp; exact fun h' => hxy ⟨h, h2, h'⟩⟩
              · left; exact ⟨by simpa using h, by simpa using h2⟩
            · exact .inl (by simpa using h)
          have hne : Hid (decide (l = m) = false) := by
            show _ = _
            rw [decide_eq_false_iff_not]
            intro e
            have h1 := HX.out
            rw [e, HY.out] at h1
            injection h1 with h1
            injection h1 with h1 h2
            injection h2 with h2 h3
            exact hxy ⟨h1.symm, h2.symm, h3.symm⟩
          clear hxy
          rcases hb with hb | ⟨hb, hb2⟩ | ⟨hb, hb2, hb3⟩
          all_goals
            go_wp2_with fail
            go_quiet (fail)
            go_wp2_with fail
            go_ret
            exact ⟨by rw [hne.out]; rfl, HH.out.1.drewN _⟩
      · obtain rfl : k = n := by omega
        have he : Hid (decide (l = m) = true) := by
          show _ = _
          rw [decide_eq_true_iff]
          have := HH.out.2
          rwa [List.take_of_length_le (by rw [Hl.out]; exact Nat.le_refl _), List.take_of_length_le (by rw [Hm.out]; exact Nat.le_refl _)] at this
        go_wp2_with fail
        go_ret
        exact ⟨by rw [he.out]; rfl, HH.out.1⟩
  · have he : Hid (decide (l = m) = false) := by
      show _ = _
      rw [decide_eq_false_iff_not]
      intro e
      have h1 := Hl.out
      rw [e, Hm.out] at h1
      exact hne h1.symm
    have hb : ((n : Int) == (n' : Int)) = false := by simp; omega
    clear hne
    go_enter Try.func18, Try.ntmps18
    go_wp2_with fail
    go_ret
    exact ⟨by rw [he.out]; rfl, Keep.refl _ _⟩

set_option maxHeartbeats 16000000 in
set_option maxRecDepth 100000 in
theorem notes20_any (k1 r1 t1 u1 k2 r2 t2 u2 : Int) (A1 B1 A2 B2 : Option Addr) (n1 c1 m1 d1 n2 c2 m2 d2 E1 E2 : Nat) (l1 l2 : List Lok) (h1 h2 : List Sp) (w : World) (hl1 : SpAt w E1 A1 n1 c1 l1) (hh1 : SpAt w E1 B1 m1 d1 h1) (hl2 : SpAt w E2 A2 n2 c2 l2) (hh2 : SpAt w E2 B2 m2 d2 h2) (b1 : n1 ≤ 1000000) (b2 : m1 ≤ 1000000) (b3 : n2 ≤ 1000000) (b4 : m2 ≤ 1000000) :
    Calls Try.prog 15 #[.agg #[.int .i64 k1, .int .i64 r1, .int .i64 t1, .int .i64 u1, .slice A1 n1 c1, .slice B1 m1 d1], .agg #[.int .i64 k2, .int .i64 r2, .int .i64 t2, .int .i64 u2, .slice A2 n2 c2, .slice B2 m2 d2]] w (fun e w' => e = .returned (.bool (decide (l1 = l2) && decide (h1 = h2) && (k1 == k2) && (r1 == r2) && (t1 == t2) && (u1 == u2))) ∧ Keep Never w w') := by
  have HL := Lib.hid (fun V (hV : Keep Never w V) => locks20_any l1 l2 A1 A2 n1 n2 c1 c2 E1 E2 V (hl1.keep hV).rd (hl2.keep hV).rd (by omega) (by omega))
  have HS := Lib.hid (fun V (hV : Keep Never w V) => same15_any h1 h2 B1 B2 m1 m2 d1 d2 E1 E2 V (hh1.keep hV).rd (hh2.keep hV).rd (by omega) (by omega))
  clear hl1 hh1 hl2 hh2 b1 b2 b3 b4
  obtain ⟨w1, hw1⟩ : ∃ V : World, w.alloc (.cells #[.int .i64 k1, .int .i64 r1, .int .i64 t1, .int .i64 u1, .slice A1 n1 c1, .slice B1 m1 d1] 25) = V := ⟨_, rfl⟩
  have zw1 : w1.heap.size = w.heap.size + 1 := by rw [← hw1]; simp
  have kw1 : Keep Never w w1 := by rw [← hw1]; exact (Keep.refl _ _).alloc _
  have bw1 := Blk.new w 25 #[.int .i64 k1, .int .i64 r1, .int .i64 t1, .int .i64 u1, .slice A1 n1 c1, .slice B1 m1 d1]
  rw [hw1] at bw1
  obtain ⟨w2, hw2⟩ : ∃ V : World, w1.alloc (.cells #[.int .i64 k2, .int .i64 r2, .int .i64 t2, .int .i64 u2, .slice A2 n2 c2, .slice B2 m2 d2] 25) = V := ⟨_, rfl⟩
  have kw2 : Keep Never w1 w2 := by rw [← hw2]; exact (Keep.refl _ _).alloc _
  have bw2 := Blk.new w1 25 #[.int .i64 k2, .int .i64 r2, .int .i64 t2, .int .i64 u2, .slice A2 n2 c2, .slice B2 m2 d2]
  rw [hw2, zw1] at bw2
  have HB1 := Lib.hid (bw1.keep kw2 (fun h => h))
  have HB2 := Lib.hid bw2
  have HK := Lib.hid (kw1.trans kw2)
  clear kw1 kw2 bw1 bw2
  have a0 : w2.cell? ⟨w.heap.size, 0, none⟩ = some (.int .i64 k1) := HB1.out.cell 0
  have e0 : w2.cell? ⟨w.heap.size + 1, 0, none⟩ = some (.int .i64 k2) := HB2.out.cell 0
  have a1 : w2.cell? ⟨w.heap.size, 1, none⟩ = some (.int .i64 r1) := HB1.out.cell 1
  have e1 : w2.cell? ⟨w.heap.size + 1, 1, none⟩ = some (.int .i64 r2) := HB2.out.cell 1
  have a2 : w2.cell? ⟨w.heap.size, 2, none⟩ = some (.int .i64 t1) := HB1.out.cell 2
  have e2 : w2.cell? ⟨w.heap.size + 1, 2, none⟩ = some (.int .i64 t2) := HB2.out.cell 2
  have a3 : w2.cell? ⟨w.heap.size, 3, none⟩ = some (.int .i64 u1) := HB1.out.cell 3
  have e3 : w2.cell? ⟨w.heap.size + 1, 3, none⟩ = some (.int .i64 u2) := HB2.out.cell 3
  have a4 : w2.cell? ⟨w.heap.size, 4, none⟩ = some (.slice A1 n1 c1) := HB1.out.cell 4
  have e4 : w2.cell? ⟨w.heap.size + 1, 4, none⟩ = some (.slice A2 n2 c2) := HB2.out.cell 4
  have a5 : w2.cell? ⟨w.heap.size, 5, none⟩ = some (.slice B1 m1 d1) := HB1.out.cell 5
  have e5 : w2.cell? ⟨w.heap.size + 1, 5, none⟩ = some (.slice B2 m2 d2) := HB2.out.cell 5
  go_enter Try.func15, Try.ntmps15
  go_wp2_with fail
  refine (HL.out _ HK.out).mono ?_
  rintro e w3 ⟨rfl, hk3⟩
  have HK3 := Lib.hid (HK.out.trans hk3)
  have HB13 := Lib.hid (HB1.out.keep hk3 (fun h => h))
  have HB23 := Lib.hid (HB2.out.keep hk3 (fun h => h))
  clear hk3 a0 a1 a2 a3 a4 a5 e0 e1 e2 e3 e4 e5
  have a0 : w3.cell? ⟨w.heap.size, 0, none⟩ = some (.int .i64 k1) := HB13.out.cell 0
  have e0 : w3.cell? ⟨w.heap.size + 1, 0, none⟩ = some (.int .i64 k2) := HB23.out.cell 0
  have a1 : w3.cell? ⟨w.heap.size, 1, none⟩ = some (.int .i64 r1) := HB13.out.cell 1
  have e1 : w3.cell? ⟨w.heap.size + 1, 1, none⟩ = some (.int .i64 r2) := HB23.out.cell 1
  have a2 : w3.cell? ⟨w.heap.size, 2, none⟩ = some (.int .i64 t1) := HB13.out.cell 2
  have e2 : w3.cell? ⟨w.heap.size + 1, 2, none⟩ = some (.int .i64 t2) := HB23.out.cell 2
  have a3 : w3.cell? ⟨w.heap.size, 3, none⟩ = some (.int .i64 u1) := HB13.out.cell 3
  have e3 : w3.cell? ⟨w.heap.size + 1, 3, none⟩ = some (.int .i64 u2) := HB23.out.cell 3
  have a4 : w3.cell? ⟨w.heap.size, 4, none⟩ = some (.slice A1 n1 c1) := HB13.out.cell 4
  have e4 : w3.cell? ⟨w.heap.size + 1, 4, none⟩ = some (.slice A2 n2 c2) := HB23.out.cell 4
  have a5 : w3.cell? ⟨w.heap.size, 5, none⟩ = some (.slice B1 m1 d1) := HB13.out.cell 5
  have e5 : w3.cell? ⟨w.heap.size + 1, 5, none⟩ = some (.slice B2 m2 d2) := HB23.out.cell 5
  go_wp2_with fail
  refine (HS.out _ HK3.out).mono ?_
  rintro e w4 ⟨rfl, hk4⟩
  have HK4 := Lib.hid (HK3.out.trans hk4)
  have HB14 := Lib.hid (HB13.out.keep hk4 (fun h => h))
  have HB24 := Lib.hid (HB23.out.keep hk4 (fun h => h))
  clear hk4 a0 a1 a2 a3 a4 a5 e0 e1 e2 e3 e4 e5
  have a0 : w4.cell? ⟨w.heap.size, 0, none⟩ = some (.int .i64 k1) := HB14.out.cell 0
  have e0 : w4.cell? ⟨w.heap.size + 1, 0, none⟩ = some (.int .i64 k2) := HB24.out.cell 0
  have a1 : w4.cell? ⟨w.heap.size, 1, none⟩ = some (.int .i64 r1) := HB14.out.cell 1
  have e1 : w4.cell? ⟨w.heap.size + 1, 1, none⟩ = some (.int .i64 r2) := HB24.out.cell 1
  have a2 : w4.cell? ⟨w.heap.size, 2, none⟩ = some (.int .i64 t1) := HB14.out.cell 2
  have e2 : w4.cell? ⟨w.heap.size + 1, 2, none⟩ = some (.int .i64 t2) := HB24.out.cell 2
  have a3 : w4.cell? ⟨w.heap.size, 3, none⟩ = some (.int .i64 u1) := HB14.out.cell 3
  have e3 : w4.cell? ⟨w.heap.size + 1, 3, none⟩ = some (.int .i64 u2) := HB24.out.cell 3
  have a4 : w4.cell? ⟨w.heap.size, 4, none⟩ = some (.slice A1 n1 c1) := HB14.out.cell 4
  have e4 : w4.cell? ⟨w.heap.size + 1, 4, none⟩ = some (.slice A2 n2 c2) := HB24.out.cell 4
  have a5 : w4.cell? ⟨w.heap.size, 5, none⟩ = some (.slice B1 m1 d1) := HB14.out.cell 5
  have e5 : w4.cell? ⟨w.heap.size + 1, 5, none⟩ = some (.slice B2 m2 d2) := HB24.out.cell 5
  obtain ⟨bl, hbl⟩ : ∃ b, decide (l1 = l2) = b := ⟨_, rfl⟩
  obtain ⟨bh, hbh⟩ : ∃ b, decide (h1 = h2) = b := ⟨_, rfl⟩
  obtain ⟨bk, hbk⟩ : ∃ b, (k1 == k2) = b := ⟨_, rfl⟩
  obtain ⟨br, hbr⟩ : ∃ b, (r1 == r2) = b := ⟨_, rfl⟩
  obtain ⟨bt, hbt⟩ : ∃ b, (t1 == t2) = b := ⟨_, rfl⟩
  obtain ⟨bu, hbu⟩ : ∃ b, (u1 == u2) = b := ⟨_, rfl⟩
  have HBL := Lib.hid hbl
  have HBH := Lib.hid hbh
  rw [hbl, hbh]
  clear hbl hbh
  cases bl <;> cases bh <;> cases bk <;> cases br <;> cases bt <;> cases bu <;> (go_wp2_with fail; go_ret; exact ⟨by rw [HBL.out, HBH.out, hbk, hbr, hbt, hbu]; rfl, HK4.out⟩)


end Go.Proofs.Ytpahfobijmmmmaa
