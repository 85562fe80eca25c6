/- Chapter 20 (border), the document: Decode. -/
import Derived.Test.YtpahfobijmmmmaaBrdR
import Derived.Test.YtpahfobijmmmmaaBrdI
namespace Go.Proofs.Ytpahfobijmmmmaa
open Go.RowKit

theorem gR_lt (l : List Bool) (k : Nat) (hk : k ≤ 32) : 0 ≤ (gR l (k : Int)).1 ∧ (gR l (k : Int)).1 < ((2 ^ k : Nat) : Int) := by
  unfold gR
  split
  · exact gP_lt l k hk
  · have hp : 0 < 2 ^ k := Nat.two_pow_pos k
    simp only
    omega
theorem BtAt.keepS {S : Nat → Prop} {w w' : World} {B n c : Nat} {A : Option Addr} {l : List Bool} (h : BtAt w B A n c l) (hk : Keep S w w') (hS : ∀ i, S i → B ≤ i) : BtAt w' B A n c l := ⟨h.rd.keep hk hS, h.len, h.cap, h.big⟩
/-- what the walk of Decode keeps: the bits that are left, the result's block -/
structure RSt (w W : World) (BB r : Nat) (A : Option Addr) (n c : Nat) (l : List Bool) : Prop where
  bt : BtAt W BB A n c l
  rb : Blk W r 25 #[.int .i64 0, .int .i64 0, .int .i64 0, .int .i64 0, .slice none 0 0, .slice none 0 0]
  kp : Keep Never w W
  lo : w.heap.size ≤ BB
  rl : r < BB
  top : BB ≤ W.heap.size
theorem RSt.take {w W W' : World} {BB r n c n' c' : Nat} {A A' : Option Addr} {l l' : List Bool} (h : RSt w W BB r A n c l) (hb : BtAt W' BB A' n' c' l') (hk : Keep Never W W') : RSt w W' BB r A' n' c' l' :=
  ⟨hb, h.rb.keep hk (fun h => h), h.kp.trans hk, h.lo, h.rl, Nat.le_trans h.top hk.size⟩
theorem RSt.never {w W W' : World} {BB r n c : Nat} {A : Option Addr} {l : List Bool} (h : RSt w W BB r A n c l) (hk : Keep Never W W') : RSt w W' BB r A n c l := h.take (h.bt.keep hk) hk
theorem RSt.far {S : Nat → Prop} {w W W' : World} {BB r n c : Nat} {A : Option Addr} {l : List Bool} (h : RSt w W BB r A n c l) (hk : Keep S W W') (hS : ∀ i, S i → BB ≤ i) : RSt w W' BB r A n c l :=
  ⟨h.bt.keepS hk hS, h.rb.keep hk (fun e => by have := hS _ e; have := h.rl; omega), h.kp.then_ hk (fun i hi e => by have := hS i e; have := h.lo; omega), h.lo, h.rl, Nat.le_trans h.top hk.size⟩
theorem RSt.get {w W : World} {BB r n c : Nat} {A : Option Addr} {l : List Bool} (h : RSt w W BB r A n c l) (width : Int) :
    Calls Try.prog 41 #[.slice A n c, .int .i64 width] W (fun e w' => ∃ A' n' c', e = .returned (.tuple #[.int .i64 (gR l width).1, .slice A' n' c']) ∧ RSt w w' BB r A' n' c' (gR l width).2 ∧ Keep Never W w') :=
  (rtake20_any A n c BB l width W h.bt).mono (fun e w' ⟨A', n', c', h1, h2, h3⟩ => ⟨A', n', c', h1, h.take h2 h3, h3⟩)
theorem str_ne {x y : List Nat} (h8 : ∀ v ∈ x, v < 256) (h8' : ∀ v ∈ y, v < 256) (g : x ≠ y) : ((strOf x).toList == (strOf y).toList) = false := by
  have hne : strOf x ≠ strOf y := fun h => g (strOf_inj h8 h8' h)
  rw [ByteArray.toList_eq, ByteArray.toList_eq, beq_eq_false_iff_ne]
  intro h
  exact hne (ByteArray.ext (Array.ext' h))

set_option maxHeartbeats 16000000 in
set_option maxRecDepth 100000 in
theorem rdec20_any (A : Option Addr) (n c B : Nat) (bs : List Nat) (w : World) (hr : Rd w B 1 A n (bs.map u8v)) (hB : B ≤ w.heap.size) (h8 : ∀ x ∈ bs, x < 256) (hn : n ≤ 100000) :
    Calls Try.prog 14 #[.slice A n c] w (DecRet (decG gR 30 30 bs) w) := by
  have HRd := Lib.hid hr
  have H8 := Lib.hid h8
  have HLn : Hid (bs.length = n) := Lib.hid (by have := hr.1; simpa using this)
  have HBb := Lib.hid hB
  clear hr h8 hB
  obtain ⟨w1, hw1⟩ : ∃ V : World, w.alloc (.cells #[.int .i64 0, .int .i64 0, .int .i64 0, .int .i64 0, .slice none 0 0, .slice none 0 0] 25) = V := ⟨_, rfl⟩
  have kw1 : Keep Never w w1 := by rw [← hw1]; exact (Keep.refl _ _).alloc _
  have bw1 := Blk.new w 25 #[.int .i64 0, .int .i64 0, .int .i64 0, .int .i64 0, .slice none 0 0, .slice none 0 0]
  rw [hw1] at bw1
  have HB1 := Lib.hid bw1
  have HK := Lib.hid kw1
  clear kw1 bw1
  have HC := Lib.hid (rbits_any A n c B bs HLn.out w1 (HRd.out.keep HK.out (fun _ h => h.elim)) (Nat.le_trans HBb.out HK.out.size) H8.out (by omega))
  go_enter Try.func14, Try.ntmps14
  go_wp2_with fail
  refine HC.out.mono ?_
  rintro en w2 ⟨A1, n1, c1, rfl, hn1, hc1, hr1, hk2, _⟩
  obtain ⟨BB, hBB⟩ : ∃ q, w2.heap.size = q := ⟨_, rfl⟩
  rw [hBB] at hr1
  have hl8 : (bitsB bs).length = n1 := by have := hr1.1; simpa using this
  have HD0 : Hid (RSt w w2 BB w.heap.size A1 n1 c1 (bitsB bs)) := Lib.hid ⟨⟨hr1, hl8, hc1, by have := HLn.out; omega⟩, HB1.out.keep hk2 (fun h => h), HK.out.trans hk2, by rw [← hBB]; exact (HK.out.trans hk2).size, by rw [← hBB]; exact Nat.lt_of_lt_of_le HB1.out.lt hk2.size, by rw [← hBB]; exact Nat.le_refl _⟩
  clear hn1 hc1 hr1 hk2 hl8 HC HB1 HK hBB hw1
  obtain ⟨⟨v1, l1⟩, hz⟩ : ∃ z, gR (bitsB bs) 8 = z := ⟨_, rfl⟩
  have hw := HD0.out.get 8
  rw [hz] at hw
  dsimp only at hw
  have HC := Lib.hid hw
  have HZv1 := Lib.hid hz
  have HLv1 : Hid (0 ≤ v1 ∧ v1 < 256) := Lib.hid (by have h1 := gR_lt (bitsB bs) 8 (by decide); rw [show ((8 : Nat) : Int) = 8 from rfl, hz] at h1; simpa using h1)
  clear hw hz
  go_wp2_with fail
  refine HC.out.mono ?_
  rintro en w21 ⟨A21, n21, c21, rfl, hd21, hk21⟩
  have HD21 := Lib.hid hd21
  clear hd21 hk21 HC
  obtain ⟨⟨v2, l2⟩, hz⟩ : ∃ z, gR l1 24 = z := ⟨_, rfl⟩
  have hw := HD21.out.get 24
  rw [hz] at hw
  dsimp only at hw
  have HC := Lib.hid hw
  have HZv2 := Lib.hid hz
  have HLv2 : Hid (0 ≤ v2 ∧ v2 < 16777216) := Lib.hid (by have h1 := gR_lt l1 24 (by decide); rw [show ((24 : Nat) : Int) = 24 from rfl, hz] at h1; simpa using h1)
  clear hw hz
  go_wp2_with fail
  refine HC.out.mono ?_
  rintro en w22 ⟨A22, n22, c22, rfl, hd22, hk22⟩
  have HD22 := Lib.hid hd22
  clear hd22 hk22 HC
  obtain ⟨⟨v3, l3⟩, hz⟩ : ∃ z, gR l2 32 = z := ⟨_, rfl⟩
  have hw := HD22.out.get 32
  rw [hz] at hw
  dsimp only at hw
  have HC := Lib.hid hw
  have HZv3 := Lib.hid hz
  have HLv3 : Hid (0 ≤ v3 ∧ v3 < 4294967296) := Lib.hid (by have h1 := gR_lt l2 32 (by decide); rw [show ((32 : Nat) : Int) = 32 from rfl, hz] at h1; simpa using h1)
  clear hw hz
  go_wp2_with fail
  refine HC.out.mono ?_
  rintro en w23 ⟨A23, n23, c23, rfl, hd23, hk23⟩
  have HD23 := Lib.hid hd23
  clear hd23 hk23 HC
  obtain ⟨⟨v4, l4⟩, hz⟩ : ∃ z, gR l3 21 = z := ⟨_, rfl⟩
  have hw := HD23.out.get 21
  rw [hz] at hw
  dsimp only at hw
  have HC := Lib.hid hw
  have HZv4 := Lib.hid hz
  have HLv4 : Hid (0 ≤ v4 ∧ v4 < 2097152) := Lib.hid (by have h1 := gR_lt l3 21 (by decide); rw [show ((21 : Nat) : Int) = 21 from rfl, hz] at h1; simpa using h1)
  clear hw hz
  go_wp2_with fail
  refine HC.out.mono ?_
  rintro en w24 ⟨A24, n24, c24, rfl, hd24, hk24⟩
  have HD24 := Lib.hid hd24
  clear hd24 hk24 HC
  obtain ⟨⟨v5, l5⟩, hz⟩ : ∃ z, gR l4 20 = z := ⟨_, rfl⟩
  have hw := HD24.out.get 20
  rw [hz] at hw
  dsimp only at hw
  have HC := Lib.hid hw
  have HZv5 := Lib.hid hz
  have HLv5 : Hid (0 ≤ v5 ∧ v5 < 1048576) := Lib.hid (by have h1 := gR_lt l4 20 (by decide); rw [show ((20 : Nat) : Int) = 20 from rfl, hz] at h1; simpa using h1)
  clear hw hz
  go_wp2_with fail
  refine HC.out.mono ?_
  rintro en w25 ⟨A25, n25, c25, rfl, hd25, hk25⟩
  have HD25 := Lib.hid hd25
  clear hd25 hk25 HC
  obtain ⟨⟨v6, l6⟩, hz⟩ : ∃ z, gR l5 8 = z := ⟨_, rfl⟩
  have hw := HD25.out.get 8
  rw [hz] at hw
  dsimp only at hw
  have HC := Lib.hid hw
  have HZv6 := Lib.hid hz
  have HLv6 : Hid (0 ≤ v6 ∧ v6 < 256) := Lib.hid (by have h1 := gR_lt l5 8 (by decide); rw [show ((8 : Nat) : Int) = 8 from rfl, hz] at h1; simpa using h1)
  clear hw hz
  go_wp2_with fail
  refine HC.out.mono ?_
  rintro en w26 ⟨A26, n26, c26, rfl, hd26, hk26⟩
  have HD26 := Lib.hid hd26
  clear hd26 hk26 HC
  obtain ⟨pUn, hpUn⟩ : ∃ z, v4 * 1048576 = z := ⟨_, rfl⟩
  obtain ⟨un, hsUn⟩ : ∃ z, pUn + v5 = z := ⟨_, rfl⟩
  have waUn : wrap64 (v4 * 1048576) = pUn := by rw [hpUn]; have h1 := HLv4.out; have h2 : IntKind.i64.wrap pUn = pUn := IntWalk.i64_in _ (by omega); rwa [IntWalk.i64_left] at h2
  have wbUn : wrap64 (pUn + v5) = un := by rw [hsUn]; have h1 := HLv4.out; have h3 := HLv5.out; have h2 : IntKind.i64.wrap un = un := IntWalk.i64_in _ (by omega); rwa [IntWalk.i64_left] at h2
  have HUn : Hid (v4 * 1048576 + v5 = un) := Lib.hid (by rw [hpUn, hsUn])
  clear hpUn hsUn
  have z0 : (w26.alloc (.cells #[.int .i64 0, .int .i64 0, .int .i64 0, .int .i64 0, .slice none 0 0, .slice none 0 0] 25)).cell? ⟨w26.heap.size, 0, none⟩ = some (.int .i64 0) := (Blk.new w26 25 #[.int .i64 0, .int .i64 0, .int .i64 0, .int .i64 0, .slice none 0 0, .slice none 0 0]).cell 0
  have zf0 : (w26.alloc (.cells #[.int .i64 0, .int .i64 0, .int .i64 0, .int .i64 0, .slice none 0 0, .slice none 0 0] 25)).frozen? ⟨w26.heap.size, 0, none⟩ = false := (Blk.new w26 25 #[.int .i64 0, .int .i64 0, .int .i64 0, .int .i64 0, .slice none 0 0, .slice none 0 0]).frozen 0
  have z1 : (w26.alloc (.cells #[.int .i64 0, .int .i64 0, .int .i64 0, .int .i64 0, .slice none 0 0, .slice none 0 0] 25)).cell? ⟨w26.heap.size, 1, none⟩ = some (.int .i64 0) := (Blk.new w26 25 #[.int .i64 0, .int .i64 0, .int .i64 0, .int .i64 0, .slice none 0 0, .slice none 0 0]).cell 1
  have zf1 : (w26.alloc (.cells #[.int .i64 0, .int .i64 0, .int .i64 0, .int .i64 0, .slice none 0 0, .slice none 0 0] 25)).frozen? ⟨w26.heap.size, 1, none⟩ = false := (Blk.new w26 25 #[.int .i64 0, .int .i64 0, .int .i64 0, .int .i64 0, .slice none 0 0, .slice none 0 0]).frozen 1
  have z2 : (w26.alloc (.cells #[.int .i64 0, .int .i64 0, .int .i64 0, .int .i64 0, .slice none 0 0, .slice none 0 0] 25)).cell? ⟨w26.heap.size, 2, none⟩ = some (.int .i64 0) := (Blk.new w26 25 #[.int .i64 0, .int .i64 0, .int .i64 0, .int .i64 0, .slice none 0 0, .slice none 0 0]).cell 2
  have zf2 : (w26.alloc (.cells #[.int .i64 0, .int .i64 0, .int .i64 0, .int .i64 0, .slice none 0 0, .slice none 0 0] 25)).frozen? ⟨w26.heap.size, 2, none⟩ = false := (Blk.new w26 25 #[.int .i64 0, .int .i64 0, .int .i64 0, .int .i64 0, .slice none 0 0, .slice none 0 0]).frozen 2
  have z3 : (w26.alloc (.cells #[.int .i64 0, .int .i64 0, .int .i64 0, .int .i64 0, .slice none 0 0, .slice none 0 0] 25)).cell? ⟨w26.heap.size, 3, none⟩ = some (.int .i64 0) := (Blk.new w26 25 #[.int .i64 0, .int .i64 0, .int .i64 0, .int .i64 0, .slice none 0 0, .slice none 0 0]).cell 3
  have zf3 : (w26.alloc (.cells #[.int .i64 0, .int .i64 0, .int .i64 0, .int .i64 0, .slice none 0 0, .slice none 0 0] 25)).frozen? ⟨w26.heap.size, 3, none⟩ = false := (Blk.new w26 25 #[.int .i64 0, .int .i64 0, .int .i64 0, .int .i64 0, .slice none 0 0, .slice none 0 0]).frozen 3
  have z4 : (w26.alloc (.cells #[.int .i64 0, .int .i64 0, .int .i64 0, .int .i64 0, .slice none 0 0, .slice none 0 0] 25)).cell? ⟨w26.heap.size, 4, none⟩ = some (.slice none 0 0) := (Blk.new w26 25 #[.int .i64 0, .int .i64 0, .int .i64 0, .int .i64 0, .slice none 0 0, .slice none 0 0]).cell 4
  have zf4 : (w26.alloc (.cells #[.int .i64 0, .int .i64 0, .int .i64 0, .int .i64 0, .slice none 0 0, .slice none 0 0] 25)).frozen? ⟨w26.heap.size, 4, none⟩ = false := (Blk.new w26 25 #[.int .i64 0, .int .i64 0, .int .i64 0, .int .i64 0, .slice none 0 0, .slice none 0 0]).frozen 4
  have z5 : (w26.alloc (.cells #[.int .i64 0, .int .i64 0, .int .i64 0, .int .i64 0, .slice none 0 0, .slice none 0 0] 25)).cell? ⟨w26.heap.size, 5, none⟩ = some (.slice none 0 0) := (Blk.new w26 25 #[.int .i64 0, .int .i64 0, .int .i64 0, .int .i64 0, .slice none 0 0, .slice none 0 0]).cell 5
  have zf5 : (w26.alloc (.cells #[.int .i64 0, .int .i64 0, .int .i64 0, .int .i64 0, .slice none 0 0, .slice none 0 0] 25)).frozen? ⟨w26.heap.size, 5, none⟩ = false := (Blk.new w26 25 #[.int .i64 0, .int .i64 0, .int .i64 0, .int .i64 0, .slice none 0 0, .slice none 0 0]).frozen 5
  go_upto_region 10 with (fail)
  clear z0 z1 z2 z3 z4 z5 zf0 zf1 zf2 zf3 zf4 zf5 waUn wbUn
  obtain ⟨w7, hw7⟩ : ∃ V : World, w26.alloc (.cells #[.int .i64 v1, .int .i64 v2, .int .i64 v3, .int .i64 un, .slice none 0 0, .slice none 0 0] 25) = V := ⟨_, rfl⟩
  have k7 : Keep Never w26 w7 := (by rw [← hw7]; exact (Keep.refl _ _).alloc _)
  have B7 := Blk.new w26 25 #[.int .i64 v1, .int .i64 v2, .int .i64 v3, .int .i64 un, .slice none 0 0, .slice none 0 0]
  rw [hw7] at B7 ⊢
  obtain ⟨bn, hbn⟩ : ∃ q, w26.heap.size = q := ⟨_, rfl⟩
  rw [hbn] at B7 ⊢
  have HD7 := Lib.hid (HD26.out.never k7)
  have Hn7 := Lib.hid B7
  have HNb : Hid (BB ≤ bn) := Lib.hid (by rw [← hbn]; exact HD26.out.top)
  clear k7 B7 hw7 hbn
  obtain ⟨M, hM⟩ : ∃ M : Nat, min v6 30 = (M : Int) := ⟨(min v6 30).toNat, by have := HLv6.out; omega⟩
  have HMv : Hid (M = min v6.toNat 30) := Lib.hid (by have := HLv6.out; omega)
  have hM30 : M ≤ 30 := by omega
  have hMc : (M : Int) ≤ v6 ∧ (v6 ≤ M ∨ M = 30) := by omega
  have HMc := Lib.hid hMc
  clear hM hMc
  go_wp2_with fail
  go_loopw [5, 13] (fun s5 si wr => ∃ (k no co nb cb : Nat) (Ao Ab : Option Addr), k ≤ M ∧ s5 = .slice Ab nb cb ∧ si = .int .i64 k ∧ no ≤ k ∧ Hid (RSt w wr BB w.heap.size Ab nb cb (locksG gR v2 k l6).2 ∧ Blk wr bn 25 #[.int .i64 v1, .int .i64 v2, .int .i64 v3, .int .i64 un, .slice Ao no co, .slice none 0 0] ∧ Own wr BB 44 3 Ao no co (spCells (locksG gR v2 k l6).1))) (fun _ si _ => M - (intOf si).toNat)
  case atStart => exact ⟨0, 0, 0, _, _, none, _, by omega, rfl, rfl, by omega, Lib.hid ⟨HD7.out, Hn7.out, Own.nil _ _ _ _⟩⟩
  case round =>
    obtain ⟨k, no, co, nb, cb, Ao, Ab, hk, rfl, rfl, hno, HH2⟩ := hrel
    have HDr := Lib.hid HH2.out.1
    have Hnr := Lib.hid HH2.out.2.1
    have HOr := Lib.hid HH2.out.2.2
    clear HH2
    by_cases h0 : k < M
    · have tk1 : decide ((k : Int) < v6) = true := decide_eq_true (by have := HMc.out; omega)
      have tk2 : decide ((k : Int) < 30) = true := decide_eq_true (by omega)
      obtain ⟨lk, hlk⟩ : ∃ z, (locksG gR v2 k l6).2 = z := ⟨_, rfl⟩
      rw [hlk] at HDr
      have HLk := Lib.hid hlk
      clear hlk
      obtain ⟨⟨v7, l7⟩, hz⟩ : ∃ z, gR lk 16 = z := ⟨_, rfl⟩
      have hw := HDr.out.get 16
      rw [hz] at hw
      dsimp only at hw
      have HC := Lib.hid hw
      have HZv7 := Lib.hid hz
      have HLv7 : Hid (0 ≤ v7 ∧ v7 < 65536) := Lib.hid (by have h1 := gR_lt lk 16 (by decide); rw [show ((16 : Nat) : Int) = 16 from rfl, hz] at h1; simpa using h1)
      clear hw hz
      go_wp2_with fail
      refine HC.out.mono ?_
      rintro en w31 ⟨A31, n31, c31, rfl, hd31, hk31⟩
      have HD31 := Lib.hid hd31
      have HO31 := Lib.hid (HOr.out.keep hk31 (fun _ _ h => h))
      have Hn31 := Lib.hid (Hnr.out.keep hk31 (fun h => h))
      clear hd31 hk31 HC
      obtain ⟨⟨v8, l8⟩, hz⟩ : ∃ z, gR l7 20 = z := ⟨_, rfl⟩
      have hw := HD31.out.get 20
      rw [hz] at hw
      dsimp only at hw
      have HC := Lib.hid hw
      have HZv8 := Lib.hid hz
      have HLv8 : Hid (0 ≤ v8 ∧ v8 < 1048576) := Lib.hid (by have h1 := gR_lt l7 20 (by decide); rw [show ((20 : Nat) : Int) = 20 from rfl, hz] at h1; simpa using h1)
      clear hw hz
      go_wp2_with fail
      refine HC.out.mono ?_
      rintro en w32 ⟨A32, n32, c32, rfl, hd32, hk32⟩
      have HD32 := Lib.hid hd32
      have HO32 := Lib.hid (HO31.out.keep hk32 (fun _ _ h => h))
      have Hn32 := Lib.hid (Hn31.out.keep hk32 (fun h => h))
      clear hd32 hk32 HC
      obtain ⟨⟨v9, l9⟩, hz⟩ : ∃ z, gR l8 20 = z := ⟨_, rfl⟩
      have hw := HD32.out.get 20
      rw [hz] at hw
      dsimp only at hw
      have HC := Lib.hid hw
      have HZv9 := Lib.hid hz
      have HLv9 : Hid (0 ≤ v9 ∧ v9 < 1048576) := Lib.hid (by have h1 := gR_lt l8 20 (by decide); rw [show ((20 : Nat) : Int) = 20 from rfl, hz] at h1; simpa using h1)
      clear hw hz
      go_wp2_with fail
      refine HC.out.mono ?_
      rintro en w33 ⟨A33, n33, c33, rfl, hd33, hk33⟩
      have HD33 := Lib.hid hd33
      have HO33 := Lib.hid (HO32.out.keep hk33 (fun _ _ h => h))
      have Hn33 := Lib.hid (Hn32.out.keep hk33 (fun h => h))
      clear hd33 hk33 HC
      obtain ⟨pSm, hpSm⟩ : ∃ z, v8 * 1048576 = z := ⟨_, rfl⟩
      obtain ⟨v11, hsSm⟩ : ∃ z, pSm + v9 = z := ⟨_, rfl⟩
      have waSm : wrap64 (v8 * 1048576) = pSm := by rw [hpSm]; have h1 := HLv8.out; have h2 : IntKind.i64.wrap pSm = pSm := IntWalk.i64_in _ (by omega); rwa [IntWalk.i64_left] at h2
      have wbSm : wrap64 (pSm + v9) = v11 := by rw [hsSm]; have h1 := HLv8.out; have h3 := HLv9.out; have h2 : IntKind.i64.wrap v11 = v11 := IntWalk.i64_in _ (by omega); rwa [IntWalk.i64_left] at h2
      have HSm : Hid (v8 * 1048576 + v9 = v11) := Lib.hid (by rw [hpSm, hsSm])
      clear hpSm hsSm
      have HNx : Hid (locksG gR v2 (k + 1) l6 = ((locksG gR v2 k l6).1 ++ [(v7, v2, v11)], l9)) := Lib.hid (by
        show ((locksG gR v2 k l6).1 ++ _, _) = _
        rw [HLk.out, HZv7.out]
        simp only
        rw [HZv8.out]
        simp only
        rw [HZv9.out]
        simp only
        rw [HSm.out])
      have n4 : w33.cell? ⟨bn, 4, none⟩ = some (.slice Ao no co) := Hn33.out.cell 4
      have nf4 := Hn33.out.frozen 4
      have hsz : BB ≤ (w33.alloc (.cells #[.int .i64 v7, .int .i64 v2, .int .i64 v11] 44)).heap.size := by have := HD33.out.top; simp; omega
      go_wp2_with (at_builtin; refine wpList_app _ rfl (.tmp 97) (.tmp 106) _ rfl elemLo BB (A := Ao) (n := no) (c := co) (by go_simp) (HO33.out.alloc _) _ (A' := some ⟨w33.heap.size, 0, none⟩) (m := 1) (c' := 1) (by go_simp) (Rd.of_blk (n := 1) (cs := [.int .i64 v7, .int .i64 v2, .int .i64 v11]) (Blk.new w33 _ _) rfl) (by simp [Value.oneCell']) (by omega) (by unfold maxLen; omega) hsz ?_; intro A5 c5 w16 hown hk hrow; have hk16 : Keep (InRow Ao) w33 w16 := ((Keep.refl (InRow Ao) _).alloc _).trans hk; have HO16 := Lib.hid hown; have Hn16 := Lib.hid (Hn33.out.keep hk16 (fun h => HO33.out.ne_blk Hn33.out (by decide) bn h rfl)); have HD16 := Lib.hid (HD33.out.far hk16 (fun q hq => (HO33.out.row hq).1)); have o4 : w16.cell? ⟨bn, 4, none⟩ = some (.slice Ao no co) := Hn16.out.cell 4; have f4 := Hn16.out.frozen 4; clear hown hk hrow hk16)
      go_roundw
      case measure => simp [intOf]; try omega
      case rel =>
        have hk17 : Keep (fun i => i = bn) w16 (w16.setCell ⟨bn, 4, none⟩ (.slice A5 (no + 1) c5)) := (Keep.refl (fun i => i = bn) w16).set_ (p := ⟨bn, 4, none⟩) (.inl rfl) _
        refine ⟨k + 1, no + 1, c5, _, _, A5, _, by omega, rfl, by go_num, by omega, Lib.hid ⟨?_, ?_, ?_⟩⟩
        · rw [HNx.out]; exact HD16.out.far hk17 (fun i e => by subst e; exact HNb.out)
        · have := Hn16.out.set_ 4 (.slice A5 (no + 1) c5)
          simpa using this
        · rw [HNx.out, spCells_app]
          exact HO16.out.far (p := ⟨bn, 4, none⟩) (HO16.out.ne_blk Hn16.out (by decide)) _
    · obtain rfl : k = M := by omega
      obtain ⟨⟨Lo, l10⟩, hLo⟩ : ∃ z, locksG gR v2 k l6 = z := ⟨_, rfl⟩
      rw [hLo] at HDr HOr
      dsimp only at HDr HOr
      have HLo := Lib.hid hLo
      clear hLo
      have hx : decide ((k : Int) < v6) = false ∨ decide ((k : Int) < v6) = true ∧ decide ((k : Int) < 30) = false := by
        have := HMc.out
        by_cases g : (k : Int) < v6
        · right; exact ⟨decide_eq_true g, decide_eq_false (by omega)⟩
        · left; exact decide_eq_false g
      rcases hx with tk1 | ⟨tk1, tk2⟩
      all_goals
        obtain ⟨⟨v12, l12⟩, hz⟩ : ∃ z, gR l10 8 = z := ⟨_, rfl⟩
        have hw := HDr.out.get 8
        rw [hz] at hw
        dsimp only at hw
        have HC := Lib.hid hw
        have HZv12 := Lib.hid hz
        have HLv12 : Hid (0 ≤ v12 ∧ v12 < 256) := Lib.hid (by have h1 := gR_lt l10 8 (by decide); rw [show ((8 : Nat) : Int) = 8 from rfl, hz] at h1; simpa using h1)
        clear hw hz
        go_wp2_with fail
        refine HC.out.mono ?_
        rintro en w40 ⟨A40, n40, c40, rfl, hd40, hk40⟩
        have HD40 := Lib.hid hd40
        have HO40 := Lib.hid (HOr.out.keep hk40 (fun _ _ h => h))
        have Hn40 := Lib.hid (Hnr.out.keep hk40 (fun h => h))
        clear hd40 hk40 HC
        obtain ⟨M2, hM2⟩ : ∃ M : Nat, min v12 30 = (M : Int) := ⟨(min v12 30).toNat, by have := HLv12.out; omega⟩
        have HMv2 : Hid (M2 = min v12.toNat 30) := Lib.hid (by have := HLv12.out; omega)
        have hM230 : M2 ≤ 30 := by omega
        have hMc2 : (M2 : Int) ≤ v12 ∧ (v12 ≤ M2 ∨ M2 = 30) := by omega
        have HMc2 := Lib.hid hMc2
        clear hM2 hMc2
        (try clear tk1)
        (try clear tk2)
        go_wp2_with fail
        go_loopw [5, 21] (fun s5 si wq => ∃ (q ns cs nb cb : Nat) (As Ab : Option Addr), q ≤ M2 ∧ s5 = .slice Ab nb cb ∧ si = .int .i64 q ∧ ns ≤ q ∧ Hid (RSt w wq BB w.heap.size Ab nb cb (hereG gR q l12).2 ∧ Blk wq bn 25 #[.int .i64 v1, .int .i64 v2, .int .i64 v3, .int .i64 un, .slice Ao no co, .slice As ns cs] ∧ Own wq BB 44 3 Ao no co (spCells Lo) ∧ Own wq BB 56 3 As ns cs (spCells (hereG gR q l12).1))) (fun _ si _ => M2 - (intOf si).toNat)
        case atStart => exact ⟨0, 0, 0, _, _, none, _, by omega, rfl, rfl, by omega, Lib.hid ⟨HD40.out, Hn40.out, HO40.out, Own.nil _ _ _ _⟩⟩
        case round =>
          obtain ⟨q, ns, cs, nb2, cb2, As, Ab2, hq, rfl, rfl, hns, HH2⟩ := hrel
          have HDq := Lib.hid HH2.out.1
          have Hnq := Lib.hid HH2.out.2.1
          have HOq := Lib.hid HH2.out.2.2.1
          have HSq := Lib.hid HH2.out.2.2.2
          clear HH2
          rename World => wq
          by_cases h1 : q < M2
          · have tq1 : decide ((q : Int) < v12) = true := decide_eq_true (by have := HMc2.out; omega)
            have tq2 : decide ((q : Int) < 30) = true := decide_eq_true (by omega)
            obtain ⟨lq, hlq⟩ : ∃ z, (hereG gR q l12).2 = z := ⟨_, rfl⟩
            rw [hlq] at HDq
            have HLq := Lib.hid hlq
            clear hlq
            obtain ⟨⟨v13, l13⟩, hz⟩ : ∃ z, gR lq 8 = z := ⟨_, rfl⟩
            have hw := HDq.out.get 8
            rw [hz] at hw
            dsimp only at hw
            have HC := Lib.hid hw
            have HZv13 := Lib.hid hz
            have HLv13 : Hid (0 ≤ v13 ∧ v13 < 256) := Lib.hid (by have h1 := gR_lt lq 8 (by decide); rw [show ((8 : Nat) : Int) = 8 from rfl, hz] at h1; simpa using h1)
            clear hw hz
            go_wp2_with fail
            refine HC.out.mono ?_
            rintro en w51 ⟨A51, n51, c51, rfl, hd51, hk51⟩
            have HD51 := Lib.hid hd51
            have HO51 := Lib.hid (HOq.out.keep hk51 (fun _ _ h => h))
            have Hn51 := Lib.hid (Hnq.out.keep hk51 (fun h => h))
            have HS51 := Lib.hid (HSq.out.keep hk51 (fun _ _ h => h))
            clear hd51 hk51 HC
            obtain ⟨⟨v14, l14⟩, hz⟩ : ∃ z, gR l13 20 = z := ⟨_, rfl⟩
            have hw := HD51.out.get 20
            rw [hz] at hw
            dsimp only at hw
            have HC := Lib.hid hw
            have HZv14 := Lib.hid hz
            have HLv14 : Hid (0 ≤ v14 ∧ v14 < 1048576) := Lib.hid (by have h1 := gR_lt l13 20 (by decide); rw [show ((20 : Nat) : Int) = 20 from rfl, hz] at h1; simpa using h1)
            clear hw hz
            go_wp2_with fail
            refine HC.out.mono ?_
            rintro en w52 ⟨A52, n52, c52, rfl, hd52, hk52⟩
            have HD52 := Lib.hid hd52
            have HO52 := Lib.hid (HO51.out.keep hk52 (fun _ _ h => h))
            have Hn52 := Lib.hid (Hn51.out.keep hk52 (fun h => h))
            have HS52 := Lib.hid (HS51.out.keep hk52 (fun _ _ h => h))
            clear hd52 hk52 HC
            obtain ⟨⟨v15, l15⟩, hz⟩ : ∃ z, gR l14 20 = z := ⟨_, rfl⟩
            have hw := HD52.out.get 20
            rw [hz] at hw
            dsimp only at hw
            have HC := Lib.hid hw
            have HZv15 := Lib.hid hz
            have HLv15 : Hid (0 ≤ v15 ∧ v15 < 1048576) := Lib.hid (by have h1 := gR_lt l14 20 (by decide); rw [show ((20 : Nat) : Int) = 20 from rfl, hz] at h1; simpa using h1)
            clear hw hz
            go_wp2_with fail
            refine HC.out.mono ?_
            rintro en w53 ⟨A53, n53, c53, rfl, hd53, hk53⟩
            have HD53 := Lib.hid hd53
            have HO53 := Lib.hid (HO52.out.keep hk53 (fun _ _ h => h))
            have Hn53 := Lib.hid (Hn52.out.keep hk53 (fun h => h))
            have HS53 := Lib.hid (HS52.out.keep hk53 (fun _ _ h => h))
            clear hd53 hk53 HC
            have HNx2 : Hid (hereG gR (q + 1) l12 = ((hereG gR q l12).1 ++ [(v13, v14, v15)], l15)) := Lib.hid (by
              show ((hereG gR q l12).1 ++ _, _) = _
              rw [HLq.out, HZv13.out]
              simp only
              rw [HZv14.out]
              simp only
              rw [HZv15.out])
            have n5 : w53.cell? ⟨bn, 5, none⟩ = some (.slice As ns cs) := Hn53.out.cell 5
            have nf5 := Hn53.out.frozen 5
            have hsz : BB ≤ (w53.alloc (.cells #[.int .i64 v13, .int .i64 v14, .int .i64 v15] 56)).heap.size := by have := HD53.out.top; simp; omega
            go_wp2_with (at_builtin; refine wpList_app _ rfl (.tmp 140) (.tmp 145) _ rfl elemSp BB (A := As) (n := ns) (c := cs) (by go_simp) (HS53.out.alloc _) _ (A' := some ⟨w53.heap.size, 0, none⟩) (m := 1) (c' := 1) (by go_simp) (Rd.of_blk (n := 1) (cs := [.int .i64 v13, .int .i64 v14, .int .i64 v15]) (Blk.new w53 _ _) rfl) (by simp [Value.oneCell']) (by omega) (by unfold maxLen; omega) hsz ?_; intro A5 c5 w26 hown hk hrow; have hk26 : Keep (InRow As) w53 w26 := ((Keep.refl (InRow As) _).alloc _).trans hk; have HS26 := Lib.hid hown; have Hn26 := Lib.hid (Hn53.out.keep hk26 (fun h => HS53.out.ne_blk Hn53.out (by decide) bn h rfl)); have HO26 := Lib.hid (HO53.out.keep hk26 (HO53.out.ne_own HS53.out (by decide))); have HD26 := Lib.hid (HD53.out.far hk26 (fun q hq => (HS53.out.row hq).1)); have o5 : w26.cell? ⟨bn, 5, none⟩ = some (.slice As ns cs) := Hn26.out.cell 5; have f5 := Hn26.out.frozen 5; clear hown hk hrow hk26)
            go_roundw
            case measure => simp [intOf]; try omega
            case rel =>
              have hk27 : Keep (fun i => i = bn) w26 (w26.setCell ⟨bn, 5, none⟩ (.slice A5 (ns + 1) c5)) := (Keep.refl (fun i => i = bn) w26).set_ (p := ⟨bn, 5, none⟩) (.inl rfl) _
              refine ⟨q + 1, ns + 1, c5, _, _, A5, _, by omega, rfl, by go_num, by omega, Lib.hid ⟨?_, ?_, ?_, ?_⟩⟩
              · rw [HNx2.out]; exact HD26.out.far hk27 (fun i e => by subst e; exact HNb.out)
              · have := Hn26.out.set_ 5 (.slice A5 (ns + 1) c5)
                simpa using this
              · exact HO26.out.far (p := ⟨bn, 5, none⟩) (HO26.out.ne_blk Hn26.out (by decide)) _
              · rw [HNx2.out, spCells_app]
                exact HS26.out.far (p := ⟨bn, 5, none⟩) (HS26.out.ne_blk Hn26.out (by decide)) _
          · obtain rfl : q = M2 := by omega
            have hx2 : decide ((q : Int) < v12) = false ∨ decide ((q : Int) < v12) = true ∧ decide ((q : Int) < 30) = false := by
              have := HMc2.out
              by_cases g : (q : Int) < v12
              · right; exact ⟨decide_eq_true g, decide_eq_false (by omega)⟩
              · left; exact decide_eq_false g
            obtain ⟨⟨Hr, l16⟩, hHr⟩ : ∃ z, hereG gR q l12 = z := ⟨_, rfl⟩
            rw [hHr] at HDq HSq
            dsimp only at HDq HSq
            have HP : Hid (parseG gR 30 30 (bitsB bs) = (v1, v2, v3, un, Lo, Hr)) := Lib.hid (by
              have hs : sixG gR (bitsB bs) = ((v1, v2, v3, un, v6), l6) := by
                unfold sixG
                simp only [HZv1.out, HZv2.out, HZv3.out, HZv4.out, HZv5.out, HZv6.out, HUn.out]
              unfold parseG
              rw [hs]
              dsimp only
              rw [← HMv.out, HLo.out]
              dsimp only
              rw [HZv12.out]
              dsimp only
              rw [← HMv2.out, hHr])
            have HE := Lib.hid (renc20_any v1 v2 v3 un Ao As no co ns cs wq.heap.size Lo Hr wq (spAt_own3 HOq.out) (spAt_own3 HSq.out) (by omega) (by omega) (Nat.le_refl _))
            have b0 : wq.cell? ⟨bn, 0, none⟩ = some (.int .i64 v1) := Hnq.out.cell 0
            have b1 : wq.cell? ⟨bn, 1, none⟩ = some (.int .i64 v2) := Hnq.out.cell 1
            have b2 : wq.cell? ⟨bn, 2, none⟩ = some (.int .i64 v3) := Hnq.out.cell 2
            have b3 : wq.cell? ⟨bn, 3, none⟩ = some (.int .i64 un) := Hnq.out.cell 3
            have b4 : wq.cell? ⟨bn, 4, none⟩ = some (.slice Ao no co) := Hnq.out.cell 4
            have b5 : wq.cell? ⟨bn, 5, none⟩ = some (.slice As ns cs) := Hnq.out.cell 5
            clear hHr
            rcases hx2 with tq1 | ⟨tq1, tq2⟩
            all_goals
              go_wp2_with fail
              refine HE.out.mono ?_
              rintro e w30 ⟨Ae, me, ce, rfl, ho30, hk30⟩
              clear b0 b1 b2 b3 b4 b5 HE
              (try clear tq1)
              (try clear tq2)
              have HDe := Lib.hid (HDq.out.never hk30)
              have Hne := Lib.hid (Hnq.out.keep hk30 (fun h => h))
              have HOe := Lib.hid (HOq.out.keep hk30 (fun _ _ h => h))
              have HSe := Lib.hid (HSq.out.keep hk30 (fun _ _ h => h))
              clear hk30
              cases hm : mayN (v1, v2, v3, un, Lo, Hr) with
              | false =>
                have HM := Lib.hid hm
                clear ho30
                simp only [Bool.false_eq_true, if_false]
                clear hm
                have z0 : w30.cell? ⟨w.heap.size, 0, none⟩ = some (.int .i64 0) := HDe.out.rb.cell 0
                have zf0 := HDe.out.rb.frozen 0
                have z1 : w30.cell? ⟨w.heap.size, 1, none⟩ = some (.int .i64 0) := HDe.out.rb.cell 1
                have zf1 := HDe.out.rb.frozen 1
                have z2 : w30.cell? ⟨w.heap.size, 2, none⟩ = some (.int .i64 0) := HDe.out.rb.cell 2
                have zf2 := HDe.out.rb.frozen 2
                have z3 : w30.cell? ⟨w.heap.size, 3, none⟩ = some (.int .i64 0) := HDe.out.rb.cell 3
                have zf3 := HDe.out.rb.frozen 3
                have z4 : w30.cell? ⟨w.heap.size, 4, none⟩ = some (.slice none 0 0) := HDe.out.rb.cell 4
                have zf4 := HDe.out.rb.frozen 4
                have z5 : w30.cell? ⟨w.heap.size, 5, none⟩ = some (.slice none 0 0) := HDe.out.rb.cell 5
                have zf5 := HDe.out.rb.frozen 5
                go_wp2_with fail
                have hF : decG gR 30 30 bs = (noN, 8) := by unfold decG; rw [HP.out, if_neg (fun h => by have := HM.out; rw [h.1] at this; cases this)]
                refine bodyPost_ret (nt_results rfl (put6_blk HDe.out.rb _ _ _ _ _ _) _ rfl) rfl ⟨⟨none, 0, 0, none, 0, 0⟩, ?_, ?_, ?_⟩
                · rw [hF]; rfl
                · rw [hF]; exact ⟨spAt_own3 (e := 0) (base := 0) (l := []) (Own.nil _ _ _ _), spAt_own3 (e := 0) (base := 0) (l := []) (Own.nil _ _ _ _)⟩
                · exact HDe.out.kp.then_ (put6_keep _ _ _ _ _ _ _ _) (fun i hi e => by omega)
              | true =>
                have HM := Lib.hid hm
                try rw [hm] at ho30
                simp only [if_true] at ho30 ⊢
                clear hm
                have hr2 := HRd.out.keep HDe.out.kp (fun _ h => h.elim)
                have e1 := run_str (P := Try.prog) Try.underlying27 Try.underlying5 Try.underlying9 ho30 (bytesOf_lt _) ce
                have e2 := run_str (P := Try.prog) Try.underlying27 Try.underlying5 Try.underlying9 hr2 H8.out c
                clear ho30 hr2
                have z0 : w30.cell? ⟨w.heap.size, 0, none⟩ = some (.int .i64 0) := HDe.out.rb.cell 0
                have zf0 := HDe.out.rb.frozen 0
                have z1 : w30.cell? ⟨w.heap.size, 1, none⟩ = some (.int .i64 0) := HDe.out.rb.cell 1
                have zf1 := HDe.out.rb.frozen 1
                have z2 : w30.cell? ⟨w.heap.size, 2, none⟩ = some (.int .i64 0) := HDe.out.rb.cell 2
                have zf2 := HDe.out.rb.frozen 2
                have z3 : w30.cell? ⟨w.heap.size, 3, none⟩ = some (.int .i64 0) := HDe.out.rb.cell 3
                have zf3 := HDe.out.rb.frozen 3
                have z4 : w30.cell? ⟨w.heap.size, 4, none⟩ = some (.slice none 0 0) := HDe.out.rb.cell 4
                have zf4 := HDe.out.rb.frozen 4
                have z5 : w30.cell? ⟨w.heap.size, 5, none⟩ = some (.slice none 0 0) := HDe.out.rb.cell 5
                have zf5 := HDe.out.rb.frozen 5
                have n0 : w30.cell? ⟨bn, 0, none⟩ = some (.int .i64 v1) := Hne.out.cell 0
                have n1 : w30.cell? ⟨bn, 1, none⟩ = some (.int .i64 v2) := Hne.out.cell 1
                have n2 : w30.cell? ⟨bn, 2, none⟩ = some (.int .i64 v3) := Hne.out.cell 2
                have n3 : w30.cell? ⟨bn, 3, none⟩ = some (.int .i64 un) := Hne.out.cell 3
                have n4 : w30.cell? ⟨bn, 4, none⟩ = some (.slice Ao no co) := Hne.out.cell 4
                have n5 : w30.cell? ⟨bn, 5, none⟩ = some (.slice As ns cs) := Hne.out.cell 5
                by_cases hq2 : encN (v1, v2, v3, un, Lo, Hr) = bs
                · have HQ := Lib.hid hq2
                  rw [hq2] at e1
                  clear hq2
                  go_wp2_with fail
                  have hF : decG gR 30 30 bs = ((v1, v2, v3, un, Lo, Hr), 0) := by unfold decG; rw [HP.out, if_pos ⟨HM.out, HQ.out⟩]
                  refine bodyPost_ret (nt_results rfl (put6_blk HDe.out.rb _ _ _ _ _ _) _ rfl) rfl ⟨⟨Ao, no, co, As, ns, cs⟩, ?_, ?_, ?_⟩
                  · rw [hF]; rfl
                  · rw [hF]; exact ⟨spAt_own3 (HOe.out.keep (put6_keep _ _ _ _ _ _ _ _) (HOe.out.ne_blk HDe.out.rb (by decide))), spAt_own3 (HSe.out.keep (put6_keep _ _ _ _ _ _ _ _) (HSe.out.ne_blk HDe.out.rb (by decide)))⟩
                  · exact HDe.out.kp.then_ (put6_keep _ _ _ _ _ _ _ _) (fun i hi e => by omega)
                · have HQ := Lib.hid hq2
                  have hq3 : ((strOf (encN (v1, v2, v3, un, Lo, Hr))).toList == (strOf bs).toList) = false := str_ne (bytesOf_lt _) H8.out hq2
                  have hq4 : (!((strOf (encN (v1, v2, v3, un, Lo, Hr))).toList == (strOf bs).toList)) = true := by rw [hq3]; rfl
                  clear hq2
                  go_wp2_with fail
                  have hF : decG gR 30 30 bs = (noN, 8) := by unfold decG; rw [HP.out, if_neg (fun h => HQ.out h.2)]
                  refine bodyPost_ret (nt_results rfl (put6_blk HDe.out.rb _ _ _ _ _ _) _ rfl) rfl ⟨⟨none, 0, 0, none, 0, 0⟩, ?_, ?_, ?_⟩
                  · rw [hF]; rfl
                  · rw [hF]; exact ⟨spAt_own3 (e := 0) (base := 0) (l := []) (Own.nil _ _ _ _), spAt_own3 (e := 0) (base := 0) (l := []) (Own.nil _ _ _ _)⟩
                  · exact HDe.out.kp.then_ (put6_keep _ _ _ _ _ _ _ _) (fun i hi e => by omega)


end Go.Proofs.Ytpahfobijmmmmaa
