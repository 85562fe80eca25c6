/- Chapter 20 (border): Decode. -/
import Derived.Test.YtpahfobijmmmmaaGreatBdBrdF
namespace Go.Proofs.YtpahfobijmmmmaaGreat
open Go.RowKit

theorem gP_lt (l : List Bool) (k : Nat) (_hk : k ≤ 32) : 0 ≤ (gP l (k : Int)).1 ∧ (gP l (k : Int)).1 < ((2 ^ k : Nat) : Int) := by
  unfold gP getN
  simp only
  have hp : 0 < 2 ^ k := Nat.two_pow_pos k
  split
  · omega
  · have h1 := numOf_lt (l.take k)
    have h2 : 2 ^ (l.take k).length ≤ 2 ^ k := Nat.pow_le_pow_right (by omega) (by rw [List.length_take]; omega)
    rw [Int.toNat_natCast]
    omega
set_option maxRecDepth 100000 in
theorem or20 (a b : Int) (ha : 0 ≤ a) (ha2 : a < 2097152) (hb : 0 ≤ b) (hb2 : b < 1048576) : bits .or .i64 (a * 1048576) b = a * 1048576 + b := by
  obtain ⟨m, rfl⟩ : ∃ m : Nat, a = m := ⟨a.toNat, by omega⟩
  obtain ⟨n, rfl⟩ : ∃ n : Nat, b = n := ⟨b.toNat, by omega⟩
  have a1 : m * 1048576 < 9223372036854775808 := by omega
  have a2 : n < 9223372036854775808 := by omega
  have h := (bits_nat .i64 63 (by decide) wraps_i64 (m * 1048576) n (by rw [show (2 : Nat) ^ 63 = 9223372036854775808 from rfl]; exact a1) (by rw [show (2 : Nat) ^ 63 = 9223372036854775808 from rfl]; exact a2)).2
  have e : m * 1048576 ||| n = m * 1048576 + n := by
    have h1 := Nat.shiftLeft_add_eq_or_of_lt (i := 20) (b := n) (by omega) m
    rw [Nat.shiftLeft_eq] at h1
    exact h1.symm
  rw [e] at h
  have e2 : ((m * 1048576 : Nat) : Int) = (m : Int) * 1048576 := by omega
  have e3 : ((m * 1048576 + n : Nat) : Int) = (m : Int) * 1048576 + (n : Int) := by rw [Int.natCast_add, e2]
  rw [e2, e3] at h
  exact h
/-- what Decode's walk keeps: the reader at p (l is left), the box of it, the result's block -/
structure DSt2 (w W : World) (BB HH p g r : Nat) (bs : List Nat) (l : List Bool) : Prop where
  rd : RdL W BB HH p bs l
  gb : Blk W g 76 #[.pointer (some ⟨p, 0, none⟩)]
  rb : Blk W r 34 #[.int .i64 0, .int .i64 0, .int .i64 0, .int .i64 0, .slice none 0 0, .slice none 0 0]
  kp : Keep Never w W
  lo : w.heap.size ≤ BB
  top : HH ≤ W.heap.size
theorem DSt2.never {w W W' : World} {BB HH p g r : Nat} {bs : List Nat} {l : List Bool} (h : DSt2 w W BB HH p g r bs l) (hk : Keep Never W W') : DSt2 w W' BB HH p g r bs l :=
  ⟨h.rd.keep hk (fun _ h => h.elim), h.gb.keep hk (fun h => h), h.rb.keep hk (fun h => h), h.kp.trans hk, h.lo, Nat.le_trans h.top hk.size⟩
/-- a store into a block made behind the reader -/
theorem DSt2.put {w W W' : World} {BB HH p g r : Nat} {bs : List Nat} {l : List Bool} (h : DSt2 w W BB HH p g r bs l) {q : Nat} (hk : Keep (fun i => i = q) W W') (h1 : HH ≤ q) (h2 : q ≠ g) (h3 : q ≠ r) : DSt2 w W' BB HH p g r bs l :=
  ⟨h.rd.keep hk (fun i e => by subst e; exact .inr h1), h.gb.keep hk (fun e => h2 e.symm), h.rb.keep hk (fun e => h3 e.symm), h.kp.then_ hk (fun i hi e => by have a1 := h.lo; have a2 := h.rd.lo; have a3 := h.top; subst e; obtain ⟨k, ⟨_, _, _, _, _, _, _, _, a4, _⟩, _⟩ := h.rd; omega), h.lo, Nat.le_trans h.top hk.size⟩
theorem DSt2.get {w W : World} {BB HH p g r : Nat} {bs : List Nat} {l : List Bool} (h : DSt2 w W BB HH p g r bs l) (width : Int) (h1 : 1 ≤ width) (h2 : width ≤ 32) :
    Calls Tryz.prog 38 #[.int .i64 width, .pointer (some ⟨g, 0, none⟩)] W fun e w' => e = .returned (.int .i64 (gP l width).1) ∧ DSt2 w w' BB HH p g r bs (gP l width).2 ∧ Keep (fun q => q = p) W w' :=
  (dget_any BB HH p g bs l width W h1 h2 h.rd (by have := h.rd.lo; omega) h.gb).mono (fun e w' ⟨e1, e2, e3⟩ => ⟨e1, ⟨e2, h.gb.keep e3 (h.rd.not h.gb (by decide)), h.rb.keep e3 (h.rd.not h.rb (by decide)), h.kp.then_ e3 (fun i hi e => by have a1 := h.lo; have a2 := h.rd.lo; omega), h.lo, Nat.le_trans h.top e3.size⟩, e3⟩)
theorem put3S_keep {S : Nat → Prop} {w0 w : World} {b : Nat} (h : Keep S w0 w) (hb : S b ∨ w0.heap.size ≤ b) (v0 v1 v2 : Value) : Keep S w0 (((w.setCell ⟨b, 0, none⟩ v0).setCell ⟨b, 1, none⟩ v1).setCell ⟨b, 2, none⟩ v2) :=
  ((h.set_ (p := ⟨b, 0, none⟩) hb v0).set_ (p := ⟨b, 1, none⟩) hb v1).set_ (p := ⟨b, 2, none⟩) hb v2
theorem put3S_blk {w : World} {b t : Nat} {u0 u1 u2 : Value} (h : Blk w b t #[u0, u1, u2]) (v0 v1 v2 : Value) : Blk (((w.setCell ⟨b, 0, none⟩ v0).setCell ⟨b, 1, none⟩ v1).setCell ⟨b, 2, none⟩ v2) b t #[v0, v1, v2] := by
  have := ((h.set_ 0 v0).set_ 1 v1).set_ 2 v2
  simpa using this
theorem DSt2.far {w W W' : World} {BB HH p g r : Nat} {bs : List Nat} {l : List Bool} (h : DSt2 w W BB HH p g r bs l) {S : Nat → Prop} (hk : Keep S W W') (h1 : ∀ q, S q → HH ≤ q) (h2 : ¬ S g) (h3 : ¬ S r) : DSt2 w W' BB HH p g r bs l :=
  ⟨h.rd.keep hk (fun i e => .inr (h1 i e)), h.gb.keep hk h2, h.rb.keep hk h3, h.kp.then_ hk (fun i hi e => by have a1 := h.lo; have a5 := h1 i e; obtain ⟨k, ⟨_, _, _, _, _, _, _, a6, a4, _⟩, _⟩ := h.rd; omega), h.lo, Nat.le_trans h.top hk.size⟩
theorem nt_results {fn : Func} {r s : Nat} (h : fn.results = #[.cell r 34, .tmp s]) {w : World} {b : Nat} {v0 v1 v2 v3 v4 v5 : Value} (hb : Blk w b 34 #[v0, v1, v2, v3, v4, v5]) (tmps : Array Value) (ht : tmps.getD r undef = .pointer (some ⟨b, 0, none⟩)) :
    (results fn tmps).run Tryz.prog w = .ok (.tuple #[.agg #[v0, v1, v2, v3, v4, v5], tmps.getD s undef]) w := by
  have q0 : w.cell? ⟨b, 0, none⟩ = some v0 := hb.cell 0
  have q1 : w.cell? ⟨b, 1, none⟩ = some v1 := hb.cell 1
  have q2 : w.cell? ⟨b, 2, none⟩ = some v2 := hb.cell 2
  have q3 : w.cell? ⟨b, 3, none⟩ = some v3 := hb.cell 3
  have q4 : w.cell? ⟨b, 4, none⟩ = some v4 := hb.cell 4
  have q5 : w.cell? ⟨b, 5, none⟩ = some v5 := hb.cell 5
  have ht' : tmps[r]?.getD undef = .pointer (some ⟨b, 0, none⟩) := by rw [← Array.getD_eq_getD_getElem?]; exact ht
  simp [results, h, ht', go_sem, q0, q1, q2, q3, q4, q5]
theorem put6_blk {w : World} {b t : Nat} {u0 u1 u2 u3 u4 u5 : Value} (h : Blk w b t #[u0, u1, u2, u3, u4, u5]) (v0 v1 v2 v3 v4 v5 : Value) : Blk ((((((w.setCell ⟨b, 0, none⟩ v0).setCell ⟨b, 1, none⟩ v1).setCell ⟨b, 2, none⟩ v2).setCell ⟨b, 3, none⟩ v3).setCell ⟨b, 4, none⟩ v4).setCell ⟨b, 5, none⟩ v5) b t #[v0, v1, v2, v3, v4, v5] := by
  have := (((((h.set_ 0 v0).set_ 1 v1).set_ 2 v2).set_ 3 v3).set_ 4 v4).set_ 5 v5
  simpa using this
theorem put6_keep (w : World) (b : Nat) (v0 v1 v2 v3 v4 v5 : Value) : Keep (fun i => i = b) w ((((((w.setCell ⟨b, 0, none⟩ v0).setCell ⟨b, 1, none⟩ v1).setCell ⟨b, 2, none⟩ v2).setCell ⟨b, 3, none⟩ v3).setCell ⟨b, 4, none⟩ v4).setCell ⟨b, 5, none⟩ v5) :=
  ((((((Keep.refl (fun i => i = b) w).set_ (p := ⟨b, 0, none⟩) (.inl rfl) v0).set_ (p := ⟨b, 1, none⟩) (.inl rfl) v1).set_ (p := ⟨b, 2, none⟩) (.inl rfl) v2).set_ (p := ⟨b, 3, none⟩) (.inl rfl) v3).set_ (p := ⟨b, 4, none⟩) (.inl rfl) v4).set_ (p := ⟨b, 5, none⟩) (.inl rfl) v5
theorem spAt_own3 {e : TypeId} {w : World} {base n c : Nat} {A : Option Addr} {l : List Sp} (h : Own w base e 3 A n c (spCells l)) : SpAt w w.heap.size A n c l :=
  ⟨h.rd, (fun e => by
    rcases h.form with ⟨_, _, h2, _⟩ | ⟨_, _, h2, _⟩
    · exact h2
    · rw [e] at h2; cases h2), h.cap_le⟩
/-- what Decode answers -/
def DecRet (z : Nt × Int) (w : World) (e : Ending) (w' : World) : Prop := ∃ x : NA, e = .returned (.tuple #[.agg (x.cs z.1), .int .i64 z.2]) ∧ NtAt w' w'.heap.size x z.1 ∧ Keep Never w w'

set_option maxHeartbeats 16000000 in
set_option maxRecDepth 100000 in
theorem dec20_any (A : Option Addr) (n c B : Nat) (bs : List Nat) (w : World) (hr : Rd w B 1 A n (bs.map u8v)) (h8 : ∀ x ∈ bs, x < 256) (hn : n ≤ 100000) :
    Calls Tryz.prog 17 #[.slice A n c] w (DecRet (decG gP 24 16 bs) w) := by
  have HRd := Lib.hid hr
  have H8 := Lib.hid h8
  have HLn : Hid (bs.length = n) := Lib.hid (by have := hr.1; simpa using this)
  have eg := enters_of Tryz.func38 (by kernel_rfl) rfl
  clear hr h8
  obtain ⟨w1, hw1⟩ : ∃ V : World, w.alloc (.cells #[.int .i64 0, .int .i64 0, .int .i64 0, .int .i64 0, .slice none 0 0, .slice none 0 0] 34) = V := ⟨_, rfl⟩
  have kw1 : Keep Never w w1 := by rw [← hw1]; exact (Keep.refl _ _).alloc _
  have bw1 := Blk.new w 34 #[.int .i64 0, .int .i64 0, .int .i64 0, .int .i64 0, .slice none 0 0, .slice none 0 0]
  rw [hw1] at bw1
  have HB1 := Lib.hid bw1
  have HK := Lib.hid kw1
  clear kw1 bw1
  have HC := Lib.hid (read_any A n c B bs HLn.out w1 (HRd.out.keep HK.out (fun _ h => h.elim)) H8.out (by omega))
  have HB1b := HB1
  go_enter Tryz.func17, Tryz.ntmps17
  go_wp2_with fail
  refine HC.out.mono ?_
  rintro e w2 ⟨p, rfl, hrd, hk2⟩
  obtain ⟨BB, hBB⟩ : ∃ q, w1.heap.size = q := ⟨_, rfl⟩
  obtain ⟨HH, hHH⟩ : ∃ q, w2.heap.size = q := ⟨_, rfl⟩
  rw [hBB, hHH] at hrd
  obtain ⟨w3, hw3⟩ : ∃ V : World, w2.alloc (.cells #[.pointer (some ⟨p, 0, none⟩)] 76) = V := ⟨_, rfl⟩
  have k3 : Keep Never w2 w3 := by rw [← hw3]; exact (Keep.refl _ _).alloc _
  have B3 := Blk.new w2 76 #[.pointer (some ⟨p, 0, none⟩)]
  rw [hw3, hHH] at B3
  have HD : Hid (DSt2 w w3 BB HH p HH w.heap.size bs (bitsB bs)) := Lib.hid ⟨⟨0, hrd.keep k3 (fun _ h => h.elim), by unfold leftB; rw [List.drop_zero]⟩, B3, (HB1.out.keep hk2 (fun h => h)).keep k3 (fun h => h), (HK.out.trans hk2).trans k3, by rw [← hBB]; exact HK.out.size, by rw [← hHH]; exact k3.size⟩
  clear hrd hk2 k3 B3 HC HB1
  have c30 : w3.cell? ⟨HH, 0, none⟩ = some (.pointer (some ⟨p, 0, none⟩)) := HD.out.gb.cell 0
  obtain ⟨⟨v1, l1⟩, hz⟩ : ∃ z, gP (bitsB bs) 8 = z := ⟨_, rfl⟩
  have hw := HD.out.get 8 (by decide) (by decide)
  rw [hz] at hw
  dsimp only at hw
  have HC := Lib.hid hw
  have HZv1 := Lib.hid hz
  have HLv1 : Hid (0 ≤ v1 ∧ v1 < 256) := Lib.hid (by have h1 := gP_lt (bitsB bs) 8 (by decide); rw [show ((8 : Nat) : Int) = 8 from rfl, hz] at h1; simpa using h1)
  clear hw hz
  go_wp2_with fail
  refine HC.out.mono ?_
  rintro en w4 ⟨rfl, hd4, hk4⟩
  have HD4 := Lib.hid hd4
  clear hd4 hk4 HC
  obtain ⟨⟨v2, l2⟩, hz⟩ : ∃ z, gP l1 24 = z := ⟨_, rfl⟩
  have hw := HD4.out.get 24 (by decide) (by decide)
  rw [hz] at hw
  dsimp only at hw
  have HC := Lib.hid hw
  have HZv2 := Lib.hid hz
  have HLv2 : Hid (0 ≤ v2 ∧ v2 < 16777216) := Lib.hid (by have h1 := gP_lt l1 24 (by decide); rw [show ((24 : Nat) : Int) = 24 from rfl, hz] at h1; simpa using h1)
  clear hw hz
  go_wp2_with fail
  refine HC.out.mono ?_
  rintro en w5 ⟨rfl, hd5, hk5⟩
  have HD5 := Lib.hid hd5
  clear hd5 hk5 HC
  obtain ⟨⟨v3, l3⟩, hz⟩ : ∃ z, gP l2 32 = z := ⟨_, rfl⟩
  have hw := HD5.out.get 32 (by decide) (by decide)
  rw [hz] at hw
  dsimp only at hw
  have HC := Lib.hid hw
  have HZv3 := Lib.hid hz
  have HLv3 : Hid (0 ≤ v3 ∧ v3 < 4294967296) := Lib.hid (by have h1 := gP_lt l2 32 (by decide); rw [show ((32 : Nat) : Int) = 32 from rfl, hz] at h1; simpa using h1)
  clear hw hz
  go_wp2_with fail
  refine HC.out.mono ?_
  rintro en w6 ⟨rfl, hd6, hk6⟩
  have HD6 := Lib.hid hd6
  have z0 : (w6.alloc (.cells #[.int .i64 0, .int .i64 0, .int .i64 0, .int .i64 0, .slice none 0 0, .slice none 0 0] 34)).cell? ⟨w6.heap.size, 0, none⟩ = some (.int .i64 0) := (Blk.new w6 34 #[.int .i64 0, .int .i64 0, .int .i64 0, .int .i64 0, .slice none 0 0, .slice none 0 0]).cell 0
  have zf0 : (w6.alloc (.cells #[.int .i64 0, .int .i64 0, .int .i64 0, .int .i64 0, .slice none 0 0, .slice none 0 0] 34)).frozen? ⟨w6.heap.size, 0, none⟩ = false := (Blk.new w6 34 #[.int .i64 0, .int .i64 0, .int .i64 0, .int .i64 0, .slice none 0 0, .slice none 0 0]).frozen 0
  have z1 : (w6.alloc (.cells #[.int .i64 0, .int .i64 0, .int .i64 0, .int .i64 0, .slice none 0 0, .slice none 0 0] 34)).cell? ⟨w6.heap.size, 1, none⟩ = some (.int .i64 0) := (Blk.new w6 34 #[.int .i64 0, .int .i64 0, .int .i64 0, .int .i64 0, .slice none 0 0, .slice none 0 0]).cell 1
  have zf1 : (w6.alloc (.cells #[.int .i64 0, .int .i64 0, .int .i64 0, .int .i64 0, .slice none 0 0, .slice none 0 0] 34)).frozen? ⟨w6.heap.size, 1, none⟩ = false := (Blk.new w6 34 #[.int .i64 0, .int .i64 0, .int .i64 0, .int .i64 0, .slice none 0 0, .slice none 0 0]).frozen 1
  have z2 : (w6.alloc (.cells #[.int .i64 0, .int .i64 0, .int .i64 0, .int .i64 0, .slice none 0 0, .slice none 0 0] 34)).cell? ⟨w6.heap.size, 2, none⟩ = some (.int .i64 0) := (Blk.new w6 34 #[.int .i64 0, .int .i64 0, .int .i64 0, .int .i64 0, .slice none 0 0, .slice none 0 0]).cell 2
  have zf2 : (w6.alloc (.cells #[.int .i64 0, .int .i64 0, .int .i64 0, .int .i64 0, .slice none 0 0, .slice none 0 0] 34)).frozen? ⟨w6.heap.size, 2, none⟩ = false := (Blk.new w6 34 #[.int .i64 0, .int .i64 0, .int .i64 0, .int .i64 0, .slice none 0 0, .slice none 0 0]).frozen 2
  have z3 : (w6.alloc (.cells #[.int .i64 0, .int .i64 0, .int .i64 0, .int .i64 0, .slice none 0 0, .slice none 0 0] 34)).cell? ⟨w6.heap.size, 3, none⟩ = some (.int .i64 0) := (Blk.new w6 34 #[.int .i64 0, .int .i64 0, .int .i64 0, .int .i64 0, .slice none 0 0, .slice none 0 0]).cell 3
  have zf3 : (w6.alloc (.cells #[.int .i64 0, .int .i64 0, .int .i64 0, .int .i64 0, .slice none 0 0, .slice none 0 0] 34)).frozen? ⟨w6.heap.size, 3, none⟩ = false := (Blk.new w6 34 #[.int .i64 0, .int .i64 0, .int .i64 0, .int .i64 0, .slice none 0 0, .slice none 0 0]).frozen 3
  have z4 : (w6.alloc (.cells #[.int .i64 0, .int .i64 0, .int .i64 0, .int .i64 0, .slice none 0 0, .slice none 0 0] 34)).cell? ⟨w6.heap.size, 4, none⟩ = some (.slice none 0 0) := (Blk.new w6 34 #[.int .i64 0, .int .i64 0, .int .i64 0, .int .i64 0, .slice none 0 0, .slice none 0 0]).cell 4
  have zf4 : (w6.alloc (.cells #[.int .i64 0, .int .i64 0, .int .i64 0, .int .i64 0, .slice none 0 0, .slice none 0 0] 34)).frozen? ⟨w6.heap.size, 4, none⟩ = false := (Blk.new w6 34 #[.int .i64 0, .int .i64 0, .int .i64 0, .int .i64 0, .slice none 0 0, .slice none 0 0]).frozen 4
  have z5 : (w6.alloc (.cells #[.int .i64 0, .int .i64 0, .int .i64 0, .int .i64 0, .slice none 0 0, .slice none 0 0] 34)).cell? ⟨w6.heap.size, 5, none⟩ = some (.slice none 0 0) := (Blk.new w6 34 #[.int .i64 0, .int .i64 0, .int .i64 0, .int .i64 0, .slice none 0 0, .slice none 0 0]).cell 5
  have zf5 : (w6.alloc (.cells #[.int .i64 0, .int .i64 0, .int .i64 0, .int .i64 0, .slice none 0 0, .slice none 0 0] 34)).frozen? ⟨w6.heap.size, 5, none⟩ = false := (Blk.new w6 34 #[.int .i64 0, .int .i64 0, .int .i64 0, .int .i64 0, .slice none 0 0, .slice none 0 0]).frozen 5
  clear hd6 hk6 HC
  go_upto_region 4 with (fail)
  clear z0 z1 z2 z3 z4 z5 zf0 zf1 zf2 zf3 zf4 zf5
  obtain ⟨w7, hw7⟩ : ∃ V : World, w6.alloc (.cells #[.int .i64 v1, .int .i64 v2, .int .i64 v3, .int .i64 0, .slice none 0 0, .slice none 0 0] 34) = V := ⟨_, rfl⟩
  have k7 : Keep Never w6 w7 := (by rw [← hw7]; exact (Keep.refl _ _).alloc _)
  have B7 := Blk.new w6 34 #[.int .i64 v1, .int .i64 v2, .int .i64 v3, .int .i64 0, .slice none 0 0, .slice none 0 0]
  rw [hw7] at B7 ⊢
  obtain ⟨bn, hbn⟩ : ∃ q, w6.heap.size = q := ⟨_, rfl⟩
  rw [hbn] at B7 ⊢
  have HD7 := Lib.hid (HD6.out.never k7)
  have Hn7 := Lib.hid B7
  have HNb : Hid (HH ≤ bn ∧ bn ≠ HH ∧ bn ≠ w.heap.size) := Lib.hid ⟨(by rw [← hbn]; exact HD6.out.top), (by rw [← hbn]; have := HD6.out.gb.lt; omega), (by rw [← hbn]; have := HD6.out.rb.lt; omega)⟩
  clear k7 B7 hw7 hbn
  obtain ⟨⟨v4, l4⟩, hz⟩ : ∃ z, gP l3 21 = z := ⟨_, rfl⟩
  have hw := HD7.out.get 21 (by decide) (by decide)
  rw [hz] at hw
  dsimp only at hw
  have HC := Lib.hid hw
  have HZv4 := Lib.hid hz
  have HLv4 : Hid (0 ≤ v4 ∧ v4 < 2097152) := Lib.hid (by have h1 := gP_lt l3 21 (by decide); rw [show ((21 : Nat) : Int) = 21 from rfl, hz] at h1; simpa using h1)
  clear hw hz
  go_wp2_with fail
  refine HC.out.mono ?_
  rintro en w8 ⟨rfl, hd8, hk8⟩
  have HD8 := Lib.hid hd8
  have Hn8 := Lib.hid (Hn7.out.keep hk8 (HD7.out.rd.not Hn7.out (by decide)))
  have n0 : w8.cell? ⟨bn, 0, none⟩ = some (.int .i64 v1) := Hn8.out.cell 0
  have nf0 := Hn8.out.frozen 0
  have n1 : w8.cell? ⟨bn, 1, none⟩ = some (.int .i64 v2) := Hn8.out.cell 1
  have nf1 := Hn8.out.frozen 1
  have n2 : w8.cell? ⟨bn, 2, none⟩ = some (.int .i64 v3) := Hn8.out.cell 2
  have nf2 := Hn8.out.frozen 2
  have n3 : w8.cell? ⟨bn, 3, none⟩ = some (.int .i64 0) := Hn8.out.cell 3
  have nf3 := Hn8.out.frozen 3
  have n4 : w8.cell? ⟨bn, 4, none⟩ = some (.slice none 0 0) := Hn8.out.cell 4
  have nf4 := Hn8.out.frozen 4
  have n5 : w8.cell? ⟨bn, 5, none⟩ = some (.slice none 0 0) := Hn8.out.cell 5
  have nf5 := Hn8.out.frozen 5
  clear hd8 hk8 HC
  go_upto_region 5 with (fail)
  have hwr : wrap64 (v4 * 1048576) = v4 * 1048576 := by have h1 := HLv4.out; have h2 : IntKind.i64.wrap (v4 * 1048576) = v4 * 1048576 := IntWalk.i64_in _ (by omega); rwa [IntWalk.i64_left] at h2
  rw [hwr]
  clear n0 n1 n2 n3 n4 n5 nf0 nf1 nf2 nf3 nf4 nf5 hwr
  obtain ⟨w9, hw9⟩ : ∃ V : World, w8.setCell ⟨bn, 3, none⟩ (.int .i64 (v4 * 1048576)) = V := ⟨_, rfl⟩
  rw [hw9]
  have hk9 : Keep (fun i => i = bn) w8 w9 := by rw [← hw9]; exact (Keep.refl (fun i => i = bn) w8).set_ (p := ⟨bn, 3, none⟩) (.inl rfl) _
  have Hn9 : Hid (Blk w9 bn 34 #[.int .i64 v1, .int .i64 v2, .int .i64 v3, .int .i64 (v4 * 1048576), .slice none 0 0, .slice none 0 0]) := Lib.hid (by rw [← hw9]; have := Hn8.out.set_ 3 (.int .i64 (v4 * 1048576)); simpa using this)
  have HD9 := Lib.hid (HD8.out.put hk9 HNb.out.1 HNb.out.2.1 HNb.out.2.2)
  clear hw9 hk9
  obtain ⟨⟨v5, l5⟩, hz⟩ : ∃ z, gP l4 20 = z := ⟨_, rfl⟩
  have HC5 : Hid (∀ V, DSt2 w V BB HH p HH w.heap.size bs l4 → Calls Tryz.prog 38 #[.int .i64 20, .pointer (some ⟨HH, 0, none⟩)] V fun e w' => e = .returned (.int .i64 v5) ∧ DSt2 w w' BB HH p HH w.heap.size bs l5 ∧ Keep (fun q => q = p) V w') := Lib.hid (fun V h => by have hw := h.get 20 (by decide) (by decide); rw [hz] at hw; exact hw)
  have HZv5 := Lib.hid hz
  have HLv5 : Hid (0 ≤ v5 ∧ v5 < 1048576) := Lib.hid (by have h1 := gP_lt l4 20 (by decide); rw [show ((20 : Nat) : Int) = 20 from rfl, hz] at h1; simpa using h1)
  have hor := or20 v4 v5 HLv4.out.1 HLv4.out.2 HLv5.out.1 HLv5.out.2
  obtain ⟨un, hun⟩ : ∃ z, v4 * 1048576 + v5 = z := ⟨_, rfl⟩
  rw [hun] at hor
  have HUn := Lib.hid hun
  clear hz hun
  have n3 : w9.cell? ⟨bn, 3, none⟩ = some (.int .i64 (v4 * 1048576)) := Hn9.out.cell 3
  go_cut [] (fun wc => Hid (DSt2 w wc BB HH p HH w.heap.size bs l5 ∧ Blk wc bn 34 #[.int .i64 v1, .int .i64 v2, .int .i64 v3, .int .i64 un, .slice none 0 0, .slice none 0 0]))
  case first =>
    go_region_law (go_simp; refine (HC5.out _ (by first | exact HD9.out | exact HD9.out.never ((Keep.refl Never _).drew))).mono ?_; rintro en w10 ⟨rfl, hd10, hk10⟩; have HD10 := Lib.hid hd10; have Hn10 := Lib.hid (Blk.keep (w := w9.drew) Hn9.out.drew (by first | exact hk10 | exact hk10.drewL) (HD9.out.rd.not Hn9.out (by decide))); have m3 : w10.cell? ⟨bn, 3, none⟩ = some (.int .i64 (v4 * 1048576)) := Hn10.out.cell 3; have mf3 := Hn10.out.frozen 3; clear hd10 hk10)
    all_goals
      go_wp2_with fail
      go_meet
      have hk11 : Keep (fun i => i = bn) w10 (w10.setCell ⟨bn, 3, none⟩ (.int .i64 un)) := (Keep.refl (fun i => i = bn) w10).set_ (p := ⟨bn, 3, none⟩) (.inl rfl) _
      refine Lib.hid ⟨HD10.out.put hk11 HNb.out.1 HNb.out.2.1 HNb.out.2.2, ?_⟩
      have := Hn10.out.set_ 3 (.int .i64 un)
      simpa using this
  case rest =>
  have hR := hcut
  rename World => w11
  have HD11 := Lib.hid hR.out.1
  have Hn11 := Lib.hid hR.out.2
  clear hR n3 hor HC5
  obtain ⟨⟨v6, l6⟩, hz⟩ : ∃ z, gP l5 8 = z := ⟨_, rfl⟩
  have hw := HD11.out.get 8 (by decide) (by decide)
  rw [hz] at hw
  dsimp only at hw
  have HC := Lib.hid hw
  have HZv6 := Lib.hid hz
  have HLv6 : Hid (0 ≤ v6 ∧ v6 < 256) := Lib.hid (by have h1 := gP_lt l5 8 (by decide); rw [show ((8 : Nat) : Int) = 8 from rfl, hz] at h1; simpa using h1)
  clear hw hz
  go_wp2_with fail
  refine HC.out.mono ?_
  rintro en w12 ⟨rfl, hd12, hk12⟩
  have HD12 := Lib.hid hd12
  have Hn12 := Lib.hid (Hn11.out.keep hk12 (HD11.out.rd.not Hn11.out (by decide)))
  clear hd12 hk12 HC
  obtain ⟨M, hM⟩ : ∃ M : Nat, min v6 24 = (M : Int) := ⟨(min v6 24).toNat, by have := HLv6.out; omega⟩
  have HMv : Hid (M = min v6.toNat 24) := Lib.hid (by have := HLv6.out; omega)
  have hM24 : M ≤ 24 := by omega
  go_wp2_with fail
  go_loopw [34] (fun si wr => ∃ (k no co : Nat) (Ao : Option Addr), k ≤ M ∧ si = .int .i64 k ∧ no ≤ k ∧ Hid (DSt2 w wr BB HH p HH w.heap.size bs (locksG gP v2 k l6).2 ∧ Blk wr bn 34 #[.int .i64 v1, .int .i64 v2, .int .i64 v3, .int .i64 un, .slice Ao no co, .slice none 0 0] ∧ Own wr HH 57 3 Ao no co (spCells (locksG gP v2 k l6).1))) (fun si _ => M - (intOf si).toNat)
  case atStart => exact ⟨0, 0, 0, none, by omega, rfl, by omega, Lib.hid ⟨HD12.out, Hn12.out, Own.nil _ _ _ _⟩⟩
  case round =>
    obtain ⟨k, no, co, Ao, hk, rfl, hno, HH2⟩ := hrel
    have HDr := Lib.hid HH2.out.1
    have Hnr := Lib.hid HH2.out.2.1
    have HOr := Lib.hid HH2.out.2.2
    clear HH2
    by_cases h0 : k < M
    · have hki : (k : Int) < (M : Int) := by omega
      obtain ⟨lk, hlk⟩ : ∃ z, (locksG gP v2 k l6).2 = z := ⟨_, rfl⟩
      rw [hlk] at HDr
      obtain ⟨⟨v7, l7⟩, hz7⟩ : ∃ z, gP lk 16 = z := ⟨_, rfl⟩
      obtain ⟨⟨v8, l8⟩, hz8⟩ : ∃ z, gP l7 20 = z := ⟨_, rfl⟩
      obtain ⟨⟨v9, l9⟩, hz9⟩ : ∃ z, gP l8 20 = z := ⟨_, rfl⟩
      have HNx : Hid (locksG gP v2 (k + 1) l6 = ((locksG gP v2 k l6).1 ++ [(v7, v2, v8 * 1048576 + v9)], l9)) := Lib.hid (by
        show ((locksG gP v2 k l6).1 ++ _, _) = _
        rw [hlk, hz7]
        simp only
        rw [hz8]
        simp only
        rw [hz9])
      have HC7 : Hid (∀ V, DSt2 w V BB HH p HH w.heap.size bs lk → Calls Tryz.prog 38 #[.int .i64 16, .pointer (some ⟨HH, 0, none⟩)] V fun e w' => e = .returned (.int .i64 v7) ∧ DSt2 w w' BB HH p HH w.heap.size bs l7 ∧ Keep (fun q => q = p) V w') := Lib.hid (fun V h => by have hw := h.get 16 (by decide) (by decide); rw [hz7] at hw; exact hw)
      have HC8 : Hid (∀ V, DSt2 w V BB HH p HH w.heap.size bs l7 → Calls Tryz.prog 38 #[.int .i64 20, .pointer (some ⟨HH, 0, none⟩)] V fun e w' => e = .returned (.int .i64 v8) ∧ DSt2 w w' BB HH p HH w.heap.size bs l8 ∧ Keep (fun q => q = p) V w') := Lib.hid (fun V h => by have hw := h.get 20 (by decide) (by decide); rw [hz8] at hw; exact hw)
      have HC9 : Hid (∀ V, DSt2 w V BB HH p HH w.heap.size bs l8 → Calls Tryz.prog 38 #[.int .i64 20, .pointer (some ⟨HH, 0, none⟩)] V fun e w' => e = .returned (.int .i64 v9) ∧ DSt2 w w' BB HH p HH w.heap.size bs l9 ∧ Keep (fun q => q = p) V w') := Lib.hid (fun V h => by have hw := h.get 20 (by decide) (by decide); rw [hz9] at hw; exact hw)
      have hb8 : 0 ≤ v8 ∧ v8 < 1048576 := by have h1 := gP_lt l7 20 (by decide); rw [show ((20 : Nat) : Int) = 20 from rfl, hz8] at h1; simpa using h1
      have hb9 : 0 ≤ v9 ∧ v9 < 1048576 := by have h1 := gP_lt l8 20 (by decide); rw [show ((20 : Nat) : Int) = 20 from rfl, hz9] at h1; simpa using h1
      have hor := or20 v8 v9 hb8.1 (by omega) hb9.1 hb9.2
      have hwr : wrap64 (v8 * 1048576) = v8 * 1048576 := by have h2 : IntKind.i64.wrap (v8 * 1048576) = v8 * 1048576 := IntWalk.i64_in _ (by omega); rwa [IntWalk.i64_left] at h2
      obtain ⟨v10, hv10⟩ : ∃ z, v8 * 1048576 = z := ⟨_, rfl⟩
      rw [hv10] at hor hwr HNx
      obtain ⟨v11, hv11⟩ : ∃ z, v10 + v9 = z := ⟨_, rfl⟩
      rw [hv11] at hor HNx
      have HOr10 := Lib.hid hor
      have HWr10 := Lib.hid hwr
      have HV10 := Lib.hid hv10
      clear hlk hz7 hz8 hz9 hb8 hb9 hor hwr hv10 hv11
      have n1 : wr.cell? ⟨bn, 1, none⟩ = some (.int .i64 v2) := Hnr.out.cell 1
      have HS2 : Hid (∀ W', Keep (fun q => q = p) wr W' → Keep (fun q => q = p) wr W' ∧ W'.cell? ⟨bn, 1, none⟩ = some (.int .i64 v2)) := Lib.hid (fun W' h => ⟨h, (h.cell (cell_lt n1) (HDr.out.rd.not Hnr.out (by decide))).trans n1⟩)
      have hdn : ∀ V, Keep Never wr V → DSt2 w V BB HH p HH w.heap.size bs lk := fun V h => HDr.out.never h
      have HDn := Lib.hid hdn
      clear hdn
      go_wp2_with fail
      clear n1
      go_region_held3 (fun W' => Keep (fun q => q = p) wr W' ∧ W'.cell? ⟨bn, 1, none⟩ = some (.int .i64 v2))
        (first | assumption | exact HS2.out _ ((Keep.refl _ wr).drew) | exact HS2.out _ (Keep.trans (And.left (by assumption)) hk9) | exact HS2.out _ (Keep.trans ((Keep.refl _ wr).drew) hk9) | exact HS2.out _ (Keep.alloc (And.left (by assumption)) _) | exact HS2.out _ (Keep.alloc HK9.out _) | exact HS2.out _ (put3S_keep HK9.out (.inr (by first | exact Nat.le_refl _ | exact HK9.out.size)) _ _ _) | exact HS2.out _ (put3S_keep (And.left (by assumption)) (.inr (by first | exact Nat.le_refl _ | exact (Keep.size (And.left (by assumption))) | omega)) _ _ _))
        (first
          | (refine (HC7.out _ (HDn.out _ (by first | exact (Keep.refl Never wr).drew | exact ((Keep.refl Never wr).drew).alloc _ | exact ((Keep.refl Never wr).alloc _).drew | exact (Keep.refl Never wr).alloc _))).mono ?_; rintro en w9 ⟨rfl, hd9, hk9⟩; have HD9 := Lib.hid hd9; have HK9 : Hid (Keep (fun q => q = p) wr w9) := Lib.hid (by first | exact Keep.trans (And.left (by assumption)) hk9 | exact Keep.trans ((Keep.refl _ wr).drew) hk9); clear hd9; have nb9 : Hid (Blk w9 wr.heap.size 57 #[.int .i64 0, .int .i64 0, .int .i64 0]) := Lib.hid (by first | exact Blk.keep (Blk.new wr 57 #[.int .i64 0, .int .i64 0, .int .i64 0]) hk9 (by have := HDr.out.rd.lo; omega) | exact Blk.keep (Blk.drew (Blk.new wr 57 #[.int .i64 0, .int .i64 0, .int .i64 0])) hk9 (by have := HDr.out.rd.lo; omega) | exact Blk.keep (Blk.new wr.drew 57 #[.int .i64 0, .int .i64 0, .int .i64 0]) hk9 (by have := HDr.out.rd.lo; omega)); have q0 : w9.cell? ⟨wr.heap.size, 0, none⟩ = some (.int .i64 0) := nb9.out.cell 0; have q1 : w9.cell? ⟨wr.heap.size, 1, none⟩ = some (.int .i64 0) := nb9.out.cell 1; have q2 : w9.cell? ⟨wr.heap.size, 2, none⟩ = some (.int .i64 0) := nb9.out.cell 2; have m0 := nb9.out.frozen 0; have m1 := nb9.out.frozen 1; have m2 := nb9.out.frozen 2)
          | (refine (HC7.out _ (HDn.out _ (by first | exact (Keep.refl Never wr).drew | exact ((Keep.refl Never wr).drew).alloc _ | exact ((Keep.refl Never wr).alloc _).drew | exact (Keep.refl Never wr).alloc _))).mono ?_; rintro en w9 ⟨rfl, hd9, hk9⟩; have HD9 := Lib.hid hd9; have HK9 : Hid (Keep (fun q => q = p) wr w9) := Lib.hid (by first | exact Keep.trans (And.left (by assumption)) hk9 | exact Keep.trans ((Keep.refl _ wr).drew) hk9); clear hd9; have q0 : (w9.alloc (.cells #[.int .i64 0, .int .i64 0, .int .i64 0] 57)).cell? ⟨w9.heap.size, 0, none⟩ = some (.int .i64 0) := (Blk.new w9 57 #[.int .i64 0, .int .i64 0, .int .i64 0]).cell 0; have q1 : (w9.alloc (.cells #[.int .i64 0, .int .i64 0, .int .i64 0] 57)).cell? ⟨w9.heap.size, 1, none⟩ = some (.int .i64 0) := (Blk.new w9 57 #[.int .i64 0, .int .i64 0, .int .i64 0]).cell 1; have q2 : (w9.alloc (.cells #[.int .i64 0, .int .i64 0, .int .i64 0] 57)).cell? ⟨w9.heap.size, 2, none⟩ = some (.int .i64 0) := (Blk.new w9 57 #[.int .i64 0, .int .i64 0, .int .i64 0]).cell 2; have m0 := (Blk.new w9 57 #[.int .i64 0, .int .i64 0, .int .i64 0]).frozen 0; have m1 := (Blk.new w9 57 #[.int .i64 0, .int .i64 0, .int .i64 0]).frozen 1; have m2 := (Blk.new w9 57 #[.int .i64 0, .int .i64 0, .int .i64 0]).frozen 2))
      all_goals
        rename_i hS
        clear hS q0 q1 q2 m0 m1 m2 hk9
        first
          | (obtain ⟨w10, hw10⟩ : ∃ V : World, w9.alloc (.cells #[.int .i64 v7, .int .i64 v2, .int .i64 0] 57) = V := ⟨_, rfl⟩
             rw [hw10]
             have HK10 : Hid (Keep (fun q => q = p) wr w10) := Lib.hid (by rw [← hw10]; exact Keep.alloc HK9.out _)
             have HD10 : Hid (DSt2 w w10 BB HH p HH w.heap.size bs l7) := Lib.hid (HD9.out.never (by rw [← hw10]; exact (Keep.refl _ _).alloc _))
             have HL10 := Blk.new w9 57 #[.int .i64 v7, .int .i64 v2, .int .i64 0]
             obtain ⟨bl, hbl⟩ : ∃ q, w9.heap.size = q := ⟨_, rfl⟩
             have hb2 : wr.heap.size ≤ bl := by rw [← hbl]; exact HK9.out.size
             rw [hw10] at HL10
             rw [hbl] at HL10 ⊢)
          | (obtain ⟨w10, hw10⟩ : ∃ V : World, ((w9.setCell ⟨wr.heap.size, 0, none⟩ (.int .i64 v7)).setCell ⟨wr.heap.size, 1, none⟩ (.int .i64 v2)).setCell ⟨wr.heap.size, 2, none⟩ (.int .i64 0) = V := ⟨_, rfl⟩
             rw [hw10]
             have HK10 : Hid (Keep (fun q => q = p) wr w10) := Lib.hid (by rw [← hw10]; exact put3S_keep HK9.out (.inr (Nat.le_refl _)) _ _ _)
             have HL10 := put3S_blk nb9.out (.int .i64 v7) (.int .i64 v2) (.int .i64 0)
             have hsz9 := HDr.out.top
             have HD10 : Hid (DSt2 w w10 BB HH p HH w.heap.size bs l7) := Lib.hid (HD9.out.put (by rw [← hw10]; exact put3S_keep (Keep.refl (fun i => i = wr.heap.size) _) (.inl rfl) _ _ _) hsz9 (by have := HDr.out.gb.lt; omega) (by have := HDr.out.rb.lt; omega))
             clear nb9 hsz9
             obtain ⟨bl, hbl⟩ : ∃ q, wr.heap.size = q := ⟨_, rfl⟩
             have hb2 : wr.heap.size ≤ bl := by omega
             rw [hw10] at HL10
             rw [hbl] at HL10 ⊢)
        have Hl10 := Lib.hid HL10
        have Hn10 := Lib.hid (Hnr.out.keep HK10.out (HDr.out.rd.not Hnr.out (by decide)))
        have HO10 := Lib.hid (HOr.out.keep HK10.out (fun q hq e => by subst e; have a1 := (HOr.out.row hq).1; obtain ⟨_, ⟨_, _, _, _, _, _, _, a6, a4, _⟩, _⟩ := HDr.out.rd; omega))
        have HBl : Hid (HH ≤ bl ∧ bl ≠ HH ∧ bl ≠ w.heap.size ∧ bl ≠ bn ∧ ∀ q, InRow Ao q → q ≠ bl) := Lib.hid ⟨by have := HDr.out.top; omega, by have := HDr.out.gb.lt; omega, by have := HDr.out.rb.lt; omega, by have := Hnr.out.lt; omega, fun q hq e => by have := (HOr.out.row hq).2; omega⟩
        clear HL10 hb2 hw10 hbl HK9 HK10 HD9
        go_wp2_with fail
        refine (HC8.out _ HD10.out).mono ?_
        rintro en w11 ⟨rfl, hd11, hk11⟩
        have HD11 := Lib.hid hd11
        have Hl11 := Lib.hid (Hl10.out.keep hk11 (HD10.out.rd.not Hl10.out (by decide)))
        have Hn11 := Lib.hid (Hn10.out.keep hk11 (HD10.out.rd.not Hn10.out (by decide)))
        have HO11 := Lib.hid (HO10.out.keep hk11 (fun q hq e => by subst e; have a1 := (HO10.out.row hq).1; obtain ⟨_, ⟨_, _, _, _, _, _, _, a6, a4, _⟩, _⟩ := HD10.out.rd; omega))
        clear hd11 hk11
        have z0 : w11.cell? ⟨bl, 0, none⟩ = some (.int .i64 v7) := Hl11.out.cell 0
        have zf0 := Hl11.out.frozen 0
        have z1 : w11.cell? ⟨bl, 1, none⟩ = some (.int .i64 v2) := Hl11.out.cell 1
        have zf1 := Hl11.out.frozen 1
        have z2 : w11.cell? ⟨bl, 2, none⟩ = some (.int .i64 0) := Hl11.out.cell 2
        have zf2 := Hl11.out.frozen 2
        go_upto_region 10 with (fail)
        rw [HV10.out, HWr10.out]
        clear z0 z1 z2 zf0 zf1 zf2
        obtain ⟨w13, hw13⟩ : ∃ V : World, w11.setCell ⟨bl, 2, none⟩ (.int .i64 v10) = V := ⟨_, rfl⟩
        rw [hw13]
        have hk13 : Keep (fun i => i = bl) w11 w13 := by rw [← hw13]; exact (Keep.refl (fun i => i = bl) w11).set_ (p := ⟨bl, 2, none⟩) (.inl rfl) _
        have Hl13 : Hid (Blk w13 bl 57 #[.int .i64 v7, .int .i64 v2, .int .i64 v10]) := Lib.hid (by rw [← hw13]; have := Hl11.out.set_ 2 (.int .i64 v10); simpa using this)
        have HD13 := Lib.hid (HD11.out.put hk13 HBl.out.1 HBl.out.2.1 HBl.out.2.2.1)
        have Hn13 := Lib.hid (Hn11.out.keep hk13 (fun e => HBl.out.2.2.2.1 e.symm))
        have HO13 := Lib.hid (HO11.out.keep hk13 HBl.out.2.2.2.2)
        clear hw13 hk13
        have hor := HOr10.out
        have q2 : w13.cell? ⟨bl, 2, none⟩ = some (.int .i64 v10) := Hl13.out.cell 2
        go_cut [] (fun wc => Hid (DSt2 w wc BB HH p HH w.heap.size bs l9 ∧ Blk wc bl 57 #[.int .i64 v7, .int .i64 v2, .int .i64 v11] ∧ Blk wc bn 34 #[.int .i64 v1, .int .i64 v2, .int .i64 v3, .int .i64 un, .slice Ao no co, .slice none 0 0] ∧ Own wc HH 57 3 Ao no co (spCells (locksG gP v2 k l6).1)))
        case first =>
          go_region_law (go_simp; refine (HC9.out _ (by first | exact HD13.out | exact HD13.out.never ((Keep.refl Never _).drew))).mono ?_; rintro en w14 ⟨rfl, hd14, hk14⟩; have HD14 := Lib.hid hd14; have Hl14 := Lib.hid (Blk.keep (w := w13.drew) Hl13.out.drew (by first | exact hk14 | exact hk14.drewL) (HD13.out.rd.not Hl13.out (by decide))); have Hn14 := Lib.hid (Blk.keep (w := w13.drew) Hn13.out.drew (by first | exact hk14 | exact hk14.drewL) (HD13.out.rd.not Hn13.out (by decide))); have HO14 := Lib.hid (Own.keep (w := w13.drew) HO13.out.drew (by first | exact hk14 | exact hk14.drewL) (fun q hq e => by subst e; have a1 := (HO13.out.row hq).1; obtain ⟨_, ⟨_, _, _, _, _, _, _, a6, a4, _⟩, _⟩ := HD13.out.rd; omega)); have m2 : w14.cell? ⟨bl, 2, none⟩ = some (.int .i64 v10) := Hl14.out.cell 2; have mf2 := Hl14.out.frozen 2; clear hd14 hk14)
          all_goals
            go_wp2_with fail
            go_meet
            have hk15 : Keep (fun i => i = bl) w14 (w14.setCell ⟨bl, 2, none⟩ (.int .i64 v11)) := (Keep.refl (fun i => i = bl) w14).set_ (p := ⟨bl, 2, none⟩) (.inl rfl) _
            refine Lib.hid ⟨HD14.out.put hk15 HBl.out.1 HBl.out.2.1 HBl.out.2.2.1, ?_, Hn14.out.keep hk15 (fun e => HBl.out.2.2.2.1 e.symm), HO14.out.keep hk15 HBl.out.2.2.2.2⟩
            have := Hl14.out.set_ 2 (.int .i64 v11)
            simpa using this
        case rest =>
        have hR := hcut
        rename World => w15
        have HD15 := Lib.hid hR.out.1
        have Hl15 := Lib.hid hR.out.2.1
        have Hn15 := Lib.hid hR.out.2.2.1
        have HO15 := Lib.hid hR.out.2.2.2
        clear hR q2 hor
        have n4 : w15.cell? ⟨bn, 4, none⟩ = some (.slice Ao no co) := Hn15.out.cell 4
        have nf4 := Hn15.out.frozen 4
        have x0 : w15.cell? ⟨bl, 0, none⟩ = some (.int .i64 v7) := Hl15.out.cell 0
        have x1 : w15.cell? ⟨bl, 1, none⟩ = some (.int .i64 v2) := Hl15.out.cell 1
        have x2 : w15.cell? ⟨bl, 2, none⟩ = some (.int .i64 v11) := Hl15.out.cell 2
        have hsz : HH ≤ (w15.alloc (.cells #[.int .i64 v7, .int .i64 v2, .int .i64 v11] 57)).heap.size := by have := HD15.out.top; simp; omega
        go_wp2_with (at_builtin; refine wpList_app _ rfl (.tmp 52) (.tmp 54) _ rfl elemLo HH (A := Ao) (n := no) (c := co) (by go_simp) (HO15.out.alloc _) _ (A' := some ⟨w15.heap.size, 0, none⟩) (m := 1) (c' := 1) (by go_simp) (Rd.of_blk (n := 1) (cs := [.int .i64 v7, .int .i64 v2, .int .i64 v11]) (Blk.new w15 _ _) rfl) (by simp [Value.oneCell']) (by omega) (by unfold maxLen; omega) hsz ?_; intro A5 c5 w16 hown hk hrow; have hk16 : Keep (InRow Ao) w15 w16 := ((Keep.refl (InRow Ao) _).alloc _).trans hk; have HO16 := Lib.hid hown; have Hn16 := Lib.hid (Hn15.out.keep hk16 (fun h => HO15.out.ne_blk Hn15.out (by decide) bn h rfl)); have HD16 := Lib.hid (HD15.out.far hk16 (fun q hq => (HO15.out.row hq).1) (fun h => HO15.out.ne_blk HD15.out.gb (by decide) _ h rfl) (fun h => HO15.out.ne_blk HD15.out.rb (by decide) _ h rfl)); have o4 : w16.cell? ⟨bn, 4, none⟩ = some (.slice Ao no co) := Hn16.out.cell 4; have f4 := Hn16.out.frozen 4; clear hown hk hrow hk16)
        go_roundw
        case measure => simp [intOf]; try omega
        case rel =>
          have hk17 : Keep (fun i => i = bn) w16 (w16.setCell ⟨bn, 4, none⟩ (.slice A5 (no + 1) c5)) := (Keep.refl (fun i => i = bn) w16).set_ (p := ⟨bn, 4, none⟩) (.inl rfl) _
          refine ⟨k + 1, no + 1, c5, A5, by omega, by go_num, by omega, Lib.hid ⟨?_, ?_, ?_⟩⟩
          · rw [HNx.out]; exact HD16.out.put hk17 HNb.out.1 HNb.out.2.1 HNb.out.2.2
          · have := Hn16.out.set_ 4 (.slice A5 (no + 1) c5)
            simpa using this
          · rw [HNx.out, spCells_app]
            exact HO16.out.far (p := ⟨bn, 4, none⟩) (HO16.out.ne_blk Hn16.out (by decide)) _
    · have hki : ¬ (k : Int) < (M : Int) := by omega
      obtain rfl : k = M := by omega
      obtain ⟨⟨Lo, l10⟩, hLo⟩ : ∃ z, locksG gP v2 k l6 = z := ⟨_, rfl⟩
      rw [hLo] at HDr HOr
      dsimp only at HDr HOr
      have HLo := Lib.hid hLo
      clear hLo
      obtain ⟨⟨v12, l12⟩, hz⟩ : ∃ z, gP l10 8 = z := ⟨_, rfl⟩
      have hw := HDr.out.get 8 (by decide) (by decide)
      rw [hz] at hw
      dsimp only at hw
      have HC := Lib.hid hw
      have HZv12 := Lib.hid hz
      have HLv12 : Hid (0 ≤ v12 ∧ v12 < 256) := Lib.hid (by have h1 := gP_lt l10 8 (by decide); rw [show ((8 : Nat) : Int) = 8 from rfl, hz] at h1; simpa using h1)
      clear hw hz
      go_wp2_with fail
      refine HC.out.mono ?_
      rintro en w20 ⟨rfl, hd20, hk20⟩
      have HD20 := Lib.hid hd20
      have Hn20 := Lib.hid (Hnr.out.keep hk20 (HDr.out.rd.not Hnr.out (by decide)))
      have HO20 := Lib.hid (HOr.out.keep hk20 (fun q hq e => by subst e; have a1 := (HOr.out.row hq).1; obtain ⟨_, ⟨_, _, _, _, _, _, _, a6, a4, _⟩, _⟩ := HDr.out.rd; omega))
      clear hd20 hk20 HC
      obtain ⟨M2, hM2⟩ : ∃ M2 : Nat, min v12 16 = (M2 : Int) := ⟨(min v12 16).toNat, by have := HLv12.out; omega⟩
      have HMv2 : Hid (M2 = min v12.toNat 16) := Lib.hid (by have := HLv12.out; omega)
      have hM16 : M2 ≤ 16 := by omega
      go_wp2_with fail
      go_loopw [61] (fun si wq => ∃ (q ns cs : Nat) (As : Option Addr), q ≤ M2 ∧ si = .int .i64 q ∧ ns ≤ q ∧ Hid (DSt2 w wq BB HH p HH w.heap.size bs (hereG gP q l12).2 ∧ Blk wq bn 34 #[.int .i64 v1, .int .i64 v2, .int .i64 v3, .int .i64 un, .slice Ao no co, .slice As ns cs] ∧ Own wq HH 57 3 Ao no co (spCells Lo) ∧ Own wq HH 74 3 As ns cs (spCells (hereG gP q l12).1))) (fun si _ => M2 - (intOf si).toNat)
      case atStart => exact ⟨0, 0, 0, none, by omega, rfl, by omega, Lib.hid ⟨HD20.out, Hn20.out, HO20.out, Own.nil _ _ _ _⟩⟩
      case round =>
        obtain ⟨q, ns, cs, As, hq, rfl, hns, HH2⟩ := hrel
        have HDq := Lib.hid HH2.out.1
        have Hnq := Lib.hid HH2.out.2.1
        have HOq := Lib.hid HH2.out.2.2.1
        have HSq := Lib.hid HH2.out.2.2.2
        clear HH2
        by_cases h1 : q < M2
        · have hqi : (q : Int) < (M2 : Int) := by omega
          obtain ⟨lq, hlq⟩ : ∃ z, (hereG gP q l12).2 = z := ⟨_, rfl⟩
          rw [hlq] at HDq
          have HLq := Lib.hid hlq
          clear hlq
          obtain ⟨⟨v13, l13⟩, hz⟩ : ∃ z, gP lq 8 = z := ⟨_, rfl⟩
          have hw := HDq.out.get 8 (by decide) (by decide)
          rw [hz] at hw
          dsimp only at hw
          have HC := Lib.hid hw
          have HZv13 := Lib.hid hz
          have HLv13 : Hid (0 ≤ v13 ∧ v13 < 256) := Lib.hid (by have h1 := gP_lt lq 8 (by decide); rw [show ((8 : Nat) : Int) = 8 from rfl, hz] at h1; simpa using h1)
          clear hw hz
          go_wp2_with fail
          refine HC.out.mono ?_
          rintro en w21 ⟨rfl, hd21, hk21⟩
          have HD21 := Lib.hid hd21
          have Hn21 := Lib.hid (Hnq.out.keep hk21 (HDq.out.rd.not Hnq.out (by decide)))
          have HO21 := Lib.hid (HOq.out.keep hk21 (fun q hq e => by subst e; have a1 := (HOq.out.row hq).1; obtain ⟨_, ⟨_, _, _, _, _, _, _, a6, a4, _⟩, _⟩ := HDq.out.rd; omega))
          have HS21 := Lib.hid (HSq.out.keep hk21 (fun q hq e => by subst e; have a1 := (HSq.out.row hq).1; obtain ⟨_, ⟨_, _, _, _, _, _, _, a6, a4, _⟩, _⟩ := HDq.out.rd; omega))
          have z0 : (w21.alloc (.cells #[.int .i64 0, .int .i64 0, .int .i64 0] 74)).cell? ⟨w21.heap.size, 0, none⟩ = some (.int .i64 0) := (Blk.new w21 74 #[.int .i64 0, .int .i64 0, .int .i64 0]).cell 0
          have zf0 : (w21.alloc (.cells #[.int .i64 0, .int .i64 0, .int .i64 0] 74)).frozen? ⟨w21.heap.size, 0, none⟩ = false := (Blk.new w21 74 #[.int .i64 0, .int .i64 0, .int .i64 0]).frozen 0
          have z1 : (w21.alloc (.cells #[.int .i64 0, .int .i64 0, .int .i64 0] 74)).cell? ⟨w21.heap.size, 1, none⟩ = some (.int .i64 0) := (Blk.new w21 74 #[.int .i64 0, .int .i64 0, .int .i64 0]).cell 1
          have zf1 : (w21.alloc (.cells #[.int .i64 0, .int .i64 0, .int .i64 0] 74)).frozen? ⟨w21.heap.size, 1, none⟩ = false := (Blk.new w21 74 #[.int .i64 0, .int .i64 0, .int .i64 0]).frozen 1
          have z2 : (w21.alloc (.cells #[.int .i64 0, .int .i64 0, .int .i64 0] 74)).cell? ⟨w21.heap.size, 2, none⟩ = some (.int .i64 0) := (Blk.new w21 74 #[.int .i64 0, .int .i64 0, .int .i64 0]).cell 2
          have zf2 : (w21.alloc (.cells #[.int .i64 0, .int .i64 0, .int .i64 0] 74)).frozen? ⟨w21.heap.size, 2, none⟩ = false := (Blk.new w21 74 #[.int .i64 0, .int .i64 0, .int .i64 0]).frozen 2
          clear hd21 hk21 HC
          go_upto_region 16 with (fail)
          clear z0 z1 z2 zf0 zf1 zf2
          obtain ⟨w22, hw22⟩ : ∃ V : World, w21.alloc (.cells #[.int .i64 v13, .int .i64 0, .int .i64 0] 74) = V := ⟨_, rfl⟩
          have k22 : Keep Never w21 w22 := (by rw [← hw22]; exact (Keep.refl _ _).alloc _)
          have B22 := Blk.new w21 74 #[.int .i64 v13, .int .i64 0, .int .i64 0]
          rw [hw22] at B22 ⊢
          obtain ⟨bp, hbp⟩ : ∃ q, w21.heap.size = q := ⟨_, rfl⟩
          rw [hbp] at B22 ⊢
          have HD22 := Lib.hid (HD21.out.never k22)
          have Hn22 := Lib.hid (Hn21.out.keep k22 (fun h => h))
          have HO22 := Lib.hid (HO21.out.keep k22 (fun _ _ h => h))
          have HS22 := Lib.hid (HS21.out.keep k22 (fun _ _ h => h))
          have Hp22 := Lib.hid B22
          have HBp : Hid (HH ≤ bp ∧ bp ≠ HH ∧ bp ≠ w.heap.size ∧ bp ≠ bn ∧ (∀ q, InRow Ao q → q ≠ bp) ∧ ∀ q, InRow As q → q ≠ bp) := Lib.hid ⟨by have := HD21.out.top; omega, by have := HD21.out.gb.lt; omega, by have := HD21.out.rb.lt; omega, by have := Hn21.out.lt; omega, fun q hq e => by have := (HO21.out.row hq).2; omega, fun q hq e => by have := (HS21.out.row hq).2; omega⟩
          clear k22 B22 hw22 hbp
          obtain ⟨⟨v14, l14⟩, hz⟩ : ∃ z, gP l13 20 = z := ⟨_, rfl⟩
          have hw := HD22.out.get 20 (by decide) (by decide)
          rw [hz] at hw
          dsimp only at hw
          have HC := Lib.hid hw
          have HZv14 := Lib.hid hz
          have HLv14 : Hid (0 ≤ v14 ∧ v14 < 1048576) := Lib.hid (by have h1 := gP_lt l13 20 (by decide); rw [show ((20 : Nat) : Int) = 20 from rfl, hz] at h1; simpa using h1)
          clear hw hz
          go_wp2_with fail
          refine HC.out.mono ?_
          rintro en w23 ⟨rfl, hd23, hk23⟩
          have HD23 := Lib.hid hd23
          have Hn23 := Lib.hid (Hn22.out.keep hk23 (HD22.out.rd.not Hn22.out (by decide)))
          have Hp23 := Lib.hid (Hp22.out.keep hk23 (HD22.out.rd.not Hp22.out (by decide)))
          have HO23 := Lib.hid (HO22.out.keep hk23 (fun q hq e => by subst e; have a1 := (HO22.out.row hq).1; obtain ⟨_, ⟨_, _, _, _, _, _, _, a6, a4, _⟩, _⟩ := HD22.out.rd; omega))
          have HS23 := Lib.hid (HS22.out.keep hk23 (fun q hq e => by subst e; have a1 := (HS22.out.row hq).1; obtain ⟨_, ⟨_, _, _, _, _, _, _, a6, a4, _⟩, _⟩ := HD22.out.rd; omega))
          have z1 : w23.cell? ⟨bp, 1, none⟩ = some (.int .i64 0) := Hp23.out.cell 1
          have zf1 := Hp23.out.frozen 1
          clear hd23 hk23 HC
          go_upto_region 17 with (fail)
          clear z1 zf1
          obtain ⟨w230, hw23⟩ : ∃ V : World, w23.setCell ⟨bp, 1, none⟩ (.int .i64 v14) = V := ⟨_, rfl⟩
          rw [hw23]
          have hk23 : Keep (fun i => i = bp) w23 w230 := by rw [← hw23]; exact (Keep.refl (fun i => i = bp) w23).set_ (p := ⟨bp, 1, none⟩) (.inl rfl) _
          have Hp230 : Hid (Blk w230 bp 74 #[.int .i64 v13, .int .i64 v14, .int .i64 0]) := Lib.hid (by rw [← hw23]; have := Hp23.out.set_ 1 (.int .i64 v14); simpa using this)
          have HD230 := Lib.hid (HD23.out.put hk23 HBp.out.1 HBp.out.2.1 HBp.out.2.2.1)
          have Hn230 := Lib.hid (Hn23.out.keep hk23 (fun e => HBp.out.2.2.2.1 e.symm))
          have HO230 := Lib.hid (HO23.out.keep hk23 HBp.out.2.2.2.2.1)
          have HS230 := Lib.hid (HS23.out.keep hk23 HBp.out.2.2.2.2.2)
          clear hw23 hk23
          obtain ⟨⟨v15, l15⟩, hz⟩ : ∃ z, gP l14 20 = z := ⟨_, rfl⟩
          have hw := HD230.out.get 20 (by decide) (by decide)
          rw [hz] at hw
          dsimp only at hw
          have HC := Lib.hid hw
          have HZv15 := Lib.hid hz
          have HLv15 : Hid (0 ≤ v15 ∧ v15 < 1048576) := Lib.hid (by have h1 := gP_lt l14 20 (by decide); rw [show ((20 : Nat) : Int) = 20 from rfl, hz] at h1; simpa using h1)
          clear hw hz
          go_wp2_with fail
          refine HC.out.mono ?_
          rintro en w24 ⟨rfl, hd24, hk24⟩
          have HD24 := Lib.hid hd24
          have Hn24 := Lib.hid (Hn230.out.keep hk24 (HD230.out.rd.not Hn230.out (by decide)))
          have Hp24 := Lib.hid (Hp230.out.keep hk24 (HD230.out.rd.not Hp230.out (by decide)))
          have HO24 := Lib.hid (HO230.out.keep hk24 (fun q hq e => by subst e; have a1 := (HO230.out.row hq).1; obtain ⟨_, ⟨_, _, _, _, _, _, _, a6, a4, _⟩, _⟩ := HD230.out.rd; omega))
          have HS24 := Lib.hid (HS230.out.keep hk24 (fun q hq e => by subst e; have a1 := (HS230.out.row hq).1; obtain ⟨_, ⟨_, _, _, _, _, _, _, a6, a4, _⟩, _⟩ := HD230.out.rd; omega))
          have z2 : w24.cell? ⟨bp, 2, none⟩ = some (.int .i64 0) := Hp24.out.cell 2
          have zf2 := Hp24.out.frozen 2
          clear hd24 hk24 HC
          go_upto_region 18 with (fail)
          clear z2 zf2
          obtain ⟨w240, hw24⟩ : ∃ V : World, w24.setCell ⟨bp, 2, none⟩ (.int .i64 v15) = V := ⟨_, rfl⟩
          rw [hw24]
          have hk24 : Keep (fun i => i = bp) w24 w240 := by rw [← hw24]; exact (Keep.refl (fun i => i = bp) w24).set_ (p := ⟨bp, 2, none⟩) (.inl rfl) _
          have Hp240 : Hid (Blk w240 bp 74 #[.int .i64 v13, .int .i64 v14, .int .i64 v15]) := Lib.hid (by rw [← hw24]; have := Hp24.out.set_ 2 (.int .i64 v15); simpa using this)
          have HD240 := Lib.hid (HD24.out.put hk24 HBp.out.1 HBp.out.2.1 HBp.out.2.2.1)
          have Hn240 := Lib.hid (Hn24.out.keep hk24 (fun e => HBp.out.2.2.2.1 e.symm))
          have HO240 := Lib.hid (HO24.out.keep hk24 HBp.out.2.2.2.2.1)
          have HS240 := Lib.hid (HS24.out.keep hk24 HBp.out.2.2.2.2.2)
          clear hw24 hk24
          have HNx2 : Hid (hereG gP (q + 1) l12 = ((hereG gP q l12).1 ++ [(v13, v14, v15)], l15)) := Lib.hid (by
            show ((hereG gP q l12).1 ++ _, _) = _
            rw [HLq.out, HZv13.out]
            simp only
            rw [HZv14.out]
            simp only
            rw [HZv15.out])
          have n5 : w240.cell? ⟨bn, 5, none⟩ = some (.slice As ns cs) := Hn240.out.cell 5
          have nf5 := Hn240.out.frozen 5
          have x0 : w240.cell? ⟨bp, 0, none⟩ = some (.int .i64 v13) := Hp240.out.cell 0
          have x1 : w240.cell? ⟨bp, 1, none⟩ = some (.int .i64 v14) := Hp240.out.cell 1
          have x2 : w240.cell? ⟨bp, 2, none⟩ = some (.int .i64 v15) := Hp240.out.cell 2
          have hsz : HH ≤ (w240.alloc (.cells #[.int .i64 v13, .int .i64 v14, .int .i64 v15] 74)).heap.size := by have := HD240.out.top; simp; omega
          go_wp2_with (at_builtin; refine wpList_app _ rfl (.tmp 73) (.tmp 75) _ rfl elemSp HH (A := As) (n := ns) (c := cs) (by go_simp) (HS240.out.alloc _) _ (A' := some ⟨w240.heap.size, 0, none⟩) (m := 1) (c' := 1) (by go_simp) (Rd.of_blk (n := 1) (cs := [.int .i64 v13, .int .i64 v14, .int .i64 v15]) (Blk.new w240 _ _) rfl) (by simp [Value.oneCell']) (by omega) (by unfold maxLen; omega) hsz ?_; intro A5 c5 w26 hown hk hrow; have hk26 : Keep (InRow As) w240 w26 := ((Keep.refl (InRow As) _).alloc _).trans hk; have HS26 := Lib.hid hown; have Hn26 := Lib.hid (Hn240.out.keep hk26 (fun h => HS240.out.ne_blk Hn240.out (by decide) bn h rfl)); have HO26 := Lib.hid (HO240.out.keep hk26 (HO240.out.ne_own HS240.out (by decide))); have HD26 := Lib.hid (HD240.out.far hk26 (fun q hq => (HS240.out.row hq).1) (fun h => HS240.out.ne_blk HD240.out.gb (by decide) _ h rfl) (fun h => HS240.out.ne_blk HD240.out.rb (by decide) _ h rfl)); have o5 : w26.cell? ⟨bn, 5, none⟩ = some (.slice As ns cs) := Hn26.out.cell 5; have f5 := Hn26.out.frozen 5; clear hown hk hrow hk26)
          go_roundw
          case measure => simp [intOf]; try omega
          case rel =>
            have hk27 : Keep (fun i => i = bn) w26 (w26.setCell ⟨bn, 5, none⟩ (.slice A5 (ns + 1) c5)) := (Keep.refl (fun i => i = bn) w26).set_ (p := ⟨bn, 5, none⟩) (.inl rfl) _
            refine ⟨q + 1, ns + 1, c5, A5, by omega, by go_num, by omega, Lib.hid ⟨?_, ?_, ?_, ?_⟩⟩
            · rw [HNx2.out]; exact HD26.out.put hk27 HNb.out.1 HNb.out.2.1 HNb.out.2.2
            · have := Hn26.out.set_ 5 (.slice A5 (ns + 1) c5)
              simpa using this
            · exact HO26.out.far (p := ⟨bn, 5, none⟩) (HO26.out.ne_blk Hn26.out (by decide)) _
            · rw [HNx2.out, spCells_app]
              exact HS26.out.far (p := ⟨bn, 5, none⟩) (HS26.out.ne_blk Hn26.out (by decide)) _
        · have hqi : ¬ (q : Int) < (M2 : Int) := by omega
          obtain rfl : q = M2 := by omega
          obtain ⟨⟨Hr, l16⟩, hHr⟩ : ∃ z, hereG gP q l12 = z := ⟨_, rfl⟩
          rw [hHr] at HDq HSq
          dsimp only at HDq HSq
          have HP : Hid (parseG gP 24 16 (bitsB bs) = (v1, v2, v3, un, Lo, Hr)) := Lib.hid (by
            have hs : sixG gP (bitsB bs) = ((v1, v2, v3, un, v6), l6) := by
              unfold sixG
              simp only [HZv1.out, HZv2.out, HZv3.out, HZv4.out, HZv5.out, HZv6.out, HUn.out]
            unfold parseG
            rw [hs]
            dsimp only
            rw [← HMv.out, HLo.out]
            dsimp only
            rw [HZv12.out]
            dsimp only
            rw [← HMv2.out, hHr])
          have HE := Lib.hid (enc20_any v1 v2 v3 un Ao As no co ns cs wr.heap.size Lo Hr wr (spAt_own3 HOq.out) (spAt_own3 HSq.out) (by omega) (by omega) (Nat.le_refl _) (by have := HLv3.out; omega))
          have b0 : wr.cell? ⟨bn, 0, none⟩ = some (.int .i64 v1) := Hnq.out.cell 0
          have b1 : wr.cell? ⟨bn, 1, none⟩ = some (.int .i64 v2) := Hnq.out.cell 1
          have b2 : wr.cell? ⟨bn, 2, none⟩ = some (.int .i64 v3) := Hnq.out.cell 2
          have b3 : wr.cell? ⟨bn, 3, none⟩ = some (.int .i64 un) := Hnq.out.cell 3
          have b4 : wr.cell? ⟨bn, 4, none⟩ = some (.slice Ao no co) := Hnq.out.cell 4
          have b5 : wr.cell? ⟨bn, 5, none⟩ = some (.slice As ns cs) := Hnq.out.cell 5
          clear hHr
          go_wp2_with fail
          refine HE.out.mono ?_
          rintro e w30 ⟨Ae, ce, rfl, ho30, hk30⟩
          clear b0 b1 b2 b3 b4 b5 HE
          have HDe := Lib.hid (HDq.out.never hk30)
          have Hne := Lib.hid (Hnq.out.keep hk30 (fun h => h))
          have HOe := Lib.hid (HOq.out.keep hk30 (fun _ _ h => h))
          have HSe := Lib.hid (HSq.out.keep hk30 (fun _ _ h => h))
          have HKe := Lib.hid hk30
          clear hk30
          cases hm : mayN (v1, v2, v3, un, Lo, Hr) with
          | false =>
            have HM := Lib.hid hm
            clear ho30
            simp only [Bool.false_eq_true, if_false, List.length_nil]
            clear hm
            have z0 : w30.cell? ⟨w.heap.size, 0, none⟩ = some (.int .i64 0) := HDe.out.rb.cell 0
            have zf0 := HDe.out.rb.frozen 0
            have z1 : w30.cell? ⟨w.heap.size, 1, none⟩ = some (.int .i64 0) := HDe.out.rb.cell 1
            have zf1 := HDe.out.rb.frozen 1
            have z2 : w30.cell? ⟨w.heap.size, 2, none⟩ = some (.int .i64 0) := HDe.out.rb.cell 2
            have zf2 := HDe.out.rb.frozen 2
            have z3 : w30.cell? ⟨w.heap.size, 3, none⟩ = some (.int .i64 0) := HDe.out.rb.cell 3
            have zf3 := HDe.out.rb.frozen 3
            have z4 : w30.cell? ⟨w.heap.size, 4, none⟩ = some (.slice none 0 0) := HDe.out.rb.cell 4
            have zf4 := HDe.out.rb.frozen 4
            have z5 : w30.cell? ⟨w.heap.size, 5, none⟩ = some (.slice none 0 0) := HDe.out.rb.cell 5
            have zf5 := HDe.out.rb.frozen 5
            go_wp2_with fail
            have hF : decG gP 24 16 bs = (noN, 8) := by unfold decG; rw [HP.out, if_neg (fun h => by have := HM.out; rw [h.1] at this; cases this)]
            refine bodyPost_ret (nt_results rfl (put6_blk HDe.out.rb _ _ _ _ _ _) _ rfl) rfl ⟨⟨none, 0, 0, none, 0, 0⟩, ?_, ?_, ?_⟩
            · rw [hF]; rfl
            · rw [hF]; exact ⟨spAt_own3 (e := 0) (base := 0) (l := []) (Own.nil _ _ _ _), spAt_own3 (e := 0) (base := 0) (l := []) (Own.nil _ _ _ _)⟩
            · exact HDe.out.kp.then_ (put6_keep _ _ _ _ _ _ _ _) (fun i hi e => by omega)
          | true =>
            have HM := Lib.hid hm
            try rw [hm] at ho30
            simp only [if_true] at ho30 ⊢
            clear hm
            have HEq := Lib.hid (bequal_any Ae A (encN (v1, v2, v3, un, Lo, Hr)).length n ce c w30.heap.size B (encN (v1, v2, v3, un, Lo, Hr)) bs w30 ho30.rd (HRd.out.keep HDe.out.kp (fun _ h => h.elim)) (bytesOf_lt _) H8.out)
            clear ho30
            go_wp2_with fail
            refine HEq.out.mono ?_
            rintro e w31 ⟨rfl, hk31⟩
            clear HEq
            have HDf := Lib.hid (HDe.out.never hk31)
            have Hnf := Lib.hid (Hne.out.keep hk31 (fun h => h))
            have HOf := Lib.hid (HOe.out.keep hk31 (fun _ _ h => h))
            have HSf := Lib.hid (HSe.out.keep hk31 (fun _ _ h => h))
            clear hk31
            have z0 : w31.cell? ⟨w.heap.size, 0, none⟩ = some (.int .i64 0) := HDf.out.rb.cell 0
            have zf0 := HDf.out.rb.frozen 0
            have z1 : w31.cell? ⟨w.heap.size, 1, none⟩ = some (.int .i64 0) := HDf.out.rb.cell 1
            have zf1 := HDf.out.rb.frozen 1
            have z2 : w31.cell? ⟨w.heap.size, 2, none⟩ = some (.int .i64 0) := HDf.out.rb.cell 2
            have zf2 := HDf.out.rb.frozen 2
            have z3 : w31.cell? ⟨w.heap.size, 3, none⟩ = some (.int .i64 0) := HDf.out.rb.cell 3
            have zf3 := HDf.out.rb.frozen 3
            have z4 : w31.cell? ⟨w.heap.size, 4, none⟩ = some (.slice none 0 0) := HDf.out.rb.cell 4
            have zf4 := HDf.out.rb.frozen 4
            have z5 : w31.cell? ⟨w.heap.size, 5, none⟩ = some (.slice none 0 0) := HDf.out.rb.cell 5
            have zf5 := HDf.out.rb.frozen 5
            have n0 : w31.cell? ⟨bn, 0, none⟩ = some (.int .i64 v1) := Hnf.out.cell 0
            have n1 : w31.cell? ⟨bn, 1, none⟩ = some (.int .i64 v2) := Hnf.out.cell 1
            have n2 : w31.cell? ⟨bn, 2, none⟩ = some (.int .i64 v3) := Hnf.out.cell 2
            have n3 : w31.cell? ⟨bn, 3, none⟩ = some (.int .i64 un) := Hnf.out.cell 3
            have n4 : w31.cell? ⟨bn, 4, none⟩ = some (.slice Ao no co) := Hnf.out.cell 4
            have n5 : w31.cell? ⟨bn, 5, none⟩ = some (.slice As ns cs) := Hnf.out.cell 5
            by_cases hq2 : encN (v1, v2, v3, un, Lo, Hr) = bs
            · have HQ := Lib.hid hq2
              rw [decide_eq_true hq2]
              clear hq2
              go_wp2_with fail
              have hF : decG gP 24 16 bs = ((v1, v2, v3, un, Lo, Hr), 0) := by unfold decG; rw [HP.out, if_pos ⟨HM.out, HQ.out⟩]
              refine bodyPost_ret (nt_results rfl (put6_blk HDf.out.rb _ _ _ _ _ _) _ rfl) rfl ⟨⟨Ao, no, co, As, ns, cs⟩, ?_, ?_, ?_⟩
              · rw [hF]; rfl
              · rw [hF]; exact ⟨spAt_own3 (HOf.out.keep (put6_keep _ _ _ _ _ _ _ _) (HOf.out.ne_blk HDf.out.rb (by decide))), spAt_own3 (HSf.out.keep (put6_keep _ _ _ _ _ _ _ _) (HSf.out.ne_blk HDf.out.rb (by decide)))⟩
              · exact HDf.out.kp.then_ (put6_keep _ _ _ _ _ _ _ _) (fun i hi e => by omega)
            · have HQ := Lib.hid hq2
              rw [decide_eq_false hq2]
              clear hq2
              go_wp2_with fail
              have hF : decG gP 24 16 bs = (noN, 8) := by unfold decG; rw [HP.out, if_neg (fun h => HQ.out h.2)]
              refine bodyPost_ret (nt_results rfl (put6_blk HDf.out.rb _ _ _ _ _ _) _ rfl) rfl ⟨⟨none, 0, 0, none, 0, 0⟩, ?_, ?_, ?_⟩
              · rw [hF]; rfl
              · rw [hF]; exact ⟨spAt_own3 (e := 0) (base := 0) (l := []) (Own.nil _ _ _ _), spAt_own3 (e := 0) (base := 0) (l := []) (Own.nil _ _ _ _)⟩
              · exact HDf.out.kp.then_ (put6_keep _ _ _ _ _ _ _ _) (fun i hi e => by omega)


end Go.Proofs.YtpahfobijmmmmaaGreat
