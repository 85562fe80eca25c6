/- Chapter 13: TopoBack. -/
import Derived.Test.YtlcbajdckgcopaaTopQ
import Derived.Test.YtlcbajdckgcopaaFlip
namespace Go.Proofs.Ytlcbajdckgcopaa
open Go.RowKit

theorem stp_in {W : World} {s : Stp} {cs : Array Value} (h : repStp.cells W W.heap.size s cs.toList) : cs = #[.int .i64 s.1, .bool s.2] ∧ in64 s := by
  obtain ⟨c1, d1, e, ⟨rfl, h1⟩, rfl⟩ := h
  exact ⟨by apply Array.ext'; rw [e]; rfl, h1⟩
theorem back_law (t : Tp) (a b : Stp) : (decide (b ∈ afterM t a) == decide (flipM a ∈ afterM t (flipM b))) = true := by
  rw [beq_iff_eq, decide_eq_decide, afterM_mem, afterM_mem, mayB_flip]
  show thereB t.1.length a.1 = true ∧ thereB t.1.length b.1 = true ∧ _ ↔ thereB t.1.length b.1 = true ∧ thereB t.1.length a.1 = true ∧ _
  constructor <;> rintro ⟨h1, h2, h3⟩ <;> exact ⟨h2, h1, h3⟩

set_option maxHeartbeats 4000000 in
set_option maxRecDepth 100000 in
theorem topoBack_walk (W : World) (cs0 : Array Value) (t : Tp) (s0 : repTp.cells W W.heap.size t cs0.toList) (cs1 : Array Value) (a : Stp) (s1 : repStp.cells W W.heap.size a cs1.toList) (cs2 : Array Value) (b : Stp) (s2 : repStp.cells W W.heap.size b cs2.toList) :
    Calls Try.prog 4 #[.agg cs0, .agg cs1, .agg cs2] W fun e W' => e = .returned (.bool true) ∧ Keep Never W W' := by
  obtain ⟨x, hx, ht⟩ := TpAt.of s0
  obtain rfl : cs0 = x.cs := by apply Array.ext'; exact hx
  obtain ⟨rfl, _⟩ := stp_in s1
  obtain ⟨rfl, _⟩ := stp_in s2
  clear s0 hx s1 s2
  have HLt : Hid (∀ w', Keep Never W w' → Calls Try.prog 15 #[.agg x.cs] w' fun e w'' => ∃ b, e = .returned (.bool b) ∧ Hid (b = true → TpLight x t) ∧ Keep Never w' w'') := Lib.hid (fun w' h => light13r_any x t W.heap.size w' (ht.keep h))
  have HAf : Hid (∀ (i : Int) (r : Bool) w', Keep Never W w' → x.nj ≤ 100000000 → x.ne ≤ 100000000 → Calls Try.prog 24 #[.agg x.cs, .agg #[.int .i64 i, .bool r]] w' (AftRet (afterM t (i, r)) w')) := Lib.hid (fun i r w' h h1 h2 => after_any x t W.heap.size (i, r) w' (ht.keep h) h1 h2)
  have HEl : Hid (x.ne = t.1.length) := Lib.hid ht.e.len
  clear ht
  obtain ⟨Ae, ne, ce, Aj, nj, cj, Ab, nb, cb, Ar, nr, cr⟩ := x
  obtain ⟨a1, a2⟩ := a
  obtain ⟨b1, b2⟩ := b
  simp only [TA.cs] at HLt HAf HEl ⊢
  have HBl : Hid ((decide (((b1, b2) : Stp) ∈ afterM t (a1, a2)) == decide (((a1, !a2) : Stp) ∈ afterM t (b1, !b2))) = true) := Lib.hid (back_law t (a1, a2) (b1, b2))
  obtain ⟨w1, hw1⟩ : ∃ wb : World, W.alloc (.cells #[.slice Ae ne ce, .slice Aj nj cj, .slice Ab nb cb, .slice Ar nr cr] 27) = wb := ⟨_, rfl⟩
  obtain ⟨w2, hw2⟩ : ∃ wb : World, w1.alloc (.cells #[.int .i64 a1, .bool a2] 44) = wb := ⟨_, rfl⟩
  obtain ⟨w3, hw3⟩ : ∃ wb : World, w2.alloc (.cells #[.int .i64 b1, .bool b2] 44) = wb := ⟨_, rfl⟩
  have z1 : w1.heap.size = W.heap.size + 1 := by rw [← hw1]; simp
  have z2 : w2.heap.size = W.heap.size + 1 + 1 := by rw [← hw2, ← z1]; simp
  have k1 : Keep Never W w1 := by rw [← hw1]; exact (Keep.refl _ _).alloc _
  have k2 : Keep Never w1 w2 := by rw [← hw2]; exact (Keep.refl _ _).alloc _
  have k3 : Keep Never w2 w3 := by rw [← hw3]; exact (Keep.refl _ _).alloc _
  have c1 := Blk.new W 27 #[.slice Ae ne ce, .slice Aj nj cj, .slice Ab nb cb, .slice Ar nr cr]
  rw [hw1] at c1
  have c2 := Blk.new w1 44 #[.int .i64 a1, .bool a2]
  rw [hw2, z1] at c2
  have c3 := Blk.new w2 44 #[.int .i64 b1, .bool b2]
  rw [hw3, z2] at c3
  have HB1 := Lib.hid ((c1.keep k2 (fun h => h)).keep k3 (fun h => h))
  have HB2 := Lib.hid (c2.keep k3 (fun h => h))
  have HB3 := Lib.hid c3
  have HK := Lib.hid ((k1.trans k2).trans k3)
  have HA := Lib.hid (awake13_any w3)
  clear k1 k2 k3 c1 c2 c3
  go_enter Try.func4, Try.ntmps4
  go_wp2_with fail
  refine HA.out.mono ?_
  rintro e w4 ⟨rfl, hk4⟩
  have HK4 := Lib.hid hk4
  have hb1 := HB1.out.keep hk4 (fun h => h)
  have y0 : w4.cell? ⟨W.heap.size, 0, none⟩ = some (.slice Ae ne ce) := hb1.cell 0
  have y1 : w4.cell? ⟨W.heap.size, 1, none⟩ = some (.slice Aj nj cj) := hb1.cell 1
  have y2 : w4.cell? ⟨W.heap.size, 2, none⟩ = some (.slice Ab nb cb) := hb1.cell 2
  have y3 : w4.cell? ⟨W.heap.size, 3, none⟩ = some (.slice Ar nr cr) := hb1.cell 3
  have HC := Lib.hid (HLt.out w4 (HK.out.trans hk4))
  clear hk4 hb1 HA HLt
  go_wp2_with fail
  refine HC.out.mono ?_
  rintro e w5 ⟨lt, rfl, hlt, hk5⟩
  have HK5 := Lib.hid (HK4.out.trans hk5)
  clear hk5 HC y0 y1 y2 y3
  have hb1 := HB1.out.keep HK5.out (fun h => h)
  have hb2 := HB2.out.keep HK5.out (fun h => h)
  have hb3 := HB3.out.keep HK5.out (fun h => h)
  have y0 : w5.cell? ⟨W.heap.size, 0, none⟩ = some (.slice Ae ne ce) := hb1.cell 0
  have u0 : w5.cell? ⟨W.heap.size + 1, 0, none⟩ = some (.int .i64 a1) := hb2.cell 0
  have u1 : w5.cell? ⟨W.heap.size + 1, 1, none⟩ = some (.bool a2) := hb2.cell 1
  have v0 : w5.cell? ⟨W.heap.size + 1 + 1, 0, none⟩ = some (.int .i64 b1) := hb3.cell 0
  have v1 : w5.cell? ⟨W.heap.size + 1 + 1, 1, none⟩ = some (.bool b2) := hb3.cell 1
  clear hb1 hb2 hb3
  cases lt with
  | false =>
    go_wp2_with fail
    go_ret
    exact ⟨rfl, HK.out.trans HK5.out⟩
  | true =>
    have hL := hlt.out rfl
    have hLe := hL.e
    have hLj := hL.j
    simp only at hLe hLj
    clear hlt hL
    by_cases g1 : a1 < 0
    · have t1 : decide (a1 < 0) = true := by simpa using g1
      clear g1
      go_wp2_with fail
      go_ret
      exact ⟨rfl, HK.out.trans HK5.out⟩
    have t1 : decide (a1 < 0) = false := by simpa using g1
    by_cases g2 : b1 < 0
    · have t2 : decide (b1 < 0) = true := by simpa using g2
      clear g1 g2
      go_wp2_with fail
      go_ret
      exact ⟨rfl, HK.out.trans HK5.out⟩
    have t2 : decide (b1 < 0) = false := by simpa using g2
    by_cases g3 : (ne : Int) ≤ a1
    · have t3 : decide (a1 ≥ (ne : Int)) = true := by simpa using g3
      clear g1 g2 g3
      go_wp2_with fail
      go_ret
      exact ⟨rfl, HK.out.trans HK5.out⟩
    have t3 : decide (a1 ≥ (ne : Int)) = false := by simpa using g3
    by_cases g4 : (ne : Int) ≤ b1
    · have t4 : decide (b1 ≥ (ne : Int)) = true := by simpa using g4
      clear g1 g2 g3 g4
      go_wp2_with fail
      go_ret
      exact ⟨rfl, HK.out.trans HK5.out⟩
    have t4 : decide (b1 ≥ (ne : Int)) = false := by simpa using g4
    clear g1 g2 g3 g4
    obtain ⟨w6, hw6⟩ : ∃ wb : World, w5.alloc (.cells #[.int .i64 a1, .bool !a2] 44) = wb := ⟨_, rfl⟩
    obtain ⟨w7, hw7⟩ : ∃ wb : World, w6.alloc (.cells #[.int .i64 b1, .bool !b2] 44) = wb := ⟨_, rfl⟩
    have k6 : Keep Never w5 w6 := by rw [← hw6]; exact (Keep.refl _ _).alloc _
    have k7 : Keep Never w6 w7 := by rw [← hw7]; exact (Keep.refl _ _).alloc _
    have c6 := Blk.new w5 44 #[.int .i64 a1, .bool !a2]
    rw [hw6] at c6
    have c7 := Blk.new w6 44 #[.int .i64 b1, .bool !b2]
    rw [hw7] at c7
    have v0' : w6.cell? ⟨W.heap.size + 1 + 1, 0, none⟩ = some (.int .i64 b1) := keepT k6 v0
    have v1' : w6.cell? ⟨W.heap.size + 1 + 1, 1, none⟩ = some (.bool b2) := keepT k6 v1
    have HK7 := Lib.hid (HK5.out.trans (k6.trans k7))
    have hb1 := HB1.out.keep HK7.out (fun h => h)
    have hb2 := HB2.out.keep HK7.out (fun h => h)
    have hb3 := HB3.out.keep HK7.out (fun h => h)
    have y0 : w7.cell? ⟨W.heap.size, 0, none⟩ = some (.slice Ae ne ce) := hb1.cell 0
    have y1 : w7.cell? ⟨W.heap.size, 1, none⟩ = some (.slice Aj nj cj) := hb1.cell 1
    have y2 : w7.cell? ⟨W.heap.size, 2, none⟩ = some (.slice Ab nb cb) := hb1.cell 2
    have y3 : w7.cell? ⟨W.heap.size, 3, none⟩ = some (.slice Ar nr cr) := hb1.cell 3
    have p0 : w7.cell? ⟨W.heap.size + 1, 0, none⟩ = some (.int .i64 a1) := hb2.cell 0
    have p1 : w7.cell? ⟨W.heap.size + 1, 1, none⟩ = some (.bool a2) := hb2.cell 1
    have q0 : w7.cell? ⟨W.heap.size + 1 + 1, 0, none⟩ = some (.int .i64 b1) := hb3.cell 0
    have q1 : w7.cell? ⟨W.heap.size + 1 + 1, 1, none⟩ = some (.bool b2) := hb3.cell 1
    have HX := Lib.hid (c6.keep k7 (fun h => h))
    have HY := Lib.hid c7
    have HS7 : Hid (∀ w', Keep Never w7 w' → Keep Never w7 w' ∧ w'.cell? ⟨W.heap.size, 0, none⟩ = some (.slice Ae ne ce) ∧ w'.cell? ⟨W.heap.size, 1, none⟩ = some (.slice Aj nj cj) ∧ w'.cell? ⟨W.heap.size, 2, none⟩ = some (.slice Ab nb cb) ∧ w'.cell? ⟨W.heap.size, 3, none⟩ = some (.slice Ar nr cr) ∧ w'.cell? ⟨W.heap.size + 1, 0, none⟩ = some (.int .i64 a1) ∧ w'.cell? ⟨W.heap.size + 1, 1, none⟩ = some (.bool a2) ∧ w'.cell? ⟨W.heap.size + 1 + 1, 0, none⟩ = some (.int .i64 b1) ∧ w'.cell? ⟨W.heap.size + 1 + 1, 1, none⟩ = some (.bool b2)) := Lib.hid (fun w' h => ⟨h, keepT h y0, keepT h y1, keepT h y2, keepT h y3, keepT h p0, keepT h p1, keepT h q0, keepT h q1⟩)
    have HKw := Lib.hid (HK.out.trans HK7.out)
    have HAm : Hid (∀ (l : List Stp) A n c w, Own w w.heap.size 44 2 A n c (stpCells l) ∨ Rd w w.heap.size 2 A n (stpCells l) → n ≤ 100000000 → ∀ (i : Int) (r : Bool), Calls Try.prog 23 #[.slice A n c, .agg #[.int .i64 i, .bool r]] w fun e w' => e = .returned (.bool (decide (((i, r) : Stp) ∈ l))) ∧ Keep Never w w') := Lib.hid (fun l A n c w h hn i r => among13_any A n c w.heap.size l (i, r) w (by rcases h with h | h; exact h.rd; exact h) hn)
    have HAl : Hid (∀ s, (afterM t s).length ≤ 100000000) := Lib.hid (fun s => by have := afterM_len t s; have := HEl.out; omega)
    clear k6 k7 c6 c7 hb1 hb2 hb3
    go_wp2_with fail
    clear u0 u1 v0 v1 v0' v1' hw6 hw7 t1 t2 t3 t4
    obtain ⟨d1, hd1⟩ : ∃ d, decide (((b1, b2) : Stp) ∈ afterM t (a1, a2)) = d := ⟨_, rfl⟩
    obtain ⟨d2, hd2⟩ : ∃ d, decide (((a1, !a2) : Stp) ∈ afterM t (b1, !b2)) = d := ⟨_, rfl⟩
    have HD1 := Lib.hid hd1
    have HD2 := Lib.hid hd2
    rw [hd1, hd2] at HBl
    have hdd : d1 = d2 := by have := HBl.out; simpa using this
    subst hdd
    clear hd1 hd2 HBl
    go_region_held3 (fun w' => Keep Never w7 w' ∧ w'.cell? ⟨W.heap.size, 0, none⟩ = some (.slice Ae ne ce) ∧ w'.cell? ⟨W.heap.size, 1, none⟩ = some (.slice Aj nj cj) ∧ w'.cell? ⟨W.heap.size, 2, none⟩ = some (.slice Ab nb cb) ∧ w'.cell? ⟨W.heap.size, 3, none⟩ = some (.slice Ar nr cr) ∧ w'.cell? ⟨W.heap.size + 1, 0, none⟩ = some (.int .i64 a1) ∧ w'.cell? ⟨W.heap.size + 1, 1, none⟩ = some (.bool a2) ∧ w'.cell? ⟨W.heap.size + 1 + 1, 0, none⟩ = some (.int .i64 b1) ∧ w'.cell? ⟨W.heap.size + 1 + 1, 1, none⟩ = some (.bool b2))
      (first | assumption | exact HS7.out _ ((Keep.refl Never w7).drew) | exact HS7.out _ (Keep.trans (And.left (by assumption)) hk'))
      (first
        | (go_at_call 24; refine (HAf.out _ _ _ (HKw.out.trans (by first | exact And.left (by assumption) | exact (Keep.refl Never w7).drew)) (by omega) (by omega)).mono ?_; rintro e w' ⟨A', n', c', rfl, hn', ho', hk'⟩)
        | (go_at_call 23; refine (HAm.out _ _ _ _ _ (.inr ho'.rd) (by have h1 := hn'.out; have h2 := HAl.out (a1, a2); omega) _ _).mono ?_; rw [HD1.out]; rintro e w'' ⟨rfl, hk'⟩))
    rename_i hS
    have HKe := Lib.hid (HK7.out.trans (And.left hS))
    have hx := HX.out.keep (And.left hS) (fun h => h)
    have hy := HY.out.keep (And.left hS) (fun h => h)
    have hb1 := HB1.out.keep HKe.out (fun h => h)
    clear hS hk' ho' hn' HS7 y0 y1 y2 y3 p0 p1 q0 q1
    have y0 : w''.cell? ⟨W.heap.size, 0, none⟩ = some (.slice Ae ne ce) := hb1.cell 0
    have y1 : w''.cell? ⟨W.heap.size, 1, none⟩ = some (.slice Aj nj cj) := hb1.cell 1
    have y2 : w''.cell? ⟨W.heap.size, 2, none⟩ = some (.slice Ab nb cb) := hb1.cell 2
    have y3 : w''.cell? ⟨W.heap.size, 3, none⟩ = some (.slice Ar nr cr) := hb1.cell 3
    have p0 : w''.cell? ⟨w5.heap.size, 0, none⟩ = some (.int .i64 a1) := hx.cell 0
    have p1 : w''.cell? ⟨w5.heap.size, 1, none⟩ = some (.bool !a2) := hx.cell 1
    have q0 : w''.cell? ⟨w6.heap.size, 0, none⟩ = some (.int .i64 b1) := hy.cell 0
    have q1 : w''.cell? ⟨w6.heap.size, 1, none⟩ = some (.bool !b2) := hy.cell 1
    have HS9 : Hid (∀ w', Keep Never w'' w' → Keep Never w'' w' ∧ w'.cell? ⟨W.heap.size, 0, none⟩ = some (.slice Ae ne ce) ∧ w'.cell? ⟨W.heap.size, 1, none⟩ = some (.slice Aj nj cj) ∧ w'.cell? ⟨W.heap.size, 2, none⟩ = some (.slice Ab nb cb) ∧ w'.cell? ⟨W.heap.size, 3, none⟩ = some (.slice Ar nr cr) ∧ w'.cell? ⟨w5.heap.size, 0, none⟩ = some (.int .i64 a1) ∧ w'.cell? ⟨w5.heap.size, 1, none⟩ = some (.bool !a2) ∧ w'.cell? ⟨w6.heap.size, 0, none⟩ = some (.int .i64 b1) ∧ w'.cell? ⟨w6.heap.size, 1, none⟩ = some (.bool !b2)) := Lib.hid (fun w' h => ⟨h, keepT h y0, keepT h y1, keepT h y2, keepT h y3, keepT h p0, keepT h p1, keepT h q0, keepT h q1⟩)
    have HKv := Lib.hid (HK.out.trans HKe.out)
    clear hb1 hx hy
    go_wp2_with fail
    go_region_held3 (fun w' => Keep Never w'' w' ∧ w'.cell? ⟨W.heap.size, 0, none⟩ = some (.slice Ae ne ce) ∧ w'.cell? ⟨W.heap.size, 1, none⟩ = some (.slice Aj nj cj) ∧ w'.cell? ⟨W.heap.size, 2, none⟩ = some (.slice Ab nb cb) ∧ w'.cell? ⟨W.heap.size, 3, none⟩ = some (.slice Ar nr cr) ∧ w'.cell? ⟨w5.heap.size, 0, none⟩ = some (.int .i64 a1) ∧ w'.cell? ⟨w5.heap.size, 1, none⟩ = some (.bool !a2) ∧ w'.cell? ⟨w6.heap.size, 0, none⟩ = some (.int .i64 b1) ∧ w'.cell? ⟨w6.heap.size, 1, none⟩ = some (.bool !b2))
      (first | assumption | exact HS9.out _ ((Keep.refl Never w'').drew) | exact HS9.out _ (Keep.trans (And.left (by assumption)) hk9))
      (first
        | (go_at_call 24; refine (HAf.out _ _ _ (HKv.out.trans (by first | exact And.left (by assumption) | exact (Keep.refl Never w'').drew)) (by omega) (by omega)).mono ?_; rintro e w8 ⟨A8, n8, c8, rfl, hn8, ho8, hk9⟩)
        | (go_at_call 23; refine (HAm.out _ _ _ _ _ (.inr ho8.rd) (by have h1 := hn8.out; have h2 := HAl.out (b1, !b2); omega) _ _).mono ?_; rw [HD2.out]; rintro e w10 ⟨rfl, hk9⟩))
    rename_i hS
    have HKz := Lib.hid (HKe.out.trans (And.left hS))
    have he : (d1 == d1) = true := by simp
    clear hS hk9 ho8 hn8 HS9 y0 y1 y2 y3 p0 p1 q0 q1
    go_wp2_with fail
    go_ret
    exact ⟨rfl, HK.out.trans HKz.out⟩

end Go.Proofs.Ytlcbajdckgcopaa
