/- Chapter 18 (grant): Same at equal ledgers; awake. -/
import Derived.Test.YtlcbajdckgcopaaGrL
namespace Go.Proofs.Ytlcbajdckgcopaa
open Go.RowKit

def TrueRet (w : World) (e : Ending) (w' : World) : Prop := e = .returned (.bool true) ∧ Keep Never w w'

set_option maxHeartbeats 4000000 in
set_option maxRecDepth 100000 in
theorem entries_self (A A' : Option Addr) (n c n' c' N : Nat) (l : List Ent) (w : World) (h : EsG N w A n c l) (h2 : EsG N w A' n' c' l) (hx : ∀ e ∈ l, e.2.2.1.length ≤ 100000000) :
    Calls Try.prog 91 #[.slice A n c, .slice A' n' c'] w (TrueRet w) := by
  have HE := Lib.hid h
  have HE2 := Lib.hid h2
  have HLn := Lib.hid h.len
  obtain rfl : n = n' := h.len.trans h2.len.symm
  have HX := Lib.hid hx
  have hcap : n ≤ 9223372036854775807 := by have h3 := h.cap; have h4 := h.max; unfold maxLen at h4; omega
  clear h h2 hx
  go_enter Try.func91, Try.ntmps91
  go_wp2_with fail
  go_loopw [5] (fun i wr => ∃ k : Nat, k ≤ n ∧ i = .int .i64 k ∧ Hid (Keep Never w wr)) (fun i _ => n - (intOf i).toNat)
  case atStart => exact ⟨0, by omega, rfl, Lib.hid (Keep.refl _ _)⟩
  case round =>
    obtain ⟨k, hk, rfl, HH⟩ := hrel
    by_cases h0 : k < n
    · have hkz : (k : Int) < (n : Int) := by omega
      obtain ⟨ad, e, A2, n2, c2, hA, he, c0, c1, c2', c3', hsp⟩ := ent_g (HE.out.never HH.out) h0
      obtain ⟨ad2, e', A3, n3, c3, hA2, he', d0, d1, d2, d3, hsp2⟩ := ent_g (HE2.out.never HH.out) h0
      subst hA hA2
      rw [he] at he'
      injection he' with he'
      subst he'
      have hn2 : n2 ≤ 100000000 := by have := HX.out _ (List.mem_of_getElem? he); have := hsp.at_.len; omega
      have hn3 : n3 ≤ 100000000 := by have := HX.out _ (List.mem_of_getElem? he); have := hsp2.at_.len; omega
      obtain ⟨e0, e1, x, e3⟩ := e
      simp only at c0 c1 c2' c3' d0 d1 d2 d3 hsp hsp2
      have HC := Lib.hid (fun (W : World) (hk : Keep Never wr W) => same15_self x A2 A3 n2 n3 c2 c3 _ _ W (hsp.never hk).at_.rd (hsp2.never hk).at_.rd (by omega) (by omega))
      have HS2 : Hid (∀ W', Keep Never wr W' → Keep Never wr W' ∧ W'.cell? (ad.add (k * 4)) = some (.int .i64 e0) ∧ W'.cell? ⟨(ad.add (k * 4)).block, (ad.add (k * 4)).off + 1, none⟩ = some (.int .i64 e1) ∧ W'.cell? ⟨(ad.add (k * 4)).block, (ad.add (k * 4)).off + 2, none⟩ = some (.slice A2 n2 c2) ∧ W'.cell? ⟨(ad.add (k * 4)).block, (ad.add (k * 4)).off + 3, none⟩ = some (.bool e3) ∧ W'.cell? (ad2.add (k * 4)) = some (.int .i64 e0) ∧ W'.cell? ⟨(ad2.add (k * 4)).block, (ad2.add (k * 4)).off + 1, none⟩ = some (.int .i64 e1) ∧ W'.cell? ⟨(ad2.add (k * 4)).block, (ad2.add (k * 4)).off + 2, none⟩ = some (.slice A3 n3 c3) ∧ W'.cell? ⟨(ad2.add (k * 4)).block, (ad2.add (k * 4)).off + 3, none⟩ = some (.bool e3)) := Lib.hid (fun W' h => ⟨h, keepT h c0, keepT h c1, keepT h c2', keepT h c3', keepT h d0, keepT h d1, keepT h d2, keepT h d3⟩)
      clear he hsp hsp2 hn2 hn3
      go_wp2_with fail
      clear c0 c1 c2' c3' d0 d1 d2 d3
      go_region_held3 (fun W' => Keep Never wr W' ∧ W'.cell? (ad.add (k * 4)) = some (.int .i64 e0) ∧ W'.cell? ⟨(ad.add (k * 4)).block, (ad.add (k * 4)).off + 1, none⟩ = some (.int .i64 e1) ∧ W'.cell? ⟨(ad.add (k * 4)).block, (ad.add (k * 4)).off + 2, none⟩ = some (.slice A2 n2 c2) ∧ W'.cell? ⟨(ad.add (k * 4)).block, (ad.add (k * 4)).off + 3, none⟩ = some (.bool e3) ∧ W'.cell? (ad2.add (k * 4)) = some (.int .i64 e0) ∧ W'.cell? ⟨(ad2.add (k * 4)).block, (ad2.add (k * 4)).off + 1, none⟩ = some (.int .i64 e1) ∧ W'.cell? ⟨(ad2.add (k * 4)).block, (ad2.add (k * 4)).off + 2, none⟩ = some (.slice A3 n3 c3) ∧ W'.cell? ⟨(ad2.add (k * 4)).block, (ad2.add (k * 4)).off + 3, none⟩ = some (.bool e3))
        (first | assumption | exact HS2.out _ ((Keep.refl Never wr).drew) | exact HS2.out _ (Keep.trans (And.left (by assumption)) hk3) | exact HS2.out _ (Keep.trans ((Keep.refl Never wr).drew) hk3))
        (first
          | (go_at_call 28; refine (HC.out _ (by first | exact And.left (by assumption) | exact (Keep.refl Never wr).drew | exact Keep.refl Never wr)).mono ?_; rintro e w3 ⟨rfl, hk3⟩))
      all_goals
        rename_i hS
        (try rename World => w5)
        obtain ⟨hK5, c0, c1, c2', c3', d0, d1, d2, d3⟩ := hS
        have HK5 := Lib.hid (HH.out.trans hK5)
        (try clear hk3)
        clear HS2 hK5 HC
        have t0 : (e0 != e0) = false := by simp
        have t1 : (e1 != e1) = false := by simp
        have t3 : (e3 != e3) = false := by simp
        go_wp2_with fail
        go_quiet (fail)
        go_wp2_with fail
        refine ⟨⟨k + 1, by omega, by go_num, Lib.hid (HK5.out.drewN _)⟩, ?_⟩
        simp [intOf]; try omega
    · obtain rfl : k = n := by omega
      have hkz : ¬ (k : Int) < (k : Int) := by omega
      go_wp2_with fail
      go_ret
      exact ⟨rfl, HH.out⟩

set_option maxHeartbeats 4000000 in
set_option maxRecDepth 100000 in
theorem same_self (x y : LA) (l : Ldg) (N : Nat) (w : World) (h : LdG N w x l) (h2 : LdG N w y l) (hs : ∀ e ∈ l.1, e.2.2.1.length ≤ 1000000) (hh : l.2.1.length ≤ 1000000) :
    Calls Try.prog 36 #[.agg x.cs, .agg y.cs] w (TrueRet w) := by
  have HE := Lib.hid (fun (W : World) (hk : Keep Never w W) => entries_self x.A y.A x.n x.c y.n y.c N l.1 W (h.e.never hk) (h2.e.never hk) (fun e he => by have := hs e he; omega))
  have HS := Lib.hid (fun (W : World) (hk : Keep Never w W) => same15_self l.2.1 x.A2 y.A2 x.n2 y.n2 x.c2 y.c2 _ _ W (h.h.never hk).at_.rd (h2.h.never hk).at_.rd (by have := h.h.at_.len; omega) (by have := h2.h.at_.len; omega))
  have hk1 := h.k
  have hk2 := h2.k
  obtain ⟨A, n, c, A2, n2, c2, k⟩ := x
  obtain ⟨B, m, d, B2, m2, d2, k'⟩ := y
  simp only [LA.cs] at HE HS hk1 hk2 ⊢
  obtain rfl : k = k' := hk1.trans hk2.symm
  clear h h2 hs hk1 hk2 hh
  obtain ⟨w1, hw1⟩ : ∃ W : World, w.alloc (.cells #[.slice A n c, .slice A2 n2 c2, .bool k] 53) = W := ⟨_, rfl⟩
  have zw1 : w1.heap.size = w.heap.size + 1 := by rw [← hw1]; simp
  have kw1 : Keep Never w w1 := by rw [← hw1]; exact (Keep.refl _ _).alloc _
  have bw1 := Blk.new w 53 #[.slice A n c, .slice A2 n2 c2, .bool k]
  rw [hw1] at bw1
  obtain ⟨w2, hw2⟩ : ∃ W : World, w1.alloc (.cells #[.slice B m d, .slice B2 m2 d2, .bool k] 53) = W := ⟨_, rfl⟩
  have kw2 : Keep Never w1 w2 := by rw [← hw2]; exact (Keep.refl _ _).alloc _
  have bw2 := Blk.new w1 53 #[.slice B m d, .slice B2 m2 d2, .bool k]
  rw [hw2, zw1] at bw2
  have HB1 := Lib.hid (bw1.keep kw2 (fun h => h))
  have HB2 := Lib.hid bw2
  have HK := Lib.hid (kw1.trans kw2)
  have y0 : w2.cell? ⟨w.heap.size, 0, none⟩ = some (.slice A n c) := HB1.out.cell 0
  have z0 : w2.cell? ⟨w.heap.size + 1, 0, none⟩ = some (.slice B m d) := HB2.out.cell 0
  clear kw1 kw2 bw1 bw2
  have HC := Lib.hid (HE.out w2 HK.out)
  go_enter Try.func36, Try.ntmps36
  go_wp2_with fail
  refine HC.out.mono ?_
  rintro e w3 ⟨rfl, hk3⟩
  have HK3 := Lib.hid (HK.out.trans hk3)
  have HB3 := Lib.hid (HB1.out.keep hk3 (fun h => h))
  have HB3' := Lib.hid (HB2.out.keep hk3 (fun h => h))
  have y1 : w3.cell? ⟨w.heap.size, 1, none⟩ = some (.slice A2 n2 c2) := HB3.out.cell 1
  have z1 : w3.cell? ⟨w.heap.size + 1, 1, none⟩ = some (.slice B2 m2 d2) := HB3'.out.cell 1
  clear hk3 HC HE y0 z0 hw1 hw2 zw1
  have HC := Lib.hid (HS.out w3 HK3.out)
  go_wp2_with fail
  refine HC.out.mono ?_
  rintro e w4 ⟨rfl, hk4⟩
  have y2 : w4.cell? ⟨w.heap.size, 2, none⟩ = some (.bool k) := (HB3.out.keep hk4 (fun h => h)).cell 2
  have z2 : w4.cell? ⟨w.heap.size + 1, 2, none⟩ = some (.bool k) := (HB3'.out.keep hk4 (fun h => h)).cell 2
  have HK4 := Lib.hid (HK3.out.trans hk4)
  have tk : (k == k) = true := by simp
  clear hk4 HC HS y1 z1
  go_wp2_with fail
  go_ret
  exact ⟨rfl, HK4.out⟩
end Go.Proofs.Ytlcbajdckgcopaa
