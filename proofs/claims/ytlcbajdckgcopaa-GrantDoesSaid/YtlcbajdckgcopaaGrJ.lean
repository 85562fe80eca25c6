/- Chapter 18 (grant): Stands, Add. -/
import Derived.Test.YtlcbajdckgcopaaGrI
namespace Go.Proofs.Ytlcbajdckgcopaa
open Go.RowKit

set_option maxHeartbeats 4000000 in
set_option maxRecDepth 100000 in
theorem gsta_any (x : LA) (l : Ldg) (N : Nat) (z y : List Sp) (B1 B2 : Option Addr) (m1 d1 m2 d2 : Nat) (w : World) (h : LdG N w x l) (hh : SpG N w B1 m1 d1 z) (hy : SpG N w B2 m2 d2 y) (hs : LdB x l) (hm1 : m1 ≤ 200000) (hm : m2 ≤ 200000) (hN : N ≤ w.heap.size) :
    Calls Try.prog 51 #[.agg x.cs, .slice B1 m1 d1, .slice B2 m2 d2] w (LdRet2 N (standsM l z y) w) := by
  have HH := Lib.hid hh
  have HY := Lib.hid hy
  have HNw := Lib.hid hN
  have HKn := Lib.hid h.k
  have HSz := Lib.hid hs
  have HTu := Lib.hid (fun (W : World) (g : Nat) (lb : Array Value) (f : Ent → List Sp) (hk : Keep Never w W) (eg : ∀ args w, (callFunc g args).run Try.prog w = .ok (.enter g args) w) (hE : ExtOk g lb f N Never W l.1) => turned_any x l N g lb f W (h.never hk) hs.small (by have := hs.n; omega) (Nat.le_trans hN hk.size) eg hE)
  obtain ⟨A, n, c, A2, n2, c2, k⟩ := x
  obtain ⟨es, hr, kn⟩ := l
  simp only [LA.cs] at HKn HTu HSz ⊢
  obtain rfl := HKn.out
  clear h hs hN HKn hy hh
  obtain ⟨w1, hw1⟩ : ∃ W : World, w.alloc (.cells #[.slice A n c, .slice A2 n2 c2, .bool k] 53) = W := ⟨_, rfl⟩
  have zw1 : w1.heap.size = w.heap.size + 1 := by rw [← hw1]; simp
  have kw1 : Keep Never w w1 := by rw [← hw1]; exact (Keep.refl _ _).alloc _
  have bw1 := Blk.new w 53 #[.slice A n c, .slice A2 n2 c2, .bool k]
  rw [hw1] at bw1
  obtain ⟨w2, hw2⟩ : ∃ W : World, w1.alloc (.cells #[.slice B2 m2 d2] 51) = W := ⟨_, rfl⟩
  have zw2 : w2.heap.size = w.heap.size + 1 + 1 := by rw [← hw2]; simp [zw1]
  have kw2 : Keep Never w1 w2 := by rw [← hw2]; exact (Keep.refl _ _).alloc _
  have bw2 := Blk.new w1 51 #[.slice B2 m2 d2]
  rw [hw2, zw1] at bw2
  obtain ⟨w3, hw3⟩ : ∃ W : World, w2.alloc (.cells #[.slice none 0 0, .slice none 0 0, .bool false] 53) = W := ⟨_, rfl⟩
  have kw3 : Keep Never w2 w3 := by rw [← hw3]; exact (Keep.refl _ _).alloc _
  have bw3 := Blk.new w2 53 #[.slice none 0 0, .slice none 0 0, .bool false]
  rw [hw3, zw2] at bw3
  have HB1 := Lib.hid ((bw1.keep kw2 (fun h => h)).keep kw3 (fun h => h))
  have HB2 := Lib.hid (bw2.keep kw3 (fun h => h))
  have HB3 := Lib.hid bw3
  have HK := Lib.hid ((kw1.trans kw2).trans kw3)
  have y0 : w3.cell? ⟨w.heap.size, 0, none⟩ = some (.slice A n c) := HB1.out.cell 0
  have y1 : w3.cell? ⟨w.heap.size, 1, none⟩ = some (.slice A2 n2 c2) := HB1.out.cell 1
  have y2 : w3.cell? ⟨w.heap.size, 2, none⟩ = some (.bool k) := HB1.out.cell 2
  have x0 : w3.cell? ⟨w.heap.size + 1, 0, none⟩ = some (.slice B2 m2 d2) := HB2.out.cell 0
  clear kw1 kw2 kw3 bw1 bw2 bw3
  have HC := Lib.hid (HTu.out w3 102 #[.pointer (some ⟨w.heap.size + 1, 0, none⟩)] (staF y) HK.out (enters_of Try.func102 (by kernel_rfl) rfl) (fun W e A n c hk he hs => sta1_any y B2 m2 d2 e A n c _ N W hs (HY.out.never (HK.out.trans hk)) (by have h1 := hs.at_.len; have h2 := HSz.out.e e he; omega) hm (keepT hk x0)))
  clear HTu
  go_enter Try.func51, Try.ntmps51
  go_wp2_with fail
  refine HC.out.mono ?_
  rintro e W3 ⟨⟨A3, n3, c3, A4, n4, c4, k4⟩, rfl, hg3, hk3⟩
  have HG3 := Lib.hid hg3
  have HK3 := Lib.hid (HK.out.trans hk3)
  have HB3' := Lib.hid (HB3.out.keep hk3 (fun h => h))
  have b3 := HB1.out.keep hk3 (fun h => h)
  have HB3 := Lib.hid b3
  clear hg3 hk3 HC y0 y1 y2 x0 hw1 hw2 hw3 zw1 zw2

  have y0 : W3.cell? ⟨w.heap.size, 0, none⟩ = some (.slice A n c) := b3.cell 0
  have y1 : W3.cell? ⟨w.heap.size, 1, none⟩ = some (.slice A2 n2 c2) := b3.cell 1
  have y2 : W3.cell? ⟨w.heap.size, 2, none⟩ = some (.bool k) := b3.cell 2
  have yf0 := b3.frozen 0
  have yf1 := b3.frozen 1
  have yf2 := b3.frozen 2
  clear b3
  dsimp only [LA.cs]
  have HT2 : Hid ((turnM (staF y) (es, hr, k)).2 = 0 ∧ mayL (es, hr, k) = true ∨ (turnM (staF y) (es, hr, k)).2 = 1 ∧ mayL (es, hr, k) = false) := Lib.hid (by
    unfold turnM
    cases hm : mayL (es, hr, k) with
    | true => left; exact ⟨rfl, rfl⟩
    | false => right; exact ⟨rfl, rfl⟩)
  have HT1 : Hid (mayL (es, hr, k) = true → (turnM (staF y) (es, hr, k)).1 = (leftM (staF y) es, hr, k)) := Lib.hid (fun hm => by unfold turnM; rw [if_pos hm])
  have HT0 : Hid (mayL (es, hr, k) = false → (turnM (staF y) (es, hr, k)).1 = noL) := Lib.hid (fun hm => by unfold turnM; rw [if_neg (by rw [hm]; simp)])
  obtain ⟨tr, htr⟩ : ∃ z, turnM (staF y) (es, hr, k) = z := ⟨_, rfl⟩
  rw [htr] at HT2 HT1 HT0 HG3
  rw [htr]
  obtain ⟨tl, te⟩ := tr
  simp only at HT2 HT1 HT0 HG3 ⊢
  clear htr
  go_upto_region 2 with (fail)
  obtain ⟨W5, hW5⟩ : ∃ W : World, ((W3.setCell ⟨w.heap.size, 0, none⟩ (.slice A3 n3 c3)).setCell ⟨w.heap.size, 1, none⟩ (.slice A4 n4 c4)).setCell ⟨w.heap.size, 2, none⟩ (.bool k4) = W := ⟨_, rfl⟩
  rw [hW5]
  have k5 : Keep (fun q => q = w.heap.size) W3 W5 := by rw [← hW5]; exact putL_keep (Keep.refl (fun q => q = w.heap.size) W3) (.inl rfl) _ _ _
  have HB5 : Hid (Blk W5 (w.heap.size) 53 #[.slice A3 n3 c3, .slice A4 n4 c4, .bool k4]) := Lib.hid (by rw [← hW5]; exact putL_blk HB3.out _ _ _)
  clear hW5
  have HG5 := Lib.hid (HG3.out.keep k5 (Far2.blk HB3.out (by decide) (by decide) HNw.out))
  have HK5 := Lib.hid (HK3.out.then_ k5 (fun i hi e => by omega))
  have HB5' := Lib.hid (HB3'.out.keep k5 (by omega))
  clear k5 y0 y1 y2 yf0 yf1 yf2
  rcases HT2.out with ⟨rfl, hm0⟩ | ⟨rfl, hm0⟩
  · have HF : Hid (standsM (es, hr, k) z y = ((leftM (staF y) es, normM z, true), 0)) := Lib.hid (by unfold standsM; rw [if_pos hm0])
    have HTl := Lib.hid (HT1.out hm0)
    have hz5 := (HH.out.never HK5.out).at_
    have HC := Lib.hid (norm_any B1 m1 d1 _ z W5 hz5.rd hz5.nil hz5.cap (by omega) (Nat.le_refl _))
    clear hm0 hz5
    go_wp2_with fail
    refine HC.out.mono ?_
    intro e W6 hr6
    obtain ⟨A7, n7, c7, rfl, hs7, hk7⟩ := hr6.g (N := N) (l := normM z) (fun m h => normM_eq h.1)
    have HS7 := Lib.hid hs7
    have HK7 := Lib.hid (HK5.out.trans hk7)
    have HG7 := Lib.hid (HG5.out.never hk7)
    have b7 := HB5.out.keep hk7 (fun h => h)
    have HB7 := Lib.hid b7
    have HB7' := Lib.hid (HB5'.out.keep hk7 (fun h => h))
    have y0 : W6.cell? ⟨w.heap.size, 0, none⟩ = some (.slice A3 n3 c3) := b7.cell 0
    have y1 : W6.cell? ⟨w.heap.size, 1, none⟩ = some (.slice A4 n4 c4) := b7.cell 1
    have y2 : W6.cell? ⟨w.heap.size, 2, none⟩ = some (.bool k4) := b7.cell 2
    have yf0 := b7.frozen 0
    have yf1 := b7.frozen 1
    have yf2 := b7.frozen 2
    clear hr6 hs7 hk7 HC b7
    go_upto_region 4 with (fail)
    obtain ⟨W7, hW7⟩ : ∃ W : World, (W6.setCell ⟨w.heap.size, 1, none⟩ (.slice A7 n7 c7)).setCell ⟨w.heap.size, 2, none⟩ (.bool true) = W := ⟨_, rfl⟩
    rw [hW7]
    have k7 : Keep (fun q => q = w.heap.size) W6 W7 := by rw [← hW7]; exact ((Keep.refl (fun q => q = w.heap.size) W6).st (.inl rfl)).st (.inl rfl)
    have HB8 : Hid (Blk W7 w.heap.size 53 #[.slice A3 n3 c3, .slice A7 n7 c7, .bool true]) := Lib.hid (by rw [← hW7]; have := (HB7.out.set_ 1 (.slice A7 n7 c7)).set_ 2 (.bool true); simpa using this)
    have hF7 : Far2 N W6 (fun q => q = w.heap.size) := Far2.blk HB7.out (by decide) (by decide) HNw.out
    have HG8 := Lib.hid (HG7.out.keep k7 hF7)
    have HS8 := Lib.hid (HS7.out.keep k7 hF7.far)
    have HK8 := Lib.hid (HK7.out.then_ k7 (fun i hi e => by omega))
    have HB8' := Lib.hid (HB7'.out.keep k7 (by omega))
    clear hW7 k7 hF7 y0 y1 y2 yf0 yf1 yf2
    have y0 : W7.cell? ⟨w.heap.size, 0, none⟩ = some (.slice A3 n3 c3) := HB8.out.cell 0
    have y1 : W7.cell? ⟨w.heap.size, 1, none⟩ = some (.slice A7 n7 c7) := HB8.out.cell 1
    have y2 : W7.cell? ⟨w.heap.size, 2, none⟩ = some (.bool true) := HB8.out.cell 2
    have s0 : W7.cell? ⟨w.heap.size + 1 + 1, 0, none⟩ = some (.slice none 0 0) := HB8'.out.cell 0
    have s1 : W7.cell? ⟨w.heap.size + 1 + 1, 1, none⟩ = some (.slice none 0 0) := HB8'.out.cell 1
    have s2 : W7.cell? ⟨w.heap.size + 1 + 1, 2, none⟩ = some (.bool false) := HB8'.out.cell 2
    have sf0 := HB8'.out.frozen 0
    have sf1 := HB8'.out.frozen 1
    have sf2 := HB8'.out.frozen 2
    go_wp2_with fail
    (try simp only [Exit.inBlock, Exit.then])
    have hp := putL_keep (S := fun q => q = w.heap.size + 1 + 1) (Keep.refl _ W7) (b := w.heap.size + 1 + 1) (.inl rfl) (.slice A3 n3 c3) (.slice A7 n7 c7) (.bool true)
    have hF : Far2 N W7 (fun q => q = w.heap.size + 1 + 1) := Far2.blk HB8'.out (by decide) (by decide) (by have := HNw.out; omega)
    refine bodyPost_ret (ld_results2 (fn := Try.f51) (r := 6) (s := 7) rfl (putL_blk HB8'.out (.slice A3 n3 c3) (.slice A7 n7 c7) (.bool true)) _ rfl) rfl ⟨⟨A3, n3, c3, A7, n7, c7, true⟩, by rw [HF.out]; rfl, ?_, HK8.out.then_ hp (fun i hi e => by omega)⟩
    rw [HF.out]
    have he := (HG8.out.keep hp hF).e
    rw [HTl.out] at he
    exact ⟨he, HS8.out.keep hp hF.far, rfl⟩
  · have HF : Hid (standsM (es, hr, k) z y = (noL, 1)) := Lib.hid (by unfold standsM; rw [if_neg (by rw [hm0]; simp)])
    have HTl := Lib.hid (HT0.out hm0)
    clear hm0
    have y0 : W5.cell? ⟨w.heap.size, 0, none⟩ = some (.slice A3 n3 c3) := HB5.out.cell 0
    have y1 : W5.cell? ⟨w.heap.size, 1, none⟩ = some (.slice A4 n4 c4) := HB5.out.cell 1
    have y2 : W5.cell? ⟨w.heap.size, 2, none⟩ = some (.bool k4) := HB5.out.cell 2
    have s0 : W5.cell? ⟨w.heap.size + 1 + 1, 0, none⟩ = some (.slice none 0 0) := HB5'.out.cell 0
    have s1 : W5.cell? ⟨w.heap.size + 1 + 1, 1, none⟩ = some (.slice none 0 0) := HB5'.out.cell 1
    have s2 : W5.cell? ⟨w.heap.size + 1 + 1, 2, none⟩ = some (.bool false) := HB5'.out.cell 2
    have sf0 := HB5'.out.frozen 0
    have sf1 := HB5'.out.frozen 1
    have sf2 := HB5'.out.frozen 2
    go_wp2_with fail
    (try simp only [Exit.inBlock, Exit.then])
    have hp := putL_keep (S := fun q => q = w.heap.size + 1 + 1) (Keep.refl _ W5) (b := w.heap.size + 1 + 1) (.inl rfl) (.slice A3 n3 c3) (.slice A4 n4 c4) (.bool k4)
    have hF : Far2 N W5 (fun q => q = w.heap.size + 1 + 1) := Far2.blk HB5'.out (by decide) (by decide) (by have := HNw.out; omega)
    refine bodyPost_ret (ld_results2 (fn := Try.f51) (r := 6) (s := 7) rfl (putL_blk HB5'.out (.slice A3 n3 c3) (.slice A4 n4 c4) (.bool k4)) _ rfl) rfl ⟨⟨A3, n3, c3, A4, n4, c4, k4⟩, by rw [HF.out]; rfl, ?_, HK5.out.then_ hp (fun i hi e => by omega)⟩
    rw [HF.out]
    have he := HG5.out.keep hp hF
    rw [HTl.out] at he
    exact he
end Go.Proofs.Ytlcbajdckgcopaa
