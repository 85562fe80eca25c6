/- Chapter 18 (grant): Add. -/
import Derived.Test.YtlcbajdckgcopaaGrJ
namespace Go.Proofs.Ytlcbajdckgcopaa
open Go.RowKit

theorem lastT_at {l : List Ent} {m : Nat} {e : Ent} (h : l[m]? = some e) (hl : l.length = m + 1) (t : Int) : lastT t l = e.1 := by
  have := take_ent h
  rw [List.take_of_length_le (by omega)] at this
  rw [this, lastT_app]; rfl
/-- two rows, one behind the other -/
theorem egs_two {N : Nat} {w : World} {A A' : Option Addr} {n c n' c' : Nat} {l m : List Ent} (h : EsG N w A n c l) (h' : EsG N w A' n' c' m) :
    ∃ xs ys css, Rd w w.heap.size 4 A n xs ∧ Rd w w.heap.size 4 A' n' ys ∧ (∀ u ∈ xs, u.oneCell' = true) ∧ (∀ u ∈ ys, u.oneCell' = true) ∧ xs ++ ys = css.flatten ∧ All2 (EG N w) (l ++ m) css := by
  obtain ⟨⟨c1, h1, h2⟩, _⟩ := h
  obtain ⟨⟨c2, h3, h4⟩, _⟩ := h'
  exact ⟨_, _, c1 ++ c2, h1, h3, ents_one (h2.imp fun _ _ h => h.cells), ents_one (h4.imp fun _ _ h => h.cells), by rw [List.flatten_append], h2.app h4⟩

set_option maxHeartbeats 4000000 in
set_option maxRecDepth 100000 in
theorem gadd_any (x : LA) (l : Ldg) (N : Nat) (es2 : List Ent) (B : Option Addr) (m d : Nat) (w : World) (h : LdG N w x l) (he : EsG N w B m d es2) (hs : LdB x l) (hm : m ≤ 100000) (hb2 : ∀ e ∈ es2, e.2.2.1.length ≤ 200000) (hN : N ≤ w.heap.size) :
    Calls Try.prog 47 #[.agg x.cs, .slice B m d] w (LdRet2 N (addM l es2) w) := by
  have HG := Lib.hid h
  have HEs := Lib.hid he
  have HM := Lib.hid (fun (W : World) (hk : Keep Never w W) => gMay_any x l W.heap.size W ((h.never hk).ld) hs.small (Nat.le_refl _))
  have HEn0 := Lib.hid (fun (W : World) (hk : Keep Never w W) => gentries_any B m d W.heap.size es2 (lastT 0 l.1) W (he.never hk).sl (by omega) (fun e he => by have := hb2 e he; omega) (Nat.le_refl _))
  have HNw := Lib.hid hN
  have HKn := Lib.hid h.k
  have HSz := Lib.hid hs
  have HS2 := Lib.hid hb2
  obtain ⟨A, n, c, A2, n2, c2, k⟩ := x
  obtain ⟨es, hr, kn⟩ := l
  simp only [LA.cs] at HG HM HEn0 HKn HSz ⊢
  obtain rfl := HKn.out
  have hn100 : n ≤ 100000 := HSz.out.n
  have HLe : Hid (n = es.length ∧ m = es2.length) := Lib.hid ⟨HG.out.e.len, HEs.out.len⟩
  obtain ⟨fr, hfr⟩ : ∃ z, lastT 0 es = z := ⟨_, rfl⟩
  have HEn := Lib.hid (show ∀ (W : World), Keep Never w W → Calls Try.prog 84 #[.slice B m d, .int .i64 fr] W fun e w' => e = .returned (.bool (listB (lastT 0 es) es2)) ∧ Keep Never W w' from fun W hk => by rw [← hfr]; exact HEn0.out W hk)
  clear h hs hN HKn he hb2 HEn0
  obtain ⟨w1, hw1⟩ : ∃ W : World, w.alloc (.cells #[.slice A n c, .slice A2 n2 c2, .bool k] 53) = W := ⟨_, rfl⟩
  have zw1 : w1.heap.size = w.heap.size + 1 := by rw [← hw1]; simp
  have kw1 : Keep Never w w1 := by rw [← hw1]; exact (Keep.refl _ _).alloc _
  have bw1 := Blk.new w 53 #[.slice A n c, .slice A2 n2 c2, .bool k]
  rw [hw1] at bw1
  obtain ⟨w2, hw2⟩ : ∃ W : World, w1.alloc (.cells #[.slice none 0 0, .slice none 0 0, .bool false] 53) = W := ⟨_, rfl⟩
  have kw2 : Keep Never w1 w2 := by rw [← hw2]; exact (Keep.refl _ _).alloc _
  have bw2 := Blk.new w1 53 #[.slice none 0 0, .slice none 0 0, .bool false]
  rw [hw2, zw1] at bw2
  have HB1 := Lib.hid (bw1.keep kw2 (fun h => h))
  have HB2 := Lib.hid bw2
  have HK := Lib.hid (kw1.trans kw2)
  have y0 : w2.cell? ⟨w.heap.size, 0, none⟩ = some (.slice A n c) := HB1.out.cell 0
  have y1 : w2.cell? ⟨w.heap.size, 1, none⟩ = some (.slice A2 n2 c2) := HB1.out.cell 1
  have y2 : w2.cell? ⟨w.heap.size, 2, none⟩ = some (.bool k) := HB1.out.cell 2
  clear kw1 kw2 bw1 bw2
  have HC := Lib.hid (HM.out w2 HK.out)
  have hsplit : (n = 0 ∧ fr = 0) ∨ ∃ (q : Nat) (ad : Addr) (e1 : Int), n = q + 1 ∧ A = some ad ∧ fr = e1 ∧ w2.cell? (ad.add (q * 4)) = some (.int .i64 e1) := by
    rcases n with _ | q
    · left
      have h0 : es = [] := List.eq_nil_of_length_eq_zero (by simpa using HLe.out.1.symm)
      exact ⟨rfl, by rw [← hfr, h0]; rfl⟩
    · right
      obtain ⟨ad, e, A5, n5, c5, hA, hq, c0, _⟩ := ent_g (HG.out.e.never HK.out) (Nat.lt_succ_self q)
      exact ⟨q, ad, e.1, rfl, hA, by rw [← hfr]; exact lastT_at hq (by simpa using HLe.out.1.symm) 0, c0⟩
  clear hfr
  go_enter Try.func47, Try.ntmps47
  have hsp2 : ((0 < n) = False ∧ fr = 0) ∨ ∃ (q : Nat) (ad : Addr) (e1 : Int), n = q + 1 ∧ A = some ad ∧ fr = e1 ∧ w2.cell? (ad.add (q * 4)) = some (.int .i64 e1) := by
    rcases hsplit with ⟨h1, h2⟩ | h
    · left; exact ⟨by simp [h1], h2⟩
    · exact .inr h
  clear hsplit
  rcases hsp2 with ⟨g0, rfl⟩ | ⟨q, ad, e1, rfl, rfl, rfl, c0⟩
  · have t0 : decide (0 < n) = false := by simp [g0]
    clear g0
    go_wp2_with fail
    refine HC.out.mono ?_
    rintro e w3 ⟨rfl, hk3⟩
    have HK3 := Lib.hid (HK.out.trans hk3)
    have HB3 := Lib.hid (HB1.out.keep hk3 (fun h => h))
    have HB3' := Lib.hid (HB2.out.keep hk3 (fun h => h))
    clear hk3 HC y0 y1 y2 hw1 hw2 zw1 HM t0 
    cases hm1 : mayL (es, hr, k) with
    | false =>
      have HF : Hid (addM (es, hr, k) es2 = (noL, 1)) := Lib.hid (by unfold addM; rw [if_neg (by rw [hm1]; simp)])
      clear hm1
      have s0 : w3.cell? ⟨w.heap.size + 1, 0, none⟩ = some (.slice none 0 0) := HB3'.out.cell 0
      have s1 : w3.cell? ⟨w.heap.size + 1, 1, none⟩ = some (.slice none 0 0) := HB3'.out.cell 1
      have s2 : w3.cell? ⟨w.heap.size + 1, 2, none⟩ = some (.bool false) := HB3'.out.cell 2
      have sf0 := HB3'.out.frozen 0
      have sf1 := HB3'.out.frozen 1
      have sf2 := HB3'.out.frozen 2
      go_wp2_with fail
      (try simp only [Exit.inBlock, Exit.then])
      have hp := putL_keep HK3.out (b := w.heap.size + 1) (.inr (by show w.heap.size ≤ w.heap.size + 1; omega)) (.slice none 0 0) (.slice none 0 0) (.bool false)
      refine bodyPost_ret (ld_results2 (fn := Try.f47) (r := 4) (s := 5) rfl (putL_blk HB3'.out (.slice none 0 0) (.slice none 0 0) (.bool false)) _ rfl) rfl ⟨⟨none, 0, 0, none, 0, 0, false⟩, by rw [HF.out]; rfl, by rw [HF.out]; exact LdG.no _ _, hp⟩
    | true =>
      have HC := Lib.hid (HEn.out w3 HK3.out)
      go_wp2_with fail
      refine HC.out.mono ?_
      rintro e w4 ⟨rfl, hk4⟩
      have HK4 := Lib.hid (HK3.out.trans hk4)
      have HB4 := Lib.hid (HB3.out.keep hk4 (fun h => h))
      have HB4' := Lib.hid (HB3'.out.keep hk4 (fun h => h))
      clear hk4 HC HEn
      cases hm2 : listB (lastT 0 es) es2 with
      | false =>
        have HF : Hid (addM (es, hr, k) es2 = (noL, 1)) := Lib.hid (by unfold addM; rw [if_neg (by rw [hm2]; simp)])
        clear hm1 hm2
        have s0 : w4.cell? ⟨w.heap.size + 1, 0, none⟩ = some (.slice none 0 0) := HB4'.out.cell 0
        have s1 : w4.cell? ⟨w.heap.size + 1, 1, none⟩ = some (.slice none 0 0) := HB4'.out.cell 1
        have s2 : w4.cell? ⟨w.heap.size + 1, 2, none⟩ = some (.bool false) := HB4'.out.cell 2
        have sf0 := HB4'.out.frozen 0
        have sf1 := HB4'.out.frozen 1
        have sf2 := HB4'.out.frozen 2
        go_wp2_with fail
        (try simp only [Exit.inBlock, Exit.then])
        have hp := putL_keep HK4.out (b := w.heap.size + 1) (.inr (by show w.heap.size ≤ w.heap.size + 1; omega)) (.slice none 0 0) (.slice none 0 0) (.bool false)
        refine bodyPost_ret (ld_results2 (fn := Try.f47) (r := 4) (s := 5) rfl (putL_blk HB4'.out (.slice none 0 0) (.slice none 0 0) (.bool false)) _ rfl) rfl ⟨⟨none, 0, 0, none, 0, 0, false⟩, by rw [HF.out]; rfl, by rw [HF.out]; exact LdG.no _ _, hp⟩
      | true =>
        have y0 : w4.cell? ⟨w.heap.size, 0, none⟩ = some (.slice A n c) := HB4.out.cell 0
        have y1 : w4.cell? ⟨w.heap.size, 1, none⟩ = some (.slice A2 n2 c2) := HB4.out.cell 1
        have y2 : w4.cell? ⟨w.heap.size, 2, none⟩ = some (.bool k) := HB4.out.cell 2
        by_cases hl : 32 < n + m
        · have t1 : decide ((n : Int) + (m : Int) > 32) = true := by simp; omega
          have HF : Hid (addM (es, hr, k) es2 = (noL, 3)) := Lib.hid (by unfold addM; rw [if_pos ⟨hm1, hm2⟩, if_pos (by have := HLe.out; simp only at this ⊢; omega)])
          clear hm1 hm2 hl
          have s0 : w4.cell? ⟨w.heap.size + 1, 0, none⟩ = some (.slice none 0 0) := HB4'.out.cell 0
          have s1 : w4.cell? ⟨w.heap.size + 1, 1, none⟩ = some (.slice none 0 0) := HB4'.out.cell 1
          have s2 : w4.cell? ⟨w.heap.size + 1, 2, none⟩ = some (.bool false) := HB4'.out.cell 2
          have sf0 := HB4'.out.frozen 0
          have sf1 := HB4'.out.frozen 1
          have sf2 := HB4'.out.frozen 2
          go_wp2_with fail
          (try simp only [Exit.inBlock, Exit.then])
          have hp := putL_keep HK4.out (b := w.heap.size + 1) (.inr (by show w.heap.size ≤ w.heap.size + 1; omega)) (.slice none 0 0) (.slice none 0 0) (.bool false)
          refine bodyPost_ret (ld_results2 (fn := Try.f47) (r := 4) (s := 5) rfl (putL_blk HB4'.out (.slice none 0 0) (.slice none 0 0) (.bool false)) _ rfl) rfl ⟨⟨none, 0, 0, none, 0, 0, false⟩, by rw [HF.out]; rfl, by rw [HF.out]; exact LdG.no _ _, hp⟩
        · have t1 : decide ((n : Int) + (m : Int) > 32) = false := by simp; omega
          have HF : Hid (addM (es, hr, k) es2 = ((es ++ es2, hr, k), 0)) := Lib.hid (by unfold addM; rw [if_pos ⟨hm1, hm2⟩, if_neg (by have := HLe.out; simp only at this ⊢; omega)])
          have hn32 : n ≤ 32 := by omega
          have hm32 : m ≤ 32 := by omega
          obtain ⟨W5, hW5⟩ : ∃ W : World, w4.alloc (.cells #[.slice A n c, .slice B m d] 50) = W := ⟨_, rfl⟩
          have K5 : Keep Never w4 W5 := by rw [← hW5]; exact (Keep.refl _ _).alloc _
          have B5 := Blk.new w4 50 #[.slice A n c, .slice B m d]
          rw [hW5] at B5
          have HK5 := Lib.hid (HK4.out.trans K5)
          obtain ⟨xs, ys, css, hx1, hy1, hx2, hy2, hxy, hcs⟩ := egs_two (HG.out.e.never HK5.out) (HEs.out.never HK5.out)
          have HC := Lib.hid (econcat_any w4.heap.size 50 A B n c m d W5.heap.size xs ys W5 B5 hx1 hy1 hx2 hy2 (by omega) (by omega) (Nat.le_refl _))
          have HXY := Lib.hid (And.intro hxy hcs)
          have HB5 := Lib.hid (HB4.out.keep K5 (fun h => h))
          have HB5' := Lib.hid (HB4'.out.keep K5 (fun h => h))
          clear hm1 hm2 hl K5 B5 hx1 hy1 hx2 hy2 hxy hcs
          go_wp2_with fail
          refine HC.out.mono ?_
          rintro e w6 ⟨A6, c6, rfl, ho6, hk6⟩
          have HK6 := Lib.hid (HK5.out.trans hk6)
          have b6 := HB5.out.keep hk6 (fun h => h)
          have HB6' := Lib.hid (HB5'.out.keep hk6 (fun h => h))
          have hE6 := egs_keep HXY.out.2 hk6 (Far.none _ _)
          rw [HXY.out.1] at ho6
          have hg6 := EsG.own ho6 hE6
          have hH6 := HG.out.h.never HK6.out
          have z0 : w6.cell? ⟨w.heap.size, 0, none⟩ = some (.slice A n c) := b6.cell 0
          have z1 : w6.cell? ⟨w.heap.size, 1, none⟩ = some (.slice A2 n2 c2) := b6.cell 1
          have z2 : w6.cell? ⟨w.heap.size, 2, none⟩ = some (.bool k) := b6.cell 2
          have zf0 := b6.frozen 0
          have zf1 := b6.frozen 1
          have zf2 := b6.frozen 2
          obtain ⟨w7, hw7⟩ : ∃ W : World, w6.setCell ⟨w.heap.size, 0, none⟩ (.slice A6 (n + m) c6) = W := ⟨_, rfl⟩
          have k7 : Keep (fun q => q = w.heap.size) w6 w7 := by rw [← hw7]; exact (Keep.refl (fun q => q = w.heap.size) w6).st (.inl rfl)
          have hF7 : Far2 N w6 (fun q => q = w.heap.size) := Far2.blk b6 (by decide) (by decide) HNw.out
          have HK7 := Lib.hid (HK6.out.then_ k7 (fun i hi e => by omega))
          have HB7' := Lib.hid (HB6'.out.keep k7 (by omega))
          have b7 : Blk w7 w.heap.size 53 #[.slice A6 (n + m) c6, .slice A2 n2 c2, .bool k] := by rw [← hw7]; have := b6.set_ 0 (.slice A6 (n + m) c6); simpa using this
          have v0 : w7.cell? ⟨w.heap.size, 0, none⟩ = some (.slice A6 (n + m) c6) := b7.cell 0
          have v1 : w7.cell? ⟨w.heap.size, 1, none⟩ = some (.slice A2 n2 c2) := b7.cell 1
          have v2 : w7.cell? ⟨w.heap.size, 2, none⟩ = some (.bool k) := b7.cell 2
          have hg7 : LdG N w7 ⟨A6, n + m, c6, A2, n2, c2, k⟩ (es ++ es2, hr, k) := ⟨hg6.keep k7 hF7, hH6.keep k7 hF7.far, rfl⟩
          have HC7 := Lib.hid (copied_any _ _ N w7 hg7 ⟨by show n + m ≤ 100000000; omega, fun e he => by
            rcases List.mem_append.1 he with he | he
            · have := HSz.out.e e he; omega
            · have := HS2.out e he; omega, by have := HSz.out.h; simp only at this ⊢; omega⟩ (Nat.le_trans HNw.out HK7.out.size))
          clear b7 b6 hE6 hg6 hH6 ho6 hk6 k7 hF7 hg7 HC y0 y1 y2 hW5
          dsimp only [LA.cs] at HC7
          go_wp2_with fail
          refine HC7.out.mono ?_
          rintro e w8 ⟨⟨A8, n8, c8, A9, n9, c9, k9⟩, rfl, hg8, hk8⟩
          have HG8 := Lib.hid hg8
          have HK8 := Lib.hid (HK7.out.trans hk8)
          have HB8' := Lib.hid (HB7'.out.keep hk8 (fun h => h))
          clear hg8 hk8 HC7 hw7 v0 v1 v2 z0 z1 z2 zf0 zf1 zf2
          dsimp only [LA.cs]
          have s0 : w8.cell? ⟨w.heap.size + 1, 0, none⟩ = some (.slice none 0 0) := HB8'.out.cell 0
          have s1 : w8.cell? ⟨w.heap.size + 1, 1, none⟩ = some (.slice none 0 0) := HB8'.out.cell 1
          have s2 : w8.cell? ⟨w.heap.size + 1, 2, none⟩ = some (.bool false) := HB8'.out.cell 2
          have sf0 := HB8'.out.frozen 0
          have sf1 := HB8'.out.frozen 1
          have sf2 := HB8'.out.frozen 2
          go_wp2_with fail
          (try simp only [Exit.inBlock, Exit.then])
          have hp := putL_keep (S := fun q => q = w.heap.size + 1) (Keep.refl _ w8) (b := w.heap.size + 1) (.inl rfl) (.slice A8 n8 c8) (.slice A9 n9 c9) (.bool k9)
          have hF : Far2 N w8 (fun q => q = w.heap.size + 1) := Far2.blk HB8'.out (by decide) (by decide) (by have := HNw.out; omega)
          refine bodyPost_ret (ld_results2 (fn := Try.f47) (r := 4) (s := 5) rfl (putL_blk HB8'.out (.slice A8 n8 c8) (.slice A9 n9 c9) (.bool k9)) _ rfl) rfl ⟨⟨A8, n8, c8, A9, n9, c9, k9⟩, by rw [HF.out]; rfl, by rw [HF.out]; exact HG8.out.keep hp hF, HK8.out.then_ hp (fun i hi e => by omega)⟩
  · have t0 : decide (0 < q + 1) = true := by simp
    have hq1 : ((q + 1 : Nat) : Int) - 1 = (q : Int) := by omega
    have hq2 : q < q + 1 := by omega
    go_wp2_with fail
    refine HC.out.mono ?_
    rintro e w3 ⟨rfl, hk3⟩
    have HK3 := Lib.hid (HK.out.trans hk3)
    have HB3 := Lib.hid (HB1.out.keep hk3 (fun h => h))
    have HB3' := Lib.hid (HB2.out.keep hk3 (fun h => h))
    clear hk3 HC y0 y1 y2 hw1 hw2 zw1 HM t0 hq1 hq2 c0
    cases hm1 : mayL (es, hr, k) with
    | false =>
      have HF : Hid (addM (es, hr, k) es2 = (noL, 1)) := Lib.hid (by unfold addM; rw [if_neg (by rw [hm1]; simp)])
      clear hm1
      have s0 : w3.cell? ⟨w.heap.size + 1, 0, none⟩ = some (.slice none 0 0) := HB3'.out.cell 0
      have s1 : w3.cell? ⟨w.heap.size + 1, 1, none⟩ = some (.slice none 0 0) := HB3'.out.cell 1
      have s2 : w3.cell? ⟨w.heap.size + 1, 2, none⟩ = some (.bool false) := HB3'.out.cell 2
      have sf0 := HB3'.out.frozen 0
      have sf1 := HB3'.out.frozen 1
      have sf2 := HB3'.out.frozen 2
      go_wp2_with fail
      (try simp only [Exit.inBlock, Exit.then])
      have hp := putL_keep HK3.out (b := w.heap.size + 1) (.inr (by show w.heap.size ≤ w.heap.size + 1; omega)) (.slice none 0 0) (.slice none 0 0) (.bool false)
      refine bodyPost_ret (ld_results2 (fn := Try.f47) (r := 4) (s := 5) rfl (putL_blk HB3'.out (.slice none 0 0) (.slice none 0 0) (.bool false)) _ rfl) rfl ⟨⟨none, 0, 0, none, 0, 0, false⟩, by rw [HF.out]; rfl, by rw [HF.out]; exact LdG.no _ _, hp⟩
    | true =>
      have HC := Lib.hid (HEn.out w3 HK3.out)
      go_wp2_with fail
      refine HC.out.mono ?_
      rintro e w4 ⟨rfl, hk4⟩
      have HK4 := Lib.hid (HK3.out.trans hk4)
      have HB4 := Lib.hid (HB3.out.keep hk4 (fun h => h))
      have HB4' := Lib.hid (HB3'.out.keep hk4 (fun h => h))
      clear hk4 HC HEn
      cases hm2 : listB (lastT 0 es) es2 with
      | false =>
        have HF : Hid (addM (es, hr, k) es2 = (noL, 1)) := Lib.hid (by unfold addM; rw [if_neg (by rw [hm2]; simp)])
        clear hm1 hm2
        have s0 : w4.cell? ⟨w.heap.size + 1, 0, none⟩ = some (.slice none 0 0) := HB4'.out.cell 0
        have s1 : w4.cell? ⟨w.heap.size + 1, 1, none⟩ = some (.slice none 0 0) := HB4'.out.cell 1
        have s2 : w4.cell? ⟨w.heap.size + 1, 2, none⟩ = some (.bool false) := HB4'.out.cell 2
        have sf0 := HB4'.out.frozen 0
        have sf1 := HB4'.out.frozen 1
        have sf2 := HB4'.out.frozen 2
        go_wp2_with fail
        (try simp only [Exit.inBlock, Exit.then])
        have hp := putL_keep HK4.out (b := w.heap.size + 1) (.inr (by show w.heap.size ≤ w.heap.size + 1; omega)) (.slice none 0 0) (.slice none 0 0) (.bool false)
        refine bodyPost_ret (ld_results2 (fn := Try.f47) (r := 4) (s := 5) rfl (putL_blk HB4'.out (.slice none 0 0) (.slice none 0 0) (.bool false)) _ rfl) rfl ⟨⟨none, 0, 0, none, 0, 0, false⟩, by rw [HF.out]; rfl, by rw [HF.out]; exact LdG.no _ _, hp⟩
      | true =>
        have y0 : w4.cell? ⟨w.heap.size, 0, none⟩ = some (.slice (some ad) (q + 1) c) := HB4.out.cell 0
        have y1 : w4.cell? ⟨w.heap.size, 1, none⟩ = some (.slice A2 n2 c2) := HB4.out.cell 1
        have y2 : w4.cell? ⟨w.heap.size, 2, none⟩ = some (.bool k) := HB4.out.cell 2
        by_cases hl : 32 < (q + 1) + m
        · have t1 : decide ((q : Int) + 1 + (m : Int) > 32) = true := by simp; omega
          have HF : Hid (addM (es, hr, k) es2 = (noL, 3)) := Lib.hid (by unfold addM; rw [if_pos ⟨hm1, hm2⟩, if_pos (by have := HLe.out; simp only at this ⊢; omega)])
          clear hm1 hm2 hl
          have s0 : w4.cell? ⟨w.heap.size + 1, 0, none⟩ = some (.slice none 0 0) := HB4'.out.cell 0
          have s1 : w4.cell? ⟨w.heap.size + 1, 1, none⟩ = some (.slice none 0 0) := HB4'.out.cell 1
          have s2 : w4.cell? ⟨w.heap.size + 1, 2, none⟩ = some (.bool false) := HB4'.out.cell 2
          have sf0 := HB4'.out.frozen 0
          have sf1 := HB4'.out.frozen 1
          have sf2 := HB4'.out.frozen 2
          go_wp2_with fail
          (try simp only [Exit.inBlock, Exit.then])
          have hp := putL_keep HK4.out (b := w.heap.size + 1) (.inr (by show w.heap.size ≤ w.heap.size + 1; omega)) (.slice none 0 0) (.slice none 0 0) (.bool false)
          refine bodyPost_ret (ld_results2 (fn := Try.f47) (r := 4) (s := 5) rfl (putL_blk HB4'.out (.slice none 0 0) (.slice none 0 0) (.bool false)) _ rfl) rfl ⟨⟨none, 0, 0, none, 0, 0, false⟩, by rw [HF.out]; rfl, by rw [HF.out]; exact LdG.no _ _, hp⟩
        · have t1 : decide ((q : Int) + 1 + (m : Int) > 32) = false := by simp; omega
          have HF : Hid (addM (es, hr, k) es2 = ((es ++ es2, hr, k), 0)) := Lib.hid (by unfold addM; rw [if_pos ⟨hm1, hm2⟩, if_neg (by have := HLe.out; simp only at this ⊢; omega)])
          have hn32 : (q + 1) ≤ 32 := by omega
          have hm32 : m ≤ 32 := by omega
          obtain ⟨W5, hW5⟩ : ∃ W : World, w4.alloc (.cells #[.slice (some ad) (q + 1) c, .slice B m d] 50) = W := ⟨_, rfl⟩
          have K5 : Keep Never w4 W5 := by rw [← hW5]; exact (Keep.refl _ _).alloc _
          have B5 := Blk.new w4 50 #[.slice (some ad) (q + 1) c, .slice B m d]
          rw [hW5] at B5
          have HK5 := Lib.hid (HK4.out.trans K5)
          obtain ⟨xs, ys, css, hx1, hy1, hx2, hy2, hxy, hcs⟩ := egs_two (HG.out.e.never HK5.out) (HEs.out.never HK5.out)
          have HC := Lib.hid (econcat_any w4.heap.size 50 (some ad) B (q + 1) c m d W5.heap.size xs ys W5 B5 hx1 hy1 hx2 hy2 (by omega) (by omega) (Nat.le_refl _))
          have HXY := Lib.hid (And.intro hxy hcs)
          have HB5 := Lib.hid (HB4.out.keep K5 (fun h => h))
          have HB5' := Lib.hid (HB4'.out.keep K5 (fun h => h))
          clear hm1 hm2 hl K5 B5 hx1 hy1 hx2 hy2 hxy hcs
          go_wp2_with fail
          refine HC.out.mono ?_
          rintro e w6 ⟨A6, c6, rfl, ho6, hk6⟩
          have HK6 := Lib.hid (HK5.out.trans hk6)
          have b6 := HB5.out.keep hk6 (fun h => h)
          have HB6' := Lib.hid (HB5'.out.keep hk6 (fun h => h))
          have hE6 := egs_keep HXY.out.2 hk6 (Far.none _ _)
          rw [HXY.out.1] at ho6
          have hg6 := EsG.own ho6 hE6
          have hH6 := HG.out.h.never HK6.out
          have z0 : w6.cell? ⟨w.heap.size, 0, none⟩ = some (.slice (some ad) (q + 1) c) := b6.cell 0
          have z1 : w6.cell? ⟨w.heap.size, 1, none⟩ = some (.slice A2 n2 c2) := b6.cell 1
          have z2 : w6.cell? ⟨w.heap.size, 2, none⟩ = some (.bool k) := b6.cell 2
          have zf0 := b6.frozen 0
          have zf1 := b6.frozen 1
          have zf2 := b6.frozen 2
          obtain ⟨w7, hw7⟩ : ∃ W : World, w6.setCell ⟨w.heap.size, 0, none⟩ (.slice A6 ((q + 1) + m) c6) = W := ⟨_, rfl⟩
          have k7 : Keep (fun q => q = w.heap.size) w6 w7 := by rw [← hw7]; exact (Keep.refl (fun q => q = w.heap.size) w6).st (.inl rfl)
          have hF7 : Far2 N w6 (fun q => q = w.heap.size) := Far2.blk b6 (by decide) (by decide) HNw.out
          have HK7 := Lib.hid (HK6.out.then_ k7 (fun i hi e => by omega))
          have HB7' := Lib.hid (HB6'.out.keep k7 (by omega))
          have b7 : Blk w7 w.heap.size 53 #[.slice A6 ((q + 1) + m) c6, .slice A2 n2 c2, .bool k] := by rw [← hw7]; have := b6.set_ 0 (.slice A6 ((q + 1) + m) c6); simpa using this
          have v0 : w7.cell? ⟨w.heap.size, 0, none⟩ = some (.slice A6 ((q + 1) + m) c6) := b7.cell 0
          have v1 : w7.cell? ⟨w.heap.size, 1, none⟩ = some (.slice A2 n2 c2) := b7.cell 1
          have v2 : w7.cell? ⟨w.heap.size, 2, none⟩ = some (.bool k) := b7.cell 2
          have hg7 : LdG N w7 ⟨A6, (q + 1) + m, c6, A2, n2, c2, k⟩ (es ++ es2, hr, k) := ⟨hg6.keep k7 hF7, hH6.keep k7 hF7.far, rfl⟩
          have HC7 := Lib.hid (copied_any _ _ N w7 hg7 ⟨by show (q + 1) + m ≤ 100000000; omega, fun e he => by
            rcases List.mem_append.1 he with he | he
            · have := HSz.out.e e he; omega
            · have := HS2.out e he; omega, by have := HSz.out.h; simp only at this ⊢; omega⟩ (Nat.le_trans HNw.out HK7.out.size))
          clear b7 b6 hE6 hg6 hH6 ho6 hk6 k7 hF7 hg7 HC y0 y1 y2 hW5
          dsimp only [LA.cs] at HC7
          go_wp2_with fail
          refine HC7.out.mono ?_
          rintro e w8 ⟨⟨A8, n8, c8, A9, n9, c9, k9⟩, rfl, hg8, hk8⟩
          have HG8 := Lib.hid hg8
          have HK8 := Lib.hid (HK7.out.trans hk8)
          have HB8' := Lib.hid (HB7'.out.keep hk8 (fun h => h))
          clear hg8 hk8 HC7 hw7 v0 v1 v2 z0 z1 z2 zf0 zf1 zf2
          dsimp only [LA.cs]
          have s0 : w8.cell? ⟨w.heap.size + 1, 0, none⟩ = some (.slice none 0 0) := HB8'.out.cell 0
          have s1 : w8.cell? ⟨w.heap.size + 1, 1, none⟩ = some (.slice none 0 0) := HB8'.out.cell 1
          have s2 : w8.cell? ⟨w.heap.size + 1, 2, none⟩ = some (.bool false) := HB8'.out.cell 2
          have sf0 := HB8'.out.frozen 0
          have sf1 := HB8'.out.frozen 1
          have sf2 := HB8'.out.frozen 2
          go_wp2_with fail
          (try simp only [Exit.inBlock, Exit.then])
          have hp := putL_keep (S := fun q => q = w.heap.size + 1) (Keep.refl _ w8) (b := w.heap.size + 1) (.inl rfl) (.slice A8 n8 c8) (.slice A9 n9 c9) (.bool k9)
          have hF : Far2 N w8 (fun q => q = w.heap.size + 1) := Far2.blk HB8'.out (by decide) (by decide) (by have := HNw.out; omega)
          refine bodyPost_ret (ld_results2 (fn := Try.f47) (r := 4) (s := 5) rfl (putL_blk HB8'.out (.slice A8 n8 c8) (.slice A9 n9 c9) (.bool k9)) _ rfl) rfl ⟨⟨A8, n8, c8, A9, n9, c9, k9⟩, by rw [HF.out]; rfl, by rw [HF.out]; exact HG8.out.keep hp hF, HK8.out.then_ hp (fun i hi e => by omega)⟩
end Go.Proofs.Ytlcbajdckgcopaa
