/- Chapter 18 (grant), the document: Lost, Held, Free, Expire, Add. -/
import Derived.Test.YtlcbajdckgcopaaGrT
namespace Go.Proofs.Ytlcbajdckgcopaa
open Go.RowKit

/-- one entry more -/
theorem row_put {N base no co co' : Nat} {wr w5 : World} {Ao Ao' : Option Addr} {V : Obj} {l : List Ent} {css : List (List Value)} {e : Ent} {cs : List Value} (h : Own wr base 77 4 Ao no co css.flatten) (ha : All2 (EG N wr) l css) (hN : N ≤ base) (he : EG N wr e cs)
    (hk : Keep (InRow Ao) (wr.alloc V) w5) (ho : Own w5 base 77 4 Ao' (no + 1) co' (css.flatten ++ cs)) : ∃ css', Own w5 base 77 4 Ao' (no + 1) co' css'.flatten ∧ All2 (EG N w5) (l ++ [e]) css' := by
  have k1 : Keep Never wr (wr.alloc V) := (Keep.refl _ _).alloc _
  have hF := Far.own (N := N) (h.alloc V) (by decide) hN
  refine ⟨css ++ [cs], by simpa using ho, ?_⟩
  exact (egs_keep (egs_keep ha k1 (Far.none _ _)) hk hF).app ⟨(he.keep k1 (Far.none _ _)).keep hk hF, trivial⟩
/-- between two rounds of a list of entries that is built -/
structure RowI (N : Nat) (w wr : World) (Ao : Option Addr) (no co : Nat) (l : List Ent) : Prop where
  keep : Keep Never w wr
  row : ∃ css, Own wr w.heap.size 77 4 Ao no co css.flatten ∧ All2 (EG N wr) l css
theorem gfilter_take {l : List Ent} {q : Nat} {e : Ent} (f : Ent → Bool) (h : l[q]? = some e) : (l.take (q + 1)).filter f = (l.take q).filter f ++ (if f e then [e] else []) := by
  rw [take_ent h, List.filter_append, List.filter_cons]; rfl

set_option maxHeartbeats 4000000 in
set_option maxRecDepth 100000 in
theorem rlost_any (x : LA) (l : Ldg) (N : Nat) (w : World) (h : LdG N w x l) (hs : LdT x l) (hN : N ≤ w.heap.size) :
    Calls Try.prog 53 #[.agg x.cs] w (LdRet2 N (lostM l) w) := by
  have HG := Lib.hid h
  have HM := Lib.hid (fun (W : World) (hk : Keep Never w W) => rMay_any x l W.heap.size W ((h.never hk).ld) hs (Nat.le_refl _))
  have HNw := Lib.hid hN
  have HKn := Lib.hid h.k
  have HSz := Lib.hid hs
  obtain ⟨A, n, c, A2, n2, c2, k⟩ := x
  obtain ⟨es, hr, kn⟩ := l
  simp only [LA.cs] at HG HM HKn HSz ⊢
  obtain rfl := HKn.out
  clear h hs hN HKn HSz
  obtain ⟨w1, hw1⟩ : ∃ V : World, w.alloc (.cells #[.slice A n c, .slice A2 n2 c2, .bool k] 53) = V := ⟨_, rfl⟩
  have zw1 : w1.heap.size = w.heap.size + 1 := by rw [← hw1]; simp
  have kw1 : Keep Never w w1 := by rw [← hw1]; exact (Keep.refl _ _).alloc _
  have bw1 := Blk.new w 53 #[.slice A n c, .slice A2 n2 c2, .bool k]
  rw [hw1] at bw1
  obtain ⟨w2, hw2⟩ : ∃ V : World, w1.alloc (.cells #[.slice none 0 0, .slice none 0 0, .bool false] 53) = V := ⟨_, rfl⟩
  have kw2 : Keep Never w1 w2 := by rw [← hw2]; exact (Keep.refl _ _).alloc _
  have bw2 := Blk.new w1 53 #[.slice none 0 0, .slice none 0 0, .bool false]
  rw [hw2, zw1] at bw2
  have HB1 := Lib.hid (bw1.keep kw2 (fun h => h))
  have HB2 := Lib.hid bw2
  have HK := Lib.hid (kw1.trans kw2)
  have y0 : w2.cell? ⟨w.heap.size, 0, none⟩ = some (.slice A n c) := HB1.out.cell 0
  have y1 : w2.cell? ⟨w.heap.size, 1, none⟩ = some (.slice A2 n2 c2) := HB1.out.cell 1
  have y2 : w2.cell? ⟨w.heap.size, 2, none⟩ = some (.bool k) := HB1.out.cell 2
  clear kw1 kw2 bw1 bw2
  have HC := Lib.hid (HM.out w2 HK.out)
  go_enter Try.func53, Try.ntmps53
  go_wp2_with fail
  refine HC.out.mono ?_
  rintro e w3 ⟨rfl, hk3⟩
  have HK3 := Lib.hid (HK.out.trans hk3)
  have HB3 := Lib.hid (HB1.out.keep hk3 (fun h => h))
  have HB3' := Lib.hid (HB2.out.keep hk3 (fun h => h))
  clear hk3 HC y0 y1 y2 hw1 hw2 zw1 HM
  cases hm : mayL (es, hr, k) with
  | false =>
    have HF : Hid (lostM (es, hr, k) = (noL, 1)) := Lib.hid (by unfold lostM; rw [if_neg (by rw [hm]; simp)])
    clear hm
    have s0 : w3.cell? ⟨w.heap.size + 1, 0, none⟩ = some (.slice none 0 0) := HB3'.out.cell 0
    have s1 : w3.cell? ⟨w.heap.size + 1, 1, none⟩ = some (.slice none 0 0) := HB3'.out.cell 1
    have s2 : w3.cell? ⟨w.heap.size + 1, 2, none⟩ = some (.bool false) := HB3'.out.cell 2
    have sf0 := HB3'.out.frozen 0
    have sf1 := HB3'.out.frozen 1
    have sf2 := HB3'.out.frozen 2
    go_wp2_with fail
    (try simp only [Exit.inBlock, Exit.then])
    have hp := putL_keep (S := fun q => q = w.heap.size + 1) (Keep.refl _ w3) (b := w.heap.size + 1) (.inl rfl) (.slice none 0 0) (.slice none 0 0) (.bool false)
    have hF : Far2 N w3 (fun q => q = w.heap.size + 1) := Far2.blk HB3'.out (by decide) (by decide) (by have := HNw.out; omega)
    refine bodyPost_ret (ld_results2 (fn := Try.f53) (r := 2) (s := 3) rfl (putL_blk HB3'.out (.slice none 0 0) (.slice none 0 0) (.bool false)) _ rfl) rfl ⟨⟨none, 0, 0, none, 0, 0, false⟩, by rw [HF.out]; rfl, by rw [HF.out]; exact LdG.no _ _, HK3.out.then_ hp (fun i hi e => by omega)⟩
  | true =>
    have HF : Hid (lostM (es, hr, k) = ((es, [], false), 0)) := Lib.hid (by unfold lostM; rw [if_pos hm])
    have y0 : w3.cell? ⟨w.heap.size, 0, none⟩ = some (.slice A n c) := HB3.out.cell 0
    have HG3 := Lib.hid (HG.out.e.never HK3.out)
    clear hm
    have s0 : w3.cell? ⟨w.heap.size + 1, 0, none⟩ = some (.slice none 0 0) := HB3'.out.cell 0
    have s1 : w3.cell? ⟨w.heap.size + 1, 1, none⟩ = some (.slice none 0 0) := HB3'.out.cell 1
    have s2 : w3.cell? ⟨w.heap.size + 1, 2, none⟩ = some (.bool false) := HB3'.out.cell 2
    have sf0 := HB3'.out.frozen 0
    have sf1 := HB3'.out.frozen 1
    have sf2 := HB3'.out.frozen 2
    go_wp2_with fail
    (try simp only [Exit.inBlock, Exit.then])
    have hp := putL_keep (S := fun q => q = w.heap.size + 1) (Keep.refl _ w3) (b := w.heap.size + 1) (.inl rfl) (.slice A n c) (.slice none 0 0) (.bool false)
    have hF : Far2 N w3 (fun q => q = w.heap.size + 1) := Far2.blk HB3'.out (by decide) (by decide) (by have := HNw.out; omega)
    refine bodyPost_ret (ld_results2 (fn := Try.f53) (r := 2) (s := 3) rfl (putL_blk HB3'.out (.slice A n c) (.slice none 0 0) (.bool false)) _ rfl) rfl ⟨⟨A, n, c, none, 0, 0, false⟩, by rw [HF.out]; rfl, by rw [HF.out]; exact ⟨HG3.out.keep hp hF, SpG.nil _ _, rfl⟩, HK3.out.then_ hp (fun i hi e => by omega)⟩

set_option maxHeartbeats 4000000 in
set_option maxRecDepth 100000 in
theorem rheld_any (x : LA) (l : Ldg) (N : Nat) (w : World) (h : LdG N w x l) (hs : LdT x l) (hall : (l.2.1 ++ exts l.1).length ≤ 1000) (hN : N ≤ w.heap.size) :
    Calls Try.prog 30 #[.agg x.cs] w (SpRetG N (heldM l) w) := by
  have HG := Lib.hid h
  have HM := Lib.hid (fun (W : World) (hk : Keep Never w W) => rMay_any x l W.heap.size W ((h.never hk).ld) hs (Nat.le_refl _))
  have HNw := Lib.hid hN
  have HKn := Lib.hid h.k
  have HSz := Lib.hid hs
  obtain ⟨A, n, c, A2, n2, c2, k⟩ := x
  obtain ⟨es, hr, kn⟩ := l
  simp only [LA.cs] at HG HM HKn HSz ⊢
  obtain rfl := HKn.out
  have HAll : Hid ((hr ++ exts es).length ≤ 1000) := Lib.hid hall
  have hsn := HSz.out.n
  have hsh := HSz.out.h
  simp only at hsn hsh
  clear h hs hN HKn hall HSz
  obtain ⟨w1, hw1⟩ : ∃ V : World, w.alloc (.cells #[.slice A n c, .slice A2 n2 c2, .bool k] 53) = V := ⟨_, rfl⟩
  have kw1 : Keep Never w w1 := by rw [← hw1]; exact (Keep.refl _ _).alloc _
  have bw1 := Blk.new w 53 #[.slice A n c, .slice A2 n2 c2, .bool k]
  rw [hw1] at bw1
  have HB1 := Lib.hid bw1
  have HK := Lib.hid kw1
  have y0 : w1.cell? ⟨w.heap.size, 0, none⟩ = some (.slice A n c) := HB1.out.cell 0
  have y1 : w1.cell? ⟨w.heap.size, 1, none⟩ = some (.slice A2 n2 c2) := HB1.out.cell 1
  have y2 : w1.cell? ⟨w.heap.size, 2, none⟩ = some (.bool k) := HB1.out.cell 2
  clear kw1 bw1
  have HC := Lib.hid (HM.out w1 HK.out)
  go_enter Try.func30, Try.ntmps30
  go_wp2_with fail
  refine HC.out.mono ?_
  rintro e w3 ⟨rfl, hk3⟩
  have HK3 := Lib.hid (HK.out.trans hk3)
  have b3 := HB1.out.keep hk3 (fun h => h)
  have HB3 := Lib.hid b3
  clear hk3 HC y0 y1 y2 hw1 HM
  cases hm : mayL (es, hr, k) with
  | false =>
    have HF : Hid (heldM (es, hr, k) = []) := Lib.hid (by unfold heldM; rw [if_neg (by rw [hm]; simp)])
    clear hm b3
    go_wp2_with fail
    go_ret
    exact ⟨none, 0, 0, rfl, by rw [HF.out]; exact SpG.nil _ _, HK3.out⟩
  | true =>
    have HF : Hid (heldM (es, hr, k) = normM (hr ++ exts es)) := Lib.hid (by unfold heldM; rw [if_pos hm])
    have y0 : w3.cell? ⟨w.heap.size, 0, none⟩ = some (.slice A n c) := b3.cell 0
    have y1 : w3.cell? ⟨w.heap.size, 1, none⟩ = some (.slice A2 n2 c2) := b3.cell 1
    have y2 : w3.cell? ⟨w.heap.size, 2, none⟩ = some (.bool k) := b3.cell 2
    have hh := (HG.out.h.never HK3.out).at_
    have HL2 : Hid (hr.length = n2) := Lib.hid hh.len
    have HR3 := Lib.hid hh.rd
    clear hm b3 hh
    go_wp2_with (refine wpList_app _ rfl _ (.tmp 11) _ rfl elemSp w3.heap.size (A := none) (n := 0) (c := 0) (xs := []) (by go_simp) (Own.nil _ _ _ _) _ (A' := A2) (m := n2) (c' := c2) (by go_simp) HR3.out (spCells_one _) (by omega) (by unfold maxLen; omega) (Nat.le_refl _) ?_; intro A3 c3 w4 hown4 hk4 hrow4; have HK34 : Hid (Keep Never w3 w4) := Lib.hid (hk4.mono (fun i _ h => by obtain ⟨_, h, _⟩ := h; cases h)); have HO4 : Hid (Own w4 w3.heap.size 109 3 A3 n2 c3 (spCells hr)) := Lib.hid (by simpa using hown4); have y0' : w4.cell? ⟨w.heap.size, 0, none⟩ = some (.slice A n c) := (HB3.out.keep HK34.out (fun h => h)).cell 0; clear hown4 hk4 hrow4 y0 y1 y2)
    clear y0'
    go_loopw [4, 5] (fun a i wr => ∃ (q n' c' : Nat) (A' : Option Addr), q ≤ n ∧ a = .slice A' n' c' ∧ i = .int .i64 q ∧ Hid (Keep Never w3 wr ∧ n' = (hr ++ exts (es.take q)).length ∧ Own wr w3.heap.size 109 3 A' n' c' (spCells (hr ++ exts (es.take q)))) ∧ n' ≤ 1000) (fun _ i _ => n - (intOf i).toNat)
    case atStart => exact ⟨0, n2, c3, A3, by omega, by simp, rfl, Lib.hid ⟨HK34.out, by simp [exts]; exact HL2.out.symm, by simpa [exts] using HO4.out⟩, by have := HAll.out; have := HL2.out; simp at *; omega⟩
    case round =>
      obtain ⟨q, n', c', A', hq, rfl, rfl, HH, hn'⟩ := hrel
      have y0 : wr.cell? ⟨w.heap.size, 0, none⟩ = some (.slice A n c) := (HB3.out.keep HH.out.1 (fun h => h)).cell 0
      by_cases h0 : q < n
      · have hkz : (q : Int) < (n : Int) := by omega
        obtain ⟨ad, e, A5, n5, c5, hA, he, c0, c1, c2', c3', hsp⟩ := ent_g (HG.out.e.never (HK3.out.trans HH.out.1)) h0
        subst hA
        obtain ⟨e0, e1, ex, e3⟩ := e
        simp only at c0 c1 c2' c3' hsp
        have HK1 := Lib.hid HH.out.1
        have HO1 := Lib.hid HH.out.2.2
        have HR1 := Lib.hid hsp.at_.rd
        have HT : Hid ((hr ++ exts (es.take (q + 1))) = (hr ++ exts (es.take q)) ++ ex ∧ n5 = ex.length) := Lib.hid ⟨by rw [exts_take he]; simp, hsp.at_.len.symm⟩
        have HN' := Lib.hid HH.out.2.1
        have hb : n' + n5 ≤ 1000 := by
          have h1 := HT.out; have h2 := HN'.out; have h3 := HAll.out; have h4 := exts_le es (q + 1)
          have h5 := congrArg List.length h1.1
          simp only [List.length_append] at h2 h3 h5; omega
        have hsz : w3.heap.size ≤ wr.heap.size := HK1.out.size
        clear hsp he c0 c1 c3'
        go_wp2_with (refine wpList_app _ rfl (.tmp 20) (.tmp 26) _ rfl elemSp w3.heap.size (A := A') (n := n') (c := c') (by go_simp) HO1.out _ (A' := A5) (m := n5) (c' := c5) (by go_simp) HR1.out (spCells_one _) (by omega) (by unfold maxLen; omega) hsz ?_; intro A6 c6 w6 hown6 hk6 hrow6; have HO6 := Lib.hid hown6; have HK6 := Lib.hid hk6; clear hown6 hk6 hrow6)
        have hk6 : Keep Never w3 w6 := HK1.out.then_ HK6.out (fun i hi h => by have := (HO1.out.row h).1; omega)
        refine ⟨⟨q + 1, n' + n5, c6, A6, by omega, rfl, by go_num, Lib.hid ⟨hk6, ?_, ?_⟩, hb⟩, ?_⟩
        · have h1 := HT.out; have h2 := HN'.out
          have h5 := congrArg List.length h1.1
          simp only [List.length_append] at h2 h5 ⊢; omega
        · rw [HT.out.1, spCells_app]; exact HO6.out
        · simp [intOf]; try omega
      · obtain rfl : q = n := by omega
        have hkz : ¬ (q : Int) < (q : Int) := by omega
        have HTk : Hid (es.take q = es) := Lib.hid (List.take_of_length_le (by rw [← HG.out.e.len]; exact Nat.le_refl _))
        have ho := HH.out.2.2
        rw [HTk.out] at ho
        have HC := Lib.hid (rnorm_g N A' n' c' (hr ++ exts es) wr (SpAt.of_own ho) hn')
        have HKf := Lib.hid (HK3.out.trans HH.out.1)
        clear ho
        go_wp2_with fail
        refine HC.out.mono ?_
        rintro e w7 ⟨A7, n7, c7, rfl, hg7, hk7⟩
        have HR : Hid (SpRetG N (heldM (es, hr, k)) w (.returned (.slice A7 n7 c7)) w7) := Lib.hid ⟨A7, n7, c7, rfl, by rw [HF.out]; exact hg7, HKf.out.trans hk7⟩
        clear hg7 hk7 HC
        go_wp2_with fail
        go_ret
        exact HR.out

set_option maxHeartbeats 4000000 in
set_option maxRecDepth 100000 in
theorem rfree_any (x : LA) (l : Ldg) (N : Nat) (B2 : Option Addr) (m2 d2 : Nat) (x2 : List Sp) (w : World) (h : LdG N w x l) (hx : SpG N w B2 m2 d2 x2) (hm2 : m2 ≤ 1000) (hs : LdT x l) (hall : (l.2.1 ++ exts l.1).length ≤ 1000) (hN : N ≤ w.heap.size) :
    Calls Try.prog 34 #[.agg x.cs, .slice B2 m2 d2] w fun e w' => e = .returned (.bool (freeM l x2)) ∧ Keep Never w w' := by
  have HHe := Lib.hid (fun (W : World) (hk : Keep Never w W) => rheld_any x l N W (h.never hk) hs hall (Nat.le_trans hN hk.size))
  have Hx := Lib.hid hx
  have Hln : Hid ((heldM l).length ≤ 1000) := Lib.hid (by
    unfold heldM; split
    · exact Nat.le_trans (normM_len _) hall
    · simp)
  have HG := Lib.hid h
  have HM := Lib.hid (fun (W : World) (hk : Keep Never w W) => rMay_any x l W.heap.size W ((h.never hk).ld) hs (Nat.le_refl _))
  have HNw := Lib.hid hN
  have HKn := Lib.hid h.k
  have HSz := Lib.hid hs
  obtain ⟨A, n, c, A2, n2, c2, k⟩ := x
  obtain ⟨es, hr, kn⟩ := l
  simp only [LA.cs] at HG HM HKn HSz HHe Hln ⊢
  obtain rfl := HKn.out
  clear h hs hN HKn hall hx HG HSz
  obtain ⟨w1, hw1⟩ : ∃ V : World, w.alloc (.cells #[.slice A n c, .slice A2 n2 c2, .bool k] 53) = V := ⟨_, rfl⟩
  have kw1 : Keep Never w w1 := by rw [← hw1]; exact (Keep.refl _ _).alloc _
  have bw1 := Blk.new w 53 #[.slice A n c, .slice A2 n2 c2, .bool k]
  rw [hw1] at bw1
  have HB1 := Lib.hid bw1
  have HK := Lib.hid kw1
  have y0 : w1.cell? ⟨w.heap.size, 0, none⟩ = some (.slice A n c) := HB1.out.cell 0
  have y1 : w1.cell? ⟨w.heap.size, 1, none⟩ = some (.slice A2 n2 c2) := HB1.out.cell 1
  have y2 : w1.cell? ⟨w.heap.size, 2, none⟩ = some (.bool k) := HB1.out.cell 2
  clear kw1 bw1
  have HC := Lib.hid (HM.out w1 HK.out)
  go_enter Try.func34, Try.ntmps34
  go_wp2_with fail
  refine HC.out.mono ?_
  rintro e w3 ⟨rfl, hk3⟩
  have HK3 := Lib.hid (HK.out.trans hk3)
  have HB3 := Lib.hid (HB1.out.keep hk3 (fun h => h))
  clear hk3 HC y0 y1 y2 hw1 HM
  have y0 : w3.cell? ⟨w.heap.size, 0, none⟩ = some (.slice A n c) := HB3.out.cell 0
  have y1 : w3.cell? ⟨w.heap.size, 1, none⟩ = some (.slice A2 n2 c2) := HB3.out.cell 1
  have y2 : w3.cell? ⟨w.heap.size, 2, none⟩ = some (.bool k) := HB3.out.cell 2
  have HC := Lib.hid (HHe.out w3 HK3.out)
  clear HHe
  go_wp2_with fail
  refine HC.out.mono ?_
  rintro e w4 ⟨A4, n4, c4, rfl, hg4, hk4⟩
  have hn4 : n4 ≤ 1000 := by have := hg4.at_.len; have h2 := Hln.out; omega
  have HK4 := Lib.hid (HK3.out.trans hk4)
  have HB4 := Lib.hid (HB3.out.keep hk4 (fun h => h))
  have HC2 := Lib.hid (rmeets_any w4.heap.size A4 n4 c4 B2 m2 d2 (heldM (es, hr, k)) x2 w4 hg4.at_ (Hx.out.never HK4.out).at_ hn4 hm2 (Nat.le_refl _))
  clear hg4 hk4 HC hn4 y0 y1 y2
  go_wp2_with fail
  refine HC2.out.mono ?_
  rintro e w5 ⟨r, rfl, hr5, hk5⟩
  have HK5 := Lib.hid (HK4.out.trans hk5)
  have y2 : w5.cell? ⟨w.heap.size, 2, none⟩ = some (.bool k) := (HB4.out.keep hk5 (fun h => h)).cell 2
  have HF : Hid (freeM (es, hr, k) x2 = (mayL (es, hr, k) && k && !r)) := Lib.hid (by rw [meetsB_m hr5]; rfl)
  clear hr5 HC2 hk5
  obtain ⟨mb, hmb⟩ : ∃ z, mayL (es, hr, k) = z := ⟨_, rfl⟩
  rw [hmb] at HF
  rw [hmb]
  clear hmb
  cases mb <;> cases k <;> cases r
  all_goals
    go_wp2_with fail
    go_ret
    exact ⟨by rw [HF.out]; rfl, HK5.out⟩

set_option maxHeartbeats 4000000 in
set_option maxRecDepth 100000 in
theorem rexp_any (x : LA) (l : Ldg) (N : Nat) (now : Int) (w : World) (h : LdG N w x l) (hs : LdT x l) (hN : N ≤ w.heap.size) :
    Calls Try.prog 49 #[.agg x.cs, .int .i64 now] w (LdRet2 N (expireM l now) w) := by
  have HG := Lib.hid h
  have HM := Lib.hid (fun (W : World) (hk : Keep Never w W) => rMay_any x l W.heap.size W ((h.never hk).ld) hs (Nat.le_refl _))
  have HNw := Lib.hid hN
  have HKn := Lib.hid h.k
  have HSz := Lib.hid hs
  obtain ⟨A, n, c, A2, n2, c2, k⟩ := x
  obtain ⟨es, hr, kn⟩ := l
  simp only [LA.cs] at HG HM HKn HSz ⊢
  obtain rfl := HKn.out
  have hn100 : n ≤ 100000 := HSz.out.n
  clear h hs hN HKn HSz
  obtain ⟨w1, hw1⟩ : ∃ V : World, w.alloc (.cells #[.slice A n c, .slice A2 n2 c2, .bool k] 53) = V := ⟨_, rfl⟩
  have zw1 : w1.heap.size = w.heap.size + 1 := by rw [← hw1]; simp
  have kw1 : Keep Never w w1 := by rw [← hw1]; exact (Keep.refl _ _).alloc _
  have bw1 := Blk.new w 53 #[.slice A n c, .slice A2 n2 c2, .bool k]
  rw [hw1] at bw1
  obtain ⟨w2, hw2⟩ : ∃ V : World, w1.alloc (.cells #[.slice none 0 0, .slice none 0 0, .bool false] 53) = V := ⟨_, rfl⟩
  have kw2 : Keep Never w1 w2 := by rw [← hw2]; exact (Keep.refl _ _).alloc _
  have bw2 := Blk.new w1 53 #[.slice none 0 0, .slice none 0 0, .bool false]
  rw [hw2, zw1] at bw2
  have HB1 := Lib.hid (bw1.keep kw2 (fun h => h))
  have HB2 := Lib.hid bw2
  have HK := Lib.hid (kw1.trans kw2)
  have y0 : w2.cell? ⟨w.heap.size, 0, none⟩ = some (.slice A n c) := HB1.out.cell 0
  have y1 : w2.cell? ⟨w.heap.size, 1, none⟩ = some (.slice A2 n2 c2) := HB1.out.cell 1
  have y2 : w2.cell? ⟨w.heap.size, 2, none⟩ = some (.bool k) := HB1.out.cell 2
  clear kw1 kw2 bw1 bw2
  have HC := Lib.hid (HM.out w2 HK.out)
  go_enter Try.func49, Try.ntmps49
  go_wp2_with fail
  refine HC.out.mono ?_
  rintro e w3 ⟨rfl, hk3⟩
  have HK3 := Lib.hid (HK.out.trans hk3)
  have HB3 := Lib.hid (HB1.out.keep hk3 (fun h => h))
  have HB3' := Lib.hid (HB2.out.keep hk3 (fun h => h))
  clear hk3 HC y0 y1 y2 hw1 hw2 zw1 HM
  cases hm : mayL (es, hr, k) with
  | false =>
    have HF : Hid (expireM (es, hr, k) now = (noL, 1)) := Lib.hid (by unfold expireM turnM; rw [if_neg (by rw [hm]; simp)])
    clear hm
    have s0 : w3.cell? ⟨w.heap.size + 1, 0, none⟩ = some (.slice none 0 0) := HB3'.out.cell 0
    have s1 : w3.cell? ⟨w.heap.size + 1, 1, none⟩ = some (.slice none 0 0) := HB3'.out.cell 1
    have s2 : w3.cell? ⟨w.heap.size + 1, 2, none⟩ = some (.bool false) := HB3'.out.cell 2
    have sf0 := HB3'.out.frozen 0
    have sf1 := HB3'.out.frozen 1
    have sf2 := HB3'.out.frozen 2
    go_wp2_with fail
    (try simp only [Exit.inBlock, Exit.then])
    have hp := putL_keep (S := fun q => q = w.heap.size + 1) (Keep.refl _ w3) (b := w.heap.size + 1) (.inl rfl) (.slice none 0 0) (.slice none 0 0) (.bool false)
    have hF : Far2 N w3 (fun q => q = w.heap.size + 1) := Far2.blk HB3'.out (by decide) (by decide) (by have := HNw.out; omega)
    refine bodyPost_ret (ld_results2 (fn := Try.f49) (r := 4) (s := 5) rfl (putL_blk HB3'.out (.slice none 0 0) (.slice none 0 0) (.bool false)) _ rfl) rfl ⟨⟨none, 0, 0, none, 0, 0, false⟩, by rw [HF.out]; rfl, by rw [HF.out]; exact LdG.no _ _, HK3.out.then_ hp (fun i hi e => by omega)⟩
  | true =>
    have HF : Hid (expireM (es, hr, k) now = ((es.filter fun e => decide (now < e.2.1), hr, k), 0)) := Lib.hid (by unfold expireM turnM; rw [if_pos hm, ref_exp hm])
    clear hm
    have y0 : w3.cell? ⟨w.heap.size, 0, none⟩ = some (.slice A n c) := HB3.out.cell 0
    go_wp2_with fail
    clear y0
    go_loopw [7, 8] (fun a i wr => ∃ (q no co : Nat) (Ao : Option Addr), q ≤ n ∧ a = .slice Ao no co ∧ i = .int .i64 q ∧ no ≤ q ∧ Hid (RowI N w3 wr Ao no co ((es.take q).filter fun e => decide (now < e.2.1)))) (fun _ i _ => n - (intOf i).toNat)
    case atStart => exact ⟨0, 0, 0, none, by omega, rfl, rfl, by omega, Lib.hid ⟨Keep.refl _ _, [], Own.nil _ _ _ _, trivial⟩⟩
    case round =>
      obtain ⟨q, no, co, Ao, hq, rfl, rfl, hno, HH⟩ := hrel
      have y0 : wr.cell? ⟨w.heap.size, 0, none⟩ = some (.slice A n c) := (HB3.out.keep HH.out.keep (fun h => h)).cell 0
      by_cases h0 : q < n
      · have hkz : (q : Int) < (n : Int) := by omega
        obtain ⟨ad, e, A5, n5, c5, hA, he, c0, c1, c2', c3', hsp⟩ := ent_g (HG.out.e.never (HK3.out.trans HH.out.keep)) h0
        subst hA
        have HTk := Lib.hid (gfilter_take (fun e => decide (now < e.2.1)) he)
        obtain ⟨e0, e1, ex, e3⟩ := e
        simp only at c0 c1 c2' c3' hsp HTk
        by_cases g : now < e1
        · have t0 : decide (e1 > now) = true := by simpa using g
          have HT2 : Hid ((es.take (q + 1)).filter (fun e => decide (now < e.2.1)) = (es.take q).filter (fun e => decide (now < e.2.1)) ++ [(e0, e1, ex, e3)]) := Lib.hid (by rw [HTk.out, decide_eq_true g]; rfl)
          obtain ⟨css, ho, ha⟩ := HH.out.row
          have HO := Lib.hid ho
          have HA := Lib.hid ha
          have HSp := Lib.hid hsp
          have HKr := Lib.hid HH.out.keep
          have hsz : w3.heap.size ≤ wr.heap.size := HKr.out.size
          clear g ho ha hsp he HTk
          go_wp2_with (refine wpList_app _ rfl (.tmp 29) (.tmp 35) _ rfl elemE w3.heap.size (A := Ao) (n := no) (c := co) (by go_simp) (HO.out.alloc _) _ (A' := some ⟨_, 0, none⟩) (m := 1) (c' := 1) (news := [.int .i64 e0, .int .i64 e1, .slice A5 n5 c5, .bool e3]) (by go_simp) (Rd.of_blk (n := 1) (cs := [.int .i64 e0, .int .i64 e1, .slice A5 n5 c5, .bool e3]) (Blk.new _ _ _) rfl) (by simp [Value.oneCell']) (by omega) (by unfold maxLen; omega) (by simp; omega) ?_; intro A6 c6 w6 hown6 hk6 hrow6; have HO6 := Lib.hid hown6; have HK6 := Lib.hid hk6; clear hown6 hk6 hrow6)
          have hk6 : Keep Never w3 w6 := (HKr.out.trans ((Keep.refl _ _).alloc _)).then_ HK6.out (fun i hi h => by have := (HO.out.row h).1; omega)
          refine ⟨⟨q + 1, no + 1, c6, A6, by omega, rfl, by go_num, by omega, Lib.hid ⟨hk6, ?_⟩⟩, ?_⟩
          · rw [HT2.out]
            exact row_put HO.out HA.out (Nat.le_trans HNw.out HK3.out.size) (EG.ofSp (e := (e0, e1, ex, e3)) HSp.out.at_ HSp.out.g) HK6.out HO6.out
          · simp [intOf]; try omega
        · have t0 : decide (e1 > now) = false := by simpa using g
          have HT2 : Hid ((es.take (q + 1)).filter (fun e => decide (now < e.2.1)) = (es.take q).filter (fun e => decide (now < e.2.1))) := Lib.hid (by rw [HTk.out, decide_eq_false g]; simp)
          clear g hsp he HTk
          go_wp2_with fail
          refine ⟨⟨q + 1, no, co, Ao, by omega, rfl, by go_num, by omega, Lib.hid ⟨HH.out.keep, by rw [HT2.out]; exact HH.out.row⟩⟩, ?_⟩
          simp [intOf]; try omega
      · obtain rfl : q = n := by omega
        have hkz : ¬ (q : Int) < (q : Int) := by omega
        have HTk : Hid (es.take q = es) := Lib.hid (List.take_of_length_le (by rw [← HG.out.e.len]; exact Nat.le_refl _))
        have HE6 : Hid (EsG N wr Ao no co (es.filter fun e => decide (now < e.2.1))) := Lib.hid (by
          obtain ⟨css, ho, ha⟩ := HH.out.row
          rw [HTk.out] at ha
          exact EsG.own ho ha)
        have HKr := Lib.hid (HK3.out.trans HH.out.keep)
        have HBr := Lib.hid (HB3.out.keep HH.out.keep (fun h => h))
        have HBr' := Lib.hid (HB3'.out.keep HH.out.keep (fun h => h))
        have HHr := Lib.hid (HG.out.h.never HKr.out)
        have y1 : wr.cell? ⟨w.heap.size, 1, none⟩ = some (.slice A2 n2 c2) := HBr.out.cell 1
        have y2 : wr.cell? ⟨w.heap.size, 2, none⟩ = some (.bool k) := HBr.out.cell 2
        have s0 : wr.cell? ⟨w.heap.size + 1, 0, none⟩ = some (.slice none 0 0) := HBr'.out.cell 0
        have s1 : wr.cell? ⟨w.heap.size + 1, 1, none⟩ = some (.slice none 0 0) := HBr'.out.cell 1
        have s2 : wr.cell? ⟨w.heap.size + 1, 2, none⟩ = some (.bool false) := HBr'.out.cell 2
        have sf0 := HBr'.out.frozen 0
        have sf1 := HBr'.out.frozen 1
        have sf2 := HBr'.out.frozen 2
        go_wp2_with fail
        (try simp only [Exit.inBlock, Exit.then])
        have hp := putL_keep (S := fun q => q = w.heap.size + 1) (Keep.refl _ wr) (b := w.heap.size + 1) (.inl rfl) (.slice Ao no co) (.slice A2 n2 c2) (.bool k)
        have hF : Far2 N wr (fun q => q = w.heap.size + 1) := Far2.blk HBr'.out (by decide) (by decide) (by have := HNw.out; omega)
        refine bodyPost_ret (ld_results2 (fn := Try.f49) (r := 4) (s := 5) rfl (putL_blk HBr'.out (.slice Ao no co) (.slice A2 n2 c2) (.bool k)) _ rfl) rfl ⟨⟨Ao, no, co, A2, n2, c2, k⟩, by rw [HF.out]; rfl, by rw [HF.out]; exact ⟨HE6.out.keep hp hF, HHr.out.keep hp hF.far, rfl⟩, HKr.out.then_ hp (fun i hi e => by omega)⟩

set_option maxHeartbeats 4000000 in
set_option maxRecDepth 100000 in
theorem radd_any (x : LA) (l : Ldg) (N : Nat) (es2 : List Ent) (B : Option Addr) (m d : Nat) (w : World) (h : LdG N w x l) (he : EsG N w B m d es2) (hs : LdT x l) (hn5 : x.n ≤ 50000) (hm : m ≤ 50000) (hb2 : ∀ e ∈ es2, e.2.2.1.length ≤ 1000) (hN : N ≤ w.heap.size) :
    Calls Try.prog 48 #[.agg x.cs, .slice B m d] w (LdRet2 N (addM l es2) w) := by
  have HEs := Lib.hid he
  have HE2 := Lib.hid hb2
  have HG := Lib.hid h
  have HM := Lib.hid (fun (W : World) (hk : Keep Never w W) => rMay_any x l W.heap.size W ((h.never hk).ld) hs (Nat.le_refl _))
  have HNw := Lib.hid hN
  have HKn := Lib.hid h.k
  have HSz := Lib.hid hs
  obtain ⟨A, n, c, A2, n2, c2, k⟩ := x
  obtain ⟨es, hr, kn⟩ := l
  simp only [LA.cs] at HG HM HKn HSz ⊢
  obtain rfl := HKn.out
  have hn100 : n ≤ 50000 := hn5
  clear h hs hN HKn he hb2 hn5
  obtain ⟨w1, hw1⟩ : ∃ V : World, w.alloc (.cells #[.slice A n c, .slice A2 n2 c2, .bool k] 53) = V := ⟨_, rfl⟩
  have zw1 : w1.heap.size = w.heap.size + 1 := by rw [← hw1]; simp
  have kw1 : Keep Never w w1 := by rw [← hw1]; exact (Keep.refl _ _).alloc _
  have bw1 := Blk.new w 53 #[.slice A n c, .slice A2 n2 c2, .bool k]
  rw [hw1] at bw1
  obtain ⟨w2, hw2⟩ : ∃ V : World, w1.alloc (.cells #[.slice none 0 0, .slice none 0 0, .bool false] 53) = V := ⟨_, rfl⟩
  have kw2 : Keep Never w1 w2 := by rw [← hw2]; exact (Keep.refl _ _).alloc _
  have bw2 := Blk.new w1 53 #[.slice none 0 0, .slice none 0 0, .bool false]
  rw [hw2, zw1] at bw2
  have HB1 := Lib.hid (bw1.keep kw2 (fun h => h))
  have HB2 := Lib.hid bw2
  have HK := Lib.hid (kw1.trans kw2)
  have y0 : w2.cell? ⟨w.heap.size, 0, none⟩ = some (.slice A n c) := HB1.out.cell 0
  have y1 : w2.cell? ⟨w.heap.size, 1, none⟩ = some (.slice A2 n2 c2) := HB1.out.cell 1
  have y2 : w2.cell? ⟨w.heap.size, 2, none⟩ = some (.bool k) := HB1.out.cell 2
  clear kw1 kw2 bw1 bw2
  have HC := Lib.hid (HM.out w2 HK.out)
  go_enter Try.func48, Try.ntmps48
  go_wp2_with fail
  refine HC.out.mono ?_
  rintro e w3 ⟨rfl, hk3⟩
  have HK3 := Lib.hid (HK.out.trans hk3)
  have HB3 := Lib.hid (HB1.out.keep hk3 (fun h => h))
  have HB3' := Lib.hid (HB2.out.keep hk3 (fun h => h))
  clear hk3 HC y0 y1 y2 hw1 hw2 zw1 HM
  obtain ⟨xs, ys, css, hx1, hy1, hx2, hy2, hxy, hcs⟩ := egs_two (HG.out.e.never HK3.out) (HEs.out.never HK3.out)
  have HX1 := Lib.hid hx1
  have HY1 := Lib.hid hy1
  have HX2 := Lib.hid hx2
  have HY2 := Lib.hid hy2
  have HXY := Lib.hid hxy
  have HCS := Lib.hid hcs
  clear hx1 hy1 hx2 hy2 hxy hcs
  have y0 : w3.cell? ⟨w.heap.size, 0, none⟩ = some (.slice A n c) := HB3.out.cell 0
  go_wp2_with (first
    | (refine wpList_app _ rfl _ (.tmp 12) _ rfl elemE w3.heap.size (A := none) (n := 0) (c := 0) (xs := []) (by go_simp) (Own.nil _ _ _ _) _ (A' := A) (m := n) (c' := c) (by go_simp) HX1.out HX2.out (by omega) (by unfold maxLen; omega) (Nat.le_refl _) ?_; intro A4 c4 w4 hown4 hk4 hrow4; have HK34 : Hid (Keep Never w3 w4) := Lib.hid (hk4.mono (fun i _ h => by obtain ⟨_, h, _⟩ := h; cases h)); have HO4 : Hid (Own w4 w3.heap.size 77 4 A4 n c4 xs) := Lib.hid (by simpa using hown4); have hsz4 : w3.heap.size ≤ w4.heap.size := HK34.out.size; have HY4 := Lib.hid (HY1.out.keep HK34.out (fun _ h => h.elim)); clear hown4 hk4 hrow4 y0)
    | (refine wpList_app _ rfl (.tmp 14) (.tmp 15) _ rfl elemE w3.heap.size (A := A4) (n := n) (c := c4) (by go_simp) HO4.out _ (A' := B) (m := m) (c' := d) (by go_simp) HY4.out HY2.out (by omega) (by unfold maxLen; omega) hsz4 ?_; intro A5 c5 w5 hown5 hk5 hrow5; have HK35 : Hid (Keep Never w3 w5) := Lib.hid (HK34.out.then_ hk5 (fun i hi h => by have := (HO4.out.row h).1; omega)); have HO5 : Hid (Own w5 w3.heap.size 77 4 A5 (n + m) c5 css.flatten) := Lib.hid (by rw [← HXY.out]; exact hown5); have HEg5 : Hid (EsG N w5 A5 (n + m) c5 (es ++ es2)) := Lib.hid (EsG.own HO5.out (egs_keep HCS.out HK35.out (Far.none _ _))); have HC := Lib.hid (rlist_any A5 (n + m) c5 _ (es ++ es2) w5 HEg5.out.sl (by omega) (fun e he => by rcases List.mem_append.1 he with he | he; exact HSz.out.e e he; exact HE2.out e he) (Nat.le_refl _)); clear hown5 hk5 hrow5))
  (try simp only [Nat.zero_add])
  refine HC.out.mono ?_
  rintro e w6 ⟨rfl, hk6⟩
  have HK6 := Lib.hid ((HK3.out.trans HK35.out).trans hk6)
  have HB6 := Lib.hid ((HB3.out.keep HK35.out (fun h => h)).keep hk6 (fun h => h))
  have HB6' := Lib.hid ((HB3'.out.keep HK35.out (fun h => h)).keep hk6 (fun h => h))
  have HEg6 := Lib.hid (HEg5.out.never hk6)
  have HHg6 := Lib.hid (HG.out.h.never HK6.out)
  have HLe : Hid (n = es.length ∧ m = es2.length) := Lib.hid ⟨HG.out.e.len, HEs.out.len⟩
  clear hk6 HC
  cases hm : mayL (es, hr, k) with
  | false =>
    have HF : Hid (addM (es, hr, k) es2 = (noL, 1)) := Lib.hid (by unfold addM; rw [if_neg (by rw [hm]; simp)])
    clear hm
    have s0 : w6.cell? ⟨w.heap.size + 1, 0, none⟩ = some (.slice none 0 0) := HB6'.out.cell 0
    have s1 : w6.cell? ⟨w.heap.size + 1, 1, none⟩ = some (.slice none 0 0) := HB6'.out.cell 1
    have s2 : w6.cell? ⟨w.heap.size + 1, 2, none⟩ = some (.bool false) := HB6'.out.cell 2
    have sf0 := HB6'.out.frozen 0
    have sf1 := HB6'.out.frozen 1
    have sf2 := HB6'.out.frozen 2
    go_wp2_with fail
    (try simp only [Exit.inBlock, Exit.then])
    have hp := putL_keep (S := fun q => q = w.heap.size + 1) (Keep.refl _ w6) (b := w.heap.size + 1) (.inl rfl) (.slice none 0 0) (.slice none 0 0) (.bool false)
    have hF : Far2 N w6 (fun q => q = w.heap.size + 1) := Far2.blk HB6'.out (by decide) (by decide) (by have := HNw.out; omega)
    refine bodyPost_ret (ld_results2 (fn := Try.f48) (r := 4) (s := 5) rfl (putL_blk HB6'.out (.slice none 0 0) (.slice none 0 0) (.bool false)) _ rfl) rfl ⟨⟨none, 0, 0, none, 0, 0, false⟩, by rw [HF.out]; rfl, by rw [HF.out]; exact LdG.no _ _, HK6.out.then_ hp (fun i hi e => by omega)⟩
  | true =>
    have HR : Hid (listB (lastT 0 es) es2 = listB 0 (es ++ es2)) := Lib.hid (ref_add (es, hr, k) es2 hm).symm
    cases hl : listB 0 (es ++ es2) with
    | false =>
      have HF : Hid (addM (es, hr, k) es2 = (noL, 1)) := Lib.hid (by unfold addM; rw [if_neg (by rw [HR.out, hl]; simp)])
      clear hm hl
      have s0 : w6.cell? ⟨w.heap.size + 1, 0, none⟩ = some (.slice none 0 0) := HB6'.out.cell 0
      have s1 : w6.cell? ⟨w.heap.size + 1, 1, none⟩ = some (.slice none 0 0) := HB6'.out.cell 1
      have s2 : w6.cell? ⟨w.heap.size + 1, 2, none⟩ = some (.bool false) := HB6'.out.cell 2
      have sf0 := HB6'.out.frozen 0
      have sf1 := HB6'.out.frozen 1
      have sf2 := HB6'.out.frozen 2
      go_wp2_with fail
      (try simp only [Exit.inBlock, Exit.then])
      have hp := putL_keep (S := fun q => q = w.heap.size + 1) (Keep.refl _ w6) (b := w.heap.size + 1) (.inl rfl) (.slice none 0 0) (.slice none 0 0) (.bool false)
      have hF : Far2 N w6 (fun q => q = w.heap.size + 1) := Far2.blk HB6'.out (by decide) (by decide) (by have := HNw.out; omega)
      refine bodyPost_ret (ld_results2 (fn := Try.f48) (r := 4) (s := 5) rfl (putL_blk HB6'.out (.slice none 0 0) (.slice none 0 0) (.bool false)) _ rfl) rfl ⟨⟨none, 0, 0, none, 0, 0, false⟩, by rw [HF.out]; rfl, by rw [HF.out]; exact LdG.no _ _, HK6.out.then_ hp (fun i hi e => by omega)⟩
    | true =>
      have HF0 : Hid (addM (es, hr, k) es2 = if 32 < (es ++ es2).length then (noL, 3) else ((es ++ es2, hr, k), 0)) := Lib.hid (by
        unfold addM; rw [if_pos ⟨hm, by rw [HR.out, hl]⟩]
        simp only [List.length_append])
      have HLn : Hid ((es ++ es2).length = n + m) := Lib.hid (by rw [List.length_append, ← HLe.out.1, ← HLe.out.2])
      obtain ⟨nm, hnm⟩ : ∃ z, n + m = z := ⟨_, rfl⟩
      rw [hnm] at HLn HEg6
      rw [hnm]
      clear hm hl hnm
      by_cases g : 32 < nm
      · have t1 : decide ((nm : Int) > 32) = true := by simp; omega
        have HF : Hid (addM (es, hr, k) es2 = (noL, 3)) := Lib.hid (by rw [HF0.out, if_pos (by rw [HLn.out]; exact g)])
        clear g
        have s0 : w6.cell? ⟨w.heap.size + 1, 0, none⟩ = some (.slice none 0 0) := HB6'.out.cell 0
        have s1 : w6.cell? ⟨w.heap.size + 1, 1, none⟩ = some (.slice none 0 0) := HB6'.out.cell 1
        have s2 : w6.cell? ⟨w.heap.size + 1, 2, none⟩ = some (.bool false) := HB6'.out.cell 2
        have sf0 := HB6'.out.frozen 0
        have sf1 := HB6'.out.frozen 1
        have sf2 := HB6'.out.frozen 2
        go_wp2_with fail
        (try simp only [Exit.inBlock, Exit.then])
        have hp := putL_keep (S := fun q => q = w.heap.size + 1) (Keep.refl _ w6) (b := w.heap.size + 1) (.inl rfl) (.slice none 0 0) (.slice none 0 0) (.bool false)
        have hF : Far2 N w6 (fun q => q = w.heap.size + 1) := Far2.blk HB6'.out (by decide) (by decide) (by have := HNw.out; omega)
        refine bodyPost_ret (ld_results2 (fn := Try.f48) (r := 4) (s := 5) rfl (putL_blk HB6'.out (.slice none 0 0) (.slice none 0 0) (.bool false)) _ rfl) rfl ⟨⟨none, 0, 0, none, 0, 0, false⟩, by rw [HF.out]; rfl, by rw [HF.out]; exact LdG.no _ _, HK6.out.then_ hp (fun i hi e => by omega)⟩
      · have t1 : decide ((nm : Int) > 32) = false := by simp; omega
        have HF : Hid (addM (es, hr, k) es2 = ((es ++ es2, hr, k), 0)) := Lib.hid (by rw [HF0.out, if_neg (by rw [HLn.out]; exact g)])
        have y1 : w6.cell? ⟨w.heap.size, 1, none⟩ = some (.slice A2 n2 c2) := HB6.out.cell 1
        have y2 : w6.cell? ⟨w.heap.size, 2, none⟩ = some (.bool k) := HB6.out.cell 2
        clear g
        have s0 : w6.cell? ⟨w.heap.size + 1, 0, none⟩ = some (.slice none 0 0) := HB6'.out.cell 0
        have s1 : w6.cell? ⟨w.heap.size + 1, 1, none⟩ = some (.slice none 0 0) := HB6'.out.cell 1
        have s2 : w6.cell? ⟨w.heap.size + 1, 2, none⟩ = some (.bool false) := HB6'.out.cell 2
        have sf0 := HB6'.out.frozen 0
        have sf1 := HB6'.out.frozen 1
        have sf2 := HB6'.out.frozen 2
        go_wp2_with fail
        (try simp only [Exit.inBlock, Exit.then])
        have hp := putL_keep (S := fun q => q = w.heap.size + 1) (Keep.refl _ w6) (b := w.heap.size + 1) (.inl rfl) (.slice A5 nm c5) (.slice A2 n2 c2) (.bool k)
        have hF : Far2 N w6 (fun q => q = w.heap.size + 1) := Far2.blk HB6'.out (by decide) (by decide) (by have := HNw.out; omega)
        refine bodyPost_ret (ld_results2 (fn := Try.f48) (r := 4) (s := 5) rfl (putL_blk HB6'.out (.slice A5 nm c5) (.slice A2 n2 c2) (.bool k)) _ rfl) rfl ⟨⟨A5, nm, c5, A2, n2, c2, k⟩, by rw [HF.out]; rfl, by rw [HF.out]; exact ⟨HEg6.out.keep hp hF, HHg6.out.keep hp hF.far, rfl⟩, HK6.out.then_ hp (fun i hi e => by omega)⟩
end Go.Proofs.Ytlcbajdckgcopaa
