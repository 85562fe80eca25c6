/- Chapter 18 (grant), the document: kept, Shorten, Stands. -/
import Derived.Test.YtlcbajdckgcopaaGrU
namespace Go.Proofs.Ytlcbajdckgcopaa
open Go.RowKit

set_option maxRecDepth 100000 in
theorem elemSl : Elem Try.prog 122 51 1 24 := ⟨Try.underlying122, _, _, rfl, rfl, rfl, rfl, rfl, by omega⟩
/-- a slice of spans, as a value -/
def NG (N : Nat) (w : World) (l : List Sp) (v : Value) : Prop := ∃ A n c, v = .slice A n c ∧ SpG N w A n c l
theorem NG.keep {N : Nat} {S : Nat → Prop} {w w' : World} {l : List Sp} {v : Value} (h : NG N w l v) (hk : Keep S w w') (hS : Far N w S) : NG N w' l v := by
  obtain ⟨A, n, c, h1, h2⟩ := h
  exact ⟨A, n, c, h1, h2.keep hk hS⟩
/-- slices of spans -/
structure NowG (N : Nat) (w : World) (A : Option Addr) (n : Nat) (ls : List (List Sp)) : Prop where
  row : ∃ vs, Rd w w.heap.size 1 A n vs ∧ All2 (NG N w) ls vs
  len : n = ls.length
theorem NowG.never {N n : Nat} {w w' : World} {A : Option Addr} {ls : List (List Sp)} (h : NowG N w A n ls) (hk : Keep Never w w') : NowG N w' A n ls := by
  obtain ⟨⟨vs, h1, h2⟩, h3⟩ := h
  exact ⟨⟨vs, (h1.keep hk (fun _ h => h.elim)).more hk.size, h2.imp fun _ _ h => h.keep hk (Far.none _ _)⟩, h3⟩
theorem now_at {N n q : Nat} {w : World} {A : Option Addr} {ls : List (List Sp)} (h : NowG N w A n ls) (hq : q < n) : ∃ ad l A2 n2 c2, A = some ad ∧ ls[q]? = some l ∧ w.cell? (ad.add q) = some (.slice A2 n2 c2) ∧ SpG N w A2 n2 c2 l := by
  obtain ⟨⟨vs, h1, h2⟩, h3⟩ := h
  obtain ⟨v, hv, A2, n2, c2, rfl, hsp⟩ := h2.at_ (List.getElem?_eq_getElem (show q < ls.length by omega))
  obtain ⟨ad, hA, _, hat⟩ := h1.at_ hq
  obtain ⟨u, h4, h5⟩ := hat 0 (by omega)
  rw [Nat.mul_one, Nat.add_zero, hv] at h4
  injection h4 with h4
  subst h4
  rw [Nat.mul_one, Nat.add_zero] at h5
  exact ⟨ad, _, A2, n2, c2, hA, List.getElem?_eq_getElem (show q < ls.length by omega), h5, hsp⟩
/-- between two rounds of the slices that are built -/
structure NowI (N : Nat) (w wr : World) (Ao : Option Addr) (no co : Nat) (ls : List (List Sp)) : Prop where
  keep : Keep Never w wr
  row : ∃ vs, Own wr w.heap.size 51 1 Ao no co vs ∧ All2 (NG N wr) ls vs
theorem all2_length {α β : Type} {R : α → β → Prop} : ∀ {l : List α} {m : List β}, All2 R l m → l.length = m.length
  | [], [], _ => rfl
  | [], _ :: _, h => h.elim
  | _ :: _, [], h => h.elim
  | _ :: l, _ :: m, h => by rw [List.length_cons, List.length_cons, all2_length h.2]
theorem NowI.done {N no co : Nat} {w wr : World} {Ao : Option Addr} {ls : List (List Sp)} (h : NowI N w wr Ao no co ls) : NowG N wr Ao no ls := by
  obtain ⟨vs, h1, h2⟩ := h.row
  exact ⟨⟨vs, h1.rd, h2⟩, by have := h1.len; have := all2_length h2; omega⟩
theorem now_put {N base no co co' : Nat} {wr w5 : World} {Ao Ao' : Option Addr} {V : Obj} {ls : List (List Sp)} {vs : List Value} {l : List Sp} {v : Value} (h : Own wr base 51 1 Ao no co vs) (ha : All2 (NG N wr) ls vs) (hN : N ≤ base) (he : NG N wr l v)
    (hk : Keep (InRow Ao) (wr.alloc V) w5) (ho : Own w5 base 51 1 Ao' (no + 1) co' (vs ++ [v])) : ∃ vs', Own w5 base 51 1 Ao' (no + 1) co' vs' ∧ All2 (NG N w5) (ls ++ [l]) vs' := by
  have k1 : Keep Never wr (wr.alloc V) := (Keep.refl _ _).alloc _
  have hF := Far.own (N := N) (h.alloc V) (by decide) hN
  refine ⟨vs ++ [v], ho, ?_⟩
  exact (ha.imp fun _ _ h => (h.keep k1 (Far.none _ _)).keep hk hF).app ⟨(he.keep k1 (Far.none _ _)).keep hk hF, trivial⟩
theorem left_take {f : Ent → List Sp} {l : List Ent} {q : Nat} {e : Ent} (h : l[q]? = some e) : leftM f (l.take (q + 1)) = leftM f (l.take q) ++ if 0 < (f e).length then [(e.1, e.2.1, f e, e.2.2.2)] else [] := by
  rw [take_ent h, leftM_app, leftM_cons, leftM_nil]

/-- entries are answered -/
def EsRet (N : Nat) (l : List Ent) (w : World) (e : Ending) (w' : World) : Prop := ∃ A n c, e = .returned (.slice A n c) ∧ EsG N w' A n c l ∧ Keep Never w w'

set_option maxHeartbeats 4000000 in
set_option maxRecDepth 100000 in
theorem rkept_any (A A2 : Option Addr) (n c c2 N : Nat) (es : List Ent) (f : Ent → List Sp) (w : World) (h : EsG N w A n c es) (hy : NowG N w A2 n (es.map f)) (hn : n ≤ 100000) (hN : N ≤ w.heap.size) :
    Calls Try.prog 101 #[.slice A n c, .slice A2 n c2] w (EsRet N (leftM f es) w) := by
  have HG := Lib.hid h
  have HNo := Lib.hid hy
  have HNw := Lib.hid hN
  have HLe := Lib.hid h.len
  clear h hy hN
  go_enter Try.func101, Try.ntmps101
  go_wp2_with fail
  go_loopw [5, 6] (fun a i wr => ∃ (q no co : Nat) (Ao : Option Addr), q ≤ n ∧ a = .slice Ao no co ∧ i = .int .i64 q ∧ no ≤ q ∧ Hid (RowI N w wr Ao no co (leftM f (es.take q)))) (fun _ i _ => n - (intOf i).toNat)
  case atStart => exact ⟨0, 0, 0, none, by omega, rfl, rfl, by omega, Lib.hid ⟨Keep.refl _ _, [], Own.nil _ _ _ _, trivial⟩⟩
  case round =>
    obtain ⟨q, no, co, Ao, hq, rfl, rfl, hno, HH⟩ := hrel
    by_cases h0 : q < n
    · have hkz : (q : Int) < (n : Int) := by omega
      obtain ⟨ad, e, A4, n4, c4, hA, he, c0, c1, c2', c3', _⟩ := ent_g HG.out h0
      subst hA
      have HTk := Lib.hid (left_take (f := f) he)
      obtain ⟨ad2, l, A5, n5, c5, hA2, hl, d0, hsp⟩ := now_at HNo.out h0
      subst hA2
      have hlf : l = f e := by
        rw [List.getElem?_map, he] at hl
        injection hl with hl; exact hl.symm
      subst hlf
      have hl5 : (f e).length = n5 := hsp.at_.len
      rw [hl5] at HTk
      have HSp := Lib.hid hsp
      have HKr := Lib.hid HH.out.keep
      have hsz : w.heap.size ≤ wr.heap.size := HKr.out.size
      have d0r : wr.cell? (ad2.add q) = some (.slice A5 n5 c5) := keepT HKr.out d0
      obtain ⟨e0, e1, ex, e3⟩ := e
      simp only at c0 c1 c2' c3' HTk HSp
      by_cases g : 0 < n5
      · have t0 : decide (0 < n5) = true := by simpa using g
        have HT2 : Hid (leftM f (es.take (q + 1)) = leftM f (es.take q) ++ [(e0, e1, f (e0, e1, ex, e3), e3)]) := Lib.hid (by rw [HTk.out, if_pos g])
        obtain ⟨css, ho, ha⟩ := HH.out.row
        have HO := Lib.hid ho
        have HA := Lib.hid ha
        have HS2 : Hid (∀ W', Keep Never w W' → Keep Never w W' ∧ W'.cell? (ad.add (q * 4)) = some (.int .i64 e0) ∧ W'.cell? ⟨(ad.add (q * 4)).block, (ad.add (q * 4)).off + 1, none⟩ = some (.int .i64 e1) ∧ W'.cell? ⟨(ad.add (q * 4)).block, (ad.add (q * 4)).off + 3, none⟩ = some (.bool e3) ∧ W'.cell? (ad2.add q) = some (.slice A5 n5 c5)) := Lib.hid (fun W' h => ⟨h, keepT h c0, keepT h c1, keepT h c3', keepT h d0⟩)
        clear g ho ha hsp he HTk hl hl5 c0 c1 c2' c3' d0
        go_wp2_with fail
        go_region_held3 (fun W' => Keep Never w W' ∧ W'.cell? (ad.add (q * 4)) = some (.int .i64 e0) ∧ W'.cell? ⟨(ad.add (q * 4)).block, (ad.add (q * 4)).off + 1, none⟩ = some (.int .i64 e1) ∧ W'.cell? ⟨(ad.add (q * 4)).block, (ad.add (q * 4)).off + 3, none⟩ = some (.bool e3) ∧ W'.cell? (ad2.add q) = some (.slice A5 n5 c5))
          (first | assumption | exact HS2.out _ HKr.out.drew | exact HS2.out _ (HKr.out.drew.alloc _) | exact HS2.out _ (by assumption))
          (first | (refine step_app _ rfl (.tmp 19) (.tmp 40) _ rfl elemE w.heap.size (A := Ao) (n := no) (c := co) (by go_simp) (HO.out.drew.alloc _) _ (A' := some ⟨_, 0, none⟩) (m := 1) (c' := 1) (news := [.int .i64 e0, .int .i64 e1, .slice A5 n5 c5, .bool e3]) (by go_simp) (Rd.of_blk (n := 1) (cs := [.int .i64 e0, .int .i64 e1, .slice A5 n5 c5, .bool e3]) (Blk.new _ _ _) rfl) (by simp [Value.oneCell']) (by omega) (by unfold maxLen; omega) (by simp; omega) ?_; intro A6 c6 w6 hown6 hk6 hrow6; have HO6 := Lib.hid hown6; have HK6 := Lib.hid hk6; have hkk : Keep Never w w6 := (HKr.out.drew.alloc _).then_ hk6 (fun i hi h => by have := (HO.out.row h).1; omega); clear hown6 hk6 hrow6))
        clear d0r
        go_wp2_with fail
        refine ⟨⟨q + 1, no + 1, c6, A6, by omega, rfl, by go_num, by omega, Lib.hid ⟨hkk, ?_⟩⟩, ?_⟩
        · rw [HT2.out]
          have hSr := HSp.out.never (HKr.out.drew)
          exact row_put HO.out.drew (HA.out.imp fun _ _ h => h.keep ((Keep.refl Never wr).drew) (Far.none _ _)) HNw.out (EG.ofSp (e := (e0, e1, f (e0, e1, ex, e3), e3)) hSr.at_ hSr.g) HK6.out HO6.out
        · simp [intOf]; try omega
      · have t0 : decide (0 < n5) = false := by simpa using g
        have HT2 : Hid (leftM f (es.take (q + 1)) = leftM f (es.take q)) := Lib.hid (by rw [HTk.out, if_neg g]; simp)
        clear g hsp he HTk hl hl5 c0 c1 c2' c3' d0
        go_wp2_with fail
        refine ⟨⟨q + 1, no, co, Ao, by omega, rfl, by go_num, by omega, Lib.hid ⟨HH.out.keep, by rw [HT2.out]; exact HH.out.row⟩⟩, ?_⟩
        simp [intOf]; try omega
    · obtain rfl : q = n := by omega
      have hkz : ¬ (q : Int) < (q : Int) := by omega
      have HTk : Hid (es.take q = es) := Lib.hid (List.take_of_length_le (by rw [← HLe.out]; exact Nat.le_refl _))
      have HR : Hid (EsG N wr Ao no co (leftM f es)) := Lib.hid (by
        obtain ⟨css, ho, ha⟩ := HH.out.row
        rw [HTk.out] at ha
        exact EsG.own ho ha)
      go_wp2_with fail
      go_ret
      exact ⟨Ao, no, co, rfl, HR.out, HH.out.keep⟩

set_option maxHeartbeats 4000000 in
set_option maxRecDepth 100000 in
theorem rsho_any (x : LA) (l : Ldg) (N : Nat) (t : Int) (y : List Sp) (B2 : Option Addr) (m2 d2 : Nat) (w : World) (h : LdG N w x l) (hy : SpG N w B2 m2 d2 y) (hs : LdT x l) (hm2 : m2 ≤ 1000) (hN : N ≤ w.heap.size) :
    Calls Try.prog 50 #[.agg x.cs, .int .i64 t, .slice B2 m2 d2] w (LdRet2 N (shortenM l t y) w) := by
  have HY := Lib.hid hy
  have HG := Lib.hid h
  have HM := Lib.hid (fun (W : World) (hk : Keep Never w W) => rMay_any x l W.heap.size W ((h.never hk).ld) hs (Nat.le_refl _))
  have HNw := Lib.hid hN
  have HKn := Lib.hid h.k
  have HSz := Lib.hid hs
  obtain ⟨A, n, c, A2, n2, c2, k⟩ := x
  obtain ⟨es, hr, kn⟩ := l
  simp only [LA.cs] at HG HM HKn HSz ⊢
  obtain rfl := HKn.out
  have hn100 : n ≤ 100000 := HSz.out.n
  clear h hs hN HKn hy
  obtain ⟨w1, hw1⟩ : ∃ V : World, w.alloc (.cells #[.slice A n c, .slice A2 n2 c2, .bool k] 53) = V := ⟨_, rfl⟩
  have zw1 : w1.heap.size = w.heap.size + 1 := by rw [← hw1]; simp
  have kw1 : Keep Never w w1 := by rw [← hw1]; exact (Keep.refl _ _).alloc _
  have bw1 := Blk.new w 53 #[.slice A n c, .slice A2 n2 c2, .bool k]
  rw [hw1] at bw1
  obtain ⟨w2, hw2⟩ : ∃ V : World, w1.alloc (.cells #[.slice none 0 0, .slice none 0 0, .bool false] 53) = V := ⟨_, rfl⟩
  have kw2 : Keep Never w1 w2 := by rw [← hw2]; exact (Keep.refl _ _).alloc _
  have bw2 := Blk.new w1 53 #[.slice none 0 0, .slice none 0 0, .bool false]
  rw [hw2, zw1] at bw2
  have HB1 := Lib.hid (bw1.keep kw2 (fun h => h))
  have HB2 := Lib.hid bw2
  have HK := Lib.hid (kw1.trans kw2)
  have y0 : w2.cell? ⟨w.heap.size, 0, none⟩ = some (.slice A n c) := HB1.out.cell 0
  have y1 : w2.cell? ⟨w.heap.size, 1, none⟩ = some (.slice A2 n2 c2) := HB1.out.cell 1
  have y2 : w2.cell? ⟨w.heap.size, 2, none⟩ = some (.bool k) := HB1.out.cell 2
  clear kw1 kw2 bw1 bw2
  have HC := Lib.hid (HM.out w2 HK.out)
  go_enter Try.func50, Try.ntmps50
  go_wp2_with fail
  refine HC.out.mono ?_
  rintro e w3 ⟨rfl, hk3⟩
  have HK3 := Lib.hid (HK.out.trans hk3)
  have HB3 := Lib.hid (HB1.out.keep hk3 (fun h => h))
  have HB3' := Lib.hid (HB2.out.keep hk3 (fun h => h))
  clear hk3 HC y0 y1 y2 hw1 hw2 zw1 HM
  cases hm : mayL (es, hr, k) with
  | false =>
    have HF : Hid (shortenM (es, hr, k) t y = (noL, 1)) := Lib.hid (by unfold shortenM turnM; rw [if_neg (by rw [hm]; simp)])
    clear hm
    have s0 : w3.cell? ⟨w.heap.size + 1, 0, none⟩ = some (.slice none 0 0) := HB3'.out.cell 0
    have s1 : w3.cell? ⟨w.heap.size + 1, 1, none⟩ = some (.slice none 0 0) := HB3'.out.cell 1
    have s2 : w3.cell? ⟨w.heap.size + 1, 2, none⟩ = some (.bool false) := HB3'.out.cell 2
    have sf0 := HB3'.out.frozen 0
    have sf1 := HB3'.out.frozen 1
    have sf2 := HB3'.out.frozen 2
    go_wp2_with fail
    (try simp only [Exit.inBlock, Exit.then])
    have hp := putL_keep (S := fun q => q = w.heap.size + 1) (Keep.refl _ w3) (b := w.heap.size + 1) (.inl rfl) (.slice none 0 0) (.slice none 0 0) (.bool false)
    have hF : Far2 N w3 (fun q => q = w.heap.size + 1) := Far2.blk HB3'.out (by decide) (by decide) (by have := HNw.out; omega)
    refine bodyPost_ret (ld_results2 (fn := Try.f50) (r := 6) (s := 7) rfl (putL_blk HB3'.out (.slice none 0 0) (.slice none 0 0) (.bool false)) _ rfl) rfl ⟨⟨none, 0, 0, none, 0, 0, false⟩, by rw [HF.out]; rfl, by rw [HF.out]; exact LdG.no _ _, HK3.out.then_ hp (fun i hi e => by omega)⟩
  | true =>
    have HF : Hid (shortenM (es, hr, k) t y = ((leftM (shoF t y) es, hr, k), 0)) := Lib.hid (by unfold shortenM turnM; rw [if_pos hm])
    clear hm
    have y0 : w3.cell? ⟨w.heap.size, 0, none⟩ = some (.slice A n c) := HB3.out.cell 0
    go_wp2_with fail
    clear y0
    go_loopw [9, 10, 11] (fun a i _x wr => ∃ (q no co : Nat) (Ao : Option Addr), q ≤ n ∧ a = .slice Ao no co ∧ i = .int .i64 q ∧ no ≤ q ∧ Hid (NowI N w3 wr Ao no co ((es.take q).map (shoF t y)))) (fun _ i _ _ => n - (intOf i).toNat)
    case atStart => exact ⟨0, 0, 0, none, by omega, rfl, rfl, by omega, Lib.hid ⟨Keep.refl _ _, [], Own.nil _ _ _ _, trivial⟩⟩
    case round =>
      obtain ⟨q, no, co, Ao, hq, rfl, rfl, hno, HH⟩ := hrel
      have y0 : wr.cell? ⟨w.heap.size, 0, none⟩ = some (.slice A n c) := (HB3.out.keep HH.out.keep (fun h => h)).cell 0
      by_cases h0 : q < n
      · have hkz : (q : Int) < (n : Int) := by omega
        obtain ⟨ad, e, A5, n5, c5, hA, he, c0, c1, c2', c3', hsp⟩ := ent_g (HG.out.e.never (HK3.out.trans HH.out.keep)) h0
        subst hA
        have hx5 : e.2.2.1.length ≤ 1000 := HSz.out.e e (List.mem_of_getElem? he)
        have hn5 : n5 ≤ 1000 := by have := hsp.at_.len; omega
        obtain ⟨e0, e1, ex, e3⟩ := e
        simp only at c0 c1 c2' c3' hsp
        obtain ⟨vs, ho, ha⟩ := HH.out.row
        have HO := Lib.hid ho
        have HA := Lib.hid ha
        have HSp := Lib.hid hsp
        have HKr := Lib.hid HH.out.keep
        have hsz : w3.heap.size ≤ wr.heap.size := HKr.out.size
        clear ho ha hx5 c1
        by_cases g : e0 < t
        case neg =>
          have t0 : decide (e0 < t) = false := by simpa using g
          have HT2 : Hid ((es.take (q + 1)).map (shoF t y) = (es.take q).map (shoF t y) ++ [ex]) := Lib.hid (by rw [take_ent he, List.map_append]; simp only [List.map_cons, List.map_nil]; unfold shoF; rw [if_pos (.inr (by simp only; omega))])
          clear g he hsp c3' hn5
          go_wp2_with (refine wpList_app _ rfl (.tmp 50) (.tmp 52) _ rfl elemSl w3.heap.size (A := Ao) (n := no) (c := co) (by go_simp) (HO.out.alloc _) _ (A' := some ⟨_, 0, none⟩) (m := 1) (c' := 1) (news := [.slice A5 n5 c5]) (by go_simp) (Rd.of_blk (n := 1) (cs := [.slice A5 n5 c5]) (Blk.new _ _ _) rfl) (by simp [Value.oneCell']) (by omega) (by unfold maxLen; omega) (by have := HKr.out.size; simp; omega) ?_; intro A6 c6 w6 hown6 hk6 hrow6; have HO6 := Lib.hid hown6; have HK6 := Lib.hid hk6; clear hown6 hk6 hrow6)
          have hk6 : Keep Never w3 w6 := (HKr.out.trans ((Keep.refl _ _).alloc _)).then_ HK6.out (fun i hi h => by have := (HO.out.row h).1; omega)
          refine ⟨⟨q + 1, no + 1, c6, A6, by omega, rfl, by go_num, by omega, Lib.hid ⟨hk6, ?_⟩⟩, ?_⟩
          · rw [HT2.out]
            exact now_put HO.out HA.out (Nat.le_trans HNw.out HK3.out.size) ⟨_, _, _, rfl, HSp.out⟩ HK6.out HO6.out
          · simp [intOf]; try omega
        have t0 : decide (e0 < t) = true := by simpa using g
        cases e3 with
        | true =>
          have HT2 : Hid ((es.take (q + 1)).map (shoF t y) = (es.take q).map (shoF t y) ++ [ex]) := Lib.hid (by rw [take_ent he, List.map_append]; simp only [List.map_cons, List.map_nil]; unfold shoF; rw [if_pos (.inl rfl)])
          clear g he hsp hn5
          go_wp2_with (refine wpList_app _ rfl (.tmp 50) (.tmp 52) _ rfl elemSl w3.heap.size (A := Ao) (n := no) (c := co) (by go_simp) (HO.out.alloc _) _ (A' := some ⟨_, 0, none⟩) (m := 1) (c' := 1) (news := [.slice A5 n5 c5]) (by go_simp) (Rd.of_blk (n := 1) (cs := [.slice A5 n5 c5]) (Blk.new _ _ _) rfl) (by simp [Value.oneCell']) (by omega) (by unfold maxLen; omega) (by have := HKr.out.size; simp; omega) ?_; intro A6 c6 w6 hown6 hk6 hrow6; have HO6 := Lib.hid hown6; have HK6 := Lib.hid hk6; clear hown6 hk6 hrow6)
          have hk6 : Keep Never w3 w6 := (HKr.out.trans ((Keep.refl _ _).alloc _)).then_ HK6.out (fun i hi h => by have := (HO.out.row h).1; omega)
          refine ⟨⟨q + 1, no + 1, c6, A6, by omega, rfl, by go_num, by omega, Lib.hid ⟨hk6, ?_⟩⟩, ?_⟩
          · rw [HT2.out]
            exact now_put HO.out HA.out (Nat.le_trans HNw.out HK3.out.size) ⟨_, _, _, rfl, HSp.out⟩ HK6.out HO6.out
          · simp [intOf]; try omega
        | false =>
          have HT2 : Hid ((es.take (q + 1)).map (shoF t y) = (es.take q).map (shoF t y) ++ [bothM ex y]) := Lib.hid (by rw [take_ent he, List.map_append]; simp only [List.map_cons, List.map_nil]; unfold shoF; rw [if_neg (by rintro (h | h); cases h; simp only at h; omega)])
          have HC := Lib.hid (rboth_g N A5 n5 c5 B2 m2 d2 ex y wr hsp.at_ (HY.out.never (HK3.out.trans HKr.out)).at_ hn5 hm2)
          clear g he hsp hn5
          go_wp2_with fail
          refine HC.out.mono ?_
          rintro e w5 ⟨A7, n7, c7, rfl, hg5, hk5⟩
          have HSp5 := Lib.hid hg5
          have HKr5 := Lib.hid (HKr.out.trans hk5)
          have HO5 := Lib.hid (HO.out.keep hk5 (fun _ _ h => h))
          have HA5 := Lib.hid (HA.out.imp fun _ _ h => h.keep hk5 (Far.none _ _))
          have hsz5 : w3.heap.size ≤ w5.heap.size := HKr5.out.size
          clear hg5 hk5 HC c0 c2' c3' y0
          go_wp2_with (refine wpList_app _ rfl (.tmp 50) (.tmp 52) _ rfl elemSl w3.heap.size (A := Ao) (n := no) (c := co) (by go_simp) (HO5.out.alloc _) _ (A' := some ⟨_, 0, none⟩) (m := 1) (c' := 1) (news := [.slice A7 n7 c7]) (by go_simp) (Rd.of_blk (n := 1) (cs := [.slice A7 n7 c7]) (Blk.new _ _ _) rfl) (by simp [Value.oneCell']) (by omega) (by unfold maxLen; omega) (by have := HKr5.out.size; simp; omega) ?_; intro A6 c6 w6 hown6 hk6 hrow6; have HO6 := Lib.hid hown6; have HK6 := Lib.hid hk6; clear hown6 hk6 hrow6)
          have hk6 : Keep Never w3 w6 := (HKr5.out.trans ((Keep.refl _ _).alloc _)).then_ HK6.out (fun i hi h => by have := (HO5.out.row h).1; omega)
          refine ⟨⟨q + 1, no + 1, c6, A6, by omega, rfl, by go_num, by omega, Lib.hid ⟨hk6, ?_⟩⟩, ?_⟩
          · rw [HT2.out]
            exact now_put HO5.out HA5.out (Nat.le_trans HNw.out HK3.out.size) ⟨_, _, _, rfl, HSp5.out⟩ HK6.out HO6.out
          · simp [intOf]; try omega
      · obtain rfl : q = n := by omega
        have hkz : ¬ (q : Int) < (q : Int) := by omega
        have HTk : Hid (es.take q = es) := Lib.hid (List.take_of_length_le (by rw [← HG.out.e.len]; exact Nat.le_refl _))
        have hd := NowI.done HH.out
        rw [HTk.out] at hd
        have hnq : no = q := by have h1 := hd.len; rw [List.length_map, ← HG.out.e.len] at h1; exact h1
        subst hnq
        have HKr := Lib.hid (HK3.out.trans HH.out.keep)
        have HBr := Lib.hid (HB3.out.keep HH.out.keep (fun h => h))
        have HBr' := Lib.hid (HB3'.out.keep HH.out.keep (fun h => h))
        have HHr := Lib.hid (HG.out.h.never HKr.out)
        have HCk := Lib.hid (fun (W : World) (hk : Keep Never wr W) => rkept_any A Ao no c co N es (shoF t y) W (HG.out.e.never (HKr.out.trans hk)) (hd.never hk) hn100 (Nat.le_trans HNw.out (HKr.out.trans hk).size))
        have y1 : wr.cell? ⟨w.heap.size, 1, none⟩ = some (.slice A2 n2 c2) := HBr.out.cell 1
        have y2 : wr.cell? ⟨w.heap.size, 2, none⟩ = some (.bool k) := HBr.out.cell 2
        clear hd
        go_wp2_with fail
        go_region_law (first
          | (go_simp; go_at_call 101; refine (HCk.out _ (Keep.refl Never wr).drew).mono ?_; rintro en w9 ⟨A9, n9, c9, rfl, hE9, hk9⟩; have HE9 := Lib.hid hE9; have HK9 := Lib.hid hk9.drewL; have v1 : w9.cell? ⟨w.heap.size, 1, none⟩ = some (.slice A2 n2 c2) := keepT HK9.out y1; have v2 : w9.cell? ⟨w.heap.size, 2, none⟩ = some (.bool k) := keepT HK9.out y2; have HS9 := Lib.hid (HBr'.out.keep HK9.out (fun h => h)); have s0 : w9.cell? ⟨w.heap.size + 1, 0, none⟩ = some (.slice none 0 0) := HS9.out.cell 0; have s1 : w9.cell? ⟨w.heap.size + 1, 1, none⟩ = some (.slice none 0 0) := HS9.out.cell 1; have s2 : w9.cell? ⟨w.heap.size + 1, 2, none⟩ = some (.bool false) := HS9.out.cell 2; have sf0 := HS9.out.frozen 0; have sf1 := HS9.out.frozen 1; have sf2 := HS9.out.frozen 2; clear hE9 hk9))
        all_goals
          have HKw9 := Lib.hid (HKr.out.trans HK9.out)
          have HH9 := Lib.hid (HHr.out.never HK9.out)
          (try go_wp2_with fail)
          (try simp only [Exit.inBlock, Exit.then])
          have hp := putL_keep (S := fun q => q = w.heap.size + 1) (Keep.refl _ w9) (b := w.heap.size + 1) (.inl rfl) (.slice A9 n9 c9) (.slice A2 n2 c2) (.bool k)
          have hF : Far2 N w9 (fun q => q = w.heap.size + 1) := Far2.blk HS9.out (by decide) (by decide) (by have := HNw.out; omega)
          refine bodyPost_ret (ld_results2 (fn := Try.f50) (r := 6) (s := 7) rfl (putL_blk HS9.out (.slice A9 n9 c9) (.slice A2 n2 c2) (.bool k)) _ rfl) rfl ⟨⟨A9, n9, c9, A2, n2, c2, k⟩, by rw [HF.out]; rfl, by rw [HF.out]; exact ⟨HE9.out.keep hp hF, HH9.out.keep hp hF.far, rfl⟩, HKw9.out.then_ hp (fun i hi e => by omega)⟩

set_option maxHeartbeats 4000000 in
set_option maxRecDepth 100000 in
theorem rsta_any (x : LA) (l : Ldg) (N : Nat) (z y : List Sp) (B1 B2 : Option Addr) (m1 d1 m2 d2 : Nat) (w : World) (h : LdG N w x l) (hh : SpG N w B1 m1 d1 z) (hy : SpG N w B2 m2 d2 y) (hs : LdT x l) (hm1 : m1 ≤ 1000) (hm2 : m2 ≤ 1000) (hN : N ≤ w.heap.size) :
    Calls Try.prog 52 #[.agg x.cs, .slice B1 m1 d1, .slice B2 m2 d2] w (LdRet2 N (standsM l z y) w) := by
  have HY := Lib.hid hy
  have HZ := Lib.hid hh
  have HG := Lib.hid h
  have HM := Lib.hid (fun (W : World) (hk : Keep Never w W) => rMay_any x l W.heap.size W ((h.never hk).ld) hs (Nat.le_refl _))
  have HNw := Lib.hid hN
  have HKn := Lib.hid h.k
  have HSz := Lib.hid hs
  obtain ⟨A, n, c, A2, n2, c2, k⟩ := x
  obtain ⟨es, hr, kn⟩ := l
  simp only [LA.cs] at HG HM HKn HSz ⊢
  obtain rfl := HKn.out
  have hn100 : n ≤ 100000 := HSz.out.n
  clear h hs hN HKn hy hh
  obtain ⟨w1, hw1⟩ : ∃ V : World, w.alloc (.cells #[.slice A n c, .slice A2 n2 c2, .bool k] 53) = V := ⟨_, rfl⟩
  have zw1 : w1.heap.size = w.heap.size + 1 := by rw [← hw1]; simp
  have kw1 : Keep Never w w1 := by rw [← hw1]; exact (Keep.refl _ _).alloc _
  have bw1 := Blk.new w 53 #[.slice A n c, .slice A2 n2 c2, .bool k]
  rw [hw1] at bw1
  obtain ⟨w2, hw2⟩ : ∃ V : World, w1.alloc (.cells #[.slice none 0 0, .slice none 0 0, .bool false] 53) = V := ⟨_, rfl⟩
  have kw2 : Keep Never w1 w2 := by rw [← hw2]; exact (Keep.refl _ _).alloc _
  have bw2 := Blk.new w1 53 #[.slice none 0 0, .slice none 0 0, .bool false]
  rw [hw2, zw1] at bw2
  have HB1 := Lib.hid (bw1.keep kw2 (fun h => h))
  have HB2 := Lib.hid bw2
  have HK := Lib.hid (kw1.trans kw2)
  have y0 : w2.cell? ⟨w.heap.size, 0, none⟩ = some (.slice A n c) := HB1.out.cell 0
  have y1 : w2.cell? ⟨w.heap.size, 1, none⟩ = some (.slice A2 n2 c2) := HB1.out.cell 1
  have y2 : w2.cell? ⟨w.heap.size, 2, none⟩ = some (.bool k) := HB1.out.cell 2
  clear kw1 kw2 bw1 bw2
  have HC := Lib.hid (HM.out w2 HK.out)
  go_enter Try.func52, Try.ntmps52
  go_wp2_with fail
  refine HC.out.mono ?_
  rintro e w3 ⟨rfl, hk3⟩
  have HK3 := Lib.hid (HK.out.trans hk3)
  have HB3 := Lib.hid (HB1.out.keep hk3 (fun h => h))
  have HB3' := Lib.hid (HB2.out.keep hk3 (fun h => h))
  clear hk3 HC y0 y1 y2 hw1 hw2 zw1 HM
  cases hm : mayL (es, hr, k) with
  | false =>
    have HF : Hid (standsM (es, hr, k) z y = (noL, 1)) := Lib.hid (by unfold standsM; rw [if_neg (by rw [hm]; simp)])
    clear hm
    have s0 : w3.cell? ⟨w.heap.size + 1, 0, none⟩ = some (.slice none 0 0) := HB3'.out.cell 0
    have s1 : w3.cell? ⟨w.heap.size + 1, 1, none⟩ = some (.slice none 0 0) := HB3'.out.cell 1
    have s2 : w3.cell? ⟨w.heap.size + 1, 2, none⟩ = some (.bool false) := HB3'.out.cell 2
    have sf0 := HB3'.out.frozen 0
    have sf1 := HB3'.out.frozen 1
    have sf2 := HB3'.out.frozen 2
    go_wp2_with fail
    (try simp only [Exit.inBlock, Exit.then])
    have hp := putL_keep (S := fun q => q = w.heap.size + 1) (Keep.refl _ w3) (b := w.heap.size + 1) (.inl rfl) (.slice none 0 0) (.slice none 0 0) (.bool false)
    have hF : Far2 N w3 (fun q => q = w.heap.size + 1) := Far2.blk HB3'.out (by decide) (by decide) (by have := HNw.out; omega)
    refine bodyPost_ret (ld_results2 (fn := Try.f52) (r := 6) (s := 7) rfl (putL_blk HB3'.out (.slice none 0 0) (.slice none 0 0) (.bool false)) _ rfl) rfl ⟨⟨none, 0, 0, none, 0, 0, false⟩, by rw [HF.out]; rfl, by rw [HF.out]; exact LdG.no _ _, HK3.out.then_ hp (fun i hi e => by omega)⟩
  | true =>
    have HF : Hid (standsM (es, hr, k) z y = ((leftM (staF y) es, normM z, true), 0)) := Lib.hid (by unfold standsM; rw [if_pos hm])
    clear hm
    have y0 : w3.cell? ⟨w.heap.size, 0, none⟩ = some (.slice A n c) := HB3.out.cell 0
    go_wp2_with fail
    clear y0
    go_loopw [9, 10] (fun a i wr => ∃ (q no co : Nat) (Ao : Option Addr), q ≤ n ∧ a = .slice Ao no co ∧ i = .int .i64 q ∧ no ≤ q ∧ Hid (NowI N w3 wr Ao no co ((es.take q).map (staF y)))) (fun _ i _ => n - (intOf i).toNat)
    case atStart => exact ⟨0, 0, 0, none, by omega, rfl, rfl, by omega, Lib.hid ⟨Keep.refl _ _, [], Own.nil _ _ _ _, trivial⟩⟩
    case round =>
      obtain ⟨q, no, co, Ao, hq, rfl, rfl, hno, HH⟩ := hrel
      have y0 : wr.cell? ⟨w.heap.size, 0, none⟩ = some (.slice A n c) := (HB3.out.keep HH.out.keep (fun h => h)).cell 0
      by_cases h0 : q < n
      · have hkz : (q : Int) < (n : Int) := by omega
        obtain ⟨ad, e, A5, n5, c5, hA, he, c0, c1, c2', c3', hsp⟩ := ent_g (HG.out.e.never (HK3.out.trans HH.out.keep)) h0
        subst hA
        have hx5 : e.2.2.1.length ≤ 1000 := HSz.out.e e (List.mem_of_getElem? he)
        have hn5 : n5 ≤ 1000 := by have := hsp.at_.len; omega
        obtain ⟨e0, e1, ex, e3⟩ := e
        simp only at c0 c1 c2' c3' hsp
        obtain ⟨vs, ho, ha⟩ := HH.out.row
        have HO := Lib.hid ho
        have HA := Lib.hid ha
        have HSp := Lib.hid hsp
        have HKr := Lib.hid HH.out.keep
        have hsz : w3.heap.size ≤ wr.heap.size := HKr.out.size
        clear ho ha hx5 c1
        have HT2 : Hid ((es.take (q + 1)).map (staF y) = (es.take q).map (staF y) ++ [minusM ex y]) := Lib.hid (by rw [take_ent he, List.map_append]; rfl)
        have HC := Lib.hid (rminus_g N A5 n5 c5 B2 m2 d2 ex y wr hsp.at_ (HY.out.never (HK3.out.trans HKr.out)).at_ hn5 hm2)
        clear he hsp hn5 c0 c3'
        go_wp2_with fail
        refine HC.out.mono ?_
        rintro e w5 ⟨A7, n7, c7, rfl, hg5, hk5⟩
        have HSp5 := Lib.hid hg5
        have HKr5 := Lib.hid (HKr.out.trans hk5)
        have HO5 := Lib.hid (HO.out.keep hk5 (fun _ _ h => h))
        have HA5 := Lib.hid (HA.out.imp fun _ _ h => h.keep hk5 (Far.none _ _))
        have hsz5 : w3.heap.size ≤ w5.heap.size := HKr5.out.size
        clear hg5 hk5 HC c2' y0
        go_wp2_with (refine wpList_app _ rfl (.tmp 23) (.tmp 32) _ rfl elemSl w3.heap.size (A := Ao) (n := no) (c := co) (by go_simp) (HO5.out.alloc _) _ (A' := some ⟨_, 0, none⟩) (m := 1) (c' := 1) (news := [.slice A7 n7 c7]) (by go_simp) (Rd.of_blk (n := 1) (cs := [.slice A7 n7 c7]) (Blk.new _ _ _) rfl) (by simp [Value.oneCell']) (by omega) (by unfold maxLen; omega) (by have := HKr5.out.size; simp; omega) ?_; intro A6 c6 w6 hown6 hk6 hrow6; have HO6 := Lib.hid hown6; have HK6 := Lib.hid hk6; clear hown6 hk6 hrow6)
        have hk6 : Keep Never w3 w6 := (HKr5.out.trans ((Keep.refl _ _).alloc _)).then_ HK6.out (fun i hi h => by have := (HO5.out.row h).1; omega)
        refine ⟨⟨q + 1, no + 1, c6, A6, by omega, rfl, by go_num, by omega, Lib.hid ⟨hk6, ?_⟩⟩, ?_⟩
        · rw [HT2.out]
          exact now_put HO5.out HA5.out (Nat.le_trans HNw.out HK3.out.size) ⟨_, _, _, rfl, HSp5.out⟩ HK6.out HO6.out
        · simp [intOf]; try omega
      · obtain rfl : q = n := by omega
        have hkz : ¬ (q : Int) < (q : Int) := by omega
        have HTk : Hid (es.take q = es) := Lib.hid (List.take_of_length_le (by rw [← HG.out.e.len]; exact Nat.le_refl _))
        have hd := NowI.done HH.out
        rw [HTk.out] at hd
        have hnq : no = q := by have h1 := hd.len; rw [List.length_map, ← HG.out.e.len] at h1; exact h1
        subst hnq
        have HKr := Lib.hid (HK3.out.trans HH.out.keep)
        have HBr := Lib.hid (HB3.out.keep HH.out.keep (fun h => h))
        have HBr' := Lib.hid (HB3'.out.keep HH.out.keep (fun h => h))
        have HHr := Lib.hid (HG.out.h.never HKr.out)
        have HCk := Lib.hid (fun (W : World) (hk : Keep Never wr W) => rkept_any A Ao no c co N es (staF y) W (HG.out.e.never (HKr.out.trans hk)) (hd.never hk) hn100 (Nat.le_trans HNw.out (HKr.out.trans hk).size))
        have HCn := Lib.hid (fun (W : World) (hk : Keep Never wr W) => rnorm_g N B1 m1 d1 z W (HZ.out.never (HKr.out.trans hk)).at_ hm1)
        clear hd
        go_wp2_with fail
        refine (HCk.out _ (Keep.refl Never wr)).mono ?_
        rintro en w9 ⟨A9, n9, c9, rfl, hE9, hk9⟩
        have HC := Lib.hid (HCn.out _ hk9)
        have HE9 := Lib.hid hE9
        have HK9 := Lib.hid hk9
        clear hE9 hk9 y0
        go_wp2_with fail
        refine HC.out.mono ?_
        rintro en w10 ⟨A8, n8, c8, rfl, hS8, hk10⟩
        have HS8 := Lib.hid hS8
        have HE10 := Lib.hid (HE9.out.never hk10)
        have HK10 := Lib.hid (HK9.out.trans hk10)
        have HS9 := Lib.hid (HBr'.out.keep HK10.out (fun h => h))
        have HKw9 := Lib.hid (HKr.out.trans HK10.out)
        clear hS8 hk10 HE9 HC
        have s0 : w10.cell? ⟨w.heap.size + 1, 0, none⟩ = some (.slice none 0 0) := HS9.out.cell 0
        have s1 : w10.cell? ⟨w.heap.size + 1, 1, none⟩ = some (.slice none 0 0) := HS9.out.cell 1
        have s2 : w10.cell? ⟨w.heap.size + 1, 2, none⟩ = some (.bool false) := HS9.out.cell 2
        have sf0 := HS9.out.frozen 0
        have sf1 := HS9.out.frozen 1
        have sf2 := HS9.out.frozen 2
        go_wp2_with fail
        (try simp only [Exit.inBlock, Exit.then])
        have hp := putL_keep (S := fun q => q = w.heap.size + 1) (Keep.refl _ w10) (b := w.heap.size + 1) (.inl rfl) (.slice A9 n9 c9) (.slice A8 n8 c8) (.bool true)
        have hF : Far2 N w10 (fun q => q = w.heap.size + 1) := Far2.blk HS9.out (by decide) (by decide) (by have := HNw.out; omega)
        refine bodyPost_ret (ld_results2 (fn := Try.f52) (r := 6) (s := 7) rfl (putL_blk HS9.out (.slice A9 n9 c9) (.slice A8 n8 c8) (.bool true)) _ rfl) rfl ⟨⟨A9, n9, c9, A8, n8, c8, true⟩, by rw [HF.out]; rfl, by rw [HF.out]; exact ⟨HE10.out.keep hp hF, HS8.out.keep hp hF.far, rfl⟩, HKw9.out.then_ hp (fun i hi e => by omega)⟩
end Go.Proofs.Ytlcbajdckgcopaa
