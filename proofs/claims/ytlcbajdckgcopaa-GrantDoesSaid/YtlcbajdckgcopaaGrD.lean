/- Chapter 18 (grant): a copy of a ledger. -/
import Derived.Test.YtlcbajdckgcopaaGrC
import Derived.Test.YtlcbajdckgcopaaTopD
namespace Go.Proofs.Ytlcbajdckgcopaa
open Go.RowKit

theorem putL_blk {w : World} {b t : Nat} {u0 u1 u2 : Value} (h : Blk w b t #[u0, u1, u2]) (v0 v1 v2 : Value) : Blk (((w.setCell ⟨b, 0, none⟩ v0).setCell ⟨b, 1, none⟩ v1).setCell ⟨b, 2, none⟩ v2) b t #[v0, v1, v2] := by
  have := ((h.set_ 0 v0).set_ 1 v1).set_ 2 v2
  simpa using this
theorem putL_keep {S : Nat → Prop} {w0 w : World} {b : Nat} (h : Keep S w0 w) (hb : S b ∨ w0.heap.size ≤ b) (v0 v1 v2 : Value) : Keep S w0 (((w.setCell ⟨b, 0, none⟩ v0).setCell ⟨b, 1, none⟩ v1).setCell ⟨b, 2, none⟩ v2) :=
  ((h.set_ (p := ⟨b, 0, none⟩) hb v0).set_ (p := ⟨b, 1, none⟩) hb v1).set_ (p := ⟨b, 2, none⟩) hb v2
set_option maxRecDepth 100000 in
theorem ld_results {fn : Func} {r : Nat} (h : fn.results = #[.cell r 53]) {w : World} {b : Nat} {v0 v1 v2 : Value} (hb : Blk w b 53 #[v0, v1, v2]) (tmps : Array Value) (ht : tmps.getD r undef = .pointer (some ⟨b, 0, none⟩)) :
    (results fn tmps).run Try.prog w = .ok (.agg #[v0, v1, v2]) w := by
  have q0 : w.cell? ⟨b, 0, none⟩ = some v0 := hb.cell 0
  have q1 : w.cell? ⟨b, 1, none⟩ = some v1 := hb.cell 1
  have q2 : w.cell? ⟨b, 2, none⟩ = some v2 := hb.cell 2
  have ht' : tmps[r]?.getD undef = .pointer (some ⟨b, 0, none⟩) := by rw [← Array.getD_eq_getD_getElem?]; exact ht
  simp [results, h, ht', go_sem, q0, q1, q2]
set_option maxRecDepth 100000 in
theorem ld_results2 {fn : Func} {r s : Nat} (h : fn.results = #[.cell r 53, .tmp s]) {w : World} {b : Nat} {v0 v1 v2 : Value} (hb : Blk w b 53 #[v0, v1, v2]) (tmps : Array Value) (ht : tmps.getD r undef = .pointer (some ⟨b, 0, none⟩)) :
    (results fn tmps).run Try.prog w = .ok (.tuple #[.agg #[v0, v1, v2], tmps.getD s undef]) w := by
  have q0 : w.cell? ⟨b, 0, none⟩ = some v0 := hb.cell 0
  have q1 : w.cell? ⟨b, 1, none⟩ = some v1 := hb.cell 1
  have q2 : w.cell? ⟨b, 2, none⟩ = some v2 := hb.cell 2
  have ht' : tmps[r]?.getD undef = .pointer (some ⟨b, 0, none⟩) := by rw [← Array.getD_eq_getD_getElem?]; exact ht
  simp [results, h, ht', go_sem, q0, q1, q2]
/-- a ledger is answered -/
def LdRet (N : Nat) (l : Ldg) (w : World) (e : Ending) (w' : World) : Prop := ∃ y : LA, e = .returned (.agg y.cs) ∧ LdG N w' y l ∧ Keep Never w w'
/-- a ledger and an error are answered -/
def LdRet2 (N : Nat) (r : Ldg × Int) (w : World) (e : Ending) (w' : World) : Prop := ∃ y : LA, e = .returned (.tuple #[.agg y.cs, .int .i64 r.2]) ∧ LdG N w' y r.1 ∧ Keep Never w w'
/-- what holds between two rounds of copied -/
structure CpI (N : Nat) (w w2 : World) (A3 : Option Addr) (n c3 : Nat) (A2 : Option Addr) (n2 c2 : Nat) (k : Bool) (es : List Ent) (W : World) : Prop where
  keep : Keep Never w W
  b1 : Blk W w.heap.size 53 #[.slice A3 n c3, .slice A2 n2 c2, .bool k]
  b2 : Blk W (w.heap.size + 1) 53 #[.slice none 0 0, .slice none 0 0, .bool false]
  row : ∃ css, Own W w2.heap.size 77 4 A3 n c3 css.flatten ∧ All2 (EG N W) es css

set_option maxHeartbeats 4000000 in
set_option maxRecDepth 100000 in
theorem copied_any (x : LA) (l : Ldg) (N : Nat) (w : World) (h : LdG N w x l) (hs : LdSmall x l) (hB : N ≤ w.heap.size) :
    Calls Try.prog 98 #[.agg x.cs] w (LdRet N l w) := by
  obtain ⟨⟨css, hrd, hall⟩, hn, hnc, hmax, hnil, _⟩ := h.e
  have HRd := Lib.hid hrd
  have H1x := Lib.hid (ents_one (hall.imp fun _ _ h => EG.cells h))
  have HAll := Lib.hid hall
  have HH := Lib.hid h.h
  have HKn := Lib.hid h.k
  have HBw := Lib.hid hB
  have hsn := hs.n
  have hsh := hs.h
  have HSe := Lib.hid hs.e
  have HL := Lib.hid hn
  obtain ⟨A, n, c, A2, n2, c2, k⟩ := x
  obtain ⟨es, hr, kn⟩ := l
  simp only [LA.cs] at HRd H1x HAll HH HKn HBw hsn hsh HSe HL hnc hnil ⊢
  obtain rfl := HKn.out
  clear h hs hB hn hmax hrd hall HKn
  obtain ⟨w1, hw1⟩ : ∃ W : World, w.alloc (.cells #[.slice A n c, .slice A2 n2 c2, .bool k] 53) = W := ⟨_, rfl⟩
  have zw1 : w1.heap.size = w.heap.size + 1 := by rw [← hw1]; simp
  have kw1 : Keep Never w w1 := by rw [← hw1]; exact (Keep.refl _ _).alloc _
  have bw1 := Blk.new w 53 #[.slice A n c, .slice A2 n2 c2, .bool k]
  rw [hw1] at bw1
  obtain ⟨w2, hw2⟩ : ∃ W : World, w1.alloc (.cells #[.slice none 0 0, .slice none 0 0, .bool false] 53) = W := ⟨_, rfl⟩
  have kw2 : Keep Never w1 w2 := by rw [← hw2]; exact (Keep.refl _ _).alloc _
  have bw2 := Blk.new w1 53 #[.slice none 0 0, .slice none 0 0, .bool false]
  rw [hw2, zw1] at bw2
  have HB1 := Lib.hid (bw1.keep kw2 (fun h => h))
  have HB2 := Lib.hid bw2
  have HK := Lib.hid (kw1.trans kw2)
  have y0 : w2.cell? ⟨w.heap.size, 0, none⟩ = some (.slice A n c) := HB1.out.cell 0
  clear kw1 kw2 bw1 bw2
  have HC := Lib.hid (cloneE_any A n c w.heap.size css.flatten w2 (HRd.out.keep HK.out (fun _ h => h.elim)) H1x.out hnil hnc (by omega) HK.out.size)
  have HA2 := Lib.hid (egs_keep HAll.out HK.out (Far.none _ _))
  have HZ : Hid (w.heap.size + 1 < w2.heap.size) := Lib.hid HB2.out.lt
  clear HRd H1x HAll hnil hnc
  go_enter Try.func98, Try.ntmps98
  go_wp2_with fail
  refine HC.out.mono ?_
  rintro e w3 ⟨A3, c3, rfl, ho3, hk3⟩
  have b3 := HB1.out.keep hk3 (fun h => h)
  have b3' := HB2.out.keep hk3 (fun h => h)
  have f0 := b3.frozen 0
  have v0 : w3.cell? ⟨w.heap.size, 0, none⟩ = some (.slice A n c) := b3.cell 0
  obtain ⟨w4, hw4⟩ : ∃ W : World, w3.setCell ⟨w.heap.size, 0, none⟩ (.slice A3 n c3) = W := ⟨_, rfl⟩
  have k4 : Keep (fun q => q = w.heap.size) w3 w4 := by rw [← hw4]; exact (Keep.refl (fun q => q = w.heap.size) w3).set_ (p := ⟨w.heap.size, 0, none⟩) (.inl rfl) _
  have HI : Hid (CpI N w w2 A3 n c3 A2 n2 c2 k es w4) := Lib.hid ⟨(HK.out.trans hk3).then_ k4 (fun i hi e => by omega), by rw [← hw4]; have := b3.set_ 0 (.slice A3 n c3); simpa using this, b3'.keep k4 (by omega), css,
    ho3.keep k4 (fun q hq e => by have := (ho3.row hq).1; have := HZ.out; omega), egs_keep (egs_keep HA2.out hk3 (Far.none _ _)) k4 (Far.blk b3 (by decide) HBw.out)⟩
  have HW4 := Lib.hid hw4
  have v4 : w4.cell? ⟨w.heap.size, 0, none⟩ = some (.slice A3 n c3) := HI.out.b1.cell 0
  clear hk3 b3 b3' k4 ho3 HC HA2 hw4 hw1 hw2 y0
  go_wp2_with fail
  rw [HW4.out]
  clear f0 v0 HW4
  go_wp2_with fail
  clear v4
  go_loopw [11] (fun i wr => ∃ q : Nat, q ≤ n ∧ i = .int .i64 q ∧ Hid (CpI N w w2 A3 n c3 A2 n2 c2 k es wr)) (fun i _ => n - (intOf i).toNat)
  case atStart => exact ⟨0, by omega, rfl, HI⟩
  case round =>
    obtain ⟨q, hq, rfl, HI⟩ := hrel
    obtain ⟨css, ho, ha⟩ := HI.out.row
    by_cases h0 : q < n
    · have hkz : (q : Int) < (n : Int) := by omega
      obtain ⟨ad, e, A4, n4, c4, hA, he, hcs, hsp, hg, c0, c1, c2', c3', f2⟩ := ent_own ho ha h0
      subst hA
      have hn4 : n4 ≤ 100000000 := by have := HSe.out _ (List.mem_of_getElem? he); have := hsp.len; omega
      have HC := Lib.hid (fun (W : World) (hk : Keep Never wr W) => clone_any A4 n4 c4 wr.heap.size e.2.2.1 W (hsp.keep hk).rd hsp.nil hsp.cap (by omega) hk.size)
      have HO := Lib.hid ho
      have HA := Lib.hid ha
      have He := Lib.hid (And.intro he hcs)
      have HNr : Hid (¬ InRow (some ad) w.heap.size) := Lib.hid (fun h => HO.out.ne_blk HI.out.b1 (by decide) _ h rfl)
      have y0 : wr.cell? ⟨w.heap.size, 0, none⟩ = some (.slice (some ad) n c3) := HI.out.b1.cell 0
      clear ho ha he hcs hsp hg c0 c1 c3' hn4
      go_wp2_with fail
      go_region_law (first
        | (go_simp; go_at_call 81; refine (HC.out _ (Keep.refl Never wr).drew).mono ?_; rintro en w9 ⟨A9, c9, rfl, ho9, hk9⟩; have HO9 := Lib.hid ho9; have HK9 := Lib.hid hk9.drewL; have y9 : w9.cell? ⟨w.heap.size, 0, none⟩ = some (.slice (some ad) n c3) := keepT HK9.out y0; have f9 : w9.frozen? ⟨(ad.add (q * 4)).block, (ad.add (q * 4)).off + 2, none⟩ = false := (HK9.out.frozen (cell_lt c2') (fun h => h)).trans f2; have z9 : w9.cell? ⟨(ad.add (q * 4)).block, (ad.add (q * 4)).off + 2, none⟩ = some (.slice A4 n4 c4) := keepT HK9.out c2'; clear ho9 hk9))
      all_goals
        have hsp9 := SpAt.of_own HO9.out
        have hO9 := HO.out.keep HK9.out (fun _ _ h => h)
        have hA9 := egs_keep HA.out HK9.out (Far.none _ _)
        obtain ⟨css', hO', hA', hK'⟩ := ent_put hO9 hA9 (by have := HZ.out; have := HBw.out; omega) He.out.2 (e' := e) ⟨rfl, rfl, rfl⟩ hsp9 (Good.own HO9.out) (l' := es) (by
          obtain ⟨h1, h2⟩ := List.getElem?_eq_some_iff.1 He.out.1
          rw [← h2]; exact (List.set_getElem_self h1).symm)
        have HI' : Hid (CpI N w w2 (some ad) n c3 A2 n2 c2 k es (w9.setCell ⟨(ad.add (q * 4)).block, (ad.add (q * 4)).off + 2, none⟩ (.slice A9 n4 c9))) := Lib.hid
          ⟨(HI.out.keep.trans HK9.out).then_ hK' (fun i hi h => by have := (hO9.row h).1; have := HZ.out; omega), (HI.out.b1.keep HK9.out (fun h => h)).keep hK' HNr.out, (HI.out.b2.keep HK9.out (fun h => h)).keep hK' (fun h => by have := (hO9.row h).1; have := HZ.out; omega), css', hO', hA'⟩
        clear hsp9 hO9 hA9 hO' hA' hK' y9 f9 z9 HO9 HK9
        go_wp2_with fail
        refine ⟨⟨q + 1, by omega, by go_num, HI'⟩, ?_⟩
        simp [intOf]; try omega
    · obtain rfl : q = n := by omega
      have hkz : ¬ (q : Int) < (q : Int) := by omega
      have y1 : wr.cell? ⟨w.heap.size, 1, none⟩ = some (.slice A2 n2 c2) := HI.out.b1.cell 1
      have HO := Lib.hid ho
      have HA := Lib.hid ha
      have hh := (HH.out.never HI.out.keep).at_
      have HC := Lib.hid (clone_any A2 n2 c2 _ hr wr hh.rd hh.nil hh.cap (by omega) (Nat.le_refl _))
      clear ho ha hh
      go_wp2_with fail
      refine HC.out.mono ?_
      rintro e w5 ⟨A5, c5, rfl, ho5, hk5⟩
      have b5 := HI.out.b1.keep hk5 (fun h => h)
      have b5' := HI.out.b2.keep hk5 (fun h => h)
      have K5 := HI.out.keep.trans hk5
      have hO5 := HO.out.keep hk5 (fun _ _ h => h)
      have hA5 := egs_keep HA.out hk5 (Far.none _ _)
      have hsp : SpG N w5 A5 n2 c5 hr := SpG.own ho5
      obtain ⟨w6, hw6⟩ : ∃ W : World, w5.setCell ⟨w.heap.size, 1, none⟩ (.slice A5 n2 c5) = W := ⟨_, rfl⟩
      have k6 : Keep (fun q => q = w.heap.size) w5 w6 := by rw [← hw6]; exact (Keep.refl (fun q => q = w.heap.size) w5).set_ (p := ⟨w.heap.size, 1, none⟩) (.inl rfl) _
      have HK6 : Hid (Keep Never w w6) := Lib.hid (K5.then_ k6 (fun i hi e => by omega))
      have hF6 := Far.blk (N := N) b5 (by decide) HBw.out
      have HB6 : Hid (Blk w6 w.heap.size 53 #[.slice A3 q c3, .slice A5 n2 c5, .bool k]) := Lib.hid (by rw [← hw6]; have := b5.set_ 1 (.slice A5 n2 c5); simpa using this)
      have HB6' : Hid (Blk w6 (w.heap.size + 1) 53 #[.slice none 0 0, .slice none 0 0, .bool false]) := Lib.hid (b5'.keep k6 (by omega))
      have HO6 := Lib.hid (hO5.keep k6 (fun q hq e => by have := (hO5.row hq).1; have := HZ.out; omega))
      have HA6 := Lib.hid (egs_keep hA5 k6 hF6)
      have HS6 := Lib.hid (hsp.keep k6 hF6)
      have HW6 := Lib.hid hw6
      have f1 := b5.frozen 1
      have v0 : w5.cell? ⟨w.heap.size, 0, none⟩ = some (.slice A3 q c3) := b5.cell 0
      have v1 : w5.cell? ⟨w.heap.size, 1, none⟩ = some (.slice A2 n2 c2) := b5.cell 1
      have v2 : w5.cell? ⟨w.heap.size, 2, none⟩ = some (.bool k) := b5.cell 2
      have s0 : w5.cell? ⟨w.heap.size + 1, 0, none⟩ = some (.slice none 0 0) := b5'.cell 0
      have s1 : w5.cell? ⟨w.heap.size + 1, 1, none⟩ = some (.slice none 0 0) := b5'.cell 1
      have s2 : w5.cell? ⟨w.heap.size + 1, 2, none⟩ = some (.bool false) := b5'.cell 2
      have g0 := b5'.frozen 0
      have g1 := b5'.frozen 1
      have g2 := b5'.frozen 2
      clear hk5 b5 b5' K5 hO5 hA5 hsp k6 hF6 ho5 HC y1 hw6
      go_wp2_with fail
      rw [HW6.out]
      (try simp only [Exit.inBlock, Exit.then])
      have hkP := putL_keep (S := fun q => q = w.heap.size + 1) (Keep.refl _ w6) (b := w.heap.size + 1) (.inl rfl) (.slice A3 q c3) (.slice A5 n2 c5) (.bool k)
      have hFP := Far.blk (N := N) HB6'.out (by decide) (by have := HBw.out; omega)
      have hoP := HO6.out.keep hkP (fun q hq e => by have := (HO6.out.row hq).1; have := HZ.out; omega)
      refine bodyPost_ret (ld_results (fn := Try.f98) (r := 2) rfl (putL_blk HB6'.out (.slice A3 q c3) (.slice A5 n2 c5) (.bool k)) _ rfl) rfl ⟨⟨A3, q, c3, A5, n2, c5, k⟩, rfl, ⟨EsG.own hoP (egs_keep HA6.out hkP hFP), HS6.out.keep hkP hFP, rfl⟩, ?_⟩
      exact putL_keep HK6.out (.inr (by show w.heap.size ≤ w.heap.size + 1; omega)) _ _ _
end Go.Proofs.Ytlcbajdckgcopaa
