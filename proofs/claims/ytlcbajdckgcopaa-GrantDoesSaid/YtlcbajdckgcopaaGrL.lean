/- Chapter 18 (grant): what the laws call: Light, light, done; Same. -/
import Derived.Test.YtlcbajdckgcopaaGrK
namespace Go.Proofs.Ytlcbajdckgcopaa
open Go.RowKit

def repOp : Rep Op18 := Rep.int.pair (Rep.int.pair (repEnt.list.pair (repSp.list.pair repSp.list)))
theorem opens_op : Rep.Opens Try.prog 56 repOp :=
  Rep.opens_struct Try.underlying56 (by kernel_rfl) (Rep.fopens_cons rfl (by kernel_rfl) (Rep.opens_int Try.underlying3) (Rep.fopens_cons rfl (by kernel_rfl) (Rep.opens_int Try.underlying3) (Rep.fopens_cons rfl (by kernel_rfl) opens_ents (Rep.fopens_cons rfl (by kernel_rfl) opens_sps (Rep.fopens_last rfl (by kernel_rfl) opens_sps)))))
/-- where a call's parts lie -/
structure OA where
  k : Int
  t : Int
  A : Option Addr
  n : Nat
  c : Nat
  X : Option Addr
  xn : Nat
  xc : Nat
  Y : Option Addr
  yn : Nat
  yc : Nat
abbrev OA.cs (x : OA) : Array Value := #[.int .i64 x.k, .int .i64 x.t, .slice x.A x.n x.c, .slice x.X x.xn x.xc, .slice x.Y x.yn x.yc]
structure OpG (N : Nat) (w : World) (x : OA) (o : Op18) : Prop where
  k : x.k = o.1
  t : x.t = o.2.1
  e : EsG N w x.A x.n x.c o.2.2.1
  sx : SpG N w x.X x.xn x.xc o.2.2.2.1
  sy : SpG N w x.Y x.yn x.yc o.2.2.2.2
theorem OpG.never {N : Nat} {w w' : World} {x : OA} {o : Op18} (h : OpG N w x o) (hk : Keep Never w w') : OpG N w' x o := ⟨h.k, h.t, h.e.never hk, h.sx.never hk, h.sy.never hk⟩
theorem OpG.keep {N : Nat} {S : Nat → Prop} {w w' : World} {x : OA} {o : Op18} (h : OpG N w x o) (hk : Keep S w w') (hS : Far2 N w S) : OpG N w' x o := ⟨h.k, h.t, h.e.keep hk hS, h.sx.keep hk hS.far, h.sy.keep hk hS.far⟩
theorem OpG.of {N : Nat} {w : World} {o : Op18} {cs : List Value} {B : Nat} (h : repOp.cells w B o cs) (hB : B ≤ N) : ∃ x : OA, cs = x.cs.toList ∧ OpG N w x o := by
  obtain ⟨c1, d1, rfl, ⟨rfl, _⟩, c2, d2, rfl, ⟨rfl, _⟩, c3, d3, rfl, ⟨A, n, c, rfl, he⟩, c4, d4, rfl, ⟨X, xn, xc, rfl, hx⟩, Y, yn, yc, rfl, hy⟩ := h
  exact ⟨⟨o.1, o.2.1, A, n, c, X, xn, xc, Y, yn, yc⟩, rfl, rfl, rfl, EsG.old (ents_at he) hB, SpG.old (sps_at hx) hB, SpG.old (sps_at hy) hB⟩
/-- not too great -/
structure LiE (l : List Ent) : Prop where
  n : l.length ≤ 40
  e : ∀ e ∈ l, e.2.2.1.length ≤ 20
/-- a test is answered; true says P -/
def BRet (P : Prop) (w : World) (e : Ending) (w' : World) : Prop := ∃ b : Bool, e = .returned (.bool b) ∧ Hid (b = true → P) ∧ Keep Never w w'

set_option maxHeartbeats 4000000 in
set_option maxRecDepth 100000 in
theorem rlight_any (A : Option Addr) (n c N : Nat) (l : List Ent) (w : World) (h : EsG N w A n c l) :
    Calls Try.prog 80 #[.slice A n c, .int .i64 40] w (BRet (LiE l) w) := by
  have HE := Lib.hid h
  have HLn := Lib.hid h.len
  clear h
  by_cases g : 40 < n
  · have t0 : decide ((n : Int) > 40) = true := by simp; omega
    clear g
    go_enter Try.func80, Try.ntmps80
    go_wp2_with fail
    go_ret
    exact ⟨false, rfl, Lib.hid (by simp), Keep.refl _ _⟩
  have t0 : decide ((n : Int) > 40) = false := by simp; omega
  go_enter Try.func80, Try.ntmps80
  go_wp2_with fail
  go_loopw [5] (fun i wr => ∃ k : Nat, k ≤ n ∧ i = .int .i64 k ∧ Hid (Keep Never w wr ∧ ∀ e ∈ l.take k, e.2.2.1.length ≤ 20)) (fun i _ => n - (intOf i).toNat)
  case atStart => exact ⟨0, by omega, rfl, Lib.hid ⟨Keep.refl _ _, by simp⟩⟩
  case round =>
    obtain ⟨k, hk, rfl, HH⟩ := hrel
    by_cases h0 : k < n
    · have hkz : (k : Int) < (n : Int) := by omega
      obtain ⟨ad, e, A2, n2, c2, hA, he, _, _, c2', _, hsp⟩ := ent_g (HE.out.never HH.out.1) h0
      subst hA
      have Hl := Lib.hid hsp.at_.len
      have HT := Lib.hid (take_ent he)
      clear hsp he
      by_cases g2 : 20 < n2
      · have t1 : decide ((n2 : Int) > 20) = true := by simp; omega
        clear g2
        go_wp2_with fail
        go_ret
        exact ⟨false, rfl, Lib.hid (by simp), HH.out.1⟩
      · have t1 : decide ((n2 : Int) > 20) = false := by simp; omega
        have HN : Hid (∀ e ∈ l.take (k + 1), e.2.2.1.length ≤ 20) := Lib.hid (fun e he => by
          rw [HT.out] at he
          rcases List.mem_append.1 he with he | he
          · exact HH.out.2 e he
          · simp at he; subst he; have := Hl.out; omega)
        clear g2
        go_wp2_with fail
        refine ⟨⟨k + 1, by omega, by go_num, Lib.hid ⟨HH.out.1, HN.out⟩⟩, ?_⟩
        simp [intOf]; try omega
    · obtain rfl : k = n := by omega
      have hkz : ¬ (k : Int) < (k : Int) := by omega
      have HN : Hid (LiE l) := Lib.hid ⟨by rw [← HLn.out]; omega, fun e he => HH.out.2 e (by rw [List.take_of_length_le (by rw [← HLn.out]; exact Nat.le_refl _)]; exact he)⟩
      go_wp2_with fail
      go_ret
      exact ⟨true, rfl, Lib.hid (fun _ => HN.out), HH.out.1⟩

set_option maxHeartbeats 4000000 in
set_option maxRecDepth 100000 in
theorem light_any (x : LA) (l : Ldg) (y : OA) (o : Op18) (N : Nat) (w : World) (h : LdG N w x l) (ho : OpG N w y o) :
    Calls Try.prog 27 #[.agg x.cs, .agg y.cs] w (BRet (Bnd 20 l ∧ OpBnd o) w) := by
  have HE1 := Lib.hid (fun (W : World) (hk : Keep Never w W) => rlight_any x.A x.n x.c N l.1 W (h.e.never hk))
  have HE2 := Lib.hid (fun (W : World) (hk : Keep Never w W) => rlight_any y.A y.n y.c N o.2.2.1 W (ho.e.never hk))
  have HLs : Hid (l.2.1.length = x.n2 ∧ o.2.2.2.1.length = y.xn ∧ o.2.2.2.2.length = y.yn) := Lib.hid ⟨h.h.at_.len, ho.sx.at_.len, ho.sy.at_.len⟩
  obtain ⟨A, n, c, A2, n2, c2, k⟩ := x
  obtain ⟨es, hr, kn⟩ := l
  obtain ⟨ok, ot, Oa, on, oc, X, xn, xc, Y, yn, yc⟩ := y
  simp only [LA.cs, OA.cs] at HE1 HE2 HLs ⊢
  clear h ho
  obtain ⟨w1, hw1⟩ : ∃ W : World, w.alloc (.cells #[.slice A n c, .slice A2 n2 c2, .bool k] 53) = W := ⟨_, rfl⟩
  have zw1 : w1.heap.size = w.heap.size + 1 := by rw [← hw1]; simp
  have kw1 : Keep Never w w1 := by rw [← hw1]; exact (Keep.refl _ _).alloc _
  have bw1 := Blk.new w 53 #[.slice A n c, .slice A2 n2 c2, .bool k]
  rw [hw1] at bw1
  obtain ⟨w2, hw2⟩ : ∃ W : World, w1.alloc (.cells #[.int .i64 ok, .int .i64 ot, .slice Oa on oc, .slice X xn xc, .slice Y yn yc] 56) = W := ⟨_, rfl⟩
  have kw2 : Keep Never w1 w2 := by rw [← hw2]; exact (Keep.refl _ _).alloc _
  have bw2 := Blk.new w1 56 #[.int .i64 ok, .int .i64 ot, .slice Oa on oc, .slice X xn xc, .slice Y yn yc]
  rw [hw2, zw1] at bw2
  have HB1 := Lib.hid (bw1.keep kw2 (fun h => h))
  have HB2 := Lib.hid bw2
  have HK := Lib.hid (kw1.trans kw2)
  have y0 : w2.cell? ⟨w.heap.size, 0, none⟩ = some (.slice A n c) := HB1.out.cell 0
  clear kw1 kw2 bw1 bw2
  have HC := Lib.hid (HE1.out w2 HK.out)
  go_enter Try.func27, Try.ntmps27
  go_wp2_with fail
  refine HC.out.mono ?_
  rintro e w3 ⟨b1, rfl, hb1, hk3⟩
  have HK3 := Lib.hid (HK.out.trans hk3)
  have HB3 := Lib.hid (HB1.out.keep hk3 (fun h => h))
  have HB3' := Lib.hid (HB2.out.keep hk3 (fun h => h))
  have y2 : w3.cell? ⟨w.heap.size + 1, 2, none⟩ = some (.slice Oa on oc) := HB3'.out.cell 2
  clear hk3 HC y0 hw1 hw2 zw1 HE1
  have HC := Lib.hid (HE2.out w3 HK3.out)
  go_wp2_with fail
  refine HC.out.mono ?_
  rintro e w4 ⟨b2, rfl, hb2, hk4⟩
  have HK4 := Lib.hid (HK3.out.trans hk4)
  have q1 : w4.cell? ⟨w.heap.size, 1, none⟩ = some (.slice A2 n2 c2) := (HB3.out.keep hk4 (fun h => h)).cell 1
  have q3 : w4.cell? ⟨w.heap.size + 1, 3, none⟩ = some (.slice X xn xc) := (HB3'.out.keep hk4 (fun h => h)).cell 3
  have q4 : w4.cell? ⟨w.heap.size + 1, 4, none⟩ = some (.slice Y yn yc) := (HB3'.out.keep hk4 (fun h => h)).cell 4
  clear hk4 HC y2 HE2
  have hfin : ∀ b : Bool, (b = true → b1 = true ∧ b2 = true ∧ n2 ≤ 20 ∧ xn ≤ 20 ∧ yn ≤ 20) → BRet (Bnd 20 (es, hr, kn) ∧ OpBnd o) w (.returned (.bool b)) w4 := fun b hb =>
    ⟨b, rfl, Lib.hid (fun e => by
      obtain ⟨h1, h2, h3, h4, h5⟩ := hb e
      have g1 := hb1.out h1
      have g2 := hb2.out h2
      have hl := HLs.out
      exact ⟨⟨g1.n, g1.e, by show hr.length ≤ 20; omega⟩, ⟨g2.n, g2.e, by omega, by omega⟩⟩), HK4.out⟩
  have HFn := Lib.hid hfin
  clear hfin hb1 hb2
  cases b1 with
  | false =>
    have HF := Lib.hid (HFn.out false (by simp))
    clear HFn
    go_wp2_with fail
    go_ret
    exact HF.out
  | true =>
    cases b2 with
    | false =>
      have HF := Lib.hid (HFn.out false (by simp))
      clear HFn
      go_wp2_with fail
      go_ret
      exact HF.out
    | true =>
      by_cases g1 : n2 ≤ 20
      case neg =>
        have t1 : decide ((n2 : Int) ≤ 20) = false := by simp; omega
        have HF := Lib.hid (HFn.out false (by simp))
        clear HFn g1
        go_wp2_with fail
        go_ret
        exact HF.out
      have t1 : decide ((n2 : Int) ≤ 20) = true := by simp; omega
      by_cases g2 : xn ≤ 20
      case neg =>
        have t2 : decide ((xn : Int) ≤ 20) = false := by simp; omega
        have HF := Lib.hid (HFn.out false (by simp))
        clear HFn g1 g2
        go_wp2_with fail
        go_ret
        exact HF.out
      have t2 : decide ((xn : Int) ≤ 20) = true := by simp; omega
      by_cases g3 : yn ≤ 20
      case neg =>
        have t3 : decide ((yn : Int) ≤ 20) = false := by simp; omega
        have HF := Lib.hid (HFn.out false (by simp))
        clear HFn g1 g2 g3
        go_wp2_with fail
        go_ret
        exact HF.out
      have t3 : decide ((yn : Int) ≤ 20) = true := by simp; omega
      have HF := Lib.hid (HFn.out true (fun _ => ⟨rfl, rfl, g1, g2, g3⟩))
      clear HFn g1 g2 g3
      go_wp2_with fail
      go_ret
      exact HF.out

set_option maxHeartbeats 16000000 in
set_option maxRecDepth 100000 in
theorem done_any (x : LA) (l : Ldg) (y : OA) (o : Op18) (N : Nat) (w : World) (h : LdG N w x l) (ho : OpG N w y o) (hs : LdB x l) (hb : OpBnd o) (hN : N ≤ w.heap.size) :
    Calls Try.prog 55 #[.agg x.cs, .agg y.cs] w (LdRet N (doneM l o) w) := by
  have hkk := ho.k
  have htt := ho.t
  have HLd0 := Lib.hid h
  have HOp0 := Lib.hid ho
  have HNw := Lib.hid hN
  have HSz := Lib.hid hs
  have HSo := Lib.hid hb
  have HKn := Lib.hid h.k
  have HOl : Hid (y.n = o.2.2.1.length ∧ o.2.2.2.1.length = y.xn ∧ o.2.2.2.2.length = y.yn) := Lib.hid ⟨ho.e.len, ho.sx.at_.len, ho.sy.at_.len⟩
  obtain ⟨A, n, c, A2, n2, c2, k⟩ := x
  obtain ⟨es, hr, kn⟩ := l
  obtain ⟨ok, ot, Oa, on, oc, X, xn, xc, Y, yn, yc⟩ := y
  simp only [LA.cs, OA.cs] at hkk htt HLd0 HOp0 HSz HKn HOl ⊢
  obtain rfl := HKn.out
  obtain ⟨ok', ot', oe, ox, oy⟩ := o
  simp only at hkk htt HOl
  subst hkk htt
  clear h hs hN HKn ho hb
  obtain ⟨w1, hw1⟩ : ∃ W : World, w.alloc (.cells #[.slice A n c, .slice A2 n2 c2, .bool k] 53) = W := ⟨_, rfl⟩
  have zw1 : w1.heap.size = w.heap.size + 1 := by rw [← hw1]; simp
  have kw1 : Keep Never w w1 := by rw [← hw1]; exact (Keep.refl _ _).alloc _
  have bw1 := Blk.new w 53 #[.slice A n c, .slice A2 n2 c2, .bool k]
  rw [hw1] at bw1
  obtain ⟨w2, hw2⟩ : ∃ W : World, w1.alloc (.cells #[.int .i64 ok, .int .i64 ot, .slice Oa on oc, .slice X xn xc, .slice Y yn yc] 56) = W := ⟨_, rfl⟩
  have zw2 : w2.heap.size = w.heap.size + 1 + 1 := by rw [← hw2]; simp [zw1]
  have kw2 : Keep Never w1 w2 := by rw [← hw2]; exact (Keep.refl _ _).alloc _
  have bw2 := Blk.new w1 56 #[.int .i64 ok, .int .i64 ot, .slice Oa on oc, .slice X xn xc, .slice Y yn yc]
  rw [hw2, zw1] at bw2
  obtain ⟨w3, hw3⟩ : ∃ W : World, w2.alloc (.cells #[.slice none 0 0, .slice none 0 0, .bool false] 53) = W := ⟨_, rfl⟩
  have zw3 : w3.heap.size = w.heap.size + 1 + 1 + 1 := by rw [← hw3]; simp [zw2]
  have kw3 : Keep Never w2 w3 := by rw [← hw3]; exact (Keep.refl _ _).alloc _
  have bw3 := Blk.new w2 53 #[.slice none 0 0, .slice none 0 0, .bool false]
  rw [hw3, zw2] at bw3
  obtain ⟨w4, hw4⟩ : ∃ W : World, w3.alloc (.cells #[.slice A n c, .slice A2 n2 c2, .bool k] 53) = W := ⟨_, rfl⟩
  have kw4 : Keep Never w3 w4 := by rw [← hw4]; exact (Keep.refl _ _).alloc _
  have bw4 := Blk.new w3 53 #[.slice A n c, .slice A2 n2 c2, .bool k]
  rw [hw4, zw3] at bw4
  have m0 : w3.cell? ⟨w.heap.size, 0, none⟩ = some (.slice A n c) := ((bw1.keep kw2 (fun h => h)).keep kw3 (fun h => h)).cell 0
  have m1 : w3.cell? ⟨w.heap.size, 1, none⟩ = some (.slice A2 n2 c2) := ((bw1.keep kw2 (fun h => h)).keep kw3 (fun h => h)).cell 1
  have m2 : w3.cell? ⟨w.heap.size, 2, none⟩ = some (.bool k) := ((bw1.keep kw2 (fun h => h)).keep kw3 (fun h => h)).cell 2
  have HB1 := Lib.hid (((bw1.keep kw2 (fun h => h)).keep kw3 (fun h => h)).keep kw4 (fun h => h))
  have HB2 := Lib.hid ((bw2.keep kw3 (fun h => h)).keep kw4 (fun h => h))
  have HB3 := Lib.hid (bw3.keep kw4 (fun h => h))
  have HB4 := Lib.hid bw4
  have HK := Lib.hid (((kw1.trans kw2).trans kw3).trans kw4)
  have y0 : w4.cell? ⟨w.heap.size, 0, none⟩ = some (.slice A n c) := HB1.out.cell 0
  have y1 : w4.cell? ⟨w.heap.size, 1, none⟩ = some (.slice A2 n2 c2) := HB1.out.cell 1
  have y2 : w4.cell? ⟨w.heap.size, 2, none⟩ = some (.bool k) := HB1.out.cell 2
  have o0 : w4.cell? ⟨w.heap.size + 1, 0, none⟩ = some (.int .i64 ok) := HB2.out.cell 0
  have o1 : w4.cell? ⟨w.heap.size + 1, 1, none⟩ = some (.int .i64 ot) := HB2.out.cell 1
  have o2 : w4.cell? ⟨w.heap.size + 1, 2, none⟩ = some (.slice Oa on oc) := HB2.out.cell 2
  have o3 : w4.cell? ⟨w.heap.size + 1, 3, none⟩ = some (.slice X xn xc) := HB2.out.cell 3
  have o4 : w4.cell? ⟨w.heap.size + 1, 4, none⟩ = some (.slice Y yn yc) := HB2.out.cell 4
  clear kw1 kw2 kw3 kw4 bw1 bw2 bw3 bw4
  have HB3z := HB3
  clear HB3
  have HLd := Lib.hid (HLd0.out.never HK.out)
  have HOp := Lib.hid (HOp0.out.never HK.out)
  have hN4 : N ≤ w4.heap.size := Nat.le_trans HNw.out HK.out.size
  have hxl : xn ≤ 200000 := by have := HOl.out; have := HSo.out.x; simp only at this; omega
  have hyl : yn ≤ 200000 := by have := HOl.out; have := HSo.out.y; simp only at this; omega
  have hnl : on ≤ 100000 := by have := HOl.out; have := HSo.out.n; simp only at this; omega
  clear HLd0 HOp0
  by_cases g0 : ok = 0
  · subst g0
    have HC0 : Calls Try.prog 47 #[.agg #[.slice A n c, .slice A2 n2 c2, .bool k], .slice Oa on oc] w4 (LdRet2 N (doM (es, hr, k) (0, ot, oe, ox, oy)) w4) := by
      have hd : doM (es, hr, k) (0, ot, oe, ox, oy) = addM (es, hr, k) oe := by unfold doM; simp
      rw [hd]; exact gadd_any ⟨A, n, c, A2, n2, c2, k⟩ (es, hr, k) N oe Oa on oc w4 HLd.out HOp.out.e HSz.out hnl (fun e he => by have := HSo.out.e e he; omega) hN4
    have HDo0 : ((doM (es, hr, k) (0, ot, oe, ox, oy)).2 = 0 → doneM (es, hr, k) (0, ot, oe, ox, oy) = (doM (es, hr, k) (0, ot, oe, ox, oy)).1) ∧ ((doM (es, hr, k) (0, ot, oe, ox, oy)).2 ≠ 0 → doneM (es, hr, k) (0, ot, oe, ox, oy) = (es, hr, k)) :=
      ⟨fun e => by unfold doneM; rw [if_pos e], fun e => by unfold doneM; rw [if_neg e]⟩
    obtain ⟨r, hr0⟩ : ∃ z, doM (es, hr, k) (0, ot, oe, ox, oy) = z := ⟨_, rfl⟩
    rw [hr0] at HC0 HDo0
    obtain ⟨rl, re⟩ := r
    simp only at HDo0
    have HC := Lib.hid HC0
    have HDo := Lib.hid HDo0
    clear HC0 HDo0 hr0
    clear hN4 hxl hyl hnl
    go_enter Try.func55, Try.ntmps55
    go_wp2_with fail
    refine HC.out.mono ?_
    rintro e W3 ⟨⟨A3, n3, c3, A4, n4, c4, k4⟩, rfl, hg3, hk3⟩
    dsimp only [LA.cs]
    have HG3 := Lib.hid hg3
    have HK3 := Lib.hid (HK.out.trans hk3)
    have HB3 := Lib.hid (HB4.out.keep hk3 (fun h => h))
    have HB3r := Lib.hid (HB3z.out.keep hk3 (fun h => h))
    have HB3l := Lib.hid (HB1.out.keep hk3 (fun h => h))
    have HLd3 := Lib.hid (HLd.out.never hk3)
    clear hg3 hk3 HC y0 y1 y2 o0 o1 o2 o3 o4 m0 m1 m2 hw1 hw2 hw3 hw4 zw1 zw2 zw3
    have z0 : W3.cell? ⟨w.heap.size + 1 + 1 + 1, 0, none⟩ = some (.slice A n c) := HB3.out.cell 0
    have z1 : W3.cell? ⟨w.heap.size + 1 + 1 + 1, 1, none⟩ = some (.slice A2 n2 c2) := HB3.out.cell 1
    have z2 : W3.cell? ⟨w.heap.size + 1 + 1 + 1, 2, none⟩ = some (.bool k) := HB3.out.cell 2
    have zf0 := HB3.out.frozen 0
    have zf1 := HB3.out.frozen 1
    have zf2 := HB3.out.frozen 2
    go_upto_region 14 with (fail)
    obtain ⟨W5, hW5⟩ : ∃ W : World, ((W3.setCell ⟨w.heap.size + 1 + 1 + 1, 0, none⟩ (.slice A3 n3 c3)).setCell ⟨w.heap.size + 1 + 1 + 1, 1, none⟩ (.slice A4 n4 c4)).setCell ⟨w.heap.size + 1 + 1 + 1, 2, none⟩ (.bool k4) = W := ⟨_, rfl⟩
    rw [hW5]
    have k5 : Keep (fun q => q = w.heap.size + 1 + 1 + 1) W3 W5 := by rw [← hW5]; exact putL_keep (Keep.refl (fun q => q = w.heap.size + 1 + 1 + 1) W3) (.inl rfl) _ _ _
    have HB5 : Hid (Blk W5 (w.heap.size + 1 + 1 + 1) 53 #[.slice A3 n3 c3, .slice A4 n4 c4, .bool k4]) := Lib.hid (by rw [← hW5]; exact putL_blk HB3.out _ _ _)
    clear hW5
    have hF5 : Far2 N W3 (fun q => q = w.heap.size + 1 + 1 + 1) := Far2.blk HB3.out (by decide) (by decide) (by have := HNw.out; omega)
    have HG5 := Lib.hid (HG3.out.keep k5 hF5)
    have HLd5 := Lib.hid (HLd3.out.keep k5 hF5)
    have HK5 := Lib.hid (HK3.out.then_ k5 (fun i hi e => by omega))
    have HB5r := Lib.hid (HB3r.out.keep k5 (by omega))
    have HB5l := Lib.hid (HB3l.out.keep k5 (by omega))
    clear k5 hF5 z0 z1 z2 zf0 zf1 zf2
    by_cases g : re = 0
    · subst g
      have HD := Lib.hid (HDo.out.1 rfl)
      have z0 : W5.cell? ⟨w.heap.size + 1 + 1 + 1, 0, none⟩ = some (.slice A3 n3 c3) := HB5.out.cell 0
      have z1 : W5.cell? ⟨w.heap.size + 1 + 1 + 1, 1, none⟩ = some (.slice A4 n4 c4) := HB5.out.cell 1
      have z2 : W5.cell? ⟨w.heap.size + 1 + 1 + 1, 2, none⟩ = some (.bool k4) := HB5.out.cell 2
      have s0 : W5.cell? ⟨w.heap.size + 1 + 1, 0, none⟩ = some (.slice none 0 0) := HB5r.out.cell 0
      have s1 : W5.cell? ⟨w.heap.size + 1 + 1, 1, none⟩ = some (.slice none 0 0) := HB5r.out.cell 1
      have s2 : W5.cell? ⟨w.heap.size + 1 + 1, 2, none⟩ = some (.bool false) := HB5r.out.cell 2
      have sf0 := HB5r.out.frozen 0
      have sf1 := HB5r.out.frozen 1
      have sf2 := HB5r.out.frozen 2
      go_wp2_with fail
      (try simp only [Exit.inBlock, Exit.then])
      have hp := putL_keep (S := fun q => q = w.heap.size + 1 + 1) (Keep.refl _ W5) (b := w.heap.size + 1 + 1) (.inl rfl) (.slice A3 n3 c3) (.slice A4 n4 c4) (.bool k4)
      have hF : Far2 N W5 (fun q => q = w.heap.size + 1 + 1) := Far2.blk HB5r.out (by decide) (by decide) (by have := HNw.out; omega)
      refine bodyPost_ret (ld_results (fn := Try.f55) (r := 4) rfl (putL_blk HB5r.out (.slice A3 n3 c3) (.slice A4 n4 c4) (.bool k4)) _ rfl) rfl ⟨⟨A3, n3, c3, A4, n4, c4, k4⟩, rfl, by rw [HD.out]; exact HG5.out.keep hp hF, HK5.out.then_ hp (fun i hi e => by omega)⟩
    · have t0 : (re != 0) = true := by simpa using g
      have t0' : (re == 0) = false := by simpa using g
      have HD := Lib.hid (HDo.out.2 g)
      clear g
      have z0 : W5.cell? ⟨w.heap.size, 0, none⟩ = some (.slice A n c) := HB5l.out.cell 0
      have z1 : W5.cell? ⟨w.heap.size, 1, none⟩ = some (.slice A2 n2 c2) := HB5l.out.cell 1
      have z2 : W5.cell? ⟨w.heap.size, 2, none⟩ = some (.bool k) := HB5l.out.cell 2
      have s0 : W5.cell? ⟨w.heap.size + 1 + 1, 0, none⟩ = some (.slice none 0 0) := HB5r.out.cell 0
      have s1 : W5.cell? ⟨w.heap.size + 1 + 1, 1, none⟩ = some (.slice none 0 0) := HB5r.out.cell 1
      have s2 : W5.cell? ⟨w.heap.size + 1 + 1, 2, none⟩ = some (.bool false) := HB5r.out.cell 2
      have sf0 := HB5r.out.frozen 0
      have sf1 := HB5r.out.frozen 1
      have sf2 := HB5r.out.frozen 2
      go_wp2_with fail
      (try simp only [Exit.inBlock, Exit.then])
      have hp := putL_keep (S := fun q => q = w.heap.size + 1 + 1) (Keep.refl _ W5) (b := w.heap.size + 1 + 1) (.inl rfl) (.slice A n c) (.slice A2 n2 c2) (.bool k)
      have hF : Far2 N W5 (fun q => q = w.heap.size + 1 + 1) := Far2.blk HB5r.out (by decide) (by decide) (by have := HNw.out; omega)
      refine bodyPost_ret (ld_results (fn := Try.f55) (r := 4) rfl (putL_blk HB5r.out (.slice A n c) (.slice A2 n2 c2) (.bool k)) _ rfl) rfl ⟨⟨A, n, c, A2, n2, c2, k⟩, rfl, by rw [HD.out]; exact HLd5.out.keep hp hF, HK5.out.then_ hp (fun i hi e => by omega)⟩
  have t0 : (ok == 0) = false := by simpa using g0
  by_cases g1 : ok = 1
  · subst g1
    have HC0 : Calls Try.prog 35 #[.agg #[.slice A n c, .slice A2 n2 c2, .bool k], .int .i64 ot] w4 (LdRet2 N (doM (es, hr, k) (1, ot, oe, ox, oy)) w4) := by
      have hd : doM (es, hr, k) (1, ot, oe, ox, oy) = expireM (es, hr, k) ot := by unfold doM; simp
      rw [hd]; exact gexp_any ⟨A, n, c, A2, n2, c2, k⟩ (es, hr, k) N ot w4 HLd.out HSz.out hN4
    have HDo0 : ((doM (es, hr, k) (1, ot, oe, ox, oy)).2 = 0 → doneM (es, hr, k) (1, ot, oe, ox, oy) = (doM (es, hr, k) (1, ot, oe, ox, oy)).1) ∧ ((doM (es, hr, k) (1, ot, oe, ox, oy)).2 ≠ 0 → doneM (es, hr, k) (1, ot, oe, ox, oy) = (es, hr, k)) :=
      ⟨fun e => by unfold doneM; rw [if_pos e], fun e => by unfold doneM; rw [if_neg e]⟩
    obtain ⟨r, hr0⟩ : ∃ z, doM (es, hr, k) (1, ot, oe, ox, oy) = z := ⟨_, rfl⟩
    rw [hr0] at HC0 HDo0
    obtain ⟨rl, re⟩ := r
    simp only at HDo0
    have HC := Lib.hid HC0
    have HDo := Lib.hid HDo0
    clear HC0 HDo0 hr0
    clear hN4 hxl hyl hnl
    go_enter Try.func55, Try.ntmps55
    go_wp2_with fail
    refine HC.out.mono ?_
    rintro e W3 ⟨⟨A3, n3, c3, A4, n4, c4, k4⟩, rfl, hg3, hk3⟩
    dsimp only [LA.cs]
    have HG3 := Lib.hid hg3
    have HK3 := Lib.hid (HK.out.trans hk3)
    have HB3 := Lib.hid (HB4.out.keep hk3 (fun h => h))
    have HB3r := Lib.hid (HB3z.out.keep hk3 (fun h => h))
    have HB3l := Lib.hid (HB1.out.keep hk3 (fun h => h))
    have HLd3 := Lib.hid (HLd.out.never hk3)
    clear hg3 hk3 HC y0 y1 y2 o0 o1 o2 o3 o4 m0 m1 m2 hw1 hw2 hw3 hw4 zw1 zw2 zw3
    have z0 : W3.cell? ⟨w.heap.size + 1 + 1 + 1, 0, none⟩ = some (.slice A n c) := HB3.out.cell 0
    have z1 : W3.cell? ⟨w.heap.size + 1 + 1 + 1, 1, none⟩ = some (.slice A2 n2 c2) := HB3.out.cell 1
    have z2 : W3.cell? ⟨w.heap.size + 1 + 1 + 1, 2, none⟩ = some (.bool k) := HB3.out.cell 2
    have zf0 := HB3.out.frozen 0
    have zf1 := HB3.out.frozen 1
    have zf2 := HB3.out.frozen 2
    go_upto_region 14 with (fail)
    obtain ⟨W5, hW5⟩ : ∃ W : World, ((W3.setCell ⟨w.heap.size + 1 + 1 + 1, 0, none⟩ (.slice A3 n3 c3)).setCell ⟨w.heap.size + 1 + 1 + 1, 1, none⟩ (.slice A4 n4 c4)).setCell ⟨w.heap.size + 1 + 1 + 1, 2, none⟩ (.bool k4) = W := ⟨_, rfl⟩
    rw [hW5]
    have k5 : Keep (fun q => q = w.heap.size + 1 + 1 + 1) W3 W5 := by rw [← hW5]; exact putL_keep (Keep.refl (fun q => q = w.heap.size + 1 + 1 + 1) W3) (.inl rfl) _ _ _
    have HB5 : Hid (Blk W5 (w.heap.size + 1 + 1 + 1) 53 #[.slice A3 n3 c3, .slice A4 n4 c4, .bool k4]) := Lib.hid (by rw [← hW5]; exact putL_blk HB3.out _ _ _)
    clear hW5
    have hF5 : Far2 N W3 (fun q => q = w.heap.size + 1 + 1 + 1) := Far2.blk HB3.out (by decide) (by decide) (by have := HNw.out; omega)
    have HG5 := Lib.hid (HG3.out.keep k5 hF5)
    have HLd5 := Lib.hid (HLd3.out.keep k5 hF5)
    have HK5 := Lib.hid (HK3.out.then_ k5 (fun i hi e => by omega))
    have HB5r := Lib.hid (HB3r.out.keep k5 (by omega))
    have HB5l := Lib.hid (HB3l.out.keep k5 (by omega))
    clear k5 hF5 z0 z1 z2 zf0 zf1 zf2
    by_cases g : re = 0
    · subst g
      have HD := Lib.hid (HDo.out.1 rfl)
      have z0 : W5.cell? ⟨w.heap.size + 1 + 1 + 1, 0, none⟩ = some (.slice A3 n3 c3) := HB5.out.cell 0
      have z1 : W5.cell? ⟨w.heap.size + 1 + 1 + 1, 1, none⟩ = some (.slice A4 n4 c4) := HB5.out.cell 1
      have z2 : W5.cell? ⟨w.heap.size + 1 + 1 + 1, 2, none⟩ = some (.bool k4) := HB5.out.cell 2
      have s0 : W5.cell? ⟨w.heap.size + 1 + 1, 0, none⟩ = some (.slice none 0 0) := HB5r.out.cell 0
      have s1 : W5.cell? ⟨w.heap.size + 1 + 1, 1, none⟩ = some (.slice none 0 0) := HB5r.out.cell 1
      have s2 : W5.cell? ⟨w.heap.size + 1 + 1, 2, none⟩ = some (.bool false) := HB5r.out.cell 2
      have sf0 := HB5r.out.frozen 0
      have sf1 := HB5r.out.frozen 1
      have sf2 := HB5r.out.frozen 2
      go_wp2_with fail
      (try simp only [Exit.inBlock, Exit.then])
      have hp := putL_keep (S := fun q => q = w.heap.size + 1 + 1) (Keep.refl _ W5) (b := w.heap.size + 1 + 1) (.inl rfl) (.slice A3 n3 c3) (.slice A4 n4 c4) (.bool k4)
      have hF : Far2 N W5 (fun q => q = w.heap.size + 1 + 1) := Far2.blk HB5r.out (by decide) (by decide) (by have := HNw.out; omega)
      refine bodyPost_ret (ld_results (fn := Try.f55) (r := 4) rfl (putL_blk HB5r.out (.slice A3 n3 c3) (.slice A4 n4 c4) (.bool k4)) _ rfl) rfl ⟨⟨A3, n3, c3, A4, n4, c4, k4⟩, rfl, by rw [HD.out]; exact HG5.out.keep hp hF, HK5.out.then_ hp (fun i hi e => by omega)⟩
    · have t0 : (re != 0) = true := by simpa using g
      have t0' : (re == 0) = false := by simpa using g
      have HD := Lib.hid (HDo.out.2 g)
      clear g
      have z0 : W5.cell? ⟨w.heap.size, 0, none⟩ = some (.slice A n c) := HB5l.out.cell 0
      have z1 : W5.cell? ⟨w.heap.size, 1, none⟩ = some (.slice A2 n2 c2) := HB5l.out.cell 1
      have z2 : W5.cell? ⟨w.heap.size, 2, none⟩ = some (.bool k) := HB5l.out.cell 2
      have s0 : W5.cell? ⟨w.heap.size + 1 + 1, 0, none⟩ = some (.slice none 0 0) := HB5r.out.cell 0
      have s1 : W5.cell? ⟨w.heap.size + 1 + 1, 1, none⟩ = some (.slice none 0 0) := HB5r.out.cell 1
      have s2 : W5.cell? ⟨w.heap.size + 1 + 1, 2, none⟩ = some (.bool false) := HB5r.out.cell 2
      have sf0 := HB5r.out.frozen 0
      have sf1 := HB5r.out.frozen 1
      have sf2 := HB5r.out.frozen 2
      go_wp2_with fail
      (try simp only [Exit.inBlock, Exit.then])
      have hp := putL_keep (S := fun q => q = w.heap.size + 1 + 1) (Keep.refl _ W5) (b := w.heap.size + 1 + 1) (.inl rfl) (.slice A n c) (.slice A2 n2 c2) (.bool k)
      have hF : Far2 N W5 (fun q => q = w.heap.size + 1 + 1) := Far2.blk HB5r.out (by decide) (by decide) (by have := HNw.out; omega)
      refine bodyPost_ret (ld_results (fn := Try.f55) (r := 4) rfl (putL_blk HB5r.out (.slice A n c) (.slice A2 n2 c2) (.bool k)) _ rfl) rfl ⟨⟨A, n, c, A2, n2, c2, k⟩, rfl, by rw [HD.out]; exact HLd5.out.keep hp hF, HK5.out.then_ hp (fun i hi e => by omega)⟩
  have t1 : (ok == 1) = false := by simpa using g1
  by_cases g2 : ok = 2
  · subst g2
    have HC0 : Calls Try.prog 37 #[.agg #[.slice A n c, .slice A2 n2 c2, .bool k], .int .i64 ot, .slice X xn xc] w4 (LdRet2 N (doM (es, hr, k) (2, ot, oe, ox, oy)) w4) := by
      have hd : doM (es, hr, k) (2, ot, oe, ox, oy) = shortenM (es, hr, k) ot ox := by unfold doM; simp
      rw [hd]; exact gsho_any ⟨A, n, c, A2, n2, c2, k⟩ (es, hr, k) N ot ox X xn xc w4 HLd.out HOp.out.sx HSz.out hxl hN4
    have HDo0 : ((doM (es, hr, k) (2, ot, oe, ox, oy)).2 = 0 → doneM (es, hr, k) (2, ot, oe, ox, oy) = (doM (es, hr, k) (2, ot, oe, ox, oy)).1) ∧ ((doM (es, hr, k) (2, ot, oe, ox, oy)).2 ≠ 0 → doneM (es, hr, k) (2, ot, oe, ox, oy) = (es, hr, k)) :=
      ⟨fun e => by unfold doneM; rw [if_pos e], fun e => by unfold doneM; rw [if_neg e]⟩
    obtain ⟨r, hr0⟩ : ∃ z, doM (es, hr, k) (2, ot, oe, ox, oy) = z := ⟨_, rfl⟩
    rw [hr0] at HC0 HDo0
    obtain ⟨rl, re⟩ := r
    simp only at HDo0
    have HC := Lib.hid HC0
    have HDo := Lib.hid HDo0
    clear HC0 HDo0 hr0
    clear hN4 hxl hyl hnl
    go_enter Try.func55, Try.ntmps55
    go_wp2_with fail
    refine HC.out.mono ?_
    rintro e W3 ⟨⟨A3, n3, c3, A4, n4, c4, k4⟩, rfl, hg3, hk3⟩
    dsimp only [LA.cs]
    have HG3 := Lib.hid hg3
    have HK3 := Lib.hid (HK.out.trans hk3)
    have HB3 := Lib.hid (HB4.out.keep hk3 (fun h => h))
    have HB3r := Lib.hid (HB3z.out.keep hk3 (fun h => h))
    have HB3l := Lib.hid (HB1.out.keep hk3 (fun h => h))
    have HLd3 := Lib.hid (HLd.out.never hk3)
    clear hg3 hk3 HC y0 y1 y2 o0 o1 o2 o3 o4 m0 m1 m2 hw1 hw2 hw3 hw4 zw1 zw2 zw3
    have z0 : W3.cell? ⟨w.heap.size + 1 + 1 + 1, 0, none⟩ = some (.slice A n c) := HB3.out.cell 0
    have z1 : W3.cell? ⟨w.heap.size + 1 + 1 + 1, 1, none⟩ = some (.slice A2 n2 c2) := HB3.out.cell 1
    have z2 : W3.cell? ⟨w.heap.size + 1 + 1 + 1, 2, none⟩ = some (.bool k) := HB3.out.cell 2
    have zf0 := HB3.out.frozen 0
    have zf1 := HB3.out.frozen 1
    have zf2 := HB3.out.frozen 2
    go_upto_region 14 with (fail)
    obtain ⟨W5, hW5⟩ : ∃ W : World, ((W3.setCell ⟨w.heap.size + 1 + 1 + 1, 0, none⟩ (.slice A3 n3 c3)).setCell ⟨w.heap.size + 1 + 1 + 1, 1, none⟩ (.slice A4 n4 c4)).setCell ⟨w.heap.size + 1 + 1 + 1, 2, none⟩ (.bool k4) = W := ⟨_, rfl⟩
    rw [hW5]
    have k5 : Keep (fun q => q = w.heap.size + 1 + 1 + 1) W3 W5 := by rw [← hW5]; exact putL_keep (Keep.refl (fun q => q = w.heap.size + 1 + 1 + 1) W3) (.inl rfl) _ _ _
    have HB5 : Hid (Blk W5 (w.heap.size + 1 + 1 + 1) 53 #[.slice A3 n3 c3, .slice A4 n4 c4, .bool k4]) := Lib.hid (by rw [← hW5]; exact putL_blk HB3.out _ _ _)
    clear hW5
    have hF5 : Far2 N W3 (fun q => q = w.heap.size + 1 + 1 + 1) := Far2.blk HB3.out (by decide) (by decide) (by have := HNw.out; omega)
    have HG5 := Lib.hid (HG3.out.keep k5 hF5)
    have HLd5 := Lib.hid (HLd3.out.keep k5 hF5)
    have HK5 := Lib.hid (HK3.out.then_ k5 (fun i hi e => by omega))
    have HB5r := Lib.hid (HB3r.out.keep k5 (by omega))
    have HB5l := Lib.hid (HB3l.out.keep k5 (by omega))
    clear k5 hF5 z0 z1 z2 zf0 zf1 zf2
    by_cases g : re = 0
    · subst g
      have HD := Lib.hid (HDo.out.1 rfl)
      have z0 : W5.cell? ⟨w.heap.size + 1 + 1 + 1, 0, none⟩ = some (.slice A3 n3 c3) := HB5.out.cell 0
      have z1 : W5.cell? ⟨w.heap.size + 1 + 1 + 1, 1, none⟩ = some (.slice A4 n4 c4) := HB5.out.cell 1
      have z2 : W5.cell? ⟨w.heap.size + 1 + 1 + 1, 2, none⟩ = some (.bool k4) := HB5.out.cell 2
      have s0 : W5.cell? ⟨w.heap.size + 1 + 1, 0, none⟩ = some (.slice none 0 0) := HB5r.out.cell 0
      have s1 : W5.cell? ⟨w.heap.size + 1 + 1, 1, none⟩ = some (.slice none 0 0) := HB5r.out.cell 1
      have s2 : W5.cell? ⟨w.heap.size + 1 + 1, 2, none⟩ = some (.bool false) := HB5r.out.cell 2
      have sf0 := HB5r.out.frozen 0
      have sf1 := HB5r.out.frozen 1
      have sf2 := HB5r.out.frozen 2
      go_wp2_with fail
      (try simp only [Exit.inBlock, Exit.then])
      have hp := putL_keep (S := fun q => q = w.heap.size + 1 + 1) (Keep.refl _ W5) (b := w.heap.size + 1 + 1) (.inl rfl) (.slice A3 n3 c3) (.slice A4 n4 c4) (.bool k4)
      have hF : Far2 N W5 (fun q => q = w.heap.size + 1 + 1) := Far2.blk HB5r.out (by decide) (by decide) (by have := HNw.out; omega)
      refine bodyPost_ret (ld_results (fn := Try.f55) (r := 4) rfl (putL_blk HB5r.out (.slice A3 n3 c3) (.slice A4 n4 c4) (.bool k4)) _ rfl) rfl ⟨⟨A3, n3, c3, A4, n4, c4, k4⟩, rfl, by rw [HD.out]; exact HG5.out.keep hp hF, HK5.out.then_ hp (fun i hi e => by omega)⟩
    · have t0 : (re != 0) = true := by simpa using g
      have t0' : (re == 0) = false := by simpa using g
      have HD := Lib.hid (HDo.out.2 g)
      clear g
      have z0 : W5.cell? ⟨w.heap.size, 0, none⟩ = some (.slice A n c) := HB5l.out.cell 0
      have z1 : W5.cell? ⟨w.heap.size, 1, none⟩ = some (.slice A2 n2 c2) := HB5l.out.cell 1
      have z2 : W5.cell? ⟨w.heap.size, 2, none⟩ = some (.bool k) := HB5l.out.cell 2
      have s0 : W5.cell? ⟨w.heap.size + 1 + 1, 0, none⟩ = some (.slice none 0 0) := HB5r.out.cell 0
      have s1 : W5.cell? ⟨w.heap.size + 1 + 1, 1, none⟩ = some (.slice none 0 0) := HB5r.out.cell 1
      have s2 : W5.cell? ⟨w.heap.size + 1 + 1, 2, none⟩ = some (.bool false) := HB5r.out.cell 2
      have sf0 := HB5r.out.frozen 0
      have sf1 := HB5r.out.frozen 1
      have sf2 := HB5r.out.frozen 2
      go_wp2_with fail
      (try simp only [Exit.inBlock, Exit.then])
      have hp := putL_keep (S := fun q => q = w.heap.size + 1 + 1) (Keep.refl _ W5) (b := w.heap.size + 1 + 1) (.inl rfl) (.slice A n c) (.slice A2 n2 c2) (.bool k)
      have hF : Far2 N W5 (fun q => q = w.heap.size + 1 + 1) := Far2.blk HB5r.out (by decide) (by decide) (by have := HNw.out; omega)
      refine bodyPost_ret (ld_results (fn := Try.f55) (r := 4) rfl (putL_blk HB5r.out (.slice A n c) (.slice A2 n2 c2) (.bool k)) _ rfl) rfl ⟨⟨A, n, c, A2, n2, c2, k⟩, rfl, by rw [HD.out]; exact HLd5.out.keep hp hF, HK5.out.then_ hp (fun i hi e => by omega)⟩
  have t2 : (ok == 2) = false := by simpa using g2
  by_cases g3 : ok = 3
  · subst g3
    have HC0 : Calls Try.prog 51 #[.agg #[.slice A n c, .slice A2 n2 c2, .bool k], .slice X xn xc, .slice Y yn yc] w4 (LdRet2 N (doM (es, hr, k) (3, ot, oe, ox, oy)) w4) := by
      have hd : doM (es, hr, k) (3, ot, oe, ox, oy) = standsM (es, hr, k) ox oy := by unfold doM; simp
      rw [hd]; exact gsta_any ⟨A, n, c, A2, n2, c2, k⟩ (es, hr, k) N ox oy X Y xn xc yn yc w4 HLd.out HOp.out.sx HOp.out.sy HSz.out hxl hyl hN4
    have HDo0 : ((doM (es, hr, k) (3, ot, oe, ox, oy)).2 = 0 → doneM (es, hr, k) (3, ot, oe, ox, oy) = (doM (es, hr, k) (3, ot, oe, ox, oy)).1) ∧ ((doM (es, hr, k) (3, ot, oe, ox, oy)).2 ≠ 0 → doneM (es, hr, k) (3, ot, oe, ox, oy) = (es, hr, k)) :=
      ⟨fun e => by unfold doneM; rw [if_pos e], fun e => by unfold doneM; rw [if_neg e]⟩
    obtain ⟨r, hr0⟩ : ∃ z, doM (es, hr, k) (3, ot, oe, ox, oy) = z := ⟨_, rfl⟩
    rw [hr0] at HC0 HDo0
    obtain ⟨rl, re⟩ := r
    simp only at HDo0
    have HC := Lib.hid HC0
    have HDo := Lib.hid HDo0
    clear HC0 HDo0 hr0
    clear hN4 hxl hyl hnl
    go_enter Try.func55, Try.ntmps55
    go_wp2_with fail
    refine HC.out.mono ?_
    rintro e W3 ⟨⟨A3, n3, c3, A4, n4, c4, k4⟩, rfl, hg3, hk3⟩
    dsimp only [LA.cs]
    have HG3 := Lib.hid hg3
    have HK3 := Lib.hid (HK.out.trans hk3)
    have HB3 := Lib.hid (HB4.out.keep hk3 (fun h => h))
    have HB3r := Lib.hid (HB3z.out.keep hk3 (fun h => h))
    have HB3l := Lib.hid (HB1.out.keep hk3 (fun h => h))
    have HLd3 := Lib.hid (HLd.out.never hk3)
    clear hg3 hk3 HC y0 y1 y2 o0 o1 o2 o3 o4 m0 m1 m2 hw1 hw2 hw3 hw4 zw1 zw2 zw3
    have z0 : W3.cell? ⟨w.heap.size + 1 + 1 + 1, 0, none⟩ = some (.slice A n c) := HB3.out.cell 0
    have z1 : W3.cell? ⟨w.heap.size + 1 + 1 + 1, 1, none⟩ = some (.slice A2 n2 c2) := HB3.out.cell 1
    have z2 : W3.cell? ⟨w.heap.size + 1 + 1 + 1, 2, none⟩ = some (.bool k) := HB3.out.cell 2
    have zf0 := HB3.out.frozen 0
    have zf1 := HB3.out.frozen 1
    have zf2 := HB3.out.frozen 2
    go_upto_region 14 with (fail)
    obtain ⟨W5, hW5⟩ : ∃ W : World, ((W3.setCell ⟨w.heap.size + 1 + 1 + 1, 0, none⟩ (.slice A3 n3 c3)).setCell ⟨w.heap.size + 1 + 1 + 1, 1, none⟩ (.slice A4 n4 c4)).setCell ⟨w.heap.size + 1 + 1 + 1, 2, none⟩ (.bool k4) = W := ⟨_, rfl⟩
    rw [hW5]
    have k5 : Keep (fun q => q = w.heap.size + 1 + 1 + 1) W3 W5 := by rw [← hW5]; exact putL_keep (Keep.refl (fun q => q = w.heap.size + 1 + 1 + 1) W3) (.inl rfl) _ _ _
    have HB5 : Hid (Blk W5 (w.heap.size + 1 + 1 + 1) 53 #[.slice A3 n3 c3, .slice A4 n4 c4, .bool k4]) := Lib.hid (by rw [← hW5]; exact putL_blk HB3.out _ _ _)
    clear hW5
    have hF5 : Far2 N W3 (fun q => q = w.heap.size + 1 + 1 + 1) := Far2.blk HB3.out (by decide) (by decide) (by have := HNw.out; omega)
    have HG5 := Lib.hid (HG3.out.keep k5 hF5)
    have HLd5 := Lib.hid (HLd3.out.keep k5 hF5)
    have HK5 := Lib.hid (HK3.out.then_ k5 (fun i hi e => by omega))
    have HB5r := Lib.hid (HB3r.out.keep k5 (by omega))
    have HB5l := Lib.hid (HB3l.out.keep k5 (by omega))
    clear k5 hF5 z0 z1 z2 zf0 zf1 zf2
    by_cases g : re = 0
    · subst g
      have HD := Lib.hid (HDo.out.1 rfl)
      have z0 : W5.cell? ⟨w.heap.size + 1 + 1 + 1, 0, none⟩ = some (.slice A3 n3 c3) := HB5.out.cell 0
      have z1 : W5.cell? ⟨w.heap.size + 1 + 1 + 1, 1, none⟩ = some (.slice A4 n4 c4) := HB5.out.cell 1
      have z2 : W5.cell? ⟨w.heap.size + 1 + 1 + 1, 2, none⟩ = some (.bool k4) := HB5.out.cell 2
      have s0 : W5.cell? ⟨w.heap.size + 1 + 1, 0, none⟩ = some (.slice none 0 0) := HB5r.out.cell 0
      have s1 : W5.cell? ⟨w.heap.size + 1 + 1, 1, none⟩ = some (.slice none 0 0) := HB5r.out.cell 1
      have s2 : W5.cell? ⟨w.heap.size + 1 + 1, 2, none⟩ = some (.bool false) := HB5r.out.cell 2
      have sf0 := HB5r.out.frozen 0
      have sf1 := HB5r.out.frozen 1
      have sf2 := HB5r.out.frozen 2
      go_wp2_with fail
      (try simp only [Exit.inBlock, Exit.then])
      have hp := putL_keep (S := fun q => q = w.heap.size + 1 + 1) (Keep.refl _ W5) (b := w.heap.size + 1 + 1) (.inl rfl) (.slice A3 n3 c3) (.slice A4 n4 c4) (.bool k4)
      have hF : Far2 N W5 (fun q => q = w.heap.size + 1 + 1) := Far2.blk HB5r.out (by decide) (by decide) (by have := HNw.out; omega)
      refine bodyPost_ret (ld_results (fn := Try.f55) (r := 4) rfl (putL_blk HB5r.out (.slice A3 n3 c3) (.slice A4 n4 c4) (.bool k4)) _ rfl) rfl ⟨⟨A3, n3, c3, A4, n4, c4, k4⟩, rfl, by rw [HD.out]; exact HG5.out.keep hp hF, HK5.out.then_ hp (fun i hi e => by omega)⟩
    · have t0 : (re != 0) = true := by simpa using g
      have t0' : (re == 0) = false := by simpa using g
      have HD := Lib.hid (HDo.out.2 g)
      clear g
      have z0 : W5.cell? ⟨w.heap.size, 0, none⟩ = some (.slice A n c) := HB5l.out.cell 0
      have z1 : W5.cell? ⟨w.heap.size, 1, none⟩ = some (.slice A2 n2 c2) := HB5l.out.cell 1
      have z2 : W5.cell? ⟨w.heap.size, 2, none⟩ = some (.bool k) := HB5l.out.cell 2
      have s0 : W5.cell? ⟨w.heap.size + 1 + 1, 0, none⟩ = some (.slice none 0 0) := HB5r.out.cell 0
      have s1 : W5.cell? ⟨w.heap.size + 1 + 1, 1, none⟩ = some (.slice none 0 0) := HB5r.out.cell 1
      have s2 : W5.cell? ⟨w.heap.size + 1 + 1, 2, none⟩ = some (.bool false) := HB5r.out.cell 2
      have sf0 := HB5r.out.frozen 0
      have sf1 := HB5r.out.frozen 1
      have sf2 := HB5r.out.frozen 2
      go_wp2_with fail
      (try simp only [Exit.inBlock, Exit.then])
      have hp := putL_keep (S := fun q => q = w.heap.size + 1 + 1) (Keep.refl _ W5) (b := w.heap.size + 1 + 1) (.inl rfl) (.slice A n c) (.slice A2 n2 c2) (.bool k)
      have hF : Far2 N W5 (fun q => q = w.heap.size + 1 + 1) := Far2.blk HB5r.out (by decide) (by decide) (by have := HNw.out; omega)
      refine bodyPost_ret (ld_results (fn := Try.f55) (r := 4) rfl (putL_blk HB5r.out (.slice A n c) (.slice A2 n2 c2) (.bool k)) _ rfl) rfl ⟨⟨A, n, c, A2, n2, c2, k⟩, rfl, by rw [HD.out]; exact HLd5.out.keep hp hF, HK5.out.then_ hp (fun i hi e => by omega)⟩
  have t3 : (ok == 3) = false := by simpa using g3
  by_cases g4 : ok = 4
  · subst g4
    have HC0 : Calls Try.prog 46 #[.agg #[.slice A n c, .slice A2 n2 c2, .bool k]] w4 (LdRet2 N (doM (es, hr, k) (4, ot, oe, ox, oy)) w4) := by
      have hd : doM (es, hr, k) (4, ot, oe, ox, oy) = lostM (es, hr, k) := by unfold doM; simp
      rw [hd]; exact glost_any ⟨A, n, c, A2, n2, c2, k⟩ (es, hr, k) N w4 HLd.out HSz.out.small hN4
    have HDo0 : ((doM (es, hr, k) (4, ot, oe, ox, oy)).2 = 0 → doneM (es, hr, k) (4, ot, oe, ox, oy) = (doM (es, hr, k) (4, ot, oe, ox, oy)).1) ∧ ((doM (es, hr, k) (4, ot, oe, ox, oy)).2 ≠ 0 → doneM (es, hr, k) (4, ot, oe, ox, oy) = (es, hr, k)) :=
      ⟨fun e => by unfold doneM; rw [if_pos e], fun e => by unfold doneM; rw [if_neg e]⟩
    obtain ⟨r, hr0⟩ : ∃ z, doM (es, hr, k) (4, ot, oe, ox, oy) = z := ⟨_, rfl⟩
    rw [hr0] at HC0 HDo0
    obtain ⟨rl, re⟩ := r
    simp only at HDo0
    have HC := Lib.hid HC0
    have HDo := Lib.hid HDo0
    clear HC0 HDo0 hr0
    clear hN4 hxl hyl hnl
    go_enter Try.func55, Try.ntmps55
    go_wp2_with fail
    refine HC.out.mono ?_
    rintro e W3 ⟨⟨A3, n3, c3, A4, n4, c4, k4⟩, rfl, hg3, hk3⟩
    dsimp only [LA.cs]
    have HG3 := Lib.hid hg3
    have HK3 := Lib.hid (HK.out.trans hk3)
    have HB3 := Lib.hid (HB4.out.keep hk3 (fun h => h))
    have HB3r := Lib.hid (HB3z.out.keep hk3 (fun h => h))
    have HB3l := Lib.hid (HB1.out.keep hk3 (fun h => h))
    have HLd3 := Lib.hid (HLd.out.never hk3)
    clear hg3 hk3 HC y0 y1 y2 o0 o1 o2 o3 o4 m0 m1 m2 hw1 hw2 hw3 hw4 zw1 zw2 zw3
    have z0 : W3.cell? ⟨w.heap.size + 1 + 1 + 1, 0, none⟩ = some (.slice A n c) := HB3.out.cell 0
    have z1 : W3.cell? ⟨w.heap.size + 1 + 1 + 1, 1, none⟩ = some (.slice A2 n2 c2) := HB3.out.cell 1
    have z2 : W3.cell? ⟨w.heap.size + 1 + 1 + 1, 2, none⟩ = some (.bool k) := HB3.out.cell 2
    have zf0 := HB3.out.frozen 0
    have zf1 := HB3.out.frozen 1
    have zf2 := HB3.out.frozen 2
    go_upto_region 14 with (fail)
    obtain ⟨W5, hW5⟩ : ∃ W : World, ((W3.setCell ⟨w.heap.size + 1 + 1 + 1, 0, none⟩ (.slice A3 n3 c3)).setCell ⟨w.heap.size + 1 + 1 + 1, 1, none⟩ (.slice A4 n4 c4)).setCell ⟨w.heap.size + 1 + 1 + 1, 2, none⟩ (.bool k4) = W := ⟨_, rfl⟩
    rw [hW5]
    have k5 : Keep (fun q => q = w.heap.size + 1 + 1 + 1) W3 W5 := by rw [← hW5]; exact putL_keep (Keep.refl (fun q => q = w.heap.size + 1 + 1 + 1) W3) (.inl rfl) _ _ _
    have HB5 : Hid (Blk W5 (w.heap.size + 1 + 1 + 1) 53 #[.slice A3 n3 c3, .slice A4 n4 c4, .bool k4]) := Lib.hid (by rw [← hW5]; exact putL_blk HB3.out _ _ _)
    clear hW5
    have hF5 : Far2 N W3 (fun q => q = w.heap.size + 1 + 1 + 1) := Far2.blk HB3.out (by decide) (by decide) (by have := HNw.out; omega)
    have HG5 := Lib.hid (HG3.out.keep k5 hF5)
    have HLd5 := Lib.hid (HLd3.out.keep k5 hF5)
    have HK5 := Lib.hid (HK3.out.then_ k5 (fun i hi e => by omega))
    have HB5r := Lib.hid (HB3r.out.keep k5 (by omega))
    have HB5l := Lib.hid (HB3l.out.keep k5 (by omega))
    clear k5 hF5 z0 z1 z2 zf0 zf1 zf2
    by_cases g : re = 0
    · subst g
      have HD := Lib.hid (HDo.out.1 rfl)
      have z0 : W5.cell? ⟨w.heap.size + 1 + 1 + 1, 0, none⟩ = some (.slice A3 n3 c3) := HB5.out.cell 0
      have z1 : W5.cell? ⟨w.heap.size + 1 + 1 + 1, 1, none⟩ = some (.slice A4 n4 c4) := HB5.out.cell 1
      have z2 : W5.cell? ⟨w.heap.size + 1 + 1 + 1, 2, none⟩ = some (.bool k4) := HB5.out.cell 2
      have s0 : W5.cell? ⟨w.heap.size + 1 + 1, 0, none⟩ = some (.slice none 0 0) := HB5r.out.cell 0
      have s1 : W5.cell? ⟨w.heap.size + 1 + 1, 1, none⟩ = some (.slice none 0 0) := HB5r.out.cell 1
      have s2 : W5.cell? ⟨w.heap.size + 1 + 1, 2, none⟩ = some (.bool false) := HB5r.out.cell 2
      have sf0 := HB5r.out.frozen 0
      have sf1 := HB5r.out.frozen 1
      have sf2 := HB5r.out.frozen 2
      go_wp2_with fail
      (try simp only [Exit.inBlock, Exit.then])
      have hp := putL_keep (S := fun q => q = w.heap.size + 1 + 1) (Keep.refl _ W5) (b := w.heap.size + 1 + 1) (.inl rfl) (.slice A3 n3 c3) (.slice A4 n4 c4) (.bool k4)
      have hF : Far2 N W5 (fun q => q = w.heap.size + 1 + 1) := Far2.blk HB5r.out (by decide) (by decide) (by have := HNw.out; omega)
      refine bodyPost_ret (ld_results (fn := Try.f55) (r := 4) rfl (putL_blk HB5r.out (.slice A3 n3 c3) (.slice A4 n4 c4) (.bool k4)) _ rfl) rfl ⟨⟨A3, n3, c3, A4, n4, c4, k4⟩, rfl, by rw [HD.out]; exact HG5.out.keep hp hF, HK5.out.then_ hp (fun i hi e => by omega)⟩
    · have t0 : (re != 0) = true := by simpa using g
      have t0' : (re == 0) = false := by simpa using g
      have HD := Lib.hid (HDo.out.2 g)
      clear g
      have z0 : W5.cell? ⟨w.heap.size, 0, none⟩ = some (.slice A n c) := HB5l.out.cell 0
      have z1 : W5.cell? ⟨w.heap.size, 1, none⟩ = some (.slice A2 n2 c2) := HB5l.out.cell 1
      have z2 : W5.cell? ⟨w.heap.size, 2, none⟩ = some (.bool k) := HB5l.out.cell 2
      have s0 : W5.cell? ⟨w.heap.size + 1 + 1, 0, none⟩ = some (.slice none 0 0) := HB5r.out.cell 0
      have s1 : W5.cell? ⟨w.heap.size + 1 + 1, 1, none⟩ = some (.slice none 0 0) := HB5r.out.cell 1
      have s2 : W5.cell? ⟨w.heap.size + 1 + 1, 2, none⟩ = some (.bool false) := HB5r.out.cell 2
      have sf0 := HB5r.out.frozen 0
      have sf1 := HB5r.out.frozen 1
      have sf2 := HB5r.out.frozen 2
      go_wp2_with fail
      (try simp only [Exit.inBlock, Exit.then])
      have hp := putL_keep (S := fun q => q = w.heap.size + 1 + 1) (Keep.refl _ W5) (b := w.heap.size + 1 + 1) (.inl rfl) (.slice A n c) (.slice A2 n2 c2) (.bool k)
      have hF : Far2 N W5 (fun q => q = w.heap.size + 1 + 1) := Far2.blk HB5r.out (by decide) (by decide) (by have := HNw.out; omega)
      refine bodyPost_ret (ld_results (fn := Try.f55) (r := 4) rfl (putL_blk HB5r.out (.slice A n c) (.slice A2 n2 c2) (.bool k)) _ rfl) rfl ⟨⟨A, n, c, A2, n2, c2, k⟩, rfl, by rw [HD.out]; exact HLd5.out.keep hp hF, HK5.out.then_ hp (fun i hi e => by omega)⟩
  have t4 : (ok == 4) = false := by simpa using g4
  have HD : Hid (doneM (es, hr, k) (ok, ot, oe, ox, oy) = (es, hr, k)) := Lib.hid (by
    have hd : doM (es, hr, k) (ok, ot, oe, ox, oy) = ((es, hr, k), 0) := by unfold doM; simp [g0, g1, g2, g3, g4]
    unfold doneM; rw [hd]; rfl)
  clear g0 g1 g2 g3 g4 hN4 hxl hyl hnl
  have z0 : w4.cell? ⟨w.heap.size + 1 + 1 + 1, 0, none⟩ = some (.slice A n c) := HB4.out.cell 0
  have z1 : w4.cell? ⟨w.heap.size + 1 + 1 + 1, 1, none⟩ = some (.slice A2 n2 c2) := HB4.out.cell 1
  have z2 : w4.cell? ⟨w.heap.size + 1 + 1 + 1, 2, none⟩ = some (.bool k) := HB4.out.cell 2
  have s0 : w4.cell? ⟨w.heap.size + 1 + 1, 0, none⟩ = some (.slice none 0 0) := HB3z.out.cell 0
  have s1 : w4.cell? ⟨w.heap.size + 1 + 1, 1, none⟩ = some (.slice none 0 0) := HB3z.out.cell 1
  have s2 : w4.cell? ⟨w.heap.size + 1 + 1, 2, none⟩ = some (.bool false) := HB3z.out.cell 2
  have sf0 := HB3z.out.frozen 0
  have sf1 := HB3z.out.frozen 1
  have sf2 := HB3z.out.frozen 2
  go_enter Try.func55, Try.ntmps55
  go_wp2_with fail
  (try simp only [Exit.inBlock, Exit.then])
  have hp := putL_keep (S := fun q => q = w.heap.size + 1 + 1) (Keep.refl _ w4) (b := w.heap.size + 1 + 1) (.inl rfl) (.slice A n c) (.slice A2 n2 c2) (.bool k)
  have hF : Far2 N w4 (fun q => q = w.heap.size + 1 + 1) := Far2.blk HB3z.out (by decide) (by decide) (by have := HNw.out; omega)
  refine bodyPost_ret (ld_results (fn := Try.f55) (r := 4) rfl (putL_blk HB3z.out (.slice A n c) (.slice A2 n2 c2) (.bool k)) _ rfl) rfl ⟨⟨A, n, c, A2, n2, c2, k⟩, rfl, by rw [HD.out]; exact HLd.out.keep hp hF, HK.out.then_ hp (fun i hi e => by omega)⟩
end Go.Proofs.Ytlcbajdckgcopaa
