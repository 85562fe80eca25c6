/- Texts of this claim, together: PmC, PmD, PlcF, PmBu, PlnV, PackJ, PmG, PlnH. -/
import Derived.Test.YtpapiojicbbheaaGreatDoorSh07
import Derived.Test.YtpapiojicbbheaaGreatDoorSh03
import Derived.Deep.LoopGhost
import Derived.Test.YtpapiojicbbheaaGreatDoorSh04
import Derived.Test.YtpapiojicbbheaaGreatDoorSh06
import Derived.Test.YtpapiojicbbheaaGreatDoorSh10
import Derived.Test.YtpapiojicbbheaaGreatDoorSh09
namespace Go.Proofs.YtpapiojicbbheaaGreatDoor
open Go.RowKit
structure ChS (w0 W : World) (x : TA) (bt bl br bo bg : Nat) (Al : Option Addr) (nl cl : Nat) (train : Int) (Ao : Option Addr) (no co : Nat) (Ag : Option Addr) (ng cg : Nat) (out : List Lk) (gone : List Stp) : Prop where
 kp : Keep Never w0 W
 ft : Blk W bt 27 x.cs
 fl : Blk W bl 28 #[.slice Al nl cl]
 fr : Blk W br 3 #[.int .i64 train]
 fo : Blk W bo 28 #[.slice Ao no co]
 fg : Blk W bg 35 #[.slice Ag ng cg]
 oo : Own W w0.heap.size 62 3 Ao no co (spCells out)
 og : Own W w0.heap.size 30 2 Ag ng cg (stpCells gone)
 lo : w0.heap.size ≤ bo ∧ w0.heap.size ≤ bg
 ne : bl ≠ bo
theorem ChS.never {w0 W W' : World} {x : TA} {bt bl br bo bg : Nat} {Al : Option Addr} {nl cl : Nat} {train : Int} {Ao : Option Addr} {no co : Nat} {Ag : Option Addr} {ng cg : Nat} {out : List Lk} {gone : List Stp}
  (h : ChS w0 W x bt bl br bo bg Al nl cl train Ao no co Ag ng cg out gone) (hk : Keep Never W W') : ChS w0 W' x bt bl br bo bg Al nl cl train Ao no co Ag ng cg out gone :=
 ⟨h.kp.trans hk, h.ft.keep hk (fun h => h), h.fl.keep hk (fun h => h), h.fr.keep hk (fun h => h), h.fo.keep hk (fun h => h), h.fg.keep hk (fun h => h), h.oo.keep hk (fun _ _ h => h), h.og.keep hk (fun _ _ h => h), h.lo, h.ne⟩
theorem ChS.out_ {w0 W W2 : World} {x : TA} {bt bl br bo bg : Nat} {Al : Option Addr} {nl cl : Nat} {train : Int} {Ao : Option Addr} {no co : Nat} {Ag : Option Addr} {ng cg : Nat} {out : List Lk} {gone : List Stp} {A2 : Option Addr} {c2 : Nat} {k : Lk}
  (h : ChS w0 W x bt bl br bo bg Al nl cl train Ao no co Ag ng cg out gone) (ho : Own W2 w0.heap.size 62 3 A2 (no + 1) c2 (spCells out ++ [.int .i64 k.1, .int .i64 k.2.1, .int .i64 k.2.2])) (hk : Keep (InRow Ao) W W2) :
  ChS w0 (W2.setCell ⟨bo, 0, none⟩ (.slice A2 (no + 1) c2)) x bt bl br bo bg Al nl cl train A2 (no + 1) c2 Ag ng cg (out ++ [k]) gone := by
 have hft := h.ft.keep hk (fun hi => h.oo.ne_blk h.ft (by decide) _ hi rfl)
 have hfl := h.fl.keep hk (fun hi => h.oo.ne_blk h.fl (by decide) _ hi rfl)
 have hfr := h.fr.keep hk (fun hi => h.oo.ne_blk h.fr (by decide) _ hi rfl)
 have hfo := h.fo.keep hk (fun hi => h.oo.ne_blk h.fo (by decide) _ hi rfl)
 have hfg := h.fg.keep hk (fun hi => h.oo.ne_blk h.fg (by decide) _ hi rfl)
 have hog := h.og.keep hk (fun q h1 h2 => h.og.ne_own h.oo (by decide) q h1 h2)
 refine ⟨(h.kp.then_ hk (fun i hi h1 => by have := (h.oo.row h1).1; omega)).set_ (p := ⟨bo, 0, none⟩) (.inr h.lo.1) _, hft.far (hft.ne_ hfo (by decide)) _, hfl.far h.ne _, hfr.far (hfr.ne_ hfo (by decide)) _, ?_, hfg.far (hfg.ne_ hfo (by decide)) _, ?_, hog.far (hog.ne_blk hfo (by decide)) _, h.lo, h.ne⟩
 ·have := hfo.set_ 0 (.slice A2 (no + 1) c2)
  simpa using this
 ·rw [spCells_app]
  exact ho.far (ho.ne_blk hfo (by decide)) _
theorem ChS.gone_ {w0 W W2 : World} {x : TA} {bt bl br bo bg : Nat} {Al : Option Addr} {nl cl : Nat} {train : Int} {Ao : Option Addr} {no co : Nat} {Ag : Option Addr} {ng cg : Nat} {out : List Lk} {gone : List Stp} {A2 : Option Addr} {n2 c2 : Nat} {l : List Stp}
  (h : ChS w0 W x bt bl br bo bg Al nl cl train Ao no co Ag ng cg out gone) (ho : Own W2 w0.heap.size 30 2 A2 n2 c2 (stpCells gone ++ stpCells l)) (hk : Keep (InRow Ag) W W2) :
  ChS w0 (W2.setCell ⟨bg, 0, none⟩ (.slice A2 n2 c2)) x bt bl br bo bg Al nl cl train Ao no co A2 n2 c2 out (gone ++ l) := by
 have hft := h.ft.keep hk (fun hi => h.og.ne_blk h.ft (by decide) _ hi rfl)
 have hfl := h.fl.keep hk (fun hi => h.og.ne_blk h.fl (by decide) _ hi rfl)
 have hfr := h.fr.keep hk (fun hi => h.og.ne_blk h.fr (by decide) _ hi rfl)
 have hfo := h.fo.keep hk (fun hi => h.og.ne_blk h.fo (by decide) _ hi rfl)
 have hfg := h.fg.keep hk (fun hi => h.og.ne_blk h.fg (by decide) _ hi rfl)
 have hoo := h.oo.keep hk (fun q h1 h2 => h.og.ne_own h.oo (by decide) q h2 h1)
 refine ⟨(h.kp.then_ hk (fun i hi h1 => by have := (h.og.row h1).1; omega)).set_ (p := ⟨bg, 0, none⟩) (.inr h.lo.2) _, hft.far (hft.ne_ hfg (by decide)) _, hfl.far (hfl.ne_ hfg (by decide)) _, hfr.far (hfr.ne_ hfg (by decide)) _, hfo.far (hfo.ne_ hfg (by decide)) _, ?_, hoo.far (hoo.ne_blk hfg (by decide)) _, ?_, h.lo, h.ne⟩
 ·have := hfg.set_ 0 (.slice A2 n2 c2)
  simpa using this
 ·rw [stpCells_app]
  exact ho.far (ho.ne_blk hfg (by decide)) _
def ChX (w0 W : World) (x : TA) (bt bl br bo bg : Nat) (Al : Option Addr) (nl cl : Nat) (train : Int) (out : List Lk) (gone : List Stp) : Prop :=
 ∃ Ao no co Ag ng cg, no = out.length ∧ ng = gone.length ∧ ChS w0 W x bt bl br bo bg Al nl cl train Ao no co Ag ng cg out gone
def NextRet (w0 : World) (x : TA) (bt bl br bo bg : Nat) (Al : Option Addr) (nl cl : Nat) (train : Int) (out : List Lk) (gone : List Stp) (o : Option (Lk × Rt)) (e : Ending) (w' : World) : Prop :=
 e = .returned (.bool o.isSome) ∧ match o with
  | none => ChX w0 w' x bt bl br bo bg Al nl cl train out gone
  | some z => ChX w0 w' x bt bl br bo bg Al nl cl train (out ++ [z.1]) (gone ++ z.2.2.1)
def PredRo (g : Nat) (lb : Array Value) (t : Tp) (p : Rt → Bool) (w : World) : Prop :=
 ∀ (W : World) (r : Rt) (A : Option Addr) (n c : Nat), Keep Never w W → r ∈ t.2.2.2 → Rd W W.heap.size 2 A n (stpCells r.2.1) → Calls Tryz.prog g (#[rtA r A n c] ++ lb) W fun e w' => e = .returned (.bool (p r)) ∧ Keep Never W w'
theorem find_at17 {α β : Type} {f : α → Option β} {l : List α} {k : Nat} {s : α} {z : β} (h0 : ∀ x ∈ l.take k, f x = none) (h1 : l[k]? = some s) (h2 : f s = some z) : l.findSome? f = some z := by
 have e : l = l.take k ++ s :: l.drop (k + 1) := by
  obtain ⟨hk, hs⟩ := List.getElem?_eq_some_iff.1 h1
  rw [← hs, List.getElem_cons_drop, List.take_append_drop]
 rw [e, List.findSome?_append, List.findSome?_eq_none_iff.2 h0, List.findSome?_cons, h2]
 rfl
theorem find_no17 {α β : Type} {f : α → Option β} {l : List α} (h : ∀ x ∈ l, f x = none) : l.findSome? f = none := List.findSome?_eq_none_iff.2 h
theorem take_next {α : Type} {l : List α} {k : Nat} {s : α} (h : l[k]? = some s) {P : α → Prop} (h0 : ∀ x ∈ l.take k, P x) (hs : P s) : ∀ x ∈ l.take (k + 1), P x := by
 intro x hx
 rw [List.take_add_one, h] at hx
 rcases List.mem_append.1 hx with hx | hx
 ·exact h0 x hx
 ·simp at hx; subst hx; exact hs
theorem next_none {t : Tp} {train : Int} {out : List Lk} {may : Rt → Bool} {k : Lk} (h : rtM t.2.2.2 k.1 = none) : nextK t train out may k = none := by unfold nextK; rw [h]
theorem next_eq {t : Tp} {train : Int} {out : List Lk} {may : Rt → Bool} {k : Lk} {r : Rt} (h : rtM t.2.2.2 k.1 = some r) : nextK t train out may k = if (k.2.1 == train && !(out.contains k) && may r) = true then some (k, r) else none := by unfold nextK; rw [h]
set_option maxHeartbeats 8000000 in
set_option maxRecDepth 100000 in
theorem ch1_any (g : Nat) (lb : Array Value) (p : Rt → Bool) (eg : ∀ args w, (callFunc g args).run Tryz.prog w = .ok (.enter g args) w) (x : TA) (t : Tp) (B : Nat) (Al : Option Addr) (nl cl : Nat) (l : List Lk) (train : Int) (w0 w : World) (bt bl br bo bg : Nat) (out : List Lk) (gone : List Stp) (h : TpAt w B x t) (hs : TpSmall x t) (hB : B ≤ w.heap.size) (hl : SpAt w0 B Al nl cl l) (hnl : nl ≤ 1000000) (h8 : out.length ≤ 100) (hg9 : gone.length ≤ 10000) (hX : ChX w0 w x bt bl br bo bg Al nl cl train out gone) (hm : PredRo g lb t p w) :
  Calls Tryz.prog 40 #[.func (.func g) #[] lb, .pointer (some ⟨bl, 0, none⟩), .pointer (some ⟨bt, 0, none⟩), .pointer (some ⟨br, 0, none⟩), .pointer (some ⟨bo, 0, none⟩), .pointer (some ⟨bg, 0, none⟩)] w (NextRet w0 x bt bl br bo bg Al nl cl train out gone (l.findSome? (nextK t train out p))) := by
 obtain ⟨Ao, no, co, Ag, ng, cg, hno, hng, hS⟩ := hX
 have HRt := Lib.hid (fun (W : World) (hk : Keep Never w W) (id : Int) => route_own x t B id W (h.keep hk) hs.r hs.p (Nat.le_trans hB hk.size))
 have HCo := Lib.hid (fun (W : World) (k : Lk) (hr : Rd W W.heap.size 3 Ao no (spCells out)) => kcontains_any Ao no co W.heap.size out k W hr (by omega))
 have HL := Lib.hid hl
 have HLn : Hid (l.length = nl) := Lib.hid hl.len
 have HM := Lib.hid hm
 have HS0 := Lib.hid hS
 have HNo := Lib.hid hno
 have HNg := Lib.hid hng
 have HSp := Lib.hid hs.p
 obtain ⟨Ae, ne, ce, Aj, nj, cj, Ab, nb, cb, Ar, nr, cr⟩ := x
 simp only [TA.cs] at HRt
 have hno8 : no ≤ 100 := by omega
 have hng9 : ng ≤ 10000 := by omega
 clear h hs hl hm hS hno hng
 have xl : w.cell? ⟨bl, 0, none⟩ = some (.slice Al nl cl) := HS0.out.fl.cell 0
 go_enter Tryz.func40, Tryz.ntmps40
 go_wp2_with fail
 clear xl
 go_loopw [14] (fun si wr => ∃ k : Nat, k ≤ nl ∧ si = .int .i64 k ∧ Hid (Keep Never w wr ∧ ∀ s ∈ l.take k, nextK t train out p s = none)) (fun si _ => nl - (intOf si).toNat)
 case atStart => exact ⟨0, by omega, rfl, Lib.hid ⟨Keep.refl _ _, by simp⟩⟩
 case round =>
  obtain ⟨k, hk, rfl, HH⟩ := hrel
  by_cases h0 : k < nl
  ·have hkz : (k : Int) < (nl : Int) := by omega
   have HSr := Lib.hid (HS0.out.never HH.out.1)
   obtain ⟨ad, s, hA, _, hs, c0, c1, c2⟩ := (HL.out.keep (HS0.out.kp.trans HH.out.1)).rd.sp h0
   subst hA
   have Hs := Lib.hid hs
   obtain ⟨k1, k2, k3⟩ := s
   simp only at c0 c1 c2
   clear hs
   obtain ⟨w4, hw4⟩ : ∃ V : World, wr.alloc (.cells #[.int .i64 k1, .int .i64 k2, .int .i64 k3] 62) = V := ⟨_, rfl⟩
   have k4 : Keep Never wr w4 := by rw [← hw4]; exact (Keep.refl _ _).alloc _
   have B4 := Blk.new wr 62 #[.int .i64 k1, .int .i64 k2, .int .i64 k3]
   rw [hw4] at B4
   obtain ⟨bk, hbk⟩ : ∃ q, wr.heap.size = q := ⟨_, rfl⟩
   rw [hbk] at B4
   have HB4 := Lib.hid B4
   have HS4 := Lib.hid (HSr.out.never k4)
   have HK4 := Lib.hid (HH.out.1.trans k4)
   have b0 : w4.cell? ⟨bk, 0, none⟩ = some (.int .i64 k1) := HB4.out.cell 0
   have b1 : w4.cell? ⟨bk, 1, none⟩ = some (.int .i64 k2) := HB4.out.cell 1
   have b2 : w4.cell? ⟨bk, 2, none⟩ = some (.int .i64 k3) := HB4.out.cell 2
   have hw := HRt.out w4 HK4.out k1
   obtain ⟨o, ho⟩ : ∃ z, rtM t.2.2.2 k1 = z := ⟨_, rfl⟩
   rw [ho] at hw
   have HC := Lib.hid hw
   have HO := Lib.hid ho
   clear B4 k4 hw ho
   have y0 : w4.cell? ⟨bt, 0, none⟩ = some (.slice Ae ne ce) := HS4.out.ft.cell 0
   have y1 : w4.cell? ⟨bt, 1, none⟩ = some (.slice Aj nj cj) := HS4.out.ft.cell 1
   have y2 : w4.cell? ⟨bt, 2, none⟩ = some (.slice Ab nb cb) := HS4.out.ft.cell 2
   have y3 : w4.cell? ⟨bt, 3, none⟩ = some (.slice Ar nr cr) := HS4.out.ft.cell 3
   go_wp2_with fail
   refine HC.out.mono ?_
   rintro en w5 ⟨A5, n5, c5, rfl, hz5, ho5, hin5, hk5⟩
   have HS5 := Lib.hid (HS4.out.never hk5)
   have HK5 := Lib.hid (HK4.out.trans hk5)
   have HB5 := Lib.hid (HB4.out.keep hk5 (fun h => h))
   have HO5 := Lib.hid ho5
   clear hk5 HC y0 y1 y2 y3 b0 b1 b2 c0 c1 c2 ho5 hin5
   cases o with
   | none =>
    have HF : Hid (nextK t train out p (k1, k2, k3) = none) := Lib.hid (next_none HO.out)
    simp only [Option.getD, Option.isSome] at HO5 ⊢
    obtain ⟨e1, e2, e3⟩ := hz5 rfl
    subst e1 e2 e3
    have HK6 := Lib.hid (HK5.out.trans ((Keep.refl Never w5).alloc (.cells #[.int .i64 0, .slice none 0 0, .int .i64 0, .int .i64 0] 64)))
    have b1 : (w5.alloc (.cells #[.int .i64 0, .slice none 0 0, .int .i64 0, .int .i64 0] 64)).cell? ⟨bk, 1, none⟩ = some (.int .i64 k2) := (HB5.out.alloc (.cells #[.int .i64 0, .slice none 0 0, .int .i64 0, .int .i64 0] 64)).cell 1
    have xr : (w5.alloc (.cells #[.int .i64 0, .slice none 0 0, .int .i64 0, .int .i64 0] 64)).cell? ⟨br, 0, none⟩ = some (.int .i64 train) := (HS5.out.fr.alloc (.cells #[.int .i64 0, .slice none 0 0, .int .i64 0, .int .i64 0] 64)).cell 0
    clear hz5
    by_cases g0 : k2 = train
    ·have t0 : (k2 != train) = false := by simpa using g0
     clear g0
     go_wp2_with fail
     refine ⟨⟨k + 1, by omega, by go_num, Lib.hid ⟨HK6.out, take_next Hs.out HH.out.2 HF.out⟩⟩, ?_⟩
     simp [intOf]; try omega
    ·have t0 : (k2 != train) = true := by simpa using g0
     clear g0
     go_wp2_with fail
     refine ⟨⟨k + 1, by omega, by go_num, Lib.hid ⟨HK6.out, take_next Hs.out HH.out.2 HF.out⟩⟩, ?_⟩
     simp [intOf]; try omega
   | some r =>
    obtain ⟨r1, rp, r3, r4⟩ := r
    clear hz5
    have HNx := Lib.hid (next_eq (train := train) (out := out) (may := p) (k := (k1, k2, k3)) HO.out)
    have HRm : Hid (((r1, rp, r3, r4) : Rt) ∈ t.2.2.2) := Lib.hid (List.mem_of_find?_eq_some HO.out)
    simp only [Option.getD, Option.isSome] at HO5 ⊢
    have hn5 : n5 ≤ 100000000 := by have h1 := HSp.out _ HRm.out; have h2 := HO5.out.len; rw [len_stpCells] at h2; simp only at h1; omega
    have HN5 : Hid (n5 = rp.length) := Lib.hid (by have h2 := HO5.out.len; rw [len_stpCells] at h2; omega)
    obtain ⟨w6, hw6⟩ : ∃ V : World, w5.alloc (.cells #[.int .i64 r1, .slice A5 n5 c5, .int .i64 r3, .int .i64 r4] 64) = V := ⟨_, rfl⟩
    have k6 : Keep Never w5 w6 := by rw [← hw6]; exact (Keep.refl _ _).alloc _
    have B6 := Blk.new w5 64 #[.int .i64 r1, .slice A5 n5 c5, .int .i64 r3, .int .i64 r4]
    rw [hw6] at B6
    obtain ⟨bq, hbq⟩ : ∃ q, w5.heap.size = q := ⟨_, rfl⟩
    rw [hbq] at B6
    have HB6 := Lib.hid (HB5.out.keep k6 (fun h => h))
    have HR6 := Lib.hid B6
    have HS6 := Lib.hid (HS5.out.never k6)
    have HK6 := Lib.hid (HK5.out.trans k6)
    have HO6 := Lib.hid (HO5.out.keep k6 (fun _ _ h => h))
    have b0 : w6.cell? ⟨bk, 0, none⟩ = some (.int .i64 k1) := HB6.out.cell 0
    have b1 : w6.cell? ⟨bk, 1, none⟩ = some (.int .i64 k2) := HB6.out.cell 1
    have b2 : w6.cell? ⟨bk, 2, none⟩ = some (.int .i64 k3) := HB6.out.cell 2
    have xr : w6.cell? ⟨br, 0, none⟩ = some (.int .i64 train) := HS6.out.fr.cell 0
    have xo : w6.cell? ⟨bo, 0, none⟩ = some (.slice Ao no co) := HS6.out.fo.cell 0
    clear k6 B6
    by_cases g0 : k2 = train
    case neg =>
     have t0 : (k2 != train) = true := by simpa using g0
     have HF : Hid (nextK t train out p (k1, k2, k3) = none) := Lib.hid (by rw [HNx.out, if_neg (by simp [g0])])
     clear g0
     go_wp2_with fail
     refine ⟨⟨k + 1, by omega, by go_num, Lib.hid ⟨HK6.out, take_next Hs.out HH.out.2 HF.out⟩⟩, ?_⟩
     simp [intOf]; try omega
    have t0 : (k2 != train) = false := by simpa using g0
    have HC := Lib.hid (HCo.out w6 (k1, k2, k3) HS6.out.oo.rd)
    dsimp only at HC
    rw [show decide (((k1, k2, k3) : Lk) ∈ out) = out.contains (k1, k2, k3) from by rw [List.contains_eq_mem]] at HC
    obtain ⟨cb, hcb⟩ : ∃ z, out.contains ((k1, k2, k3) : Lk) = z := ⟨_, rfl⟩
    rw [hcb] at HC HNx
    have HG0 := Lib.hid g0
    clear hcb g0
    go_wp2_with fail
    refine HC.out.mono ?_
    rintro en w7 ⟨rfl, hk7⟩
    have HB7 := Lib.hid (HB6.out.keep hk7 (fun h => h))
    have HR7 := Lib.hid (HR6.out.keep hk7 (fun h => h))
    have HS7 := Lib.hid (HS6.out.never hk7)
    have HK7 := Lib.hid (HK6.out.trans hk7)
    have HO7 := Lib.hid (HO6.out.keep hk7 (fun _ _ h => h))
    clear hk7 HC b0 b1 b2 xr xo t0
    cases cb with
    | true =>
     have HF : Hid (nextK t train out p (k1, k2, k3) = none) := Lib.hid (by rw [HNx.out, if_neg (by simp)])
     go_wp2_with fail
     refine ⟨⟨k + 1, by omega, by go_num, Lib.hid ⟨HK7.out, take_next Hs.out HH.out.2 HF.out⟩⟩, ?_⟩
     simp [intOf]; try omega
    | false =>
    have HC := Lib.hid (HM.out w7 (r1, rp, r3, r4) A5 n5 c5 HK7.out HRm.out HO7.out.rd)
    unfold rtA at HC
    dsimp only at HC
    obtain ⟨pb, hpb⟩ : ∃ z, p (r1, rp, r3, r4) = z := ⟨_, rfl⟩
    rw [hpb] at HC HNx
    clear hpb
    cases pb with
    | false =>
     have HF : Hid (nextK t train out p (k1, k2, k3) = none) := Lib.hid (by rw [HNx.out, if_neg (by simp)])
     have q0 : w7.cell? ⟨bq, 0, none⟩ = some (.int .i64 r1) := HR7.out.cell 0
     have q1 : w7.cell? ⟨bq, 1, none⟩ = some (.slice A5 n5 c5) := HR7.out.cell 1
     have q2 : w7.cell? ⟨bq, 2, none⟩ = some (.int .i64 r3) := HR7.out.cell 2
     have q3 : w7.cell? ⟨bq, 3, none⟩ = some (.int .i64 r4) := HR7.out.cell 3
     go_wp2_with (go_at_fn g; refine HC.out.mono ?_; rintro e w8 ⟨rfl, hk8⟩; have HB8 := Lib.hid (HB7.out.keep hk8 (fun h => h)); have HR8 := Lib.hid (HR7.out.keep hk8 (fun h => h)); have HS8 := Lib.hid (HS7.out.never hk8); have HK8 := Lib.hid (HK7.out.trans hk8); have HO8 := Lib.hid (HO7.out.keep hk8 (fun _ _ h => h)); clear hk8 q0 q1 q2 q3)
     clear HC
     go_wp2_with fail
     refine ⟨⟨k + 1, by omega, by go_num, Lib.hid ⟨HK8.out, take_next Hs.out HH.out.2 HF.out⟩⟩, ?_⟩
     simp [intOf]; try omega
    | true =>
     have HF : Hid (nextK t train out p (k1, k2, k3) = some ((k1, k2, k3), (r1, rp, r3, r4))) := Lib.hid (by rw [HNx.out, if_pos (by simp [HG0.out])])
     have HFF : Hid (l.findSome? (nextK t train out p) = some ((k1, k2, k3), (r1, rp, r3, r4))) := Lib.hid (find_at17 HH.out.2 Hs.out HF.out)
     have q0 : w7.cell? ⟨bq, 0, none⟩ = some (.int .i64 r1) := HR7.out.cell 0
     have q1 : w7.cell? ⟨bq, 1, none⟩ = some (.slice A5 n5 c5) := HR7.out.cell 1
     have q2 : w7.cell? ⟨bq, 2, none⟩ = some (.int .i64 r3) := HR7.out.cell 2
     have q3 : w7.cell? ⟨bq, 3, none⟩ = some (.int .i64 r4) := HR7.out.cell 3
     go_upto_region 6 with (go_at_fn g; refine HC.out.mono ?_; rintro e w8 ⟨rfl, hk8⟩; have HB8 := Lib.hid (HB7.out.keep hk8 (fun h => h)); have HR8 := Lib.hid (HR7.out.keep hk8 (fun h => h)); have HS8 := Lib.hid (HS7.out.never hk8); have HK8 := Lib.hid (HK7.out.trans hk8); have HO8 := Lib.hid (HO7.out.keep hk8 (fun _ _ h => h)); clear hk8 q0 q1 q2 q3)
     clear HC
     have xo : w8.cell? ⟨bo, 0, none⟩ = some (.slice Ao no co) := HS8.out.fo.cell 0
     have b0 : w8.cell? ⟨bk, 0, none⟩ = some (.int .i64 k1) := HB8.out.cell 0
     have b1 : w8.cell? ⟨bk, 1, none⟩ = some (.int .i64 k2) := HB8.out.cell 1
     have b2 : w8.cell? ⟨bk, 2, none⟩ = some (.int .i64 k3) := HB8.out.cell 2
     have hz8 : w0.heap.size ≤ w8.heap.size := HS8.out.kp.size
     go_upto_region 7 with (at_builtin; refine wpList_app _ rfl (.tmp 44) (.tmp 46) _ rfl elemLk w0.heap.size (A := Ao) (n := no) (c := co) (by go_simp) (HS8.out.oo.alloc _) _ (A' := some ⟨_, 0, none⟩) (m := 1) (c' := 1) (news := [.int .i64 k1, .int .i64 k2, .int .i64 k3]) (by go_simp) (Rd.of_blk (n := 1) (cs := [.int .i64 k1, .int .i64 k2, .int .i64 k3]) (Blk.new _ _ _) rfl) (by simp [Value.oneCell']) (by omega) (by unfold maxLen; omega) (by simp; omega) ?_; intro A9 c9 w9 hown hk9 hrow9; have HO9 := Lib.hid hown; have HK9 := Lib.hid (((Keep.refl (InRow Ao) w8).alloc _).trans hk9); have HF9 := Lib.hid (HS8.out.fo.keep HK9.out (fun hi => HS8.out.oo.ne_blk HS8.out.fo (by decide) _ hi rfl)); have xo9 : w9.cell? ⟨bo, 0, none⟩ = some (.slice Ao no co) := HF9.out.cell 0; have xf9 := HF9.out.frozen 0; clear hown hk9 hrow9 xo b0 b1 b2)
     obtain ⟨w10, hw10⟩ : ∃ V : World, w9.setCell ⟨bo, 0, none⟩ (.slice A9 (no + 1) c9) = V := ⟨_, rfl⟩
     rw [hw10]
     have HS10 := Lib.hid (HS8.out.out_ (k := (k1, k2, k3)) HO9.out HK9.out)
     rw [hw10] at HS10
     have kb : Keep (fun q => q = bo) w9 w10 := by rw [← hw10]; exact (Keep.refl (fun q => q = bo) w9).set_ (p := ⟨bo, 0, none⟩) (.inl rfl) _
     have HO9b := Lib.hid (HO8.out.keep HK9.out (fun q h1 h2 => HO8.out.ne_own HS8.out.oo (by decide) q h1 h2))
     have HO10 := Lib.hid (HO9b.out.keep kb (fun q h1 h2 => HO9b.out.ne_blk HF9.out (by decide) q h1 h2))
     have HR9 := Lib.hid (HR8.out.keep HK9.out (fun hi => HS8.out.oo.ne_blk HR8.out (by decide) _ hi rfl))
     have HR10 := Lib.hid (HR9.out.keep kb (HR9.out.ne_ HF9.out (by decide)))
     have xg : w10.cell? ⟨bg, 0, none⟩ = some (.slice Ag ng cg) := HS10.out.fg.cell 0
     have q1 : w10.cell? ⟨bq, 1, none⟩ = some (.slice A5 n5 c5) := HR10.out.cell 1
     have hz10 : w0.heap.size ≤ w10.heap.size := HS10.out.kp.size
     have HRp := Lib.hid HO10.out.rd
     clear hw10 kb xo9 xf9 hz8
     go_wp2_with (at_builtin; refine wpList_app _ rfl (.tmp 48) (.tmp 50) _ rfl elemStp w0.heap.size (A := Ag) (n := ng) (c := cg) (by go_simp) HS10.out.og _ (A' := A5) (m := n5) (c' := c5) (by go_simp) HRp.out (stpCells_one _) (by omega) (by unfold maxLen; omega) hz10 ?_; intro A11 c11 w11 hown hk11 hrow11; have HO11 := Lib.hid hown; have HK11 := Lib.hid hk11; have HG11 := Lib.hid (HS10.out.fg.keep hk11 (fun hi => HS10.out.og.ne_blk HS10.out.fg (by decide) _ hi rfl)); have xg11 : w11.cell? ⟨bg, 0, none⟩ = some (.slice Ag ng cg) := HG11.out.cell 0; have xf11 := HG11.out.frozen 0; clear hown hk11 hrow11 xg q1)
     go_ret
     refine ⟨by rw [HFF.out]; rfl, ?_⟩
     rw [HFF.out]
     refine ⟨A9, no + 1, c9, A11, ng + n5, c11, by rw [HNo.out]; simp, by rw [HNg.out, HN5.out]; simp, ?_⟩
     exact HS10.out.gone_ HO11.out HK11.out
  ·obtain rfl : k = nl := by omega
   have hkz : ¬ (k : Int) < (k : Int) := by omega
   have HF : Hid (l.findSome? (nextK t train out p) = none) := Lib.hid (find_no17 (fun s hs => HH.out.2 s (by rw [List.take_of_length_le (by rw [HLn.out]; exact Nat.le_refl _)]; exact hs)))
   go_wp2_with fail
   go_ret
   refine ⟨by rw [HF.out]; rfl, ?_⟩
   rw [HF.out]
   exact ⟨Ao, no, co, Ag, ng, cg, HNo.out, HNg.out, HS0.out.never HH.out.1⟩
end Go.Proofs.YtpapiojicbbheaaGreatDoor

namespace Go.Proofs.YtpapiojicbbheaaGreatDoor
open Go.RowKit
theorem chain_path {t : Tp} (hc : checkM t = 0) {r : Rt} (hr : r ∈ t.2.2.2) : r.2.1 ≠ [] ∧ r.2.1.length ≤ 8 := by
 obtain ⟨i, hi⟩ := List.mem_iff_getElem?.1 hr
 have hg := check_good hc hi
 exact ⟨(good_of hc hg.err).2.1, hg.few⟩
theorem nextK_mem {t : Tp} {train : Int} {out : List Lk} {may : Rt → Bool} {l : List Lk} {z : Lk × Rt} (h : l.findSome? (nextK t train out may) = some z) : z.2 ∈ t.2.2.2 := by
 obtain ⟨k, _, hz⟩ := List.exists_of_findSome?_eq_some h
 exact List.mem_of_find?_eq_some (nextK_some hz).2.1
structure ChR (t : Tp) (l : List Lk) (train : Int) (res : List Lk) (k : Nat) (ok : Bool) (out : List Lk) (gone : List Stp) : Prop where
 go : ok = true → out ≠ [] ∧ gone ≠ [] ∧ out.length + k = 8 ∧ (chainK t l train k out gone).1 = res
 stop : ok = false → out = res
 few : out.length ≤ 8
 len : gone.length ≤ 8 * out.length
theorem ChR.start {t : Tp} {l : List Lk} {train : Int} {s : Stp} (hc : checkM t = 0) : ChR t l train (chainM t l train s) 7 (l.findSome? (nextK t train [] (hasB s))).isSome (match l.findSome? (nextK t train [] (hasB s)) with | none => [] | some z => [z.1]) (match l.findSome? (nextK t train [] (hasB s)) with | none => [] | some z => z.2.2.1) := by
 unfold chainM
 rw [if_pos hc]
 cases h : l.findSome? (nextK t train [] (hasB s)) with
 | none => exact ⟨fun h => by simp at h, fun _ => rfl, by simp, by simp⟩
 | some z =>
  obtain ⟨h1, h2⟩ := chain_path hc (nextK_mem h)
  exact ⟨fun _ => ⟨by simp, h1, rfl, rfl⟩, fun h => by simp at h, by simp, by simpa using h2⟩
theorem ChR.next {t : Tp} {l : List Lk} {train : Int} {res : List Lk} {k : Nat} {out : List Lk} {gone : List Stp} (hc : checkM t = 0) (h : ChR t l train res (k + 1) true out gone) :
  ChR t l train res k (l.findSome? (nextK t train out (followsB t gone))).isSome (match l.findSome? (nextK t train out (followsB t gone)) with | none => out | some z => out ++ [z.1]) (match l.findSome? (nextK t train out (followsB t gone)) with | none => gone | some z => gone ++ z.2.2.1) := by
 obtain ⟨g1, g2, g3, g4⟩ := h.go rfl
 unfold chainK at g4
 have hl := h.len
 cases hz : l.findSome? (nextK t train out (followsB t gone)) with
 | none =>
  rw [hz] at g4
  exact ⟨fun h => by simp at h, fun _ => g4, h.few, h.len⟩
 | some z =>
  rw [hz] at g4
  obtain ⟨h1, h2⟩ := chain_path hc (nextK_mem hz)
  exact ⟨fun _ => ⟨by simp, by simp [g2], by simp; omega, g4⟩, fun h => by simp at h, by simp; omega, by simp; omega⟩
theorem ChR.fin {t : Tp} {l : List Lk} {train : Int} {res : List Lk} {k : Nat} {out : List Lk} {gone : List Stp} (h : ChR t l train res k true out gone) (h8 : ¬ out.length < 8) : out = res := by
 obtain ⟨g1, g2, g3, g4⟩ := h.go rfl
 obtain rfl : k = 0 := by omega
 exact g4
set_option maxHeartbeats 8000000 in
set_option maxRecDepth 100000 in
theorem chain_any (x : TA) (t : Tp) (B : Nat) (Al : Option Addr) (nl cl : Nat) (l : List Lk) (train : Int) (s : Stp) (w : World) (h : TpAt w B x t) (hs : TpSmall x t) (hB : B ≤ w.heap.size) (hl : SpAt w B Al nl cl l) (hnl : nl ≤ 1000000) :
  Calls Tryz.prog 12 #[.agg x.cs, .slice Al nl cl, .int .i64 train, .agg #[.int .i64 s.1, .bool s.2]] w (LksRet (chainM t l train s) w) := by
 have HCh := Lib.hid (fun (W : World) (hk : Keep Never w W) => check_any x t B W (h.keep hk) hs (Nat.le_trans hB hk.size))
 have HN1 := Lib.hid (fun (g : Nat) (lb : Array Value) (p : Rt → Bool) (eg : ∀ args w, (callFunc g args).run Tryz.prog w = .ok (.enter g args) w) (W : World) (bt bl br bo bg : Nat) (out : List Lk) (gone : List Stp) (hk : Keep Never w W) (h8 : out.length ≤ 100) (hg9 : gone.length ≤ 10000) (hX : ChX w W x bt bl br bo bg Al nl cl train out gone) (hm : PredRo g lb t p W) => ch1_any g lb p eg x t B Al nl cl l train w W bt bl br bo bg out gone (h.keep hk) hs (Nat.le_trans hB hk.size) hl hnl h8 hg9 hX hm)
 have HP2 : Hid (∀ (W : World) (bt bl br bo bg : Nat) (out : List Lk) (gone : List Stp), Keep Never w W → ChX w W x bt bl br bo bg Al nl cl train out gone → gone ≠ [] → gone.length ≤ 10000 → checkM t = 0 → PredRo 42 #[.pointer (some ⟨bt, 0, none⟩), .pointer (some ⟨bg, 0, none⟩)] t (followsB t gone) W) := Lib.hid (fun W bt bl br bo bg out gone hk hX hg0 hg9 hc V r A n c hV hr hp => by
  obtain ⟨Ao, no, co, Ag, ng, cg, _, hng, hS⟩ := hX
  have hS2 := hS.never hV
  have hpl := hs.p r hr
  obtain ⟨c1, c2⟩ := chain_path hc hr
  exact ch2_any r A n c V.heap.size x t B V.heap.size gone Ag ng cg bt bg V hp c1 (by have := hp.stp_len; omega) (h.keep (hk.trans hV)) hs (hS2.og.rd) hg0 (by omega) hS2.ft hS2.fg)
 have HSp := Lib.hid hs.p
 have eg1 := enters_of Tryz.func40 (by kernel_rfl) rfl
 have eg3 := enters_of Tryz.func47 (by kernel_rfl) rfl
 have HE2 := Lib.hid (enters_of Tryz.func42 (by kernel_rfl) rfl)
 have HE3 := Lib.hid eg3
 clear eg3
 obtain ⟨s1, s2⟩ := s
 obtain ⟨X, hX⟩ : ∃ X, x = X := ⟨_, rfl⟩
 obtain ⟨Ae, ne, ce, Aj, nj, cj, Ab, nb, cb, Ar, nr, cr⟩ := x
 simp only [TA.cs] at HCh ⊢
 rw [hX] at HN1 HP2
 have HX := Lib.hid hX
 clear h hs hl hX
 obtain ⟨w1, hw1⟩ : ∃ V : World, w.alloc (.cells #[.slice Ae ne ce, .slice Aj nj cj, .slice Ab nb cb, .slice Ar nr cr] 27) = V := ⟨_, rfl⟩
 have zw1 : w1.heap.size = w.heap.size + 1 := by rw [← hw1]; simp
 have kw1 : Keep Never w w1 := by rw [← hw1]; exact (Keep.refl _ _).alloc _
 have bw1 := Blk.new w 27 #[.slice Ae ne ce, .slice Aj nj cj, .slice Ab nb cb, .slice Ar nr cr]
 rw [hw1] at bw1
 obtain ⟨w2, hw2⟩ : ∃ V : World, w1.alloc (.cells #[.slice Al nl cl] 28) = V := ⟨_, rfl⟩
 have zw2 : w2.heap.size = w.heap.size + 1 + 1 := by rw [← hw2]; simp [zw1]
 have kw2 : Keep Never w1 w2 := by rw [← hw2]; exact (Keep.refl _ _).alloc _
 have bw2 := Blk.new w1 28 #[.slice Al nl cl]
 rw [hw2, zw1] at bw2
 obtain ⟨w3, hw3⟩ : ∃ V : World, w2.alloc (.cells #[.int .i64 train] 3) = V := ⟨_, rfl⟩
 have zw3 : w3.heap.size = w.heap.size + 1 + 1 + 1 := by rw [← hw3]; simp [zw2]
 have kw3 : Keep Never w2 w3 := by rw [← hw3]; exact (Keep.refl _ _).alloc _
 have bw3 := Blk.new w2 3 #[.int .i64 train]
 rw [hw3, zw2] at bw3
 obtain ⟨w4, hw4⟩ : ∃ V : World, w3.alloc (.cells #[.int .i64 s1, .bool s2] 30) = V := ⟨_, rfl⟩
 have kw4 : Keep Never w3 w4 := by rw [← hw4]; exact (Keep.refl _ _).alloc _
 have bw4 := Blk.new w3 30 #[.int .i64 s1, .bool s2]
 rw [hw4, zw3] at bw4
 have HB1 := Lib.hid (((bw1.keep kw2 (fun h => h)).keep kw3 (fun h => h)).keep kw4 (fun h => h))
 have HB2 := Lib.hid ((bw2.keep kw3 (fun h => h)).keep kw4 (fun h => h))
 have HB3 := Lib.hid (bw3.keep kw4 (fun h => h))
 have HB4 := Lib.hid bw4
 have HK := Lib.hid (((kw1.trans kw2).trans kw3).trans kw4)
 clear kw1 kw2 kw3 kw4 bw1 bw2 bw3 bw4
 obtain ⟨ck, hck⟩ : ∃ z, checkM t = z := ⟨_, rfl⟩
 have HC := Lib.hid (HCh.out w4 HK.out)
 rw [hck] at HC
 have HCk := Lib.hid hck
 clear hck HCh
 have y0 : w4.cell? ⟨w.heap.size, 0, none⟩ = some (.slice Ae ne ce) := HB1.out.cell 0
 have y1 : w4.cell? ⟨w.heap.size, 1, none⟩ = some (.slice Aj nj cj) := HB1.out.cell 1
 have y2 : w4.cell? ⟨w.heap.size, 2, none⟩ = some (.slice Ab nb cb) := HB1.out.cell 2
 have y3 : w4.cell? ⟨w.heap.size, 3, none⟩ = some (.slice Ar nr cr) := HB1.out.cell 3
 go_enter Tryz.func12, Tryz.ntmps12
 go_wp2_with fail
 refine HC.out.mono ?_
 rintro en w5 ⟨rfl, hk5⟩
 have HK5 := Lib.hid (HK.out.trans hk5)
 have HT5 := Lib.hid (HB1.out.keep hk5 (fun h => h))
 have HL5 := Lib.hid (HB2.out.keep hk5 (fun h => h))
 have HR5 := Lib.hid (HB3.out.keep hk5 (fun h => h))
 have HS5 := Lib.hid (HB4.out.keep hk5 (fun h => h))
 clear hk5 HC y0 y1 y2 y3 HB1 HB2 HB3 HB4 hw1 hw2 hw3 hw4 zw1 zw2 zw3
 by_cases g0 : ck = 0
 case neg =>
  have t0 : (ck != 0) = true := by simpa using g0
  have HF : Hid (chainM t l train (s1, s2) = []) := Lib.hid (by unfold chainM; rw [if_neg (by rw [HCk.out]; exact g0)])
  clear g0
  go_wp2_with fail
  go_ret
  exact ⟨none, 0, 0, rfl, Lib.hid (by rw [HF.out]; rfl), by rw [HF.out]; exact Own.nil _ _ _ _, HK5.out⟩
 have t0 : (ck != 0) = false := by simpa using g0
 have HC0 : Hid (checkM t = 0) := Lib.hid (HCk.out.trans g0)
 clear g0 HCk
 obtain ⟨w6, hw6⟩ : ∃ V : World, w5.alloc (.cells #[.slice none 0 0] 28) = V := ⟨_, rfl⟩
 have k6 : Keep Never w5 w6 := by rw [← hw6]; exact (Keep.refl _ _).alloc _
 have B6 := Blk.new w5 28 #[.slice none 0 0]
 rw [hw6] at B6
 obtain ⟨bo, hbo⟩ : ∃ q, w5.heap.size = q := ⟨_, rfl⟩
 rw [hbo] at B6
 have HK6 := Lib.hid (HK5.out.trans k6)
 have HL6 := Lib.hid (HL5.out.keep k6 (fun h => h))
 have HT6 := Lib.hid (HT5.out.keep k6 (fun h => h))
 have HR6 := Lib.hid (HR5.out.keep k6 (fun h => h))
 have HS6 := Lib.hid (HS5.out.keep k6 (fun h => h))
 have HO6 := Lib.hid B6
 clear k6 B6
 obtain ⟨w7, hw7⟩ : ∃ V : World, w6.alloc (.cells #[.slice none 0 0] 35) = V := ⟨_, rfl⟩
 have k7 : Keep Never w6 w7 := by rw [← hw7]; exact (Keep.refl _ _).alloc _
 have B7 := Blk.new w6 35 #[.slice none 0 0]
 rw [hw7] at B7
 obtain ⟨bg, hbg⟩ : ∃ q, w6.heap.size = q := ⟨_, rfl⟩
 rw [hbg] at B7
 have HK7 := Lib.hid (HK6.out.trans k7)
 have HS7 := Lib.hid (HS6.out.keep k7 (fun h => h))
 have HX7 : Hid (ChX w w7 X w.heap.size (w.heap.size + 1) (w.heap.size + 1 + 1) bo bg Al nl cl train [] []) := Lib.hid ⟨none, 0, 0, none, 0, 0, rfl, rfl, ⟨HK7.out, by rw [← HX.out]; exact HT6.out.keep k7 (fun h => h), HL6.out.keep k7 (fun h => h), HR6.out.keep k7 (fun h => h), HO6.out.keep k7 (fun h => h), B7, by simpa [spCells_nil] using Own.nil _ _ _ _, by simpa [stpCells_nil] using Own.nil _ _ _ _, ⟨by have := HK5.out.size; omega, by have := HK6.out.size; omega⟩, by have := HL5.out.lt; omega⟩⟩
 clear k7 B7
 have HC := Lib.hid (HN1.out 47 #[.pointer (some ⟨w.heap.size + 1 + 1 + 1, 0, none⟩)] (hasB (s1, s2)) HE3.out w7 w.heap.size (w.heap.size + 1) (w.heap.size + 1 + 1) bo bg [] [] HK7.out (by simp) (by simp) HX7.out (fun V r A n c hV hr hp => ch3_any r A n c V.heap.size (s1, s2) _ V hp (by have h1 := HSp.out r hr; have h2 := hp.stp_len; omega) ((HS7.out.keep hV (fun h => h)).cell 0) ((HS7.out.keep hV (fun h => h)).cell 1)))
 have HI0 := Lib.hid (ChR.start (l := l) (train := train) (s := (s1, s2)) HC0.out)
 unfold NextRet at HC
 obtain ⟨o, ho⟩ : ∃ z, l.findSome? (nextK t train [] (hasB (s1, s2))) = z := ⟨_, rfl⟩
 rw [ho] at HC HI0
 clear ho
 obtain ⟨res, hres⟩ : ∃ z, chainM t l train (s1, s2) = z := ⟨_, rfl⟩
 rw [hres] at HI0
 have HRes := Lib.hid hres
 clear hres
 go_wp2_with fail
 refine HC.out.mono ?_
 rintro en w8 ⟨rfl, hx8⟩
 have HI8 : Hid (∃ out gone, ChR t l train res 7 o.isSome out gone ∧ ChX w w8 X w.heap.size (w.heap.size + 1) (w.heap.size + 1 + 1) bo bg Al nl cl train out gone) := Lib.hid (by
  cases o with
  | none => exact ⟨_, _, HI0.out, hx8⟩
  | some z => exact ⟨_, _, HI0.out, hx8⟩)
 clear hx8 HC HI0 hw6 hw7 hbo hbg
 obtain ⟨ok, hok⟩ : ∃ z, o.isSome = z := ⟨_, rfl⟩
 rw [hok] at HI8
 (try rw [hok])
 clear hok
 go_wp2_with fail
 go_loopg [13] 7 (fun k okv wr => ∃ (ok : Bool) (out : List Lk) (gone : List Stp), okv = .bool ok ∧ Hid (ChR t l train res k ok out gone ∧ ChX w wr X w.heap.size (w.heap.size + 1) (w.heap.size + 1 + 1) bo bg Al nl cl train out gone))
 case atStart =>
  obtain ⟨out, gone, h1, h2⟩ := HI8.out
  exact ⟨ok, out, gone, rfl, Lib.hid ⟨h1, h2⟩⟩
 case round =>
  obtain ⟨ok, out, gone, rfl, HH⟩ := hrel
  obtain ⟨Ao, no, co, Ag, ng, cg, hno, hng, hS⟩ := HH.out.2
  have HSr := Lib.hid hS
  have HNo := Lib.hid hno
  have xo : wr.cell? ⟨bo, 0, none⟩ = some (.slice Ao no co) := hS.fo.cell 0
  clear hS hno hng
  cases ok with
  | false =>
   have HF : Hid (out = res) := Lib.hid (HH.out.1.stop rfl)
   go_wp2_with fail
   go_ret
   exact ⟨Ao, no, co, rfl, Lib.hid (by rw [HRes.out, ← HF.out]; exact HNo.out), by rw [HRes.out, ← HF.out]; exact HSr.out.oo, HSr.out.kp⟩
  | true =>
   by_cases g8 : no < 8
   ·have t8 : decide ((no : Int) < 8) = true := by simp; omega
    have t8b : decide (no < 8) = true := by simpa using g8
    have HG : Hid (∃ k', gk = k' + 1) := Lib.hid (by have h1 := (HH.out.1.go rfl).2.2.1; have h2 := HNo.out; exact ⟨gk - 1, by omega⟩)
    obtain ⟨k', hk'⟩ := HG.out
    subst hk'
    have HI := Lib.hid (HH.out.1.next HC0.out)
    have hgn := (HH.out.1.go rfl).2.1
    have hfew := HH.out.1.few
    have hln := HH.out.1.len
    have HC := Lib.hid (HN1.out 42 #[.pointer (some ⟨w.heap.size, 0, none⟩), .pointer (some ⟨bg, 0, none⟩)] (followsB t gone) HE2.out wr w.heap.size (w.heap.size + 1) (w.heap.size + 1 + 1) bo bg out gone HSr.out.kp (by omega) (by omega) HH.out.2 (HP2.out wr w.heap.size (w.heap.size + 1) (w.heap.size + 1 + 1) bo bg out gone HSr.out.kp HH.out.2 hgn (by omega) HC0.out))
    unfold NextRet at HC
    obtain ⟨o, ho⟩ : ∃ z, l.findSome? (nextK t train out (followsB t gone)) = z := ⟨_, rfl⟩
    rw [ho] at HC HI
    clear ho hgn hfew hln HG g8
    go_wp2_with fail
    refine HC.out.mono ?_
    rintro en w9 ⟨rfl, hx9⟩
    have HI9 : Hid (∃ out gone, ChR t l train res k' o.isSome out gone ∧ ChX w w9 X w.heap.size (w.heap.size + 1) (w.heap.size + 1 + 1) bo bg Al nl cl train out gone) := Lib.hid (by
     cases o with
     | none => exact ⟨_, _, HI.out, hx9⟩
     | some z => exact ⟨_, _, HI.out, hx9⟩)
    obtain ⟨ok, hok⟩ : ∃ z, o.isSome = z := ⟨_, rfl⟩
    rw [hok] at HI9
    (try rw [hok])
    clear hok hx9 HC HI xo
    go_wp2_with fail
    go_roundg k'
    case measure => omega
    case rel =>
     obtain ⟨out', gone', h1, h2⟩ := HI9.out
     exact ⟨ok, out', gone', rfl, Lib.hid ⟨h1, h2⟩⟩
   ·have t8 : decide ((no : Int) < 8) = false := by simp; omega
    have t8b : decide (no < 8) = false := by simpa using g8
    have HF : Hid (out = res) := Lib.hid (HH.out.1.fin (by rw [← HNo.out]; exact g8))
    clear g8
    go_wp2_with fail
    go_ret
    exact ⟨Ao, no, co, rfl, Lib.hid (by rw [HRes.out, ← HF.out]; exact HNo.out), by rw [HRes.out, ← HF.out]; exact HSr.out.oo, HSr.out.kp⟩
end Go.Proofs.YtpapiojicbbheaaGreatDoor

namespace Go.Proofs.YtpapiojicbbheaaGreatDoor
open Go.RowKit
theorem sum_in {t : Tp} {path : List Stp} (hc : checkM t = 0) (hl : (lenM t path).2 = 0) {i : Nat} (hi : i ≤ path.length) : 0 ≤ sumM t.1 (path.take i) ∧ sumM t.1 (path.take i) ≤ 40000000 := by
 obtain ⟨hg, _, _⟩ := good_of hc hl
 rw [sum_plain hg i hi]
 have key : ∀ (l : List Stp), (∀ s ∈ l, s ∈ path) → 0 ≤ plainS t.1 l ∧ plainS t.1 l ≤ 1000000 * (l.length : Int) := by
  intro l
  induction l with
  | nil => intro _; exact ⟨Int.le_refl _, by simp [plainS]⟩
  | cons s l ih =>
   intro hs
   obtain ⟨a, b⟩ := ih (fun u hu => hs u (List.mem_cons_of_mem _ hu))
   obtain ⟨k, hk⟩ := List.getElem?_of_mem (hs s (by simp))
   obtain ⟨_, c, d⟩ := good_pos hg hk
   rw [plainS_cons, List.length_cons]
   constructor <;> omega
 obtain ⟨a, b⟩ := key (path.take i) (fun s hs => List.mem_of_mem_take hs)
 have h2 := hg.2.2
 have h3 : (path.take i).length ≤ path.length := by rw [List.length_take]; omega
 constructor <;> omega
end Go.Proofs.YtpapiojicbbheaaGreatDoor

namespace Go.Proofs.YtpapiojicbbheaaGreatDoor
open Go.RowKit
structure LocOk (t : Tp) (ref : Int) (rv : Bool) (n : Int) (b : Bl) : Prop where
 chk : checkM t = 0
 bal : balM t.2.2.1 ref = some b
 there : thereB t.1.length b.2.1 = true
 a0 : 0 ≤ b.2.2
 a1 : b.2.2 ≤ edgeM t b.2.1
 n0 : 0 ≤ n
 n1 : n ≤ 1099511627776
 go : (goM t 40 (b.2.1, rv) (n + alongP t (b.2.1, b.2.2, rv))).2 = 0
theorem loc_ok {t : Tp} {ref : Int} {rv : Bool} {n : Int} (h : (locP t ref rv n).2 = 0) : ∃ b, LocOk t ref rv n b := by
 unfold locP at h
 split at h
 ·rename_i hc
  cases hb : balM t.2.2.1 ref with
  | none => rw [hb] at h; exact absurd (show (4 : Int) = 0 from h) (by decide)
  | some b =>
   rw [hb] at h
   simp only at h
   obtain ⟨c1, c2, c3, c4, c5⟩ := check_bal hc (bal_mem hb).1
   unfold walkP at h
   split at h
   ·rename_i hw
    exact ⟨b, hc, hb, c3, c4, c5, hw.2.1, hw.2.2, h⟩
   ·exact absurd h (by decide)
 ·exact absurd h (by decide)
theorem build_far {t : Tp} {l : List Lk} {train ref : Int} {rv : Bool} {n : Int} {q : Ps} {er : Int} (h : locP t ref rv n = (q, er)) (h0 : er ≠ 0) : buildM t l train ref rv n = (noMa, er) := by
 unfold buildM; rw [h, if_pos h0]
theorem build_none {t : Tp} {l : List Lk} {train ref : Int} {rv : Bool} {n l1 l2 : Int} {l3 : Bool} {er : Int} {b : Bl} (h : locP t ref rv n = ((l1, l2, l3), er)) (hL : LocOk t ref rv n b) (hc : chainM t l train (l1, l3) = []) : buildM t l train ref rv n = (noMa, 4) := by
 have h0 : er = 0 := by
  have h1 : (locP t ref rv n).2 = 0 := by
   unfold locP; rw [if_pos hL.chk, hL.bal]; simp only; unfold walkP
   rw [if_pos ⟨right_iff.2 ⟨hL.chk, hL.there, hL.a0, hL.a1⟩, hL.n0, hL.n1⟩]; exact hL.go
  rw [h] at h1; exact h1
 subst h0
 unfold buildM; rw [h, if_neg (by simp), hL.bal]; simp only; rw [if_pos hc]
theorem build_go {t : Tp} {l : List Lk} {train ref : Int} {rv : Bool} {n l1 l2 : Int} {l3 : Bool} {er : Int} {b1 b2 b3 : Int} (h : locP t ref rv n = ((l1, l2, l3), er)) (hL : LocOk t ref rv n (b1, b2, b3)) (hc : chainM t l train (l1, l3) ≠ []) :
  buildM t l train ref rv n = endC ref rv n (wayC t (l1, l3) (goneM t 40 (b2, rv) (n + alongP t (b2, b3, rv))) (chainM t l train (l1, l3)) (chainM t l train (l1, l3)).length) (lessS (secC t (l1, l3) (goneM t 40 (b2, rv) (n + alongP t (b2, b3, rv))) (alongP t (b2, b3, rv)) (chainM t l train (l1, l3)) (chainM t l train (l1, l3)).length) (gapC t (chainM t l train (l1, l3)) (chainM t l train (l1, l3)).length)) (gapC t (chainM t l train (l1, l3)) (chainM t l train (l1, l3)).length) := by
 have h0 : er = 0 := by
  have h1 : (locP t ref rv n).2 = 0 := by
   unfold locP; rw [if_pos hL.chk, hL.bal]; simp only; unfold walkP
   rw [if_pos ⟨right_iff.2 ⟨hL.chk, hL.there, hL.a0, hL.a1⟩, hL.n0, hL.n1⟩]; exact hL.go
  rw [h] at h1; exact h1
 subst h0
 unfold buildM; rw [h, if_neg (by simp), hL.bal]; simp only; rw [if_neg hc]
structure ChG (t : Tp) (l : List Lk) (train : Int) (s : Stp) (c : List Lk) : Prop where
 few : c.length ≤ 8
 rt : ∀ i k, c[i]? = some k → ∃ r, rtM t.2.2.2 k.1 = some r ∧ r ∈ t.2.2.2 ∧ r.2.1 ≠ [] ∧ r.2.1.length ≤ 8 ∧ (∀ u ∈ r.2.1, thereB t.1.length u.1 = true) ∧ (i = 0 → s ∈ r.2.1) ∧ 0 ≤ r.2.2.1 ∧ r.2.2.1 ≤ 40000000
theorem stpCells_drop (l : List Stp) : ∀ k, stpCells (l.drop k) = (stpCells l).drop (k * 2) := by
 induction l with
 | nil => intro k; simp [stpCells_nil]
 | cons s l ih =>
  intro k
  cases k with
  | zero => simp
  | succ k => rw [List.drop_succ_cons, ih k, stpCells_cons, show (k + 1) * 2 = k * 2 + 1 + 1 by omega]; rfl
theorem route_gap {t : Tp} (hc : checkM t = 0) {r : Rt} (hr : r ∈ t.2.2.2) : 0 ≤ r.2.2.1 ∧ r.2.2.1 ≤ 40000000 ∧ ∀ u ∈ r.2.1, thereB t.1.length u.1 = true := by
 obtain ⟨i, hi⟩ := List.mem_iff_getElem?.1 hr
 have hg := check_good hc hi
 obtain ⟨g1, g2, g3⟩ := good_of hc hg.err
 have h0 : firstE (rErr t) t.2.2.2.length = 0 := by
  have h := hc
  unfold checkM at h
  split at h
  ·exact absurd h (by decide)
  split at h
  ·exact absurd h (by decide)
  split at h
  ·rename_i h3; exact absurd h h3
  split at h
  ·rename_i h3; exact absurd h h3
  exact h
 have h1 := firstE_all h0 i (List.getElem?_eq_some_iff.1 hi).1
 unfold rErr at h1
 rw [hi] at h1
 simp only at h1
 split at h1
 ·rename_i h2; exact absurd h1 h2
 rename_i h2
 have h3 : routedM t r = 0 := by simpa using h2
 unfold routedM at h3
 split at h3
 ·exact absurd h3 (by decide)
 split at h3
 ·exact absurd h3 (by decide)
 split at h3
 ·rename_i h4; exact absurd h3 h4
 split at h3
 ·exact absurd h3 (by decide)
 rename_i h5
 have h6 := sum_in hc hg.err (i := r.2.1.length) (Nat.le_refl _)
 rw [List.take_length, ← g3] at h6
 exact ⟨by omega, by omega, g1.2.1⟩
theorem chg_of {t : Tp} {l : List Lk} {train : Int} {s : Stp} : ChG t l train s (chainM t l train s) := by
 obtain ⟨gone, h, h8, hc⟩ := chain_good (t := t) (l := l) (train := train) (s := s)
 refine ⟨h8, fun i k hk => ?_⟩
 have hc0 := hc (by intro e; rw [e] at hk; simp at hk)
 obtain ⟨r, hr, _, _, _, h0, _⟩ := h.way i k hk
 have hm : r ∈ t.2.2.2 := List.mem_of_find?_eq_some hr
 obtain ⟨a1, a2⟩ := chain_path hc0 hm
 obtain ⟨b1, b2, b3⟩ := route_gap hc0 hm
 exact ⟨r, hr, hm, a1, a2, b3, fun hi => by have := h0 hi; unfold hasB at this; simpa using this, b1, b2⟩
theorem plain_bnd {t : Tp} (hc : checkM t = 0) : ∀ l : List Stp, (∀ u ∈ l, thereB t.1.length u.1 = true) → 0 ≤ plainS t.1 l ∧ plainS t.1 l ≤ l.length * 1000000
 | [], _ => by simp [plainS]
 | s :: l, h => by
  have h1 := there_edge hc (h s (by simp))
  have h2 := plain_bnd hc l (fun u hu => h u (by simp [hu]))
  rw [plainS_cons]
  have e3 : t.1.getD s.1.toNat 0 = edgeM t s.1 := rfl
  rw [e3]
  simp only [List.length_cons]
  omega
theorem plainS_app (es : List Int) (a b : List Stp) : plainS es (a ++ b) = plainS es a + plainS es b := by unfold plainS; simp
theorem plainS_next {t : Tp} {l : List Stp} {k : Nat} {s : Stp} (h : l[k]? = some s) : plainS t.1 (l.take (k + 1)) = plainS t.1 (l.take k) + edgeM t s.1 := by
 rw [List.take_add_one, h, plainS_app]
 simp [plainS]; rfl
theorem way_next {t : Tp} {s : Stp} {g : List Stp} {c : List Lk} {i : Nat} {k : Lk} (h : c[i]? = some k) : wayC t s g c (i + 1) = wayC t s g c i ++ partC t s i k := by
 conv => lhs; unfold wayC
 rw [h]
theorem sec_next {t : Tp} {s : Stp} {g : List Stp} {back : Int} {c : List Lk} {i : Nat} {k : Lk} (h : c[i]? = some k) : secC t s g back c (i + 1) = secC t s g back c i ++ [(plainS t.1 (wayC t s g c (i + 1)) - back, (routeOf t k).2.2.2)] := by
 conv => lhs; unfold secC
 rw [h]
theorem gap_next {t : Tp} {c : List Lk} {i : Nat} {k : Lk} (h : c[i]? = some k) : gapC t c (i + 1) = (routeOf t k).2.2.1 := by simp only [gapC, h]
theorem sec_len {t : Tp} {s : Stp} {g : List Stp} {back : Int} {c : List Lk} : ∀ i, i ≤ c.length → (secC t s g back c i).length = i
 | 0, _ => rfl
 | i + 1, h => by
  rw [sec_next (List.getElem?_eq_getElem (by omega : i < c.length)), List.length_append, sec_len i (by omega)]; rfl
theorem part_in {t : Tp} {s : Stp} {i : Nat} {k : Lk} {u : Stp} (h : u ∈ partC t s i k) : u ∈ (routeOf t k).2.1 := by
 unfold partC at h
 split at h
 ·exact List.mem_of_mem_drop h
 ·exact h
theorem part_len {t : Tp} {s : Stp} {i : Nat} {k : Lk} : (partC t s i k).length ≤ (routeOf t k).2.1.length := by
 unfold partC
 split
 ·rw [List.length_drop]; omega
 ·exact Nat.le_refl _
theorem ChG.at {t : Tp} {l : List Lk} {train : Int} {s : Stp} {c : List Lk} (h : ChG t l train s c) {i : Nat} {k : Lk} (hk : c[i]? = some k) : rtM t.2.2.2 k.1 = some (routeOf t k) := by
 obtain ⟨r, hr, _⟩ := h.rt i k hk
 unfold routeOf; rw [hr]; rfl
theorem way_good {t : Tp} {l : List Lk} {train : Int} {s : Stp} {g : List Stp} {c : List Lk} (h : ChG t l train s c) (h1 : g.length ≤ 41) (h2 : ∀ u ∈ g, thereB t.1.length u.1 = true) : ∀ i, i ≤ c.length → (wayC t s g c i).length ≤ 41 + 8 * i ∧ ∀ u ∈ wayC t s g c i, thereB t.1.length u.1 = true
 | 0, _ => ⟨by simpa [wayC] using h1, by simpa [wayC] using h2⟩
 | i + 1, hi => by
  have hk : c[i]? = some c[i] := List.getElem?_eq_getElem (by omega : i < c.length)
  obtain ⟨a, b⟩ := way_good h h1 h2 i (by omega)
  obtain ⟨r, hr, _, _, h8, hth, _⟩ := h.rt i _ hk
  have hro : routeOf t c[i] = r := by unfold routeOf; rw [hr]; rfl
  rw [way_next hk]
  have := part_len (t := t) (s := s) (i := i) (k := c[i])
  rw [hro] at this
  refine ⟨by rw [List.length_append]; omega, fun u hu => ?_⟩
  rcases List.mem_append.1 hu with hu | hu
  ·exact b u hu
  ·have := part_in hu
   rw [hro] at this
   exact hth u this
theorem sc_cell {w : World} {B n k : Nat} {ad : Addr} {l : List Sc} (h : Rd w B 2 (some ad) n (scCells l)) (hk : k < n) : ∃ s, l[k]? = some s ∧ w.cell? (ad.add (k * 2)) = some (.int .i64 s.1) ∧ w.cell? ⟨(ad.add (k * 2)).block, (ad.add (k * 2)).off + 1, none⟩ = some (.int .i64 s.2) := by
 obtain ⟨ad2, s, h1, _, h3, h4, h5⟩ := h.sc hk
 injection h1 with h1
 subst h1
 exact ⟨s, h3, h4, h5⟩
theorem sc_set0 {S : List Sc} {m : Nat} {sl : Sc} (h : S[m]? = some sl) (v : Int) : scCells (S.set m (v, sl.2)) = (scCells S).set (m * 2) (.int .i64 v) := by
 rw [scCells_set _ _ (List.getElem?_eq_some_iff.1 h).1]
 have h1 := (scCells_at S h).2
 apply List.ext_getElem?
 intro i
 by_cases hi : m * 2 + 1 = i
 ·subst hi
  rw [List.getElem?_set_self (by rw [List.length_set]; exact (List.getElem?_eq_some_iff.1 h1).1), List.getElem?_set_ne (by omega), h1]
 ·rw [List.getElem?_set_ne hi]
theorem scCells_drop (l : List Sc) : ∀ k, scCells (l.drop k) = (scCells l).drop (k * 2) := by
 induction l with
 | nil => intro k; simp [scCells_nil]
 | cons s l ih =>
  intro k
  cases k with
  | zero => simp
  | succ k => rw [List.drop_succ_cons, ih k, scCells_cons, show (k + 1) * 2 = k * 2 + 1 + 1 by omega]; rfl
theorem last_at {S : List Sc} {m : Nat} (h : S.length = m + 1) : S.getLast? = S[m]? := by rw [List.getLast?_eq_getElem?, h]; rfl
theorem less_set {S : List Sc} {m : Nat} {sl : Sc} (h : S[m]? = some sl) (hl : S.length = m + 1) (g : Int) : lessS S g = S.set m (sl.1 - g, sl.2) := by
 unfold lessS
 rw [last_at hl, h]
 simp only
 apply List.ext_getElem?
 intro i
 by_cases hi : i < m
 ·rw [List.getElem?_append_left (by rw [List.length_dropLast]; omega), List.getElem?_dropLast, if_pos (by rw [hl]; omega), List.getElem?_set_ne (by omega)]
 ·by_cases hm : m = i
  ·subst hm
   rw [List.getElem?_append_right (by rw [List.length_dropLast]; omega), List.length_dropLast, hl, List.getElem?_set_self (by omega)]
   simp
  ·rw [List.getElem?_eq_none (by rw [List.length_append, List.length_dropLast]; simp; omega), List.getElem?_eq_none (by rw [List.length_set]; omega)]
theorem end_set {S : List Sc} {m : Nat} (hl : S.length = m + 1) (s : Sc) : endS (S.set m s) = s.1 := by
 unfold endS
 rw [last_at (by rw [List.length_set]; exact hl), List.getElem?_set_self (by omega)]
 rfl
theorem end_init {S : List Sc} {m : Nat} {s : Sc} (hl : S.length = m + 1 + 1) (h : S[m]? = some s) : endS S.dropLast = s.1 := by
 unfold endS
 rw [last_at (m := m) (by rw [List.length_dropLast, hl]; rfl), List.getElem?_dropLast, if_pos (by rw [hl]; omega), h]
 rfl
theorem endC_long {ref : Int} {rv : Bool} {n : Int} {P : List Stp} {S : List Sc} {g : Int} (h : 24 < P.length ∨ twiceB P = true) : endC ref rv n P S g = (noMa, 2) := by unfold endC; rw [if_pos h]
theorem endC_end {ref : Int} {rv : Bool} {n : Int} {P : List Stp} {S : List Sc} {g : Int} (h1 : ¬ 24 < P.length) (h2 : twiceB P = false) (h : endS S ≤ n ∨ (1 < S.length ∧ endS S ≤ endS S.dropLast)) : endC ref rv n P S g = (noMa, 141) := by
 unfold endC; rw [if_neg (by rintro (e | e); exact h1 e; rw [h2] at e; cases e), if_pos h]
theorem endC_ok {ref : Int} {rv : Bool} {n : Int} {P : List Stp} {S : List Sc} {g : Int} {x : Sc} (h1 : ¬ 24 < P.length) (h2 : twiceB P = false) (h : ¬ (endS S ≤ n ∨ (1 < S.length ∧ endS S ≤ endS S.dropLast))) (hx : S[0]? = some x) : endC ref rv n P S g = ((ref, rv, P, if x.1 = 0 then S.drop 1 else S, g), 0) := by
 unfold endC; rw [if_neg (by rintro (e | e); exact h1 e; rw [h2] at e; cases e), if_neg h]
 cases S with
 | nil => cases hx
 | cons y S' =>
  simp only [List.getElem?_cons_zero, Option.some.injEq] at hx
  subst hx
  simp only [List.drop_succ_cons, List.drop_zero]
  split <;> rfl
end Go.Proofs.YtpapiojicbbheaaGreatDoor

namespace Go.Proofs.YtpapiojicbbheaaGreatDoor
open Go.RowKit
def ReadsI (T : Parts) (last : Int) (V W : List Int) : Prop := ∃ a b, walkL valI T last ⟨V, a⟩ = .ok ⟨W, b⟩
def GoesI (T : Parts) (last : Int) (V W : List Int) : Prop := ∀ a, ∃ b, walkL valI T last ⟨V, a⟩ = .ok ⟨W, b⟩
def ReadsN (T : Parts) : Nat → List Int → List Int → Prop
 | 0, V, W => V = W
 | k + 1, V, W => ∃ U, ReadsI T 0 V U ∧ ReadsN T k U W
def GoesN (T : Parts) : Nat → List Int → List Int → Prop
 | 0, V, W => V = W
 | k + 1, V, W => ∃ U, GoesI T 0 V U ∧ GoesN T k U W
theorem goesI_nil {last : Int} {V : List Int} : GoesI .nil last V V := fun a => ⟨a, rfl⟩
theorem goesI_var {v : Int} {l r : Parts} {last n : Int} {t W : List Int} (hv : v ≠ 7) (hm : vMay v n = true) (h : GoesI r n t W) : GoesI (.cons v 0 l r) last (n :: t) W := by
 intro a
 obtain ⟨b, h⟩ := h (a ++ [(v, n)])
 refine ⟨b, ?_⟩
 simp only [walkL, if_true, valI, if_neg hv, hm]
 exact h
theorem goesI_last {v : Int} {l r : Parts} {a b : Int} {V W : List Int} (h : GoesI (.cons v 0 l r) a V W) : GoesI (.cons v 0 l r) b V W := by
 intro s
 obtain ⟨x, h⟩ := h s
 refine ⟨x, ?_⟩
 simp only [walkL, if_true] at h ⊢
 exact h
theorem goesI_7 {l r : Parts} {last : Int} {V W : List Int} (h : GoesI r 0 V W) : GoesI (.cons 7 0 l r) last V W := by
 intro a
 obtain ⟨b, h⟩ := h (a ++ [(7, 0)])
 refine ⟨b, ?_⟩
 simp only [walkL, if_true, valI]
 exact h
theorem goesI_yes {v : Int} {l r : Parts} {V U W : List Int} (h : GoesI l 0 V U) (h2 : GoesI r 1 U W) : GoesI (.cons v 2 l r) 1 V W := by
 intro a
 obtain ⟨b, h⟩ := h a
 obtain ⟨c, h2⟩ := h2 b
 refine ⟨c, ?_⟩
 simp only [walkL, show ¬ (2 : Int) = 0 by decide, show ¬ (2 : Int) = 1 by decide, show ¬ (2 : Int) = 3 by decide, if_false, false_and, or_false, if_true]
 rw [h]
 exact h2
theorem goesI_no {v : Int} {l r : Parts} {last : Int} {V W : List Int} (hl : last ≠ 1) (h : GoesI r last V W) : GoesI (.cons v 2 l r) last V W := by
 intro a
 obtain ⟨b, h⟩ := h a
 refine ⟨b, ?_⟩
 simp only [walkL, show ¬ (2 : Int) = 0 by decide, show ¬ (2 : Int) = 1 by decide, show ¬ (2 : Int) = 3 by decide, if_false, false_and, or_false, if_neg hl]
 exact h
theorem goesI_iter {T : Parts} : ∀ (k : Nat) (V W : List Int), GoesN T k V W → ∀ a, ∃ b, iterE (walkL valI T 0) k ⟨V, a⟩ = .ok ⟨W, b⟩
 | 0, V, W, h, a => by cases h; exact ⟨a, rfl⟩
 | k + 1, V, W, h, a => by
  obtain ⟨U, h1, h2⟩ := h
  obtain ⟨b, h1⟩ := h1 a
  obtain ⟨c, h2⟩ := goesI_iter k U W h2 b
  refine ⟨c, ?_⟩
  unfold iterE
  rw [h1]
  exact h2
theorem goesI_many {v : Int} {l r : Parts} {last : Int} {V U W : List Int} (h : GoesN l last.toNat V U) (h2 : GoesI r last U W) : GoesI (.cons v 1 l r) last V W := by
 intro a
 obtain ⟨b, h⟩ := goesI_iter _ _ _ h a
 obtain ⟨c, h2⟩ := h2 b
 refine ⟨c, ?_⟩
 simp only [walkL, show ¬ (1 : Int) = 0 by decide, if_false, if_true]
 rw [h]
 exact h2
theorem pAuthority_eq : pAuthority = .cons 6 0 .nil (.cons 7 0 .nil (.cons 8 0 .nil (.cons 25 0 .nil (.cons 26 0 .nil (.cons 27 0 .nil (.cons 0 1 pSection (.cons 32 0 .nil (.cons 29 0 .nil (.cons 0 2 (row [30, 31]) (.cons 33 0 .nil (.cons 0 2 (row [34, 35])
  (.cons 36 0 .nil (.cons 0 2 (row [37, 38]) (.cons 39 0 .nil (.cons 0 2 (row [40, 41, 42, 43]) .nil))))))))))))))) := rfl
theorem pSection_eq : pSection = .cons 28 0 .nil (.cons 29 0 .nil (.cons 0 2 (row [30, 31]) .nil)) := rfl
theorem pLink_eq : pLink = .cons 44 0 .nil (.cons 12 0 .nil (.cons 0 2 (row [10]) (.cons 11 0 .nil (.cons 45 0 .nil (.cons 46 0 .nil (.cons 47 0 .nil .nil)))))) := rfl
theorem pFive_eq : andP [pHead, pRepeated pLink] = .cons 6 0 .nil (.cons 7 0 .nil (.cons 8 0 .nil (.cons 44 0 .nil (.cons 12 0 .nil (.cons 0 2 (row [10]) (.cons 11 0 .nil (.cons 45 0 .nil (.cons 46 0 .nil (.cons 47 0 .nil (.cons 27 0 .nil (.cons 0 1 pLink .nil))))))))))) := rfl
def badP (p : Pk) : Bool := match ItemsM p.1 p.2 with | .ok _ => false | .error _ => true
theorem goes_ok {id : Int} {T : Parts} {V : List Int} (hT : ptree id = some T) (h : GoesI T 0 V []) (hl : V.length ≤ 250) : badP (id, V) = false := by
 obtain ⟨b, hb⟩ := h [(5, id)]
 have hi : itemsM id V = .ok b := by
  unfold itemsM
  rw [hT]
  simp only
  rw [hb]
  simp
 have h1 := (itemsM_len hi).1
 have h2 := (sumW_items b).2
 have hI : ∃ l, ItemsM id V = .ok l := by
  unfold ItemsM
  rw [hi]
  simp only
  rw [if_neg (by omega)]
  exact ⟨_, rfl⟩
 obtain ⟨l, hI⟩ := hI
 unfold badP
 simp only [hI]
theorem may_lt {v n : Int} (m : Int) (h : vWidth v ≠ 0 ∧ m < ((2 ^ (vWidth v).toNat : Nat) : Int) ∧ m ≤ vMost v) (h0 : 0 ≤ n) (h1 : n ≤ m) : vMay v n = true := by
 unfold vMay
 rw [decide_eq_true_iff]
 exact ⟨h.1, h0, by omega, .inl (by omega)⟩
theorem secN_len {u : Int} : ∀ (l : List Sc) (last : Int) (v : List Int), secN u last l = some v → v.length = 4 * l.length
 | [], last, v, h => by
  unfold secN at h
  injection h with h
  subst h
  rfl
 | s :: l, last, v, h => by
  obtain ⟨e0, h1, w, hw, rfl⟩ := secN_cons h
  have := secN_len l _ w hw
  simp only [List.length_cons]
  omega
theorem secs_goes {u : Int} (R : List Int) : ∀ (l : List Sc) (last : Int) (v : List Int), secN u last l = some v → 0 ≤ last → l ≠ [] → (∀ s ∈ l, 1 ≤ s.2 ∧ s.2 ≤ 1000) → ∃ a b, GoesN pSection (l.length - 1) (v ++ R) (a :: 1 :: b :: 0 :: R) ∧ (0 ≤ a ∧ a ≤ 32766) ∧ (1 ≤ b ∧ b ≤ 1000)
 | [], _, _, _, _, h, _ => absurd rfl h
 | [s], last, v, h, h0, _, ht => by
  obtain ⟨e0, h1, w, hw, rfl⟩ := secN_cons h
  obtain ⟨a1, a2, a3, a4, a5⟩ := scaled_dn e0
  unfold secN at hw
  injection hw with hw
  subst hw
  exact ⟨_, _, rfl, ⟨by omega, by omega⟩, ht s (by simp)⟩
 | s :: s' :: l, last, v, h, h0, _, ht => by
  obtain ⟨e0, h1, w, hw, rfl⟩ := secN_cons h
  obtain ⟨a1, a2, a3, a4, a5⟩ := scaled_dn e0
  obtain ⟨a, b, g1, g2, g3⟩ := secs_goes R (s' :: l) _ w hw a4 (by simp) (fun x hx => ht x (by simp [hx]))
  have hts := ht s (by simp)
  refine ⟨a, b, ⟨w ++ R, ?_, g1⟩, g2, g3⟩
  rw [pSection_eq]
  refine goesI_var (by decide) (may_lt 32767 (by decide +kernel) (by omega) (by omega)) (goesI_var (by decide) (may_lt 1 (by decide +kernel) (by decide) (by decide)) (goesI_yes (U := w ++ R) ?_ goesI_nil))
  exact goesI_var (by decide) (may_lt 1023 (by decide +kernel) (by omega) (by omega)) (goesI_var (by decide) (may_lt 32767 (by decide +kernel) (by decide) (by decide)) goesI_nil)
theorem gapN_goes {u g : Int} (hg : (scaledM g u false).2 = 0) : GoesI (.cons 36 0 .nil (.cons 0 2 (row [37, 38]) (.cons 39 0 .nil (.cons 0 2 (row [40, 41, 42, 43]) .nil)))) 0 (gapN u g) [] := by
 obtain ⟨a1, a2, a3, a4, a5⟩ := scaled_dn hg
 unfold gapN
 split
 ·refine goesI_var (by decide) (may_lt 1 (by decide +kernel) (by decide) (by decide)) (goesI_yes (U := [0]) ?_ ?_)
  ·exact goesI_var (by decide) (may_lt 32767 (by decide +kernel) (by omega) (by omega)) (goesI_var (by decide) (may_lt 120 (by decide +kernel) (by decide) (by decide)) goesI_nil)
  ·exact goesI_var (by decide) (may_lt 1 (by decide +kernel) (by decide) (by decide)) (goesI_no (by decide) goesI_nil)
 ·exact goesI_var (by decide) (may_lt 1 (by decide +kernel) (by decide) (by decide)) (goesI_no (by decide) (goesI_var (by decide) (may_lt 1 (by decide +kernel) (by decide) (by decide)) (goesI_no (by decide) goesI_nil)))
theorem nom_range (r : Bool) : 0 ≤ nomI r ∧ nomI r ≤ 1 := by cases r <;> simp [nomI]
theorem bad15 {u : Int} {rev : Bool} {S : List Sc} {g : Int} (h1 : 1 ≤ S.length) (h8 : S.length ≤ 8) (ht : ∀ s ∈ S, 1 ≤ s.2 ∧ s.2 ≤ 1000) (hu0 : 0 ≤ u) (hu2 : u ≤ 2) {v : List Int} (hv : secN u 0 S = some v) (hg : (scaledM g u false).2 = 0) : badP (15, [nomI rev, u, 0, 0, (S.length : Int) - 1] ++ v ++ [0] ++ gapN u g) = false := by
 have hl := secN_len S 0 v hv
 have hn := nom_range rev
 refine goes_ok (T := pAuthority) rfl ?_ ?_
 ·rw [pAuthority_eq]
  obtain ⟨a, b, g1, g2, g3⟩ := secs_goes ([0] ++ gapN u g) S 0 v hv (Int.le_refl _) (fun e => by rw [e] at h1; simp at h1) ht
  simp only [List.cons_append, List.nil_append, List.append_assoc] at g1 ⊢
  refine goesI_var (by decide) (may_lt 2 (by decide +kernel) (by omega) (by omega)) (goesI_7 (goesI_var (by decide) (may_lt 2 (by decide +kernel) hu0 hu2) (goesI_var (by decide) (may_lt 0 (by decide +kernel) (by decide) (by decide)) (goesI_var (by decide) (may_lt 0 (by decide +kernel) (by decide) (by decide))
   (goesI_var (by decide) (may_lt 31 (by decide +kernel) (by omega) (by omega)) (goesI_many (U := a :: 1 :: b :: 0 :: 0 :: gapN u g) ?_ ?_))))))
  ·rw [show ((S.length : Int) - 1).toNat = S.length - 1 by omega]; exact g1
  ·refine goesI_var (by decide) (may_lt 32767 (by decide +kernel) (by omega) (by omega)) (goesI_var (by decide) (may_lt 1 (by decide +kernel) (by decide) (by decide)) (goesI_yes (U := 0 :: gapN u g) ?_ ?_))
   ·exact goesI_var (by decide) (may_lt 1023 (by decide +kernel) (by omega) (by omega)) (goesI_var (by decide) (may_lt 32767 (by decide +kernel) (by decide) (by decide)) goesI_nil)
   ·exact goesI_var (by decide) (may_lt 1 (by decide +kernel) (by decide) (by decide)) (goesI_no (by decide) (gapN_goes hg))
 ·have : (gapN u g).length ≤ 4 := by unfold gapN; split <;> simp
  simp only [List.length_append, List.length_cons, List.length_nil, hl]
  omega
theorem link_goes {x : Int} {b : Bl} {r : Bool} (hx0 : 0 ≤ x) (hx : x ≤ 32766) (hb0 : 0 ≤ b.1) (hb : b.1 ≤ 16777214) {T : Parts} {R W : List Int} (h : GoesI T 12 R W) :
  GoesI (.cons 44 0 .nil (.cons 12 0 .nil (.cons 0 2 (row [10]) (.cons 11 0 .nil (.cons 45 0 .nil (.cons 46 0 .nil (.cons 47 0 .nil T))))))) 0 ([x, 1, b.1 / 16384, b.1 % 16384, nomI r, 2, 12] ++ R) W := by
 have hn := nom_range r
 refine goesI_var (by decide) (may_lt 32767 (by decide +kernel) (by omega) (by omega)) (goesI_var (by decide) (may_lt 1 (by decide +kernel) (by decide) (by decide)) (goesI_yes (U := [b.1 % 16384, nomI r, 2, 12] ++ R) ?_ ?_))
 ·exact goesI_var (by decide) (may_lt 1023 (by decide +kernel) (by omega) (by omega)) goesI_nil
 ·exact goesI_var (by decide) (may_lt 16383 (by decide +kernel) (by omega) (by omega)) (goesI_var (by decide) (may_lt 1 (by decide +kernel) (by omega) (by omega)) (goesI_var (by decide) (may_lt 2 (by decide +kernel) (by decide) (by decide)) (goesI_var (by decide) (may_lt 63 (by decide +kernel) (by decide) (by decide)) h)))
theorem links_goes {t : Tp} (hc : checkM t = 0) {u : Int} {n : Nat} : ∀ (l : List Stp) (i : Nat) (begin_ at_ : Int) (w : List Int), 2 ≤ i → linkN t u n i begin_ at_ l = .ok w → ∃ w', w = (if i = 2 ∧ l ≠ [] then [(n : Int) - 2] else []) ++ w' ∧ GoesN pLink l.length w' [] ∧ w'.length = 7 * l.length
 | [], i, begin_, at_, w, hi, hw => by
  unfold linkN at hw
  injection hw with hw
  subst hw
  exact ⟨[], by simp, rfl, rfl⟩
 | s :: l, i, begin_, at_, w, hi, hw => by
  obtain ⟨b, v, hb, hz, hv, rfl⟩ := linkN_cons hw
  obtain ⟨v', e, hr, hl⟩ := links_goes hc l (i + 1) _ _ v (by omega) hv
  rw [if_neg (by omega)] at e
  simp only [List.nil_append] at e
  subst e
  obtain ⟨c1, c2, _⟩ := check_bal hc (firstB_some hb).1
  obtain ⟨a1, a2, a3, a4, a5⟩ := scaled_dn hz
  refine ⟨_, by rw [List.append_assoc]; congr 1; by_cases h2 : i = 2 <;> simp [h2], ⟨v, ?_, hr⟩, ?_⟩
  ·rw [pLink_eq]
   exact link_goes (by omega) (by omega) c1 c2 goesI_nil
  ·simp only [List.length_append, List.length_cons, List.length_nil, hl]
   omega
theorem bad5 {t : Tp} (hc : checkM t = 0) {u : Int} (hu0 : 0 ≤ u) (hu2 : u ≤ 2) {rev : Bool} {s0 s1 : Stp} {l : List Stp} {begin_ at_ : Int} {w : List Int} (h24 : (s0 :: s1 :: l).length ≤ 24) (hw : linkN t u (s0 :: s1 :: l).length 1 begin_ at_ (s1 :: l) = .ok w) :
  badP (5, [nomI rev, u] ++ w ++ (if l = [] then [0] else [])) = false := by
 obtain ⟨b, v, hb, hz, hv, rfl⟩ := linkN_cons hw
 obtain ⟨v', e, hr, hl⟩ := links_goes hc l 2 _ _ v (Nat.le_refl _) hv
 subst e
 obtain ⟨c1, c2, _⟩ := check_bal hc (firstB_some hb).1
 obtain ⟨a1, a2, a3, a4, a5⟩ := scaled_dn hz
 have hn := nom_range rev
 generalize (scaledM (begin_ + alongP t (b.2.1, b.2.2, s1.2) - at_) u false).1 = x at *
 have e0 : [nomI rev, u] ++ ((if 1 = 2 then [((s0 :: s1 :: l).length : Int) - 2] else []) ++ [x, 1, b.1 / 16384, b.1 % 16384, nomI s1.2, 2, 12] ++ ((if 2 = 2 ∧ l ≠ [] then [((s0 :: s1 :: l).length : Int) - 2] else []) ++ v')) ++ (if l = [] then [0] else []) =
   nomI rev :: u :: ([x, 1, b.1 / 16384, b.1 % 16384, nomI s1.2, 2, 12] ++ ((l.length : Int) :: v')) := by
  cases l with
  | nil =>
   have : v' = [] := List.length_eq_zero_iff.1 (by rw [hl]; rfl)
   subst this
   simp
  | cons s2 l => simp; omega
 rw [e0]
 refine goes_ok (T := andP [pHead, pRepeated pLink]) rfl ?_ ?_
 ·rw [pFive_eq]
  simp only [List.length_cons] at h24
  refine goesI_var (by decide) (may_lt 2 (by decide +kernel) (by omega) (by omega)) (goesI_7 (goesI_var (by decide) (may_lt 2 (by decide +kernel) hu0 hu2) ?_))
  have hrest : GoesI (.cons 27 0 .nil (.cons 0 1 pLink .nil)) 12 ((l.length : Int) :: v') [] := goesI_var (by decide) (may_lt 31 (by decide +kernel) (by omega) (by omega)) (goesI_many (U := []) (by rw [Int.toNat_natCast]; exact hr) goesI_nil)
  exact goesI_last (link_goes (x := x) (b := b) (r := s1.2) (by omega) (by omega) c1 c2 hrest)
 ·simp only [List.length_cons] at h24
  simp only [List.length_append, List.length_cons, List.length_nil, hl]
  omega
theorem packs_good {t : Tp} {m : Ma} {l : List Pk} (h : packsM17 t m = .ok l) : l.any badP = false := by
 obtain ⟨z, v, hz, hu0, hv, hl⟩ := packs_ok h
 have hbest := best_ok hu0
 have hg := scaled_less (e := m.2.2.2.2) hbest.1 hz.gap0 (by have := hz.sects.pos (j := m.2.2.2.1.length) (Nat.le_refl _); rw [List.take_length] at this; omega)
 have h15 := bad15 (rev := m.2.1) hz.some_ hz.eight hz.sects.time hu0 hbest.2 hv hg.1
 rcases hl with ⟨s0, e1, rfl⟩ | ⟨s0, s1, r, b, w, e1, hw, rfl⟩
 ·simp only [List.any_cons, List.any_nil, h15, Bool.or_false]
 ·have h24 := hz.few
  rw [e1] at hw h24
  have h5 := bad5 hz.chk hu0 hbest.2 (rev := m.2.1) h24 hw
  simp only [List.any_cons, List.any_nil, h15, h5, Bool.or_false]
end Go.Proofs.YtpapiojicbbheaaGreatDoor

namespace Go.Proofs.YtpapiojicbbheaaGreatDoor
open Go.RowKit
set_option maxHeartbeats 400000 in
theorem up_any (id : Int) (w : World) : Calls Tryz.prog 119 #[.int .i64 id] w fun e w' => e = .returned (.bool (upP id)) ∧ w = w' := by
 by_cases h0 : id = 0
 ·subst h0
  go_enter Tryz.func119, Tryz.ntmps119
  go_wp2
  go_ret
  exact ⟨rfl, rfl⟩
 ·have e0 : (id == 0) = false := by simpa using h0
  by_cases h1 : id = 1
  ·subst h1
   go_enter Tryz.func119, Tryz.ntmps119
   go_wp2
   go_ret
   exact ⟨rfl, rfl⟩
  ·have e1 : (id == 1) = false := by simpa using h1
   have hu : upP id = (id == 11) := by
    unfold upP
    rw [Bool.eq_iff_iff, decide_eq_true_iff, beq_iff_eq]
    omega
   have HU := Lib.hid hu
   clear hu h0 h1
   go_enter Tryz.func119, Tryz.ntmps119
   go_wp2
   go_ret
   exact ⟨by rw [HU.out]; rfl, rfl⟩
theorem bitCells_at : ∀ (l : List (Int × Int)) {i : Nat} {x : Int × Int}, l[i]? = some x → (bitCells l)[i * 2]? = some (.int .i64 x.1) ∧ (bitCells l)[i * 2 + 1]? = some (.int .i64 x.2) := by
 intro l
 induction l with
 | nil => intro i x h; simp at h
 | cons y l ih =>
  intro i x h
  have e : bitCells (y :: l) = .int .i64 y.1 :: .int .i64 y.2 :: bitCells l := rfl
  rw [e]
  cases i with
  | zero => simp only [List.getElem?_cons_zero, Option.some.injEq] at h; subst h; exact ⟨rfl, rfl⟩
  | succ i =>
   simp only [List.getElem?_cons_succ] at h
   rw [show (i + 1) * 2 = i * 2 + 1 + 1 by omega, List.getElem?_cons_succ, List.getElem?_cons_succ, List.getElem?_cons_succ, List.getElem?_cons_succ]
   exact ih h
theorem sumW_take {l : List (Int × Int)} {i : Nat} {x : Int × Int} (h : l[i]? = some x) : sumW (l.take (i + 1)) = sumW (l.take i) + x.2 := by
 obtain ⟨h2, h3⟩ := List.getElem?_eq_some_iff.1 h
 rw [List.take_succ_eq_append_getElem h2, h3, sumW_app]
 simp [sumW]
theorem sumW_take_range (tr : List (Int × Int)) (k : Nat) : 0 ≤ sumW ((itemsOf tr).take k) ∧ sumW ((itemsOf tr).take k) ≤ 32 * tr.length := by
 have := sumW_items (tr.take k)
 have e : (itemsOf tr).take k = itemsOf (tr.take k) := by simp [itemsOf, List.map_take]
 rw [e]
 have : (tr.take k).length ≤ tr.length := by simp; omega
 omega
theorem bitCells_set : ∀ (l : List (Int × Int)) {i : Nat} {a b : Int}, l[i]? = some (a, b) → ∀ m, bitCells (l.set i (m, b)) = (bitCells l).set (i * 2) (.int .i64 m) := by
 intro l
 induction l with
 | nil => intro i a b h; simp at h
 | cons y l ih =>
  intro i a b h m
  have e : ∀ (z : Int × Int) l, bitCells (z :: l) = .int .i64 z.1 :: .int .i64 z.2 :: bitCells l := fun _ _ => rfl
  cases i with
  | zero =>
   simp only [List.getElem?_cons_zero, Option.some.injEq] at h
   subst h
   rfl
  | succ i =>
   simp only [List.getElem?_cons_succ] at h
   rw [List.set_cons_succ, e, e, ih h m, show (i + 1) * 2 = i * 2 + 1 + 1 by omega, List.set_cons_succ, List.set_cons_succ]
def ItRet (w : World) (r : Except Int (List (Int × Int))) (e : Ending) (w' : World) : Prop :=
 ∃ (A : Option Addr) (n c : Nat) (x : Int), e = .returned (.tuple #[.slice A n c, .int .i64 x]) ∧ Keep Never w w' ∧
  ((∃ l, r = .ok l ∧ x = 0 ∧ n = l.length ∧ Own w' w.heap.size 162 2 A n c (bitCells l)) ∨ (r = .error x ∧ x ≠ 0 ∧ A = none ∧ n = 0 ∧ c = 0))
set_option maxHeartbeats 4000000 in
set_option maxRecDepth 100000 in
theorem Items_any (B : Nat) (id : Int) (V : List Int) (A : Option Addr) (n c : Nat) (w : World) (hV : Rd w B 1 A n (V.map (.int .i64))) (hn : V.length = n) (hc : n ≤ c) (hcm : c ≤ maxLen) (hb : ∀ x ∈ V, i64 x) (h3 : V.length ≤ 8200) (hW : Widths w) (hg : 0 < B) (hB : B ≤ w.heap.size) :
  Calls Tryz.prog 65 #[.agg (packCells id A n c)] w (ItRet w (ItemsM id V)) := by
 have hit : Hid (∀ W, Keep Never w W → Calls Tryz.prog 118 #[.agg (packCells id A n c)] W (IRet W (itemsM id V))) := fun W hk =>
  items_any B id V A n c W (hV.keep hk (fun _ h => h.elim)) hn hc hcm hb h3 (hW.keep hk (fun h => h)) hg (Nat.le_trans hB hk.size)
 have h3000 : V.length ≤ 8200 := h3
 unfold packCells at *
 clear hV hn hb h3 hW
 go_enter Tryz.func65, Tryz.ntmps65
 go_wp2_with fail
 refine (hit.out _ ((Keep.refl Never w).alloc _)).mono ?_
 rintro e w1 ⟨A1, n1, c1, x, rfl, hk1, hpo⟩
 have HK1 := Lib.hid hk1
 clear hk1
 rcases hpo with ⟨tr, hr, rfl, hn1, ho⟩ | ⟨hr, hx, _, _⟩
 ·have hlen := itemsM_len hr
  have hn1' : n1 ≤ 8300 := by omega
  have Hlen := Lib.hid hlen
  have Hr := Lib.hid hr
  have hb1 : w.heap.size ≤ (w.alloc (.cells #[.int .i64 id, .slice A n c] 105)).heap.size := by simp
  have HO := Lib.hid (ho.less hb1)
  have Hn1 := Lib.hid hn1
  have hp1 : Blk w1 w.heap.size 105 #[.int .i64 id, .slice A n c] := (Blk.new w 105 #[.int .i64 id, .slice A n c]).keep HK1.out (fun h => h)
  have Hp1 := Lib.hid hp1
  obtain ⟨g, cur, hA, hgb, hgblk, hc1, hc2, hc3, hc4⟩ : ∃ g cur, A1 = some ⟨g, 0, none⟩ ∧ w.heap.size ≤ g ∧ Blk w1 g 162 cur ∧ n1 ≤ c1 ∧ c1 ≤ maxLen ∧ cur.size = c1 * 2 ∧ cur.toList.take (n1 * 2) = bitCells (itemsOf tr) := by
   rcases HO.out.form with ⟨_, h0, _⟩ | h
   ·exfalso
    have h1 := hlen.2
    split at h1 <;> omega
   ·exact h
  subst hA
  have Hgb := Lib.hid hgb
  have Hgblk := Lib.hid hgblk
  have Hc4 := Lib.hid hc4
  have hc1' : n1 ≤ c1 := hc1
  have hc9 : c1 ≤ 9223372036854775807 := by unfold maxLen at hc2; omega
  clear hr ho hn1 hlen hb1 hp1 hgb hgblk hc2 hc4
  go_wp2_with fail
  go_loopw [6, 8, 20] (fun sz _ i wr => ∃ k : Nat, k ≤ n1 ∧ i = .int .i64 k ∧ sz = .int .i64 (sumW ((itemsOf tr).take k)) ∧ Hid (Keep Never w1 wr)) (fun _ _ i _ => n1 - (intOf i).toNat)
  case atStart => exact ⟨0, by omega, rfl, rfl, Keep.refl _ _⟩
  case round =>
   obtain ⟨k, hk, rfl, rfl, HKr⟩ := hrel
   have hs1 := sumW_take_range tr k
   have hs2 : sumW ((itemsOf tr).take k) ≤ 1000000 := by have := Hn1.out; omega
   by_cases h0 : k < n1
   ·have hx : (itemsOf tr)[k]? = some ((itemsOf tr)[k]'(by simp [itemsOf]; have := Hn1.out; omega)) := List.getElem?_eq_getElem _
    generalize (itemsOf tr)[k]'(by simp [itemsOf]; have := Hn1.out; omega) = y at hx
    obtain ⟨y1, y2⟩ := y
    have hy2 : 0 ≤ y2 ∧ y2 ≤ 32 := by
     simp only [itemsOf, List.getElem?_map] at hx
     cases ht : tr[k]? with
     | none => rw [ht] at hx; cases hx
     | some z =>
      rw [ht] at hx
      injection hx with hx
      injection hx with _ hx
      have := vWidth_range z.1
      omega
    obtain ⟨hat1, hat2⟩ := bitCells_at _ hx
    have hcells := (HO.out.rd.keep HKr.out (fun _ h => h.elim)).2 (by omega)
    obtain ⟨ad, hA, _, hcc⟩ := hcells
    injection hA with hA
    subst hA
    have d0 := hcc _ _ hat1
    have d1 := hcc _ _ hat2
    have e0 : ∀ j, (⟨g, 0, none⟩ : Addr).add j = ⟨g, j, none⟩ := fun j => by unfold Addr.add; split <;> simp_all
    rw [e0] at d0 d1
    have HS : Hid (sumW ((itemsOf tr).take (k + 1)) = sumW ((itemsOf tr).take k) + y2) := sumW_take hx
    obtain ⟨S, hS⟩ : ∃ S, sumW ((itemsOf tr).take k) = S := ⟨_, rfl⟩
    rw [hS] at hs1 hs2
    rw [hS]
    have HS0 := Lib.hid hS
    clear hx hat1 hat2 hcc e0 hS
    go_wp2_with fail
    go_roundw
    case rel => exact ⟨k + 1, by omega, by go_num, by rw [HS.out, HS0.out], HKr.out.alloc _⟩
    case measure => simp [intOf]; omega
   ·obtain rfl : k = n1 := by omega
    have htk : (itemsOf tr).take k = itemsOf tr := List.take_of_length_le (by simp [itemsOf]; have := Hn1.out; omega)
    obtain ⟨S, hS⟩ : ∃ S, sumW (itemsOf tr) = S := ⟨_, rfl⟩
    rw [htk, hS] at hs1 hs2
    rw [htk, hS]
    have HS := Lib.hid hS
    have HKw : Hid (Keep Never w wr) := (((Keep.refl Never w).alloc _).trans HK1.out).trans HKr.out
    clear htk hS
    by_cases h8 : 8184 < S
    ·have HF : Hid (ItemsM id V = .error 2) := by show _ = _; unfold ItemsM; rw [Hr.out]; simp only; rw [HS.out, if_pos h8]
     go_wp2_with fail
     go_ret2
     exact ⟨none, 0, 0, 2, rfl, HKw.out, .inr ⟨HF.out, by decide, rfl, rfl, rfl⟩⟩
    ·have HF : Hid (ItemsM id V = .ok ((itemsOf tr).set (atP id) (S, 13))) := by show _ = _; unfold ItemsM; rw [Hr.out]; simp only; rw [HS.out, if_neg h8]
     have hpr := Hp1.out.keep HKr.out (fun h => h)
     have q0 : wr.cell? ⟨w.heap.size, 0, none⟩ = some (.int .i64 id) := hpr.cell 0
     have hgr := Hgblk.out.keep HKr.out (fun h => h)
     have hlen := Hlen.out
     have hat := itemsM_at Hr.out
     have hj : atP id < k := by
      have h1 := (List.getElem?_eq_some_iff.1 hat).1
      have := Hn1.out
      omega
     have hcur : cur[atP id * 2]? = some (.int .i64 0) := by
      have h1 : (itemsOf tr)[atP id]? = some (0, 13) := by rw [itemsOf, List.getElem?_map, hat]; rfl
      have h2 := (bitCells_at _ h1).1
      rw [← Hc4.out, List.getElem?_take] at h2
      rw [if_pos (by omega)] at h2
      simpa using h2
     have q1 : wr.cell? ⟨g, atP id * 2, none⟩ = some (.int .i64 0) := by rw [hgr.cell]; exact hcur
     have q2 : wr.frozen? ⟨g, atP id * 2, none⟩ = false := hgr.frozen _
     have HOr : Hid (Own wr w.heap.size 162 2 (some ⟨g, 0, none⟩) k c1 (bitCells (itemsOf tr))) := HO.out.keep HKr.out (fun _ _ h => h)
     have hfin : Hid (∀ wf, wf = wr.setCell ⟨g, atP id * 2, none⟩ (.int .i64 S) → ItRet w (ItemsM id V) (.returned (.tuple #[.slice (some ⟨g, 0, none⟩) k c1, .int .i64 0])) wf) := by
      rintro wf rfl
      have ho := HOr.out.stored rfl (atP id * 2) (.int .i64 S)
      have e0 : (⟨g, 0, none⟩ : Addr).add (atP id * 2) = ⟨g, atP id * 2, none⟩ := by unfold Addr.add; split <;> simp_all
      rw [e0] at ho
      refine ⟨_, _, _, _, rfl, HKw.out.set_ (.inr Hgb.out) _, .inl ⟨_, HF.out, rfl, by simp [itemsOf]; exact Hn1.out, ?_⟩⟩
      have e1 : bitCells ((itemsOf tr).set (atP id) (S, 13)) = (bitCells (itemsOf tr)).set (atP id * 2) (.int .i64 S) := by
       have h1 : (itemsOf tr)[atP id]? = some (0, 13) := by rw [itemsOf, List.getElem?_map, hat]; rfl
       exact bitCells_set _ h1 S
      rw [e1]
      exact ho
     clear hpr hgr hlen hat hcur
     have hju : atP id = if upP id then 1 else 2 := rfl
     cases hu : upP id
     ·rw [hu] at hju
      simp only [Bool.false_eq_true, if_false] at hju
      rw [hju] at q1 q2 hfin hj
      have HU : Hid (∀ W, Calls Tryz.prog 119 #[.int .i64 id] W fun e w' => e = .returned (.bool false) ∧ W = w') := fun W => by have := up_any id W; rwa [hu] at this
      clear hju hu
      go_wp2_with (go_at_call 119; refine (HU.out _).mono ?_; rintro e w' ⟨rfl, rfl⟩)
      go_ret2
      exact hfin.out _ rfl
     ·rw [hu] at hju
      simp only [if_true] at hju
      rw [hju] at q1 q2 hfin hj
      have HU : Hid (∀ W, Calls Tryz.prog 119 #[.int .i64 id] W fun e w' => e = .returned (.bool true) ∧ W = w') := fun W => by have := up_any id W; rwa [hu] at this
      clear hju hu
      go_wp2_with (go_at_call 119; refine (HU.out _).mono ?_; rintro e w' ⟨rfl, rfl⟩)
      go_ret2
      exact hfin.out _ rfl
 ·have hx0 : (x == 0) = false := by simpa using hx
  have HF : Hid (ItemsM id V = .error x) := by show _ = _; unfold ItemsM; rw [hr]
  have Hx := Lib.hid hx
  clear hr hx
  go_wp2_with fail
  go_ret2
  exact ⟨none, 0, 0, x, rfl, ((Keep.refl Never w).alloc _).trans HK1.out, .inr ⟨HF.out, Hx.out, rfl, rfl, rfl⟩⟩
end Go.Proofs.YtpapiojicbbheaaGreatDoor

namespace Go.Proofs.YtpapiojicbbheaaGreatDoor
open Go.RowKit
structure PksAt (w : World) (B : Nat) (A : Option Addr) (n c : Nat) (l : List Pk) : Prop where
 len : l.length = n
 cap : n ≤ c
 one : ∀ i p, l[i]? = some p → ∃ ad A1 n1 c1, A = some ad ∧ ad.block < B ∧ ad.block < w.heap.size ∧ w.cell? (ad.add (i * 2)) = some (.int .i64 p.1) ∧ w.cell? ⟨(ad.add (i * 2)).block, (ad.add (i * 2)).off + 1, none⟩ = some (.slice A1 n1 c1) ∧ Rd w B 1 A1 n1 (p.2.map (.int .i64)) ∧ n1 ≤ c1 ∧ c1 ≤ maxLen ∧ (∀ x ∈ p.2, i64_ x) ∧ p.2.length ≤ 8200
theorem PksAt.keepS {S : Nat → Prop} {w w' : World} {B n c : Nat} {A : Option Addr} {l : List Pk} (h : PksAt w B A n c l) (hk : Keep S w w') (hS : ∀ k, S k → B ≤ k) : PksAt w' B A n c l := by
 refine ⟨h.len, h.cap, fun i p hp => ?_⟩
 obtain ⟨ad, A1, n1, c1, h1, h2, h2b, h3, h4, h5, h6, h7, h8, h9⟩ := h.one i p hp
 refine ⟨ad, A1, n1, c1, h1, h2, Nat.lt_of_lt_of_le h2b hk.size, ?_, ?_, h5.keep hk hS, h6, h7, h8, h9⟩
 ·exact (hk.cell (cell_lt h3) (fun e => by have := hS _ e; rw [block_add] at this; omega)).trans h3
 ·exact (hk.cell (cell_lt h4) (fun e => by have := hS _ e; simp only at this; rw [block_add] at this; omega)).trans h4
theorem PksAt.keep {w w' : World} {B n c : Nat} {A : Option Addr} {l : List Pk} (h : PksAt w B A n c l) (hk : Keep Never w w') : PksAt w' B A n c l := h.keepS hk (fun _ h => h.elim)
theorem PksAt.more {w : World} {B B2 n c : Nat} {A : Option Addr} {l : List Pk} (h : PksAt w B A n c l) (hB : B ≤ B2) : PksAt w B2 A n c l := by
 refine ⟨h.len, h.cap, fun i p hp => ?_⟩
 obtain ⟨ad, A1, n1, c1, h1, h2, h2b, h3, h4, h5, h6, h7, h8, h9⟩ := h.one i p hp
 exact ⟨ad, A1, n1, c1, h1, by omega, h2b, h3, h4, h5.more hB, h6, h7, h8, h9⟩
def PredPk (B g : Nat) (lb : Array Value) (p : Pk → Bool) (w : World) : Prop :=
 ∀ (W : World) (x : Pk) (A : Option Addr) (n c : Nat), Keep Never w W → Rd W B 1 A n (x.2.map (.int .i64)) → n ≤ c → c ≤ maxLen → (∀ y ∈ x.2, i64_ y) → x.2.length ≤ 8200 →
  Calls Tryz.prog g (#[.agg #[.int .i64 x.1, .slice A n c]] ++ lb) W fun e w' => e = .returned (.bool (p x)) ∧ Keep Never W w'
def IdxRetP (p : Pk → Bool) (l : List Pk) (w : World) (e : Ending) (w' : World) : Prop :=
 ((∃ (i : Nat) (s : Pk), e = .returned (.int .i64 i) ∧ l[i]? = some s ∧ p s = true ∧ ∀ x ∈ l.take i, p x = false) ∨ (e = .returned (.int .i64 (-1)) ∧ ∀ x ∈ l, p x = false)) ∧ Keep Never w w'
set_option maxHeartbeats 1000000 in
set_option maxRecDepth 100000 in
theorem indexfp_any (g : Nat) (lb : Array Value) (p : Pk → Bool) (eg : ∀ args w, (callFunc g args).run Tryz.prog w = .ok (.enter g args) w) (A : Option Addr) (n c B : Nat) (l : List Pk) (w : World) (hr : PksAt w B A n c l) (hp : PredPk B g lb p w) (hn : n ≤ 100000000000) :
  Calls Tryz.prog 68 #[.slice A n c, .func (.func g) #[] lb] w (IdxRetP p l w) := by
 have HL := Lib.hid hr.len
 have HR := Lib.hid hr
 have HP := Lib.hid hp
 clear hr hp
 go_enter Tryz.func68, Tryz.ntmps68
 go_wp2_with fail
 go_loopw [5, 8] (fun _ s8 wr => ∃ k : Nat, k ≤ n ∧ s8 = .int .i64 k ∧ Hid (Keep Never w wr ∧ ∀ x ∈ l.take k, p x = false)) (fun _ i _ => n - (intOf i).toNat)
 case atStart => exact ⟨0, by omega, rfl, Lib.hid ⟨Keep.refl _ _, by simp⟩⟩
 case round =>
  obtain ⟨k, hk, rfl, HH⟩ := hrel
  by_cases h0 : k < n
  ·have hki : (k : Int) < (n : Int) := by omega
   obtain ⟨s, hs⟩ : ∃ s, l[k]? = some s := ⟨_, List.getElem?_eq_getElem (by have := HL.out; omega)⟩
   obtain ⟨ad, A2, n2, d2, hA, _, _, c0, c1, q1, q2, q3, q4, q5⟩ := (HR.out.keep HH.out.1).one k s hs
   subst hA
   have hcall := HP.out wr s A2 n2 d2 HH.out.1 q1 q2 q3 q4 q5
   clear q1 q2 q3 q4 q5
   have Hs := Lib.hid hs
   have htk : Hid (l.take (k + 1) = l.take k ++ [s]) := Lib.hid (by
    obtain ⟨h2, h3⟩ := List.getElem?_eq_some_iff.1 hs
    rw [List.take_succ_eq_append_getElem h2, h3])
   clear hs
   obtain ⟨s1, s2⟩ := s
   simp only at c0 c1 hcall
   cases hps : p (s1, s2) with
   | true =>
    rw [hps] at hcall
    have Hps := Lib.hid hps
    clear hps
    go_wp2_with (go_at_fn g; refine hcall.mono ?_; rintro e w' ⟨rfl, hk'⟩)
    go_ret
    exact ⟨.inl ⟨k, _, rfl, Hs.out, Hps.out, HH.out.2⟩, HH.out.1.trans hk'⟩
   | false =>
    rw [hps] at hcall
    have Hps := Lib.hid hps
    clear hps
    go_wp2_with (go_at_fn g; refine hcall.mono ?_; rintro e w' ⟨rfl, hk'⟩)
    go_roundw
    case measure => simp [intOf]; try omega
    case rel =>
     refine ⟨k + 1, by omega, by go_num, Lib.hid ⟨HH.out.1.trans hk', fun x hx => ?_⟩⟩
     rw [htk.out] at hx
     rcases List.mem_append.1 hx with hx | hx
     ·exact HH.out.2 x hx
     ·simp at hx; subst hx; exact Hps.out
  ·obtain rfl : k = n := by omega
   have hki : ¬ (k : Int) < (k : Int) := by omega
   have HN : Hid (∀ x ∈ l, p x = false) := Lib.hid (by have := HH.out.2; rwa [List.take_of_length_le (by have := HL.out; omega)] at this)
   go_wp2_with fail
   go_ret
   exact ⟨.inr ⟨rfl, HN.out⟩, HH.out.1⟩
set_option maxHeartbeats 1000000 in
set_option maxRecDepth 100000 in
theorem containsfp_any (g : Nat) (lb : Array Value) (p : Pk → Bool) (eg : ∀ args w, (callFunc g args).run Tryz.prog w = .ok (.enter g args) w) (A : Option Addr) (n c B : Nat) (l : List Pk) (w : World) (hr : PksAt w B A n c l) (hp : PredPk B g lb p w) (hn : n ≤ 100000000000) :
  Calls Tryz.prog 66 #[.slice A n c, .func (.func g) #[] lb] w fun e w' => e = .returned (.bool (l.any p)) ∧ Keep Never w w' := by
 have HI := Lib.hid (indexfp_any g lb p eg A n c B l w hr hp hn)
 clear hr hp
 go_enter Tryz.func66, Tryz.ntmps66
 go_wp2_with fail
 refine HI.out.mono ?_
 rintro e w' ⟨⟨i, s, rfl, h1, h2, h3⟩ | ⟨rfl, h1⟩, hk⟩
 ·have HA : Hid (l.any p = true) := Lib.hid (List.any_eq_true.2 ⟨s, List.mem_of_getElem? h1, h2⟩)
  have HK := Lib.hid hk
  have hi : decide ((i : Int) ≥ 0) = true := by simp
  clear h1 h2 h3 hk
  go_wp2_with fail
  go_ret
  exact ⟨by rw [HA.out]; rfl, HK.out⟩
 ·have HA : Hid (l.any p = false) := Lib.hid (by rw [List.any_eq_false]; intro x hx; rw [h1 x hx]; simp)
  have HK := Lib.hid hk
  clear h1 hk
  go_wp2_with fail
  go_ret
  exact ⟨by rw [HA.out]; rfl, HK.out⟩
set_option maxHeartbeats 4000000 in
set_option maxRecDepth 100000 in
theorem rd2_any (id : Int) (A : Option Addr) (n c : Nat) (w : World) :
  Calls Tryz.prog 69 #[.agg #[.int .i64 id, .slice A n c]] w fun e w' => e = .returned (.bool (id == 5)) ∧ Keep Never w w' := by
 obtain ⟨w1, hw1⟩ : ∃ V : World, w.alloc (.cells #[.int .i64 id, .slice A n c] 105) = V := ⟨_, rfl⟩
 have kw1 : Keep Never w w1 := by rw [← hw1]; exact (Keep.refl _ _).alloc _
 have bw1 := Blk.new w 105 #[.int .i64 id, .slice A n c]
 rw [hw1] at bw1
 have HB1 := Lib.hid bw1
 have HK := Lib.hid kw1
 have y0 : w1.cell? ⟨w.heap.size, 0, none⟩ = some (.int .i64 id) := HB1.out.cell 0
 clear kw1 bw1
 go_enter Tryz.func69, Tryz.ntmps69
 go_wp2_with fail
 go_ret
 exact ⟨rfl, HK.out⟩
set_option maxHeartbeats 4000000 in
set_option maxRecDepth 100000 in
theorem rd1_any (B : Nat) (id : Int) (V : List Int) (A : Option Addr) (n c : Nat) (w : World) (hV : Rd w B 1 A n (V.map (.int .i64))) (hn : V.length = n) (hc : n ≤ c) (hcm : c ≤ maxLen) (hb : ∀ x ∈ V, i64 x) (h3 : V.length ≤ 8200) (hW : Widths w) (hg : 0 < B) (hB : B ≤ w.heap.size) :
  Calls Tryz.prog 64 #[.agg #[.int .i64 id, .slice A n c]] w fun e w' => e = .returned (.bool (badP (id, V))) ∧ Keep Never w w' := by
 have HIt := Lib.hid (fun (W : World) (hk : Keep Never w W) => Items_any B id V A n c W (hV.keep hk (fun _ h => h.elim)) hn hc hcm hb h3 (hW.keep hk (fun h => h)) hg (Nat.le_trans hB hk.size))
 unfold packCells at HIt
 have HBd : Hid (badP (id, V) = match ItemsM id V with | .ok _ => false | .error _ => true) := Lib.hid rfl
 obtain ⟨r, hr⟩ : ∃ z, ItemsM id V = z := ⟨_, rfl⟩
 rw [hr] at HIt HBd
 clear hV hn hc hcm hb h3 hW hg hr
 obtain ⟨w1, hw1⟩ : ∃ V : World, w.alloc (.cells #[.int .i64 id, .slice A n c] 105) = V := ⟨_, rfl⟩
 have kw1 : Keep Never w w1 := by rw [← hw1]; exact (Keep.refl _ _).alloc _
 have bw1 := Blk.new w 105 #[.int .i64 id, .slice A n c]
 rw [hw1] at bw1
 have HB1 := Lib.hid bw1
 have HK := Lib.hid kw1
 have y0 : w1.cell? ⟨w.heap.size, 0, none⟩ = some (.int .i64 id) := HB1.out.cell 0
 have y1 : w1.cell? ⟨w.heap.size, 1, none⟩ = some (.slice A n c) := HB1.out.cell 1
 clear kw1 bw1
 go_enter Tryz.func64, Tryz.ntmps64
 go_wp2_with fail
 refine (HIt.out w1 HK.out).mono ?_
 rintro en w2 ⟨A2, n2, c2, x, rfl, hk2, hp2⟩
 have HK2 := Lib.hid (HK.out.trans hk2)
 have HP2 := Lib.hid hp2
 clear hk2 hp2 HIt hw1 y0 y1
 by_cases g : x = 0
 ·have t0 : (x != 0) = false := by simpa using g
  have HF : Hid (badP (id, V) = false) := Lib.hid (by
   rcases HP2.out with ⟨l, h1, _⟩ | ⟨h1, h2, _⟩
   ·rw [HBd.out, h1]
   ·exact absurd g h2)
  clear g
  go_wp2_with fail
  go_ret
  exact ⟨by rw [HF.out]; rfl, HK2.out⟩
 ·have t0 : (x != 0) = true := by simpa using g
  have HF : Hid (badP (id, V) = true) := Lib.hid (by
   rcases HP2.out with ⟨l, _, h1, _⟩ | ⟨h1, h2, _⟩
   ·exact absurd h1 g
   ·rw [HBd.out, h1])
  clear g
  go_wp2_with fail
  go_ret
  exact ⟨by rw [HF.out]; rfl, HK2.out⟩
end Go.Proofs.YtpapiojicbbheaaGreatDoor

namespace Go.Proofs.YtpapiojicbbheaaGreatDoor
open Go.RowKit
theorem stp_front {w : World} {B n k : Nat} {A : Option Addr} {l : List Stp} (h : Rd w B 2 A n (stpCells l)) (hk : k ≤ n) : Rd w B 2 A k (stpCells (l.take k)) := by
 have hl := h.stp_len
 refine ⟨by rw [len_stpCells, List.length_take]; omega, fun h0 => ?_⟩
 obtain ⟨ad, e, hb, hc⟩ := h.2 (by omega)
 refine ⟨ad, e, hb, fun j v hj => hc j v ?_⟩
 have e2 : stpCells l = stpCells (l.take k) ++ stpCells (l.drop k) := by rw [← stpCells_app, List.take_append_drop]
 rw [e2, List.getElem?_append_left (List.getElem?_eq_some_iff.1 hj).1]
 exact hj
theorem twice_step {l : List Stp} {k : Nat} {s : Stp} (hs : l[k]? = some s) : twiceAt l k = overB (l.take k) s.1 := by unfold twiceAt; rw [hs]
theorem twice_t {l : List Stp} {k : Nat} (hk : k < l.length) (h : twiceAt l k = true) : twiceB l = true := by
 unfold twiceB; rw [List.any_eq_true]; exact ⟨k, List.mem_range.2 hk, h⟩
theorem twice_f {l : List Stp} (h : ∀ k, k < l.length → twiceAt l k = false) : twiceB l = false := by
 unfold twiceB; rw [List.any_eq_false]; intro k hk; rw [h k (List.mem_range.1 hk)]; simp
set_option maxHeartbeats 4000000 in
set_option maxRecDepth 100000 in
theorem twice_any (A : Option Addr) (n c B : Nat) (l : List Stp) (w : World) (h : Rd w B 2 A n (stpCells l)) (hc : n ≤ c) (hn : n ≤ 1000000) :
  Calls Tryz.prog 59 #[.slice A n c] w fun en w' => en = .returned (.bool (twiceB l)) ∧ Keep Never w w' := by
 have HL := Lib.hid h.stp_len
 have HR := Lib.hid h
 have HCap := Lib.hid hc
 clear h hc
 go_enter Tryz.func59, Tryz.ntmps59
 go_wp2_with fail
 go_loopw [7] (fun si wr => ∃ k : Nat, k ≤ n ∧ si = .int .i64 k ∧ Hid (Keep Never w wr ∧ ∀ j, j < k → twiceAt l j = false)) (fun si _ => n - (intOf si).toNat)
 case atStart => exact ⟨0, by omega, rfl, Lib.hid ⟨Keep.refl _ _, fun j hj => absurd hj (by omega)⟩⟩
 case round =>
  obtain ⟨k, hk, rfl, HH⟩ := hrel
  by_cases h0 : k < n
  ·have hki : (k : Int) < (n : Int) := by omega
   obtain ⟨ad, s, hA, _, hs, c0, c1⟩ := (HR.out.keep HH.out.1 (fun _ h => h.elim)).stp h0
   subst hA
   have HTw := Lib.hid (twice_step hs)
   have hq := run_front Tryz.underlying35 Tryz.sizeOf30 (some ad) n c k (by omega) HCap.out
   obtain ⟨s1, s2⟩ := s
   simp only at c0 c1
   clear hs
   obtain ⟨w4, hw4⟩ : ∃ V : World, wr.alloc (.cells #[.int .i64 s1, .bool s2] 30) = V := ⟨_, rfl⟩
   have k4 : Keep Never wr w4 := by rw [← hw4]; exact (Keep.refl _ _).alloc _
   have B4 := Blk.new wr 30 #[.int .i64 s1, .bool s2]
   rw [hw4] at B4
   obtain ⟨br, hbr⟩ : ∃ q, wr.heap.size = q := ⟨_, rfl⟩
   rw [hbr] at B4
   have HB4 := Lib.hid B4
   have HK4 := Lib.hid (HH.out.1.trans k4)
   have HOv := Lib.hid (fun V (hV : Keep Never w4 V) => pover17_any (some ad) k c B (l.take k) s1 V (stp_front (HR.out.keep (HK4.out.trans hV) (fun _ h => h.elim)) (by omega)) (by omega))
   obtain ⟨ob, hob⟩ : ∃ z, overB (l.take k) s1 = z := ⟨_, rfl⟩
   rw [hob] at HOv
   have HOb := Lib.hid hob
   have b0 : w4.cell? ⟨br, 0, none⟩ = some (.int .i64 s1) := HB4.out.cell 0
   have HS2 : Hid (∀ W', Keep Never w4 W' → Keep Never w4 W' ∧ W'.cell? ⟨br, 0, none⟩ = some (.int .i64 s1)) := Lib.hid (fun W' h => ⟨h, keepT h b0⟩)
   clear hob k4 B4
   go_wp2_with fail
   clear b0
   go_region_held3 (fun W' => Keep Never w4 W' ∧ W'.cell? ⟨br, 0, none⟩ = some (.int .i64 s1))
    (first | assumption | exact HS2.out _ ((Keep.refl Never w4).drew) | exact HS2.out _ (Keep.trans (And.left (by assumption)) hk3) | exact HS2.out _ (Keep.trans ((Keep.refl Never w4).drew) hk3))
    (first
     | (go_at_call 46; refine (HOv.out _ (by first | exact And.left (by assumption) | exact (Keep.refl Never w4).drew | exact Keep.refl Never w4)).mono ?_; rintro e w5 ⟨rfl, hk3⟩))
   all_goals
    rename_i hS
    have HKe := Lib.hid (HK4.out.trans hS.1)
    clear hS
    cases ob with
    | true =>
     have HF : Hid (twiceB l = true) := Lib.hid (twice_t (k := k) (by rw [HL.out]; exact h0) (by rw [HTw.out]; exact HOb.out))
     go_wp2_with fail
     go_ret
     exact ⟨by rw [HF.out]; rfl, HKe.out⟩
    | false =>
     go_wp2_with fail
     refine ⟨⟨k + 1, by omega, by go_num, Lib.hid ⟨HKe.out, fun j hj => ?_⟩⟩, ?_⟩
     ·rcases Nat.lt_or_ge j k with h | h
      ·exact HH.out.2 j h
      ·obtain rfl : j = k := by omega
       rw [HTw.out]; exact HOb.out
     ·simp [intOf]; try omega
  ·obtain rfl : k = n := by omega
   have hki : ¬ (k : Int) < (k : Int) := by omega
   have HF : Hid (twiceB l = false) := Lib.hid (twice_f (fun j hj => HH.out.2 j (by rw [HL.out] at hj; exact hj)))
   go_wp2_with fail
   go_ret
   exact ⟨by rw [HF.out]; rfl, HH.out.1⟩
theorem run_ne_stp (w : World) (x1 : Int) (x2 : Bool) (y1 : Int) (y2 : Bool) : (binOp .neq 30 (.agg #[.int .i64 x1, .bool x2]) (.agg #[.int .i64 y1, .bool y2])).run Tryz.prog w = .ok (.bool (!sameS x1 x2 y1 y2)) w := by
 by_cases h1 : x1 = y1
 ·have t1 : (x1 == y1) = true := by simpa using h1
  by_cases h2 : x2 = y2
  ·have t2 : (x2 == y2) = true := by simpa using h2
   have hd : sameS x1 x2 y1 y2 = true := decide_eq_true (by rw [h1, h2])
   rw [hd]
   clear h1 h2 hd
   go_simp
   (try simp [t1, t2])
  ·have t2 : (x2 == y2) = false := by simpa using h2
   have hd : sameS x1 x2 y1 y2 = false := decide_eq_false (by intro h; injection h with _ h; exact h2 h)
   rw [hd]
   clear h1 h2 hd
   go_simp
   (try simp [t1, t2])
 ·have t1 : (x1 == y1) = false := by simpa using h1
  have hd : sameS x1 x2 y1 y2 = false := decide_eq_false (by intro h; injection h with h _; exact h1 h)
  rw [hd]
  clear h1 hd
  go_simp
  (try simp [t1])
def LeftRet (o : Option (Int × Int)) (w : World) (e : Ending) (w' : World) : Prop := e = .returned (.tuple #[.int .i64 (o.getD (0, 0)).1, .int .i64 (o.getD (0, 0)).2, .bool o.isSome]) ∧ Keep Never w w'
theorem ret3 {fn : Func} {r s u : Nat} (h : fn.results = #[.tmp r, .tmp s, .tmp u]) (tmps : Array Value) (w : World) : (results fn tmps).run Tryz.prog w = .ok (.tuple #[tmps.getD r undef, tmps.getD s undef, tmps.getD u undef]) w := by
 simp [results, h, go_sem]
set_option maxHeartbeats 8000000 in
set_option maxRecDepth 100000 in
theorem pleft_any (x : TA) (t : Tp) (B : Nat) (ref : Int) (rv : Bool) (P : List Stp) (S : List Sc) (g : Int) (Ap : Option Addr) (np cp : Nat) (As : Option Addr) (ns cs : Nat) (w : World) (h : TpAt w B x t) (hs : TpSmall x t) (hp : repStp.Sl w B Ap np cp P) (hck : checkM t = 0) (hn : np ≤ 100000000) :
  Calls Tryz.prog 80 #[.agg x.cs, .agg #[.int .i64 ref, .bool rv, .slice Ap np cp, .slice As ns cs, .int .i64 g]] w (LeftRet (leftA t (ref, rv, P, S, g)) w) := by
 have HBa := Lib.hid (fun (W : World) (hk : Keep Never w W) => bal_any x t B ref W (h.keep hk) hs.b)
 have HLn := Lib.hid (fun (W : World) (hk : Keep Never w W) => length_any x t B Ap np cp P W (h.keep hk) (hp.keep hk (fun _ h => h.elim)) hs.j hn)
 have HED := Lib.hid (fun (W : World) (hk : Keep Never w W) (i : Int) (h0 : 0 ≤ i) (h1 : i < (x.ne : Int)) => edge_at (h.keep hk) h0 h1)
 have HEl : Hid (x.ne = t.1.length) := Lib.hid h.e.len
 have HPl : Hid (np = P.length) := Lib.hid hp.len
 have HP := Lib.hid hp
 have HCk := Lib.hid hck
 have HD : Hid (leftA t (ref, rv, P, S, g) = match balM t.2.2.1 ref with | none => none | some b => if P.head? = some (b.2.1, rv) ∧ (lenM t P).2 = 0 then some ((lenM t P).1 - alongP t (b.2.1, b.2.2, rv), alongP t (b.2.1, b.2.2, rv)) else none) := Lib.hid rfl
 obtain ⟨Ae, ne, ce, Aj, nj, cj, Ab, nb, cb, Ar, nr, cr⟩ := x
 simp only [TA.cs] at HBa HLn HED HEl ⊢
 clear h hs hp hck
 obtain ⟨w1, hw1⟩ : ∃ V : World, w.alloc (.cells #[.slice Ae ne ce, .slice Aj nj cj, .slice Ab nb cb, .slice Ar nr cr] 27) = V := ⟨_, rfl⟩
 have zw1 : w1.heap.size = w.heap.size + 1 := by rw [← hw1]; simp
 have kw1 : Keep Never w w1 := by rw [← hw1]; exact (Keep.refl _ _).alloc _
 have bw1 := Blk.new w 27 #[.slice Ae ne ce, .slice Aj nj cj, .slice Ab nb cb, .slice Ar nr cr]
 rw [hw1] at bw1
 obtain ⟨w2, hw2⟩ : ∃ V : World, w1.alloc (.cells #[.int .i64 ref, .bool rv, .slice Ap np cp, .slice As ns cs, .int .i64 g] 38) = V := ⟨_, rfl⟩
 have kw2 : Keep Never w1 w2 := by rw [← hw2]; exact (Keep.refl _ _).alloc _
 have bw2 := Blk.new w1 38 #[.int .i64 ref, .bool rv, .slice Ap np cp, .slice As ns cs, .int .i64 g]
 rw [hw2, zw1] at bw2
 have HB1 := Lib.hid (bw1.keep kw2 (fun h => h))
 have HB2 := Lib.hid bw2
 have HK := Lib.hid (kw1.trans kw2)
 clear kw1 kw2 bw1 bw2
 obtain ⟨ob, hob⟩ : ∃ z, balM t.2.2.1 ref = z := ⟨_, rfl⟩
 have hC0 := HBa.out w2 HK.out
 unfold BalRet at hC0
 rw [hob] at hC0 HD
 have HC := Lib.hid hC0
 have HOb := Lib.hid hob
 clear hC0 HBa hob
 have y0 : w2.cell? ⟨w.heap.size, 0, none⟩ = some (.slice Ae ne ce) := HB1.out.cell 0
 have y1 : w2.cell? ⟨w.heap.size, 1, none⟩ = some (.slice Aj nj cj) := HB1.out.cell 1
 have y2 : w2.cell? ⟨w.heap.size, 2, none⟩ = some (.slice Ab nb cb) := HB1.out.cell 2
 have y3 : w2.cell? ⟨w.heap.size, 3, none⟩ = some (.slice Ar nr cr) := HB1.out.cell 3
 have q0 : w2.cell? ⟨w.heap.size + 1, 0, none⟩ = some (.int .i64 ref) := HB2.out.cell 0
 have q1 : w2.cell? ⟨w.heap.size + 1, 1, none⟩ = some (.bool rv) := HB2.out.cell 1
 have q2 : w2.cell? ⟨w.heap.size + 1, 2, none⟩ = some (.slice Ap np cp) := HB2.out.cell 2
 have q3 : w2.cell? ⟨w.heap.size + 1, 3, none⟩ = some (.slice As ns cs) := HB2.out.cell 3
 have q4 : w2.cell? ⟨w.heap.size + 1, 4, none⟩ = some (.int .i64 g) := HB2.out.cell 4
 cases ob with
 | none =>
  have HF : Hid (leftA t (ref, rv, P, S, g) = none) := Lib.hid HD.out
  go_enter Tryz.func80, Tryz.ntmps80
  go_wp2_with fail
  refine HC.out.mono ?_
  rintro en w4 ⟨rfl, hk4⟩
  have HK1 := Lib.hid (HK.out.trans hk4)
  have Hy1 := Lib.hid (HB1.out.keep hk4 (fun h => h))
  have Hq1 := Lib.hid (HB2.out.keep hk4 (fun h => h))
  clear y0 y1 y2 y3 q0 q1 q2 q3 q4 hk4 HC hw1 hw2 zw1
  simp only [Option.getD, Option.isSome]
  have HKz := Lib.hid (HK1.out.trans ((Keep.refl Never w4).alloc (.cells #[.int .i64 0, .int .i64 0, .int .i64 0] 94)))
  go_wp2_with fail
  go_quiet (fail)
  go_wp2_with fail
  (try simp only [Exit.inBlock, Exit.then])
  refine bodyPost_ret (ret3 (fn := Tryz.f80) (r := 4) (s := 5) (u := 6) rfl _ _) rfl ⟨by rw [HF.out]; rfl, (HKz.out.drewN _)⟩
 | some b =>
  obtain ⟨b1, b2, b3⟩ := b
  simp only at HD
  go_enter Tryz.func80, Tryz.ntmps80
  go_wp2_with fail
  refine HC.out.mono ?_
  rintro en w4 ⟨rfl, hk4⟩
  have HK1 := Lib.hid (HK.out.trans hk4)
  have Hy1 := Lib.hid (HB1.out.keep hk4 (fun h => h))
  have Hq1 := Lib.hid (HB2.out.keep hk4 (fun h => h))
  clear y0 y1 y2 y3 q0 q1 q2 q3 q4 hk4 HC hw1 hw2 zw1
  simp only [Option.getD, Option.isSome]
  obtain ⟨w102, hw102⟩ : ∃ V : World, w4.alloc (.cells #[.int .i64 b1, .int .i64 b2, .int .i64 b3] 94) = V := ⟨_, rfl⟩
  have kx : Keep Never w4 w102 := by rw [← hw102]; exact (Keep.refl _ _).alloc _
  have bx := Blk.new w4 94 #[.int .i64 b1, .int .i64 b2, .int .i64 b3]
  rw [hw102] at bx
  obtain ⟨bb, hbb⟩ : ∃ q, w4.heap.size = q := ⟨_, rfl⟩
  rw [hbb] at bx
  have HBx2 := Lib.hid bx
  have HK2 := Lib.hid (HK1.out.trans kx)
  have Hy2 := Lib.hid (Hy1.out.keep kx (fun h => h))
  have Hq2 := Lib.hid (Hq1.out.keep kx (fun h => h))
  clear kx bx
  by_cases g0 : np = 0
  ·have HF : Hid (leftA t (ref, rv, P, S, g) = none) := Lib.hid (by
    have : P = [] := List.length_eq_zero_iff.1 (by rw [← HPl.out]; exact g0)
    rw [HD.out, this, if_neg (by simp)])
   subst g0
   have y0 : w102.cell? ⟨w.heap.size, 0, none⟩ = some (.slice Ae ne ce) := Hy2.out.cell 0
   have y1 : w102.cell? ⟨w.heap.size, 1, none⟩ = some (.slice Aj nj cj) := Hy2.out.cell 1
   have y2 : w102.cell? ⟨w.heap.size, 2, none⟩ = some (.slice Ab nb cb) := Hy2.out.cell 2
   have y3 : w102.cell? ⟨w.heap.size, 3, none⟩ = some (.slice Ar nr cr) := Hy2.out.cell 3
   have q0 : w102.cell? ⟨w.heap.size + 1, 0, none⟩ = some (.int .i64 ref) := Hq2.out.cell 0
   have q1 : w102.cell? ⟨w.heap.size + 1, 1, none⟩ = some (.bool rv) := Hq2.out.cell 1
   have q2 : w102.cell? ⟨w.heap.size + 1, 2, none⟩ = some (.slice Ap 0 cp) := Hq2.out.cell 2
   have q3 : w102.cell? ⟨w.heap.size + 1, 3, none⟩ = some (.slice As ns cs) := Hq2.out.cell 3
   have q4 : w102.cell? ⟨w.heap.size + 1, 4, none⟩ = some (.int .i64 g) := Hq2.out.cell 4
   have b0 : w102.cell? ⟨bb, 0, none⟩ = some (.int .i64 b1) := HBx2.out.cell 0
   have b1 : w102.cell? ⟨bb, 1, none⟩ = some (.int .i64 b2) := HBx2.out.cell 1
   have b2 : w102.cell? ⟨bb, 2, none⟩ = some (.int .i64 b3) := HBx2.out.cell 2
   go_wp2_with fail
   go_quiet (fail)
   go_wp2_with fail
   (try simp only [Exit.inBlock, Exit.then])
   refine bodyPost_ret (ret3 (fn := Tryz.f80) (r := 4) (s := 5) (u := 6) rfl _ _) rfl ⟨by rw [HF.out]; rfl, (HK2.out.drewN _)⟩
  have t0 : ((np : Int) == 0) = false := by simp; omega
  have hn0 : 0 < np := by omega
  obtain ⟨ad, s, hA, _, hs, c0, c1, _⟩ := stp_at (HP.out.keep HK2.out (fun _ h => h.elim)) hn0
  subst hA
  have ea : ad.add (0 * 2) = ad := by rw [Nat.zero_mul]; unfold Addr.add; split <;> simp_all
  rw [ea] at c0 c1
  have hhd : P.head? = some s := by rw [List.head?_eq_getElem?]; exact hs
  have qn := run_ne_stp
  obtain ⟨s1, s2⟩ := s
  simp only at c0 c1
  have HHd := Lib.hid hhd
  clear hs ea hhd g0
  by_cases hq : ((s1, s2) : Stp) = (b2, rv)
  case neg =>
   have tq : (!sameS s1 s2 b2 rv) = true := by have : sameS s1 s2 b2 rv = false := decide_eq_false hq; rw [this]; rfl
   have HF : Hid (leftA t (ref, rv, P, S, g) = none) := Lib.hid (by rw [HD.out, if_neg (by rintro ⟨h, _⟩; rw [HHd.out] at h; exact hq (Option.some.inj h))])
   clear hq
   have y0 : w102.cell? ⟨w.heap.size, 0, none⟩ = some (.slice Ae ne ce) := Hy2.out.cell 0
   have y1 : w102.cell? ⟨w.heap.size, 1, none⟩ = some (.slice Aj nj cj) := Hy2.out.cell 1
   have y2 : w102.cell? ⟨w.heap.size, 2, none⟩ = some (.slice Ab nb cb) := Hy2.out.cell 2
   have y3 : w102.cell? ⟨w.heap.size, 3, none⟩ = some (.slice Ar nr cr) := Hy2.out.cell 3
   have q0 : w102.cell? ⟨w.heap.size + 1, 0, none⟩ = some (.int .i64 ref) := Hq2.out.cell 0
   have q1 : w102.cell? ⟨w.heap.size + 1, 1, none⟩ = some (.bool rv) := Hq2.out.cell 1
   have q2 : w102.cell? ⟨w.heap.size + 1, 2, none⟩ = some (.slice (some ad) np cp) := Hq2.out.cell 2
   have q3 : w102.cell? ⟨w.heap.size + 1, 3, none⟩ = some (.slice As ns cs) := Hq2.out.cell 3
   have q4 : w102.cell? ⟨w.heap.size + 1, 4, none⟩ = some (.int .i64 g) := Hq2.out.cell 4
   have b0 : w102.cell? ⟨bb, 0, none⟩ = some (.int .i64 b1) := HBx2.out.cell 0
   have b1 : w102.cell? ⟨bb, 1, none⟩ = some (.int .i64 b2) := HBx2.out.cell 1
   have b2 : w102.cell? ⟨bb, 2, none⟩ = some (.int .i64 b3) := HBx2.out.cell 2
   go_wp2_with fail
   go_quiet (fail)
   go_wp2_with fail
   (try simp only [Exit.inBlock, Exit.then])
   refine bodyPost_ret (ret3 (fn := Tryz.f80) (r := 4) (s := 5) (u := 6) rfl _ _) rfl ⟨by rw [HF.out]; rfl, (HK2.out.drewN _)⟩
  have tq : (!sameS s1 s2 b2 rv) = false := by have : sameS s1 s2 b2 rv = true := decide_eq_true hq; rw [this]; rfl
  have HD2 : Hid (leftA t (ref, rv, P, S, g) = if (lenM t P).2 = 0 then some ((lenM t P).1 - alongP t (b2, b3, rv), alongP t (b2, b3, rv)) else none) := Lib.hid (by
   rw [HD.out]
   by_cases hz : (lenM t P).2 = 0
   ·rw [if_pos ⟨by rw [HHd.out, hq], hz⟩, if_pos hz]
   ·rw [if_neg (fun h => hz h.2), if_neg hz])
  clear hq HD
  obtain ⟨l1, hl1⟩ : ∃ z, (lenM t P).1 = z := ⟨_, rfl⟩
  obtain ⟨l2, hl2⟩ : ∃ z, (lenM t P).2 = z := ⟨_, rfl⟩
  rw [hl1, hl2] at HD2 HLn
  have HL1 := Lib.hid hl1
  have HL2 := Lib.hid hl2
  clear hl1 hl2
  have y0 : w102.cell? ⟨w.heap.size, 0, none⟩ = some (.slice Ae ne ce) := Hy2.out.cell 0
  have y1 : w102.cell? ⟨w.heap.size, 1, none⟩ = some (.slice Aj nj cj) := Hy2.out.cell 1
  have y2 : w102.cell? ⟨w.heap.size, 2, none⟩ = some (.slice Ab nb cb) := Hy2.out.cell 2
  have y3 : w102.cell? ⟨w.heap.size, 3, none⟩ = some (.slice Ar nr cr) := Hy2.out.cell 3
  have q0 : w102.cell? ⟨w.heap.size + 1, 0, none⟩ = some (.int .i64 ref) := Hq2.out.cell 0
  have q1 : w102.cell? ⟨w.heap.size + 1, 1, none⟩ = some (.bool rv) := Hq2.out.cell 1
  have q2 : w102.cell? ⟨w.heap.size + 1, 2, none⟩ = some (.slice (some ad) np cp) := Hq2.out.cell 2
  have q3 : w102.cell? ⟨w.heap.size + 1, 3, none⟩ = some (.slice As ns cs) := Hq2.out.cell 3
  have q4 : w102.cell? ⟨w.heap.size + 1, 4, none⟩ = some (.int .i64 g) := Hq2.out.cell 4
  have b0 : w102.cell? ⟨bb, 0, none⟩ = some (.int .i64 b1) := HBx2.out.cell 0
  have b1 : w102.cell? ⟨bb, 1, none⟩ = some (.int .i64 b2) := HBx2.out.cell 1
  have b2 : w102.cell? ⟨bb, 2, none⟩ = some (.int .i64 b3) := HBx2.out.cell 2
  go_wp2_with fail
  go_quiet (fail)
  go_wp2_with fail
  refine (HLn.out _ (HK2.out.drewN _)).mono ?_
  rintro en w8 ⟨rfl, hk8⟩
  have hk8 := Keep.drewNL hk8
  have HK3 := Lib.hid (HK2.out.trans hk8)
  have Hy3 := Lib.hid (Hy2.out.keep hk8 (fun h => h))
  have Hq3 := Lib.hid (Hq2.out.keep hk8 (fun h => h))
  have Hb3 := Lib.hid (HBx2.out.keep hk8 (fun h => h))
  clear y0 y1 y2 y3 q0 q1 q2 q3 q4 b0 b1 b2 hk8 qn tq
  by_cases g1 : l2 = 0
  case neg =>
   have t1 : (l2 != 0) = true := by simpa using g1
   have HF : Hid (leftA t (ref, rv, P, S, g) = none) := Lib.hid (by rw [HD2.out, if_neg g1])
   clear g1
   go_wp2_with fail
   (try simp only [Exit.inBlock, Exit.then])
   refine bodyPost_ret (ret3 (fn := Tryz.f80) (r := 4) (s := 5) (u := 6) rfl _ _) rfl ⟨by rw [HF.out]; rfl, HK3.out⟩
  have t1 : (l2 != 0) = false := by simpa using g1
  have HL0 : Hid ((lenM t P).2 = 0) := Lib.hid (HL2.out.trans g1)
  have HD3 : Hid (leftA t (ref, rv, P, S, g) = some (l1 - alongP t (b2, b3, rv), alongP t (b2, b3, rv))) := Lib.hid (by rw [HD2.out, if_pos g1])
  clear g1 HD2
  obtain ⟨x1, x2, x3, x4, x5⟩ := check_bal HCk.out (bal_mem HOb.out).1
  simp only at x3 x4 x5
  have hsum := sum_in HCk.out HL0.out (i := P.length) (Nat.le_refl _)
  rw [List.take_length, ← (good_of HCk.out HL0.out).2.2, HL1.out] at hsum
  have hin := edge_in HCk.out x3
  unfold thereB at x3
  simp only [Bool.and_eq_true, decide_eq_true_eq] at x3
  rw [← HEl.out] at x3
  cases rv with
  | false =>
   have HF : Hid (leftA t (ref, false, P, S, g) = some (l1 - b3, b3)) := Lib.hid HD3.out
   have hw : wrap64 (l1 - b3) = l1 - b3 := by have := IntWalk.i64_in (l1 - b3) (by omega); rwa [IntWalk.i64_left] at this
   clear x1 x2 x3 x4 x5 hsum hin
   have y0 : w8.cell? ⟨w.heap.size, 0, none⟩ = some (.slice Ae ne ce) := Hy3.out.cell 0
   have y1 : w8.cell? ⟨w.heap.size, 1, none⟩ = some (.slice Aj nj cj) := Hy3.out.cell 1
   have y2 : w8.cell? ⟨w.heap.size, 2, none⟩ = some (.slice Ab nb cb) := Hy3.out.cell 2
   have y3 : w8.cell? ⟨w.heap.size, 3, none⟩ = some (.slice Ar nr cr) := Hy3.out.cell 3
   have q0 : w8.cell? ⟨w.heap.size + 1, 0, none⟩ = some (.int .i64 ref) := Hq3.out.cell 0
   have q1 : w8.cell? ⟨w.heap.size + 1, 1, none⟩ = some (.bool false) := Hq3.out.cell 1
   have q2 : w8.cell? ⟨w.heap.size + 1, 2, none⟩ = some (.slice (some ad) np cp) := Hq3.out.cell 2
   have q3 : w8.cell? ⟨w.heap.size + 1, 3, none⟩ = some (.slice As ns cs) := Hq3.out.cell 3
   have q4 : w8.cell? ⟨w.heap.size + 1, 4, none⟩ = some (.int .i64 g) := Hq3.out.cell 4
   have b0 : w8.cell? ⟨bb, 0, none⟩ = some (.int .i64 b1) := Hb3.out.cell 0
   have b1 : w8.cell? ⟨bb, 1, none⟩ = some (.int .i64 b2) := Hb3.out.cell 1
   have b2 : w8.cell? ⟨bb, 2, none⟩ = some (.int .i64 b3) := Hb3.out.cell 2
   go_wp2_with fail
   (try rw [hw])
   (try simp only [Exit.inBlock, Exit.then])
   refine bodyPost_ret (ret3 (fn := Tryz.f80) (r := 4) (s := 5) (u := 6) rfl _ _) rfl ⟨by rw [HF.out]; rfl, HK3.out⟩
  | true =>
   obtain ⟨ad2, j, v, hA2, he, hj, d0, hv⟩ := HED.out w8 HK3.out b2 x3.1 x3.2
   subst hA2
   rw [hv] at x5 hin
   have HF : Hid (leftA t (ref, true, P, S, g) = some (l1 - (v - b3), v - b3)) := Lib.hid (by rw [HD3.out]; unfold alongP; rw [if_pos rfl]; simp only [hv])
   have hw0 : IntKind.i64.wrap (v - b3) = v - b3 := IntWalk.i64_in _ (by omega)
   have hw : wrap64 (l1 - (v - b3)) = l1 - (v - b3) := by have := IntWalk.i64_in (l1 - (v - b3)) (by omega); rwa [IntWalk.i64_left] at this
   subst he
   have hjz : (j : Int) < (ne : Int) := by omega
   have y0 : w8.cell? ⟨w.heap.size, 0, none⟩ = some (.slice (some ad2) ne ce) := Hy3.out.cell 0
   have y1 : w8.cell? ⟨w.heap.size, 1, none⟩ = some (.slice Aj nj cj) := Hy3.out.cell 1
   have y2 : w8.cell? ⟨w.heap.size, 2, none⟩ = some (.slice Ab nb cb) := Hy3.out.cell 2
   have y3 : w8.cell? ⟨w.heap.size, 3, none⟩ = some (.slice Ar nr cr) := Hy3.out.cell 3
   have q0 : w8.cell? ⟨w.heap.size + 1, 0, none⟩ = some (.int .i64 ref) := Hq3.out.cell 0
   have q1 : w8.cell? ⟨w.heap.size + 1, 1, none⟩ = some (.bool true) := Hq3.out.cell 1
   have q2 : w8.cell? ⟨w.heap.size + 1, 2, none⟩ = some (.slice (some ad) np cp) := Hq3.out.cell 2
   have q3 : w8.cell? ⟨w.heap.size + 1, 3, none⟩ = some (.slice As ns cs) := Hq3.out.cell 3
   have q4 : w8.cell? ⟨w.heap.size + 1, 4, none⟩ = some (.int .i64 g) := Hq3.out.cell 4
   have b0 : w8.cell? ⟨bb, 0, none⟩ = some (.int .i64 b1) := Hb3.out.cell 0
   have b1 : w8.cell? ⟨bb, 1, none⟩ = some (.int .i64 ((j : Nat) : Int)) := Hb3.out.cell 1
   have b2 : w8.cell? ⟨bb, 2, none⟩ = some (.int .i64 b3) := Hb3.out.cell 2
   clear x1 x2 x3 x4 x5 hsum hin hv
   go_wp2_with fail
   go_quiet (fail)
   go_wp2_with fail
   (try rw [hw])
   (try simp only [Exit.inBlock, Exit.then])
   refine bodyPost_ret (ret3 (fn := Tryz.f80) (r := 4) (s := 5) (u := 6) rfl _ _) rfl ⟨by rw [HF.out]; rfl, (HK3.out.drewN _)⟩
end Go.Proofs.YtpapiojicbbheaaGreatDoor
