/- Chapter 13's shapes (topo): steps, ends, joints, tracks; there, enters, leaves and the document's edge, In, Out. -/
import Derived.Test.YtpahfobijmmmmaaRep
import Derived.Deep.RegionHeld3
import Derived.StillTailTactics
import Derived.IntWalk
namespace Go.Proofs.Ytpahfobijmmmmaa
open Go.RowKit

abbrev Stp := Int × Bool
abbrev En := Int × Int
abbrev Jt := En × En
abbrev Bl := Int × Int × Int
abbrev Rt := Int × List Stp × Int × Int
abbrev Tp := List Int × List Jt × List Bl × List Rt
def repStp : Rep Stp := Rep.int.pair Rep.bool
def repEn : Rep En := Rep.int.pair Rep.int
def repJt : Rep Jt := repEn.pair repEn
def repBl : Rep Bl := Rep.int.pair (Rep.int.pair Rep.int)
def repRt : Rep Rt := Rep.int.pair (repStp.list.pair (Rep.int.pair Rep.int))
def repTp : Rep Tp := Rep.int.list.pair (repJt.list.pair (repBl.list.pair repRt.list))
/-- where a track's four lists lie -/
structure TA where
  Ae : Option Addr
  ne : Nat
  ce : Nat
  Aj : Option Addr
  nj : Nat
  cj : Nat
  Ab : Option Addr
  nb : Nat
  cb : Nat
  Ar : Option Addr
  nr : Nat
  cr : Nat
abbrev TA.cs (x : TA) : Array Value := #[.slice x.Ae x.ne x.ce, .slice x.Aj x.nj x.cj, .slice x.Ab x.nb x.cb, .slice x.Ar x.nr x.cr]
/-- a track in the program's memory -/
structure TpAt (w : World) (B : Nat) (x : TA) (t : Tp) : Prop where
  e : Rep.int.Sl w B x.Ae x.ne x.ce t.1
  j : repJt.Sl w B x.Aj x.nj x.cj t.2.1
  b : repBl.Sl w B x.Ab x.nb x.cb t.2.2.1
  r : repRt.Sl w B x.Ar x.nr x.cr t.2.2.2
theorem TpAt.of {w : World} {B : Nat} {t : Tp} {cs : List Value} (h : repTp.cells w B t cs) : ∃ x : TA, cs = x.cs.toList ∧ TpAt w B x t := by
  obtain ⟨c1, d1, rfl, ⟨Ae, ne, ce, rfl, he⟩, c2, d2, rfl, ⟨Aj, nj, cj, rfl, hj⟩, c3, d3, rfl, ⟨Ab, nb, cb, rfl, hb⟩, ⟨Ar, nr, cr, rfl, hr⟩⟩ := h
  exact ⟨⟨Ae, ne, ce, Aj, nj, cj, Ab, nb, cb, Ar, nr, cr⟩, rfl, he, hj, hb, hr⟩
theorem TpAt.keep {w w' : World} {B : Nat} {x : TA} {t : Tp} (h : TpAt w B x t) (hk : Keep Never w w') : TpAt w' B x t :=
  ⟨h.e.keep hk (fun _ h => h.elim), h.j.keep hk (fun _ h => h.elim), h.b.keep hk (fun _ h => h.elim), h.r.keep hk (fun _ h => h.elim)⟩
theorem int_rd {w : World} {B n c : Nat} {A : Option Addr} {l : List Int} (h : Rep.int.Sl w B A n c l) : Rd w B 1 A n (l.map (.int .i64)) := by
  obtain ⟨hn, _, _, _, css, h5, h6⟩ := h
  have : css.flatten = l.map (.int .i64) := by
    clear h5 hn
    induction l generalizing css with
    | nil => cases css with
      | nil => rfl
      | cons b m => exact h6.elim
    | cons a l ih => cases css with
      | nil => exact h6.elim
      | cons b m => rw [List.flatten_cons, ih m h6.2, h6.1.1]; rfl
  rw [this] at h5
  exact h5
theorem stp_at {w : World} {B n c i : Nat} {A : Option Addr} {l : List Stp} (h : repStp.Sl w B A n c l) (hi : i < n) : ∃ ad s, A = some ad ∧ ad.block < B ∧ l[i]? = some s ∧ w.cell? (ad.add (i * 2)) = some (.int .i64 s.1) ∧ w.cell? ⟨(ad.add (i * 2)).block, (ad.add (i * 2)).off + 1, none⟩ = some (.bool s.2) ∧ (-9223372036854775808 ≤ s.1 ∧ s.1 ≤ 9223372036854775807) := by
  obtain ⟨ad, s, cs, e, hb, hs, ⟨c1, d1, rfl, ⟨rfl, h1⟩, rfl⟩, hc⟩ := h.at_ hi
  have c0 := hc 0 (by decide)
  have c1 := hc 1 (by decide)
  have hsz : repStp.size = 2 := rfl
  rw [hsz] at c0 c1
  rw [fld _ _ (by omega)] at c1
  exact ⟨ad, s, e, hb, hs, c0, c1, h1⟩
theorem jt_at {w : World} {B n c i : Nat} {A : Option Addr} {l : List Jt} (h : repJt.Sl w B A n c l) (hi : i < n) : ∃ ad s, A = some ad ∧ ad.block < B ∧ l[i]? = some s ∧ w.cell? (ad.add (i * 4)) = some (.int .i64 s.1.1) ∧ w.cell? ⟨(ad.add (i * 4)).block, (ad.add (i * 4)).off + 1, none⟩ = some (.int .i64 s.1.2) ∧
    w.cell? ⟨(ad.add (i * 4)).block, (ad.add (i * 4)).off + 2, none⟩ = some (.int .i64 s.2.1) ∧ w.cell? ⟨(ad.add (i * 4)).block, (ad.add (i * 4)).off + 3, none⟩ = some (.int .i64 s.2.2) := by
  obtain ⟨ad, s, cs, e, hb, hs, ⟨c1, d1, rfl, ⟨c2, d2, rfl, ⟨rfl, _⟩, ⟨rfl, _⟩⟩, ⟨c3, d3, rfl, ⟨rfl, _⟩, ⟨rfl, _⟩⟩⟩, hc⟩ := h.at_ hi
  have c0 := hc 0 (by decide)
  have c1 := hc 1 (by decide)
  have c2 := hc 2 (by decide)
  have c3 := hc 3 (by decide)
  have hsz : repJt.size = 4 := rfl
  rw [hsz] at c0 c1 c2 c3
  rw [fld _ _ (by omega)] at c1 c2 c3
  exact ⟨ad, s, e, hb, hs, c0, c1, c2, c3⟩

def inE (s : Stp) : En := (s.1, if s.2 = true then 1 else 0)
def outE (s : Stp) : En := (s.1, if s.2 = true then 0 else 1)
def thereB (ne : Nat) (x : Int) : Bool := decide (0 ≤ x) && decide (x < (ne : Int))
/-- do two ends lie at one place? -/
def joinB (l : List Jt) (a b : En) : Bool := l.any fun j => decide (j = (a, b)) || decide (j = (b, a))
def mayJ (l : List Jt) (s t : Stp) : Bool := joinB l (outE s) (inE t)

end Go.Proofs.Ytpahfobijmmmmaa
