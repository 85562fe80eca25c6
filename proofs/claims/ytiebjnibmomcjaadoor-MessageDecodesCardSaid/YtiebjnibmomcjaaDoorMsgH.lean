/- Chapter 6: Decode, the plain part. -/
import Derived.Test.YtiebjnibmomcjaaDoorMsgF
import Derived.Test.YtiebjnibmomcjaaDoorMsgG
import Derived.Test.YtiebjnibmomcjaaDoorBdPackN
namespace Go.Proofs.YtiebjnibmomcjaaDoor
open Go.RowKit

/-- to take variables up, one after the other -/
def onesM : List Int → List Bool → Int → List Int × List Bool × Int
  | [], l, e => ([], l, e)
  | v :: vs, l, e => ((oneB l e v).1 :: (onesM vs (oneB l e v).2.1 (oneB l e v).2.2).1, (onesM vs (oneB l e v).2.1 (oneB l e v).2.2).2)
theorem onesM_app : ∀ (a b : List Int) (l : List Bool) (e : Int), onesM (a ++ b) l e = ((onesM a l e).1 ++ (onesM b (onesM a l e).2.1 (onesM a l e).2.2).1, (onesM b (onesM a l e).2.1 (onesM a l e).2.2).2)
  | [], _, _, _ => rfl
  | v :: a, b, l, e => by simp [onesM, onesM_app a b]
theorem onesM_take {own : List Int} {k : Nat} {v : Int} (h : own[k]? = some v) (l : List Bool) (e : Int) :
    onesM (own.take (k + 1)) l e = ((onesM (own.take k) l e).1 ++ [(oneB (onesM (own.take k) l e).2.1 (onesM (own.take k) l e).2.2 v).1], (oneB (onesM (own.take k) l e).2.1 (onesM (own.take k) l e).2.2 v).2) := by
  rw [List.take_add_one, h, onesM_app]
  rfl
theorem onesM_len : ∀ (a : List Int) (l : List Bool) (e : Int), (onesM a l e).1.length = a.length
  | [], _, _ => rfl
  | v :: a, l, e => by simp [onesM, onesM_len a]
/-- packets, one after the other -/
def packsG (b : List Nat) : Nat → Int → Except Int (List (Int × List Int) × Int)
  | 0, z => .ok ([], z)
  | f + 1, z => if 8 ≤ 8 * (b.length : Int) - z then match GetM b z with
      | .error e => .error e
      | .ok r => match packsG b f r.2.2 with
        | .error e => .error e
        | .ok s => .ok ((r.1, r.2.1) :: s.1, s.2)
    else .ok ([], z)
/-- what is said of a message's numbers: t, ack, of and the form's own -/
def partsM (id : Int) (h : List Int) : Int × Int × Int × List Int :=
  if upM id = true then (h.getD 0 0, 0, h.getD 1 0, h.drop 2) else (h.getD 0 0, h.getD 1 0, h.getD 2 0, h.drop 3)
/-- what is wrong behind the number -/
def errA (id e : Int) : Int := if e = 0 ∧ (formM id).isSome = false then 4 else e
/-- .. and behind the length -/
def errB (n : Nat) (x e : Int) : Int := if e = 0 ∧ x ≠ n then 8 else e
/-- behind a message's numbers: its packets -/
def tailM (b : List Nat) (id : Int) (h : List Int × List Bool × Int) : Except Int (Int × Int × Int × Int × List Int × List (Int × List Int)) :=
  if h.2.2 ≠ 0 then .error h.2.2
  else match packsG b (8 * b.length) (8 * (b.length : Int) - h.2.1.length) with
    | .error e => .error e
    | .ok s =>
      if blankM b (usedM id s.1) = false then .error 8
      else if fitsM ((formM id).getD ([], 0, [])).2.1 ((formM id).getD ([], 0, [])).2.2 (s.1.map (·.1)) = false then .error 50
      else .ok (id, (partsM id h.1).1, (partsM id h.1).2.1, (partsM id h.1).2.2.1, (partsM id h.1).2.2.2, s.1)
/-- a message out of bytes -/
def DecodeM (b : List Nat) : Except Int (Int × Int × Int × Int × List Int × List (Int × List Int)) :=
  let r0 := takeB (bitsB b) 0 0
  let r1 := takeB r0.2.1 (errA r0.1 r0.2.2) 1
  tailM b r0.1 (onesM (headM r0.1 ++ ((formM r0.1).getD ([], 0, [])).1) r1.2.1 (errB b.length r1.1 r1.2.2))

def zMsg : Array Value := #[.int .i64 0, .int .i64 0, .int .i64 0, .int .i64 0, .slice none 0 0, .slice none 0 0]
/-- the blocks of Decode: rs the result, pm the message, pf the form, pr the reader over rp -/
def DSt (w0 w5 : World) (rs pr rp pm pf RB RH : Nat) (b : List Nat) (m f : Array Value) (l : List Bool) (e : Int) (w : World) : Prop :=
  RdrAt w pr rp RB RH b l e ∧ Blk w pm 25 m ∧ Blk w rs 25 zMsg ∧ Blk w pf 42 f ∧ Keep Never w0 w ∧
    (pm ≠ pr ∧ pm ≠ rp ∧ rs ≠ pr ∧ rs ≠ rp ∧ pf ≠ pr ∧ pf ≠ rp ∧ pm ≠ rs ∧ pm ≠ pf ∧ rs ≠ pf) ∧ (w0.heap.size ≤ pr ∧ w0.heap.size ≤ rp ∧ w0.heap.size ≤ pm ∧ w0.heap.size ≤ rs ∧ w0.heap.size ≤ pf) ∧ (pm < RB ∨ RH ≤ pm) ∧ Keep (fun q => q = pr ∨ q = rp ∨ q = pm) w5 w
namespace DSt
variable {w0 w5 w w' : World} {rs pr rp pm pf RB RH : Nat} {b : List Nat} {m f : Array Value} {l l' : List Bool} {e e' : Int}
theorem after (h : DSt w0 w5 rs pr rp pm pf RB RH b m f l e w) (hr : RdrAt w' pr rp RB RH b l' e') (hk : Keep (fun q => q = pr ∨ q = rp) w w') : DSt w0 w5 rs pr rp pm pf RB RH b m f l' e' w' := by
  obtain ⟨_, h2, h3, h4, h5, h6, h7, h8, h9⟩ := h
  exact ⟨hr, h2.keep hk (by omega), h3.keep hk (by omega), h4.keep hk (by omega), h5.then_ hk (fun i hi e => by omega), h6, h7, h8, h9.trans (hk.mono (fun q _ h => by omega))⟩
theorem never (h : DSt w0 w5 rs pr rp pm pf RB RH b m f l e w) (hk : Keep Never w w') : DSt w0 w5 rs pr rp pm pf RB RH b m f l e w' := by
  obtain ⟨h1, h2, h3, h4, h5, h6, h7, h8, h9⟩ := h
  exact ⟨h1.never hk, h2.keep hk (fun h => h), h3.keep hk (fun h => h), h4.keep hk (fun h => h), h5.trans hk, h6, h7, h8, h9.trans (hk.mono (fun _ _ h => h.elim))⟩
theorem put (h : DSt w0 w5 rs pr rp pm pf RB RH b m f l e w) (i : Nat) (u : Value) : DSt w0 w5 rs pr rp pm pf RB RH b (m.setIfInBounds i u) f l e (w.setCell ⟨pm, i, none⟩ u) := by
  obtain ⟨h1, h2, h3, h4, h5, h6, h7, h8, h9⟩ := h
  have hk : Keep (fun q => q = pm) w (w.setCell ⟨pm, i, none⟩ u) := Keep.set_ (Keep.refl (fun q => q = pm) w) (p := ⟨pm, i, none⟩) (.inl rfl) u
  exact ⟨h1.keep hk (by omega) (fun q hq => by subst hq; exact h8), h2.set_ i u, h3.keep hk (by omega), h4.keep hk (by omega), h5.then_ hk (fun i hi e => by omega), h6, h7, h8, h9.trans (hk.mono (fun q _ h => by omega))⟩
theorem err (h : DSt w0 w5 rs pr rp pm pf RB RH b m f l e w) (x : Int) : DSt w0 w5 rs pr rp pm pf RB RH b m f l x (w.setCell ⟨pr, 1, none⟩ (.int .i64 x)) := by
  have hk : Keep (fun q => q = pr) w (w.setCell ⟨pr, 1, none⟩ (.int .i64 x)) := Keep.set_ (Keep.refl (fun q => q = pr) w) (p := ⟨pr, 1, none⟩) (.inl rfl) _
  obtain ⟨a1, ⟨k, a2, a3⟩, a4, a5, a6, a7, a8⟩ := h.1
  exact h.after ⟨a1.set_ 1 (.int .i64 x), ⟨k, a2.keep hk (fun q hq => by subst hq; exact a5), a3⟩, a4, a5, a6, a7, Nat.le_trans a8 hk.size⟩ (hk.mono (fun q _ h => .inl h))
theorem row {S : Nat → Prop} (h : DSt w0 w5 rs pr rp pm pf RB RH b m f l e w) (hk : Keep S w w') (hS : ∀ k, S k → w5.heap.size ≤ k) (hm : pm < w5.heap.size ∧ pf < w5.heap.size ∧ pr < w5.heap.size ∧ rp < w5.heap.size ∧ rs < w5.heap.size ∧ RH ≤ w5.heap.size ∧ w0.heap.size ≤ w5.heap.size) : DSt w0 w5 rs pr rp pm pf RB RH b m f l e w' := by
  obtain ⟨h1, h2, h3, h4, h5, h6, h7, h8, h9⟩ := h
  exact ⟨h1.keep hk (fun q => by have := hS _ q; omega) (fun q hq => .inr (by have := hS _ hq; omega)), h2.keep hk (fun q => by have := hS _ q; omega), h3.keep hk (fun q => by have := hS _ q; omega), h4.keep hk (fun q => by have := hS _ q; omega), h5.then_ hk (fun i hi q => by have := hS _ q; omega), h6, h7, h8, h9.then_ hk (fun i hi q => by have := hS _ q; omega)⟩
end DSt
/-- what Decode leaves -/
def DecRet (w : World) (r : Except Int (Int × Int × Int × Int × List Int × List (Int × List Int))) (en : Ending) (w' : World) : Prop :=
  ∃ (id t ack of_ : Int) (A : Option Addr) (n c : Nat) (A2 : Option Addr) (k d : Nat) (x : Int), en = .returned (.tuple #[.agg (msgCells id t ack of_ A n c A2 k d), .int .i64 x]) ∧ Keep Never w w' ∧
    ((∃ V P, r = .ok (id, t, ack, of_, V, P) ∧ x = 0 ∧ MsgAt w' w'.heap.size A n c V A2 k d P) ∨ (r = .error x ∧ x ≠ 0 ∧ id = 0 ∧ t = 0 ∧ ack = 0 ∧ of_ = 0 ∧ A = none ∧ n = 0 ∧ c = 0 ∧ A2 = none ∧ k = 0 ∧ d = 0))

end Go.Proofs.YtiebjnibmomcjaaDoor
