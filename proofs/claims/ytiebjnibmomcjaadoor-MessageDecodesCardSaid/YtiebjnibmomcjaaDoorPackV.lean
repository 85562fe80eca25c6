/- Package packet: the walk through parts, whatever is done with a variable. -/
import Derived.Test.YtiebjnibmomcjaaDoorPackQ
import Derived.Test.YtiebjnibmomcjaaDoorPackE
import Derived.Deep.RegionHeld3
import Derived.Recover
import Derived.StillTailTactics
namespace Go.Proofs.YtiebjnibmomcjaaDoor
open Go.RowKit

/-- the panic that ends all -/
def faultV (x : Int) : PanicEntry := ⟨.iface 114 (.agg #[.int .i64 x]), false, false⟩

/-- what a variable's function leaves: S what it may turn, Q what is its own -/
def VPost {σ : Type} (Inv : σ → (Nat → Prop) → World → Prop) (S Q : Nat → Prop) (w : World) (r : Except Int (Int × σ)) (e : Ending) (w' : World) : Prop :=
  Keep (fun k => S k ∨ Q k) w w' ∧ ∃ Q', (∀ k, Q' k → Q k ∨ w.heap.size ≤ k) ∧ (∀ k, Q' k → k < w'.heap.size) ∧
    ((∃ n s', r = .ok (n, s') ∧ e = .returned (.int .i64 n) ∧ Inv s' Q' w' ∧ -9223372036854775808 ≤ n ∧ n ≤ 9223372036854775807) ∨ (∃ x s', r = .error x ∧ e = .panicked [faultV x] ∧ Inv s' Q' w'))
/-- what the walk leaves -/
def WPost {σ : Type} (Inv : σ → (Nat → Prop) → World → Prop) (S Q : Nat → Prop) (w : World) (r : Except Int σ) (e : Ending) (w' : World) : Prop :=
  Keep (fun k => S k ∨ Q k) w w' ∧ ∃ Q', (∀ k, Q' k → Q k ∨ w.heap.size ≤ k) ∧ (∀ k, Q' k → k < w'.heap.size) ∧
    ((∃ s', r = .ok s' ∧ e = .returned (.tuple #[]) ∧ Inv s' Q' w') ∨ (∃ x s', r = .error x ∧ e = .panicked [faultV x] ∧ Inv s' Q' w'))
/-- a variable's function does as val says -/
def Does (g : Nat) (caps : Array Value) {σ : Type} (val : Val σ) (Inv : σ → (Nat → Prop) → World → Prop) (S : Nat → Prop) : Prop :=
  ∀ (v : Int) (s : σ) (Q : Nat → Prop) (w : World), Inv s Q w → val v s ≠ .error 999 → Calls Tryd.prog g (#[.int .i64 v] ++ caps) w (VPost Inv S Q w (val v s))

def Parts.sz : Parts → Nat
  | .nil => 0
  | .cons _ _ l r => l.sz + r.sz + 1

/-- one call behind another -/
theorem keep_next {S Q Q1 : Nat → Prop} {w w1 w2 : World} (h : Keep (fun k => S k ∨ Q k) w w1) (hq : ∀ k, Q1 k → Q k ∨ w.heap.size ≤ k) (h' : Keep (fun k => S k ∨ Q1 k) w1 w2) : Keep (fun k => S k ∨ Q k) w w2 :=
  h.then_ h' (fun i hi hs => by
    rcases hs with hs | hs
    · exact .inl hs
    · rcases hq i hs with h | h
      · exact .inr h
      · omega)
theorem own_next {Q Q1 Q2 : Nat → Prop} {w w1 : World} {S : Nat → Prop} (h : Keep S w w1) (hq : ∀ k, Q1 k → Q k ∨ w.heap.size ≤ k) (hq2 : ∀ k, Q2 k → Q1 k ∨ w1.heap.size ≤ k) : ∀ k, Q2 k → Q k ∨ w.heap.size ≤ k := by
  intro k hk
  rcases hq2 k hk with h1 | h1
  · exact hq k h1
  · exact .inr (Nat.le_trans h.size h1)

set_option maxHeartbeats 8000000 in
set_option maxRecDepth 100000 in
theorem walk_any {σ : Type} (val : Val σ) (Inv : σ → (Nat → Prop) → World → Prop) (S : Nat → Prop) (g : Nat) (caps : Array Value) (hg : ∀ args w, (callFunc g args).run Tryd.prog w = .ok (.enter g args) w) (hD : Does g caps val Inv S)
    (hI : ∀ s Q w w', Inv s Q w → Keep Never w w' → Inv s Q w') (p B : Nat) (D : Nat → Prop) (hS : ∀ k, D k → ¬ S k ∧ k < B) (hp : ¬ S p ∧ p < B) (hSB : ∀ k, S k → k < B) :
    ∀ (N : Nat) (T : Parts), T.sz ≤ N → ∀ (A : Option Addr) (n c : Nat) (s : σ) (Q : Nat → Prop) (w : World), PSl w D A n c T → Blk w p 116 #[.func (.func g) #[] caps] → B ≤ w.heap.size → Inv s Q w → (∀ k, D k → ¬ Q k) → ¬ Q p → (∀ k, Q k → k < w.heap.size) → walkL val T 0 s ≠ .error 999 →
    Calls Tryd.prog 73 #[.pointer (some ⟨p, 0, none⟩), .slice A n c] w (WPost Inv S Q w (walkL val T 0 s)) := by
  intro N
  induction N with
  | zero =>
    intro T hN A n c s Q w hT hB hBw hs hDQ hpQ hQw hok
    have : T = .nil := by cases T with
      | nil => rfl
      | cons v wh l r => simp [Parts.sz] at hN
    subst this
    obtain ⟨h1, h2, h3, xs, h4, h5⟩ := hT
    simp only [Parts.len] at h1
    subst h1
    clear h4 h5 h3 h2
    have Hs := Lib.hid hs
    have HQw := Lib.hid hQw
    clear hB hs hok hD hI hS hp hSB hDQ hpQ hQw
    go_enter Tryd.func73, Tryd.ntmps73
    go_wp2
    go_loop [9] (fun i => i = .int .i64 0) (fun i => 0)
    case atStart => rfl
    case round =>
      subst hrel
      go_wp2
      go_end0
      exact ⟨Keep.refl _ _, Q, fun _ h => .inl h, HQw.out, .inl ⟨s, rfl, rfl, Hs.out⟩⟩
  | succ N ih =>
    intro T hN A n c s Q w hT hB hBw hs hDQ hpQ hQw hok
    have IH := Lib.hid ih
    have HT := Lib.hid hT
    have HB := Lib.hid hB
    have Hs := Lib.hid hs
    have Hok := Lib.hid hok
    have HN := Lib.hid hN
    have HD := Lib.hid hD
    have HI := Lib.hid hI
    have HS := Lib.hid hS
    have Hp := Lib.hid hp
    have HDQ := Lib.hid hDQ
    have HpQ := Lib.hid hpQ
    have HQw := Lib.hid hQw
    have HSB := Lib.hid hSB
    have HBw := Lib.hid hBw
    have hn9 : n ≤ 9223372036854775807 := by have := HT.out.2.1; have := HT.out.2.2.1; unfold maxLen at this; omega
    clear ih hT hB hs hok hN hD hI hS hp hDQ hpQ hQw hSB hBw
    go_enter Tryd.func73, Tryd.ntmps73
    go_wp2
    go_loopw [4, 6, 9] (fun la _ i wr => ∃ (k : Nat) (last : Int), k ≤ n ∧ i = .int .i64 k ∧ la = .int .i64 last ∧ -9223372036854775808 ≤ last ∧ last ≤ 9223372036854775807 ∧
        Hid (Keep (fun k => S k ∨ Q k) w wr ∧ ∃ (Qr : Nat → Prop) (R : Parts) (s' : σ) (ys zs : List Value), (∀ k, Qr k → Q k ∨ w.heap.size ≤ k) ∧ (∀ k, Qr k → k < wr.heap.size) ∧ k + R.len = n ∧ R.sz ≤ N + 1 ∧ ys.length = k * 3 ∧ RdD wr D 3 A n (ys ++ zs) ∧ PRows wr D R zs ∧ Inv s' Qr wr ∧ walkL val R last s' = walkL val T 0 s))
      (fun _ _ i _ => n - (intOf i).toNat)
    case atStart =>
      obtain ⟨h1, h2, h3, xs, h4, h5⟩ := HT.out
      exact ⟨0, 0, by omega, rfl, rfl, by omega, by omega, Keep.refl _ _, Q, T, s, [], xs, fun _ h => .inl h, HQw.out, by omega, HN.out, rfl, h4, h5, Hs.out, rfl⟩
    case round =>
      obtain ⟨k, last, hk, rfl, rfl, hl1, hl2, HH⟩ := hrel
      by_cases h0 : k < n
      · obtain ⟨hkp, Qr, R, s', ys, zs, hQ1, hQ2, e1, e2, e3, hrd, hpr, hinv, hw⟩ := HH.out
        cases R with
        | nil => simp [Parts.len] at e1; omega
        | cons v wh l r =>
          obtain ⟨A', n', c', xs', zs', rfl, hl3, hl4, hl5, hrd', hpl, hpr'⟩ := hpr
          obtain ⟨ad, hA, hDad, hc⟩ := hrd.2 (by omega)
          have c0 := hc (k * 3) (.int .i64 v) (by rw [List.getElem?_append_right (by omega), e3]; simp)
          have c1 := hc (k * 3 + 1) (.int .i64 wh) (by rw [List.getElem?_append_right (by omega), e3]; simp)
          have c2 := hc (k * 3 + 2) (.slice A' n' c') (by rw [List.getElem?_append_right (by omega), e3]; simp)
          rw [fld _ _ (by omega)] at c1 c2
          have HbR := Lib.hid (HB.out.keep hkp (fun h => by rcases h with h | h; exact Hp.out.1 h; exact HpQ.out h))
          have cw : wr.cell? ⟨p, 0, none⟩ = some (.func (.func g) #[] caps) := HbR.out.cell 0
          have hDr : Hid (∀ k, D k → ¬ (S k ∨ Qr k)) := by
            rintro k hk (h | h)
            · exact (HS.out k hk).1 h
            · rcases hQ1 k h with h | h
              · exact HDQ.out k hk h
              · have := (HS.out k hk).2; have := HBw.out; omega
          have hpr9 : Hid (¬ Qr p) := by
            intro h
            rcases hQ1 p h with h | h
            · exact HpQ.out h
            · have := Hp.out.2; have := HBw.out; omega
          have Hrd := Lib.hid hrd
          have Hpr := Lib.hid hpr'
          have Hpl := Lib.hid hpl
          have Hrd' := Lib.hid hrd'
          have Hinv := Lib.hid hinv
          have Hw := Lib.hid hw
          have Hk := Lib.hid hkp
          have HQ1 := Lib.hid hQ1
          have HQ2 := Lib.hid hQ2
          have E1 : Hid (k + (Parts.cons v wh l r).len = n) := e1
          have E2 : Hid ((Parts.cons v wh l r).sz ≤ N + 1) := e2
          have E3 : Hid (ys.length = k * 3) := e3
          have E4 : Hid (n' = l.len ∧ n' ≤ c' ∧ c' ≤ maxLen) := ⟨hl3, hl4, hl5⟩
          -- the next round's head
          have HNext : Hid (∀ (W : World) (last' : Int) (s2 : σ) (Q2 : Nat → Prop), Keep (fun k => S k ∨ Qr k) wr W → (∀ k, Q2 k → Qr k ∨ wr.heap.size ≤ k) → (∀ k, Q2 k → k < W.heap.size) → Inv s2 Q2 W → walkL val r last' s2 = walkL val T 0 s →
              Keep (fun k => S k ∨ Q k) w W ∧ ∃ (Qr : Nat → Prop) (R : Parts) (s' : σ) (ys zs : List Value), (∀ k, Qr k → Q k ∨ w.heap.size ≤ k) ∧ (∀ k, Qr k → k < W.heap.size) ∧ (k + 1) + R.len = n ∧ R.sz ≤ N + 1 ∧ ys.length = (k + 1) * 3 ∧ RdD W D 3 A n (ys ++ zs) ∧ PRows W D R zs ∧ Inv s' Qr W ∧ walkL val R last' s' = walkL val T 0 s) := by
            intro W last' s2 Q2 hkk hq2 hq3 hi2 hw2
            refine ⟨keep_next hkp hQ1 hkk, Q2, r, s2, ys ++ [.int .i64 v, .int .i64 wh, .slice A' n' c'], zs', own_next hkp hQ1 hq2, hq3, ?_, ?_, ?_, ?_, ?_, hi2, hw2⟩
            · simp only [Parts.len] at e1; omega
            · simp only [Parts.sz] at e2; omega
            · simp [e3]; omega
            · have := hrd.keep (by omega) hkk (D' := D) (fun k _ h => ⟨hDr.out k h, h⟩)
              simpa using this
            · exact hpr'.keep hkk (D' := D) (fun k _ h => ⟨hDr.out k h, h⟩)
          subst hA
          clear hrd hpr' hpl hrd' hinv hw hkp e1 e2 e3 hl3 hl4 hl5 hc HH hDad hQ1 hQ2
          by_cases w0 : wh = 0
          · subst w0
            have hne : val v s' ≠ .error 999 := by
              intro h
              have := Hw.out
              simp only [walkL, if_true, h] at this
              exact Hok.out this.symm
            have hdo : ∀ W, Keep Never wr W → Calls Tryd.prog g (#[.int .i64 v] ++ caps) W (VPost Inv S Qr W (val v s')) := fun W hW => HD.out v s' Qr W (HI.out _ _ _ _ Hinv.out hW) hne
            have Hdo := Lib.hid hdo
            rcases hv : val v s' with x | ⟨m, s2⟩
            · have hfin : Hid (walkL val T 0 s = .error x) := by
                have := Hw.out
                simp only [walkL, if_true, hv] at this
                exact this.symm
              have Hv := Lib.hid hv
              clear hne hv hdo
              go_wp2
              obtain ⟨W, hW⟩ : ∃ W, wr.alloc (.cells #[.int .i64 v, .int .i64 0, .slice A' n' c'] 127) = W := ⟨_, rfl⟩
              rw [hW]
              have hbW := Blk.new wr 127 #[.int .i64 v, .int .i64 0, .slice A' n' c']
              rw [hW] at hbW
              have hkW : Keep Never wr W := by rw [← hW]; exact (Keep.refl Never wr).alloc _
              have hsW : W.heap.size = wr.heap.size + 1 := by rw [← hW]; simp
              have cW0 : W.cell? ⟨wr.heap.size, 0, none⟩ = some (.int .i64 v) := hbW.cell 0
              have cW1 : W.cell? ⟨p, 0, none⟩ = some (.func (.func g) #[] caps) := (hkW.cell (p := ⟨p, 0, none⟩) (cell_lt cw) (fun h => h)).trans cw
              have HkW := Lib.hid hkW
              clear hW hbW hkW hsW
              go_still_tail 6, (by kernel_rfl)
              change wpList _ _ _ _ _ (World.drew _)
              go_wp2_with fail
              refine (Hdo.out _ (HkW.out.drew)).mono ?_
              rintro e w' ⟨hk5, Q2, hq2, hq3, hpo⟩
              rw [Hv.out] at hpo
              rcases hpo with ⟨_, _, h, _⟩ | ⟨y, s2, h, rfl, hi2⟩
              · cases h
              injection h with h
              subst h
              have hkk : Keep (fun k => S k ∨ Qr k) wr w' := (HkW.out.drew.mono (fun _ _ h => h.elim)).trans hk5
              have hq9 := own_next (HkW.out.drew) (fun k h => (.inl h : Qr k ∨ wr.heap.size ≤ k)) hq2
              have HF : Hid (WPost Inv S Q w (walkL val T 0 s) (.panicked [faultV x]) w') := ⟨keep_next Hk.out HQ1.out hkk, Q2, own_next Hk.out HQ1.out hq9, hq3, .inr ⟨x, s2, hfin.out, rfl, hi2⟩⟩
              clear hk5 hq2 hi2 hkk hq9 hq3
              go_wp2_with fail
              exact ⟨rfl, HF.out⟩
            · have hfin : Hid (walkL val r m s2 = walkL val T 0 s) := by
                have := Hw.out
                simp only [walkL, if_true, hv] at this
                exact this
              have Hv := Lib.hid hv
              clear hne hv hdo
              go_wp2
              obtain ⟨W, hW⟩ : ∃ W, wr.alloc (.cells #[.int .i64 v, .int .i64 0, .slice A' n' c'] 127) = W := ⟨_, rfl⟩
              rw [hW]
              have hbW := Blk.new wr 127 #[.int .i64 v, .int .i64 0, .slice A' n' c']
              rw [hW] at hbW
              have hkW : Keep Never wr W := by rw [← hW]; exact (Keep.refl Never wr).alloc _
              have hsW : W.heap.size = wr.heap.size + 1 := by rw [← hW]; simp
              have cW0 : W.cell? ⟨wr.heap.size, 0, none⟩ = some (.int .i64 v) := hbW.cell 0
              have cW1 : W.cell? ⟨p, 0, none⟩ = some (.func (.func g) #[] caps) := (hkW.cell (p := ⟨p, 0, none⟩) (cell_lt cw) (fun h => h)).trans cw
              have HkW := Lib.hid hkW
              clear hW hbW hkW hsW
              go_still_tail 6, (by kernel_rfl)
              change wpList _ _ _ _ _ (World.drew _)
              go_wp2_with fail
              refine (Hdo.out _ (HkW.out.drew)).mono ?_
              rintro e w' ⟨hk5, Q2, hq2, hq3, hpo⟩
              rw [Hv.out] at hpo
              rcases hpo with ⟨m1, s1, h, rfl, hi2, b1, b2⟩ | ⟨_, _, h, _⟩
              rotate_left
              · cases h
              injection h with h
              injection h with h h'
              subst h
              subst h'
              have hkk : Keep (fun k => S k ∨ Qr k) wr w' := (HkW.out.drew.mono (fun _ _ h => h.elim)).trans hk5
              have hq9 := own_next (HkW.out.drew) (fun k h => (.inl h : Qr k ∨ wr.heap.size ≤ k)) hq2
              have HF := Lib.hid (HNext.out w' m s2 Q2 hkk hq9 hq3 hi2 hfin.out)
              clear hk5 hq2 hi2 hkk hq9 hq3
              go_wp2_with fail
              go_roundw
              case rel => exact ⟨k + 1, m, by omega, by go_num, rfl, b1, b2, HF.out⟩
              case measure => simp [intOf]; omega
          · have w1 : (wh == 0) = false := by simpa using w0
            have HC : Hid (∀ (s1 : σ) (Q1 : Nat → Prop) (W : World), Inv s1 Q1 W → Keep (fun k => S k ∨ Qr k) wr W → (∀ k, Q1 k → Qr k ∨ wr.heap.size ≤ k) → (∀ k, Q1 k → k < W.heap.size) → walkL val l 0 s1 ≠ .error 999 →
                Calls Tryd.prog 73 #[.pointer (some ⟨p, 0, none⟩), .slice A' n' c'] W (WPost Inv S Q1 W (walkL val l 0 s1))) := by
              intro s1 Q1 W hi hkk hq hq3 hne
              have hsz : B ≤ wr.heap.size := Nat.le_trans HBw.out Hk.out.size
              refine IH.out l (by have := E2.out; simp only [Parts.sz] at this; omega) A' n' c' s1 Q1 W ⟨E4.out.1, E4.out.2.1, E4.out.2.2, xs', Hrd'.out.keep (by omega) hkk (fun k _ h => ⟨hDr.out k h, h⟩), Hpl.out.keep hkk (fun k _ h => ⟨hDr.out k h, h⟩)⟩
                (HbR.out.keep hkk (fun h => by rcases h with h | h; exact Hp.out.1 h; exact hpr9.out h)) (Nat.le_trans hsz hkk.size) hi ?_ ?_ hq3 hne
              · intro k hk h
                rcases hq k h with h | h
                · exact hDr.out k hk (.inr h)
                · have := (HS.out k hk).2; omega
              · intro h
                rcases hq p h with h | h
                · exact hpr9.out h
                · have := Hp.out.2; omega
            by_cases w2 : wh = 1
            · subst w2
              have hok : Hid (iterE (walkL val l 0) last.toNat s' ≠ .error 999) := by
                intro h
                have := Hw.out
                simp only [walkL, if_neg w0, if_true, h] at this
                exact Hok.out this.symm
              have hfin : Hid ((match iterE (walkL val l 0) last.toNat s' with | .error e => .error e | .ok s2 => walkL val r last s2) = walkL val T 0 s) := by
                have := Hw.out
                simp only [walkL, if_neg w0, if_true] at this
                exact this
              go_wp2
              obtain ⟨W, hW⟩ : ∃ W, wr.alloc (.cells #[.int .i64 v, .int .i64 1, .slice A' n' c'] 127) = W := ⟨_, rfl⟩
              rw [hW]
              have hbW := Blk.new wr 127 #[.int .i64 v, .int .i64 1, .slice A' n' c']
              rw [hW] at hbW
              have hkW : Keep Never wr W := by rw [← hW]; exact (Keep.refl Never wr).alloc _
              have hsW : W.heap.size = wr.heap.size + 1 := by rw [← hW]; simp
              have HbW := Lib.hid hbW
              have HkW := Lib.hid hkW
              have HsW := Lib.hid hsW
              clear hW hbW hkW hsW
              have hinW : Inv s' Qr W := HI.out _ _ _ _ Hinv.out HkW.out
              have HinW := Lib.hid hinW
              clear hinW
              obtain ⟨wo, rfl⟩ : ∃ wo : World, wo = wr := ⟨_, rfl⟩
              go_loopw [29] (fun i wi => ∃ j : Nat, j ≤ last.toNat ∧ i = .int .i64 j ∧ Hid (Keep (fun k => S k ∨ Qr k) W wi ∧ ∃ (Q2 : Nat → Prop) (s2 : σ), (∀ k, Q2 k → Qr k ∨ W.heap.size ≤ k) ∧ (∀ k, Q2 k → k < wi.heap.size) ∧ Inv s2 Q2 wi ∧ iterE (walkL val l 0) (last.toNat - j) s2 = iterE (walkL val l 0) last.toNat s'))
                (fun i _ => last.toNat - (intOf i).toNat)
              case atStart => exact ⟨0, by omega, rfl, Keep.refl _ _, Qr, s', fun _ h => .inl h, fun k h => Nat.lt_of_lt_of_le (HQ2.out k h) HkW.out.size, HinW.out, rfl⟩
              case round =>
                obtain ⟨j, hj, rfl, HJ⟩ := hrel
                have hkW1 : Hid (∀ {W2 : World}, Keep (fun k => S k ∨ Qr k) W W2 → Keep (fun k => S k ∨ Qr k) wo W2) := fun h => (HkW.out.mono (fun _ _ h => h.elim)).trans h
                by_cases hjl : (j : Int) < last
                · obtain ⟨hk1, Q2, s2, hq1, hq2, hi2, hit⟩ := HJ.out
                  have c5 : wr.cell? ⟨wo.heap.size, 2, none⟩ = some (.slice A' n' c') := (HbW.out.keep hk1 (fun h => by
                    rcases h with h | h
                    · have := HSB.out _ h; have := HBw.out; have := Hk.out.size; omega
                    · have := HQ2.out _ h; omega)).cell 2
                  obtain ⟨m, hm⟩ : ∃ m, last.toNat - j = m + 1 := ⟨last.toNat - j - 1, by omega⟩
                  rw [hm] at hit
                  simp only [iterE] at hit
                  have hne : walkL val l 0 s2 ≠ .error 999 := by intro h; rw [h] at hit; exact hok.out hit.symm
                  have hq1' : ∀ k, Q2 k → Qr k ∨ wo.heap.size ≤ k := fun k h => by
                    rcases hq1 k h with h | h
                    · exact .inl h
                    · exact .inr (Nat.le_trans HkW.out.size h)
                  have hdo := HC.out s2 Q2 wr hi2 (hkW1.out hk1) hq1' hq2 hne
                  have Hdo := Lib.hid hdo
                  have Hk1 := Lib.hid hk1
                  have Hq1 := Lib.hid hq1'
                  have Hq1W := Lib.hid hq1
                  have Hm : Hid (last.toNat - j = m + 1) := hm
                  rcases hv : walkL val l 0 s2 with x | s3
                  · rw [hv] at hit
                    have hfx : Hid (walkL val T 0 s = .error x) := by
                      have := hfin.out
                      rw [← hit] at this
                      exact this.symm
                    have Hv := Lib.hid hv
                    clear hit hne hv hdo hk1 hq1' hq1 hq2 hi2 hm HJ
                    go_wp2_with fail
                    refine Hdo.out.mono ?_
                    rintro e w' ⟨hk5, Q3, hq5, hq6, hpo⟩
                    rw [Hv.out] at hpo
                    rcases hpo with ⟨_, h, _⟩ | ⟨y, s4, h, rfl, hi4⟩
                    · cases h
                    injection h with h
                    subst h
                    have hkk := keep_next (hkW1.out Hk1.out) Hq1.out hk5
                    have hq9 := own_next (hkW1.out Hk1.out) Hq1.out hq5
                    have HF : Hid (WPost Inv S Q w (walkL val T 0 s) (.panicked [faultV x]) w') := ⟨keep_next Hk.out HQ1.out hkk, Q3, own_next Hk.out HQ1.out hq9, hq6, .inr ⟨x, s4, hfx.out, rfl, hi4⟩⟩
                    clear hk5 hq5 hi4 hkk hq9 hq6
                    go_wp2_with fail
                    exact ⟨rfl, HF.out⟩
                  · rw [hv] at hit
                    have Hv := Lib.hid hv
                    have Hit := Lib.hid hit
                    clear hit hne hv hdo hk1 hq1' hq1 hq2 hi2 hm HJ
                    go_wp2_with fail
                    refine Hdo.out.mono ?_
                    rintro e w' ⟨hk5, Q3, hq5, hq6, hpo⟩
                    rw [Hv.out] at hpo
                    rcases hpo with ⟨s4, h, rfl, hi4⟩ | ⟨_, _, h, _⟩
                    rotate_left
                    · cases h
                    injection h with h
                    subst h
                    have HF : Hid (Keep (fun k => S k ∨ Qr k) W w' ∧ ∃ (Q2 : Nat → Prop) (s2 : σ), (∀ k, Q2 k → Qr k ∨ W.heap.size ≤ k) ∧ (∀ k, Q2 k → k < w'.heap.size) ∧ Inv s2 Q2 w' ∧ iterE (walkL val l 0) (last.toNat - (j + 1)) s2 = iterE (walkL val l 0) last.toNat s') :=
                      ⟨keep_next Hk1.out Hq1W.out hk5, Q3, s3, own_next Hk1.out Hq1W.out hq5, hq6, hi4, by rw [show last.toNat - (j + 1) = m by have := Hm.out; omega]; exact Hit.out⟩
                    clear hk5 hq5 hq6 hi4
                    go_wp2_with fail
                    go_roundw
                    case rel => exact ⟨j + 1, by omega, by go_num, HF.out⟩
                    case measure => simp [intOf]; omega
                · obtain ⟨hk1, Q2, s2, hq1, hq2, hi2, hit⟩ := HJ.out
                  rw [show last.toNat - j = 0 by omega] at hit
                  have hw2 : walkL val r last s2 = walkL val T 0 s := by have := hfin.out; rw [← hit] at this; exact this
                  have hq1' : ∀ k, Q2 k → Qr k ∨ wo.heap.size ≤ k := fun k h => by
                    rcases hq1 k h with h | h
                    · exact .inl h
                    · exact .inr (Nat.le_trans HkW.out.size h)
                  have HF := Lib.hid (HNext.out wr last s2 Q2 (hkW1.out hk1) hq1' hq2 hi2 hw2)
                  clear hk1 hq1 hq2 hi2 hit hw2 hq1' HJ
                  go_wp2_with fail
                  go_roundw
                  case rel => exact ⟨k + 1, last, by omega, by go_num, rfl, hl1, hl2, HF.out⟩
                  case measure => simp [intOf]; omega
            · have w3 : (wh == 1) = false := by simpa using w2
              have hkW : Hid (Keep Never wr (wr.alloc (.cells #[.int .i64 v, .int .i64 wh, .slice A' n' c'] 127))) := (Keep.refl Never wr).alloc _
              by_cases w4 : last = 1 ∨ wh = 3 ∧ last = 2
              · have hok : Hid (walkL val l 0 s' ≠ .error 999) := by
                  intro h
                  have := Hw.out
                  simp only [walkL, if_neg w0, if_neg w2, if_pos w4, h] at this
                  exact Hok.out this.symm
                have hfin : Hid ((match walkL val l 0 s' with | .error e => .error e | .ok s2 => walkL val r last s2) = walkL val T 0 s) := by
                  have := Hw.out
                  simp only [walkL, if_neg w0, if_neg w2, if_pos w4] at this
                  exact this
                have hbW : Hid (Blk (wr.alloc (.cells #[.int .i64 v, .int .i64 wh, .slice A' n' c'] 127)) wr.heap.size 127 #[.int .i64 v, .int .i64 wh, .slice A' n' c']) := Blk.new _ _ _
                have hdo : Hid (Calls Tryd.prog 73 #[.pointer (some ⟨p, 0, none⟩), .slice A' n' c'] (wr.alloc (.cells #[.int .i64 v, .int .i64 wh, .slice A' n' c'] 127)) (WPost Inv S Qr (wr.alloc (.cells #[.int .i64 v, .int .i64 wh, .slice A' n' c'] 127)) (walkL val l 0 s'))) :=
                  HC.out s' Qr _ (HI.out _ _ _ _ Hinv.out hkW.out) (hkW.out.mono (fun _ _ h => h.elim)) (fun k h => .inl h) (fun k h => Nat.lt_of_lt_of_le (HQ2.out k h) hkW.out.size) hok.out
                have hres : (∃ x, walkL val l 0 s' = .error x ∧ walkL val T 0 s = .error x) ∨ (∃ s3, walkL val l 0 s' = .ok s3 ∧ walkL val r last s3 = walkL val T 0 s) := by
                  have := hfin.out
                  rcases hv : walkL val l 0 s' with x | s3
                  · rw [hv] at this; exact .inl ⟨x, rfl, this.symm⟩
                  · rw [hv] at this; exact .inr ⟨s3, rfl, this⟩
                have Hres := Lib.hid hres
                have hgo : Hid (∀ (K : World → Prop), True) := fun _ => trivial
                clear hres hgo
                have hcase : (last == 1) = true ∨ ((last == 1) = false ∧ (wh == 3) = true ∧ (last == 2) = true) := by
                  by_cases h : last = 1
                  · exact .inl (by simpa using h)
                  · rcases w4 with h' | ⟨h1, h2⟩
                    · exact absurd h' h
                    · exact .inr ⟨by simpa using h, by simpa using h1, by simpa using h2⟩
                have w4' : Hid (last = 1 ∨ wh = 3 ∧ last = 2) := w4
                have w0' : Hid (¬ wh = 0) := w0
                have w2' : Hid (¬ wh = 1) := w2
                clear w4 w0 w2
                rcases hcase with hc1 | ⟨hc1, hc2, hc3⟩
                all_goals
                  go_wp2_with fail
                  refine hdo.out.mono ?_
                  rintro e w' ⟨hk5, Q3, hq5, hq6, hpo⟩
                  rcases Hres.out with ⟨x, hv, hT⟩ | ⟨s3, hv, hT⟩
                  · rw [hv] at hpo
                    rcases hpo with ⟨_, h, _⟩ | ⟨y, s4, h, rfl, hi4⟩
                    · cases h
                    injection h with h
                    subst h
                    have hkk : Keep (fun k => S k ∨ Qr k) wr w' := (hkW.out.mono (fun _ _ h => h.elim)).trans hk5
                    have hq9 := own_next hkW.out (fun k h => (.inl h : Qr k ∨ wr.heap.size ≤ k)) hq5
                    have HF : Hid (WPost Inv S Q w (walkL val T 0 s) (.panicked [faultV x]) w') := ⟨keep_next Hk.out HQ1.out hkk, Q3, own_next Hk.out HQ1.out hq9, hq6, .inr ⟨x, s4, hT, rfl, hi4⟩⟩
                    clear hk5 hq5 hi4 hkk hq9 hq6 hv hT
                    go_wp2_with fail
                    exact ⟨rfl, HF.out⟩
                  · rw [hv] at hpo
                    rcases hpo with ⟨s4, h, rfl, hi4⟩ | ⟨_, _, h, _⟩
                    rotate_left
                    · cases h
                    injection h with h
                    subst h
                    have hkk : Keep (fun k => S k ∨ Qr k) wr w' := (hkW.out.mono (fun _ _ h => h.elim)).trans hk5
                    have hq9 := own_next hkW.out (fun k h => (.inl h : Qr k ∨ wr.heap.size ≤ k)) hq5
                    have HF := Lib.hid (HNext.out w' last s3 Q3 hkk hq9 hq6 hi4 hT)
                    clear hk5 hq5 hi4 hkk hq9 hq6 hv hT
                    go_wp2_with fail
                    go_roundw
                    case rel => exact ⟨k + 1, last, by omega, by go_num, rfl, hl1, hl2, HF.out⟩
                    case measure => simp [intOf]; omega
              · have hT : walkL val r last s' = walkL val T 0 s := by
                  have := Hw.out
                  simp only [walkL, if_neg w0, if_neg w2, if_neg w4] at this
                  exact this
                have HF := Lib.hid (HNext.out _ last s' Qr (hkW.out.mono (fun _ _ h => h.elim)) (fun k h => .inl h) (fun k h => Nat.lt_of_lt_of_le (HQ2.out k h) hkW.out.size) (HI.out _ _ _ _ Hinv.out hkW.out) hT)
                have hcase : (last == 1) = false ∧ ((wh == 3) = false ∨ ((wh == 3) = true ∧ (last == 2) = false)) := by
                  refine ⟨by simp; exact fun h => w4 (.inl h), ?_⟩
                  by_cases h : wh = 3
                  · exact .inr ⟨by simpa using h, by simp; exact fun h' => w4 (.inr ⟨h, h'⟩)⟩
                  · exact .inl (by simpa using h)
                have w4' : Hid (¬ (last = 1 ∨ wh = 3 ∧ last = 2)) := w4
                have w0' : Hid (¬ wh = 0) := w0
                have w2' : Hid (¬ wh = 1) := w2
                clear w4 w0 w2 hT
                obtain ⟨hc1, hc2 | ⟨hc2, hc3⟩⟩ := hcase
                all_goals
                  go_wp2_with fail
                  go_roundw
                  case rel => exact ⟨k + 1, last, by omega, by go_num, rfl, hl1, hl2, HF.out⟩
                  case measure => simp [intOf]; omega
      · obtain rfl : k = n := by omega
        obtain ⟨hkp, Qr, R, s', ys, zs, hQ1, hQ2, e1, e2, e3, hrd, hpr, hinv, hw⟩ := HH.out
        cases R with
        | nil =>
          have HF : Hid (WPost Inv S Q w (walkL val T 0 s) (.returned (.tuple #[])) wr) := ⟨hkp, Qr, hQ1, hQ2, .inl ⟨s', hw.symm, rfl, hinv⟩⟩
          clear hrd hpr hinv hw hkp HH hQ1 hQ2
          go_wp2
          go_end0
          exact HF.out
        | cons v wh l r => simp [Parts.len] at e1

end Go.Proofs.YtiebjnibmomcjaaDoor
