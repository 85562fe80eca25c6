/- Reference of layer 5: (*Walk).run. -/
import Derived.Test.YtiebjnibmomcjaaDoorRefB
import Derived.Test.YtiebjnibmomcjaaDoorPackV
import Derived.Test.YtiebjnibmomcjaaDoorSld
namespace Go.Proofs.YtiebjnibmomcjaaDoor
open Go.RowKit

/-- how often what stands in brackets is gone through -/
def many (wh last : Int) : Nat := if wh = 1 then last.toNat else if last = 1 ∨ wh = 3 ∧ last = 2 then 1 else 0
/-- the document's 'run', over parts -/
def runT : Parts → Int → RW → RW
  | .nil, _, st => st
  | .cons v wh l r, last, st =>
    if st.E ≠ 0 then st
    else if wh = 0 then runT r (oneR st v).1 (oneR st v).2
    else runT r last (iterR (runT l 0) (many wh last) st)
theorem runT_err : ∀ (T : Parts) (last : Int) {st : RW}, st.E ≠ 0 → runT T last st = st
  | .nil, _, _, _ => rfl
  | .cons v wh l r, last, st, h => by simp only [runT]; rw [if_pos h]
theorem runT_walk : ∀ (T : Parts) (last : Int) (st : RW), st.E = 0 → EndR (walkL valR T last st) (runT T last st) := by
  intro T
  induction T with
  | nil => intro last st hst; exact ⟨rfl, hst⟩
  | cons v wh l r ihl ihr =>
    intro last st hst
    simp only [runT, if_neg (show ¬ st.E ≠ 0 by simpa using hst)]
    by_cases h0 : wh = 0
    · rw [if_pos h0]
      simp only [walkL, if_pos h0]
      rcases oneR_val hst v with ⟨n, st', h3, h4, h5⟩ | ⟨e, h3, h4, h5⟩
      · rw [h3, h4]; exact ihr n st' h5
      · rw [h3, runT_err _ _ (by rw [h4]; exact h5)]; exact ⟨h4, h5⟩
    · rw [if_neg h0]
      simp only [walkL, if_neg h0]
      have hit := iterR_walk (f := runT l 0) (g := walkL valR l 0) (fun st hst => ihl 0 st hst)
      unfold many
      by_cases hw1 : wh = 1
      · rw [if_pos hw1, if_pos hw1]
        have h3 := hit last.toNat st hst
        cases hg : iterE (walkL valR l 0) last.toNat st with
        | error e => rw [hg] at h3; rw [runT_err _ _ (by rw [h3.1]; exact h3.2)]; exact h3
        | ok s1 => rw [hg] at h3; rw [h3.1]; exact ihr last s1 h3.2
      · rw [if_neg hw1, if_neg hw1]
        by_cases hw2 : last = 1 ∨ wh = 3 ∧ last = 2
        · rw [if_pos hw2, if_pos hw2]
          have h3 := ihl 0 st hst
          have e3 : iterR (runT l 0) 1 st = runT l 0 st := by simp only [iterR, if_pos hst]
          rw [e3]
          cases hg : walkL valR l 0 st with
          | error e => rw [hg] at h3; rw [runT_err _ _ (by rw [h3.1]; exact h3.2)]; exact h3
          | ok s1 => rw [hg] at h3; rw [h3.1]; exact ihr last s1 h3.2
        · rw [if_neg hw2, if_neg hw2]
          exact ihr last st hst

theorem toks_nil {T : Parts} (h : (toks T).length = 0) : T = .nil := by
  cases T with
  | nil => rfl
  | cons v wh l r => simp only [toks] at h; split at h <;> simp at h
theorem no7_safe : ∀ {T : Parts}, no7 T = true → safe7 T = true ∧ n7 T = 0
  | .nil, _ => ⟨rfl, rfl⟩
  | .cons v wh l r, h => by
    simp only [no7, Bool.and_eq_true] at h
    have := no7_safe (T := r) (by simp_all)
    simp only [safe7, n7, this.1, this.2]
    by_cases h0 : wh = 0
    · simp_all
    · simp_all
theorem iterR_stop {f : RW → RW} {n : Nat} {st : RW} (h : st.E ≠ 0) : iterR f n st = st := iterR_err h

/-- what 'run' leaves -/
def RunPost (RB p RG K : Nat) (st : RW) (Q : Nat → Prop) (w : World) (e : Ending) (w' : World) : Prop :=
  e = .returned (.tuple #[]) ∧ Keep (fun k => k = p ∨ Q k) w w' ∧ ∃ Q', InvW RB p RG K st Q' w' ∧ (∀ k, Q' k → Q k ∨ w.heap.size ≤ k)

set_option maxHeartbeats 8000000 in
set_option maxRecDepth 100000 in
theorem run_any (RB p RG g : Nat) (hgp : g ≠ p) : ∀ (N : Nat) (T : Parts), T.sz ≤ N → wfT T = true → safe7 T = true → ∀ (A : Option Addr) (n c K : Nat) (st : RW) (Q : Nat → Prop) (w : World),
    Rd w (g + 1) 1 A n ((toks T).map .string) → (∀ q, InRow A q → q = g) → n ≤ c → n ≤ 1000 → ¬ Q g → g < w.heap.size → InvW RB p RG K st Q w → K + n7 T + 1 ≤ 1000000 →
    Calls Tryd.prog 65 #[.pointer (some ⟨p, 0, none⟩), .slice A n c] w (RunPost RB p RG (K + n7 T) (runT T 0 st) Q w) := by
  intro N
  induction N with
  | zero =>
    intro T hN hwf hsf A n c K st Q w hr hA hc hn hQ hgw hinv hK
    have : T = .nil := by cases T with
      | nil => rfl
      | cons v wh l r => simp [Parts.sz] at hN
    subst this
    have h0 : n = 0 := by have := hr.1; simpa [toks] using this.symm
    subst h0
    have HI := Lib.hid hinv
    clear hinv hr hA hQ hgw hK hsf hwf hgp
    go_enter Tryd.func65, Tryd.ntmps65
    go_wp2
    go_loop [4, 5] (fun _ i => i = .int .i64 0) (fun _ i => 0)
    case atStart => rfl
    case round =>
      subst hrel
      go_wp2
      go_end0
      exact ⟨rfl, Keep.refl _ _, Q, HI.out, fun _ h => .inl h⟩
  | succ N ih =>
    intro T hN hwf hsf A n c K st Q w hr hA hc hn hQ hgw hinv hK
    have hlen : (toks T).length = n := by have := hr.1; simpa using this
    have IH := Lib.hid ih
    have HT := Lib.hid (And.intro hN (And.intro hwf hsf))
    have HR := Lib.hid hr
    have HA := Lib.hid hA
    have HQg := Lib.hid (And.intro hQ (And.intro hgw hgp))
    have HI := Lib.hid hinv
    have HK := Lib.hid hK
    have HLen := Lib.hid hlen
    clear ih hN hwf hsf hr hA hQ hgw hgp hinv hK hlen
    go_enter Tryd.func65, Tryd.ntmps65
    go_wp2
    go_loopw [4, 5] (fun la i wr => ∃ (k : Nat) (last : Int), k ≤ n ∧ i = .int .i64 k ∧ la = .int .i64 last ∧ 0 ≤ last ∧ last ≤ 4294967295 ∧
        Hid (Keep (fun k => k = p ∨ Q k) w wr ∧ ∃ (Qr : Nat → Prop) (R : Parts) (s' : RW) (Kr : Nat), (∀ k, Qr k → Q k ∨ w.heap.size ≤ k) ∧ k + (toks R).length = n ∧ (toks T).drop k = toks R ∧ R.sz ≤ N + 1 ∧ wfT R = true ∧ safe7 R = true ∧ Kr + n7 R = K + n7 T ∧ InvW RB p RG Kr s' Qr wr ∧ runT R last s' = runT T 0 st))
      (fun _ i _ => n - (intOf i).toNat)
    case atStart => exact ⟨0, 0, by omega, rfl, rfl, by omega, by omega, Keep.refl _ _, Q, T, st, K, fun _ h => .inl h, by have := HLen.out; omega, rfl, HT.out.1, HT.out.2.1, HT.out.2.2, rfl, HI.out, rfl⟩
    case round =>
      obtain ⟨k, last, hk, rfl, rfl, hl1, hl2, HH⟩ := hrel
      obtain ⟨hkp, Qr, R, s', Kr, hQ1, e1, e2, e3, e4, e5, e6, hinv, hw⟩ := HH.out
      have hbk : Hid (∃ cs, Blk wr p 102 cs ∧ cs[5]? = some (.int .i64 s'.E)) := by
        obtain ⟨AV, cV, AB, cB, AO, cO, AG, cG, h1, _⟩ := hinv
        exact ⟨_, h1, rfl⟩
      have hc5 : wr.cell? ⟨p, 5, none⟩ = some (.int .i64 s'.E) := by
        obtain ⟨cs, h1, h2⟩ := hbk.out
        rw [h1.cell 5, h2]
      by_cases h0 : k < n
      rotate_left
      · obtain rfl : k = n := by omega
        obtain rfl : R = .nil := toks_nil (by omega)
        have hki : ¬ (k : Int) < (k : Int) := by omega
        have HF : Hid (RunPost RB p RG (K + n7 T) (runT T 0 st) Q w (.returned (.tuple #[])) wr) := ⟨rfl, hkp, Qr, by rw [← hw, ← e6]; exact hinv, hQ1⟩
        clear hinv hw hkp HH hQ1 e1 e2 e3 e4 e5 e6 hbk hc5
        go_wp2
        go_end0
        exact HF.out
      have hki : (k : Int) < (n : Int) := by omega
      by_cases hE : s'.E = 0
      rotate_left
      · have hE0 : (s'.E == 0) = false := by simpa using hE
        have hst : runT T 0 st = s' := by rw [← hw, runT_err _ _ hE]
        have hb := HK.out
        have HF : Hid (RunPost RB p RG (K + n7 T) (runT T 0 st) Q w (.returned (.tuple #[])) wr) := ⟨rfl, hkp, Qr, by rw [hst]; exact hinv.more (by omega) (by omega), hQ1⟩
        clear hinv hw hkp HH hQ1 e1 e2 e3 e4 e5 e6 hbk hst hb hE
        go_wp2
        go_end0
        exact HF.out
      rw [hE] at hc5
      have hRw := HR.out.keep_far hkp (fun ad hA _ h => by
        have hg := HA.out ad.block ⟨ad, hA, rfl⟩
        rw [hg] at h
        rcases h with h | h
        · exact HQg.out.2.2 h
        · exact HQg.out.1 h)
      have HRw := Lib.hid hRw
      obtain ⟨ad, x, hAd, _, hx, hcx⟩ := hRw.at1 h0
      have hQg2 : Hid (¬ Qr g) := fun h => by rcases hQ1 g h with h | h; exact HQg.out.1 h; have := HQg.out.2.1; omega
      cases R with
      | nil => simp [toks] at e1; omega
      | cons v wh l r =>
        have hxw : (toks (.cons v wh l r))[0]? = some x := by
          rw [← e2, List.getElem?_drop, Nat.add_zero]; exact hx
        -- the next round's head
        have HNext : Hid (∀ (W : World) (last' : Int) (k' : Nat) (s2 : RW) (Q2 : Nat → Prop) (K2 : Nat), Keep (fun k => k = p ∨ Qr k) wr W → (∀ k, Q2 k → Qr k ∨ wr.heap.size ≤ k) → InvW RB p RG K2 s2 Q2 W → k' + (toks r).length = n → (toks T).drop k' = toks r → K2 + n7 r = K + n7 T → runT r last' s2 = runT T 0 st →
            Keep (fun k => k = p ∨ Q k) w W ∧ ∃ (Qr : Nat → Prop) (R : Parts) (s' : RW) (Kr : Nat), (∀ k, Qr k → Q k ∨ w.heap.size ≤ k) ∧ k' + (toks R).length = n ∧ (toks T).drop k' = toks R ∧ R.sz ≤ N + 1 ∧ wfT R = true ∧ safe7 R = true ∧ Kr + n7 R = K + n7 T ∧ InvW RB p RG Kr s' Qr W ∧ runT R last' s' = runT T 0 st) := by
          intro W last' k' s2 Q2 K2 hkk hq2 hi2 a1 a2 a3 a4
          simp only [wfT, safe7, Parts.sz, Bool.and_eq_true] at e3 e4 e5
          exact ⟨keep_next (S := fun k => k = p) hkp hQ1 hkk, Q2, r, s2, K2, own_next hkp hQ1 hq2, a1, a2, by omega, e4.2, e5.2, a3, hi2, a4⟩
        have Hinv := Lib.hid hinv
        have Hw := Lib.hid hw
        have Hk := Lib.hid hkp
        have HQ1 := Lib.hid hQ1
        have HE := Lib.hid hE
        have E := Lib.hid (And.intro e1 (And.intro e2 (And.intro e3 (And.intro e4 (And.intro e5 e6)))))
        subst hAd
        clear hinv hw hkp HH hQ1 e1 e2 e3 e4 e5 e6 hbk hRw hE hx
        have t1 := word_is x [123]
        have t2 := word_is x [60]
        have t3 := word_is x [40, 49, 50]
        by_cases w0 : wh = 0
        · subst w0
          have hxv : x = vName v.toNat := by simpa [toks] using hxw.symm
          have hv : 0 ≤ v ∧ v < 96 := by have := E.out.2.2.2.1; simp only [wfT, Bool.and_eq_true, if_true, decide_eq_true_eq] at this; exact this.1
          have hop := (names_plain v.toNat (by omega)).1
          rw [← hxv] at hop
          unfold isOpen wO wL wE at hop
          simp only [decide_eq_false_iff_not, not_or] at hop
          rw [decide_eq_false hop.1] at t1
          rw [decide_eq_false hop.2.1] at t2
          rw [decide_eq_false hop.2.2] at t3
          have HF : Hid (∀ W, Keep Never wr W → Calls Tryd.prog 34 #[.string x] W fun e w' => e = .returned (.int .i64 v) ∧ Keep Never W w') := by
            intro W _
            refine (rfind_any x W).mono ?_
            rintro e w' ⟨y, rfl, hy, hk⟩
            rw [hxv] at hy
            rw [hy.one (find_name (by omega)), show ((v.toNat : Nat) : Int) = v by omega]
            exact ⟨rfl, hk⟩
          have HO : Hid (∀ W, Keep Never wr W → Calls Tryd.prog 77 #[.pointer (some ⟨p, 0, none⟩), .int .i64 v] W (OnePost RB p RG Kr s' v Qr W)) := by
            intro W hk
            exact one_any RB p RG Kr s' v Qr W (Hinv.out.keep hk) (by have := E.out.2.2.2.2.2; have := HK.out; omega)
          have hr1 := oneR_range s' v
          have hst : runT r (oneR s' v).1 (oneR s' v).2 = runT T 0 st := by
            have := Hw.out
            simp only [runT, if_neg (show ¬ s'.E ≠ 0 by simpa using HE.out), if_true] at this
            exact this
          have Hst := Lib.hid hst
          have Hr1 := Lib.hid hr1
          clear hop hxv hxw hst hr1
          go_wp2_with fail
          refine (HF.out _ (Keep.refl _ _)).mono ?_
          rintro e w1 ⟨rfl, hk1⟩
          have Hk1 := Lib.hid hk1
          clear hk1
          go_wp2_with fail
          refine (HO.out _ Hk1.out).mono ?_
          rintro e w2 ⟨rfl, hk2, Q2, hi2, hq2⟩
          obtain ⟨e1, e2, _, _, _, e6⟩ := E.out
          have HFin := Lib.hid (HNext.out w2 (oneR s' v).1 (k + 1) (oneR s' v).2 Q2 (Kr + if v = 7 then 1 else 0) ((Hk1.out.mono (fun _ _ h => h.elim)).trans hk2) (fun q h => by rcases hq2 q h with h | h; exact .inl h; exact .inr (Nat.le_trans Hk1.out.size h)) hi2
            (by simp [toks] at e1; omega) (by rw [← List.drop_drop, e2]; simp [toks]) (by simp only [n7, true_and] at e6; omega) Hst.out)
          obtain ⟨r1, r2⟩ := Hr1.out
          clear hk2 hi2 hq2 e1 e2 e6
          go_wp2_with fail
          go_roundw
          case rel => exact ⟨k + 1, (oneR s' v).1, by omega, by go_num, rfl, r1, r2, HFin.out⟩
          case measure => simp [intOf]; try omega
        · have hwh : wh = 1 ∨ wh = 2 ∨ wh = 3 := by have := E.out.2.2.2.1; simp only [wfT, if_neg w0, Bool.and_eq_true, decide_eq_true_eq] at this; exact this.1.1
          have hwl : wfT l = true := by have := E.out.2.2.2.1; simp only [wfT, if_neg w0, Bool.and_eq_true, decide_eq_true_eq] at this; exact this.1.2
          have hsl : no7 l = true := by have := E.out.2.2.2.2.1; simp only [safe7, Bool.and_eq_true, Bool.or_eq_true, decide_eq_true_eq, w0, false_or] at this; exact this.1
          obtain ⟨hs7, hn7⟩ := no7_safe hsl
          have htk : toks (.cons v wh l r) = opn wh :: (toks l ++ cls wh :: toks r) := by simp only [toks, if_neg w0]
          have hxo : x = opn wh := by rw [htk] at hxw; simpa using hxw.symm
          have hcl := closeAt_bracket hwh hwl (toks r)
          rw [← htk, ← E.out.2.1] at hcl
          have hel : k + (toks l).length + 2 + (toks r).length = n := by have := E.out.1; rw [htk] at this; simp at this; omega
          obtain ⟨m, hm⟩ : ∃ m, (toks l).length = m := ⟨_, rfl⟩
          rw [hm] at hcl hel
          have hinner : ((toks T).take (k + m + 1)).drop (k + 1) = toks l := by
            rw [List.drop_take, ← List.drop_drop, E.out.2.1, htk, List.drop_succ_cons, List.drop_zero, show k + m + 1 - (k + 1) = m by omega, ← hm, List.take_left]
          have hrest : (toks T).drop (k + m + 1 + 1) = toks r := by
            rw [show k + m + 1 + 1 = k + (m + 2) by omega, ← List.drop_drop, E.out.2.1, htk, List.drop_succ_cons, ← hm, show (toks l).length + 1 = (toks l).length + 1 from rfl, ← List.drop_drop, List.drop_left, List.drop_succ_cons, List.drop_zero]
          have HCl : Hid (Calls Tryd.prog 80 #[.slice (some ad) n c, .int .i64 k] wr fun e w' => e = .returned (.int .i64 ((k + m + 1 : Nat) : Int)) ∧ Keep Never wr w') := by
            have := closing_any (some ad) n c (g + 1) (toks T) HLen.out wr HRw.out (by omega) k (by omega)
            rw [hcl] at this
            exact this
          have HC : Hid (∀ (A' : Option Addr) (c' : Nat) (s1 : RW) (Q1 : Nat → Prop) (W : World), Rd W (g + 1) 1 A' m ((toks l).map .string) → (∀ q, InRow A' q → q = g) → m ≤ c' → ¬ Q1 g → wr.heap.size ≤ W.heap.size → InvW RB p RG Kr s1 Q1 W →
              Calls Tryd.prog 65 #[.pointer (some ⟨p, 0, none⟩), .slice A' m c'] W (RunPost RB p RG Kr (runT l 0 s1) Q1 W)) := by
            intro A' c' s1 Q1 W a1 a2 a3 a4 a5 a6
            have hszl : l.sz ≤ N := by have := E.out.2.2.1; simp only [Parts.sz] at this; omega
            have := IH.out l hszl hwl hs7 A' m c' Kr s1 Q1 W a1 a2 a3 (by omega) a4 (by have := HQg.out.2.1; have := Hk.out.size; omega) a6 (by have := E.out.2.2.2.2.2; have := HK.out; omega)
            rw [hn7] at this
            exact this
          have hst : runT r last (iterR (runT l 0) (many wh last) s') = runT T 0 st := by
            have := Hw.out
            simp only [runT, if_neg (show ¬ s'.E ≠ 0 by simpa using HE.out), if_neg w0] at this
            exact this
          have Hst := Lib.hid hst
          have Hin := Lib.hid hinner
          have Hre := Lib.hid hrest
          have He6 : Hid (Kr + n7 r = K + n7 T) := by have := E.out.2.2.2.2.2; simp only [n7] at this; rw [if_neg (fun h => w0 h.1)] at this; show _ = _; omega
          have Hel : Hid (k + m + 2 + (toks r).length = n) := hel
          have hem : k + m + 1 < n := by omega
          have hszs : Hid (∀ w, (sizeOf 9).run Tryd.prog w = .ok 1 w) := fun w => by kernel_rfl
          clear hxw hcl hm htk hinner hrest hst hel hwl hsl hs7 hn7 t1 t2 t3 hcx w0
          subst hxo
          have hcx : wr.cell? (ad.add k) = some (.string (opn wh)) := by
            obtain ⟨ad', x, hAd, _, hx, hcx⟩ := HRw.out.at1 h0
            injection hAd with hAd
            subst hAd
            have hx' : (toks T)[k]? = some (opn wh) := by
              have : ((toks T).drop k)[0]? = some (opn wh) := by
                rw [E.out.2.1]; simp only [toks]; rw [if_neg (by omega)]; rfl
              rwa [List.getElem?_drop, Nat.add_zero] at this
            rw [hx'] at hx
            injection hx with hx
            rw [hcx, hx]
          have Hcx := Lib.hid hcx
          clear E hcx
          rcases hwh with rfl | rfl | rfl
          · have hcx : wr.cell? (ad.add k) = some (.string ⟨#[123]⟩) := Hcx.out
            skip
            go_wp2_with fail
            refine HCl.out.mono ?_
            rintro e w1 ⟨rfl, hk1⟩
            have Hk1 := Lib.hid hk1
            have hcx : w1.cell? (ad.add k) = some (.string ⟨#[123]⟩) := by
              rw [hk1.cell (cell_lt Hcx.out) (fun h => h)]; exact Hcx.out
            have Hcx1 := Lib.hid hcx
            have hmg : ((k + m + 1 : Nat) : Int) = (k : Int) + m + 1 := by omega
            rw [hmg]
            clear hk1 hc5
            go_wp2_with fail

            obtain ⟨wo, rfl⟩ : ∃ wo : World, wo = wr := ⟨_, rfl⟩
            go_loopw [8] (fun i wi => ∃ j : Nat, j ≤ last.toNat ∧ i = .int .i64 j ∧ Hid (Keep (fun k => k = p ∨ Qr k) wo wi ∧ ∃ (Q2 : Nat → Prop) (s2 : RW), (∀ k, Q2 k → Qr k ∨ wo.heap.size ≤ k) ∧ InvW RB p RG Kr s2 Q2 wi ∧ iterR (runT l 0) (last.toNat - j) s2 = iterR (runT l 0) (last.toNat) s'))
              (fun i _ => last.toNat - (intOf i).toNat)
            case atStart => exact ⟨0, by omega, rfl, Hk1.out.mono (fun _ _ h => h.elim), Qr, s', fun _ h => .inl h, Hinv.out.keep Hk1.out, rfl⟩
            case round =>
              obtain ⟨j, hj, rfl, HJ⟩ := hrel
              obtain ⟨hk2, Q2, s2, hq2, hi2, hit⟩ := HJ.out
              have hc5 : wr.cell? ⟨p, 5, none⟩ = some (.int .i64 s2.E) := by
                obtain ⟨AV, cV, AB, cB, AO, cO, AG, cG, h1, _⟩ := hi2
                exact h1.cell 5
              have HX : Hid (iterR (runT l 0) (last.toNat) s' = s2 → Keep (fun k => k = p ∨ Q k) w wr ∧ ∃ (Qr : Nat → Prop) (R : Parts) (s' : RW) (Kr : Nat), (∀ k, Qr k → Q k ∨ w.heap.size ≤ k) ∧ k + m + 1 + 1 + (toks R).length = n ∧ (toks T).drop (k + m + 1 + 1) = toks R ∧ R.sz ≤ N + 1 ∧ wfT R = true ∧ safe7 R = true ∧ Kr + n7 R = K + n7 T ∧ InvW RB p RG Kr s' Qr wr ∧ runT R last s' = runT T 0 st) := by
                intro he
                exact HNext.out wr last (k + m + 1 + 1) s2 Q2 Kr hk2 hq2 hi2 (by have := Hel.out; omega) Hre.out He6.out (by have := Hst.out; have hm9 : many 1 last = last.toNat := rfl; rw [hm9] at this; rw [he] at this; exact this)
              by_cases hjl : (j : Int) < last
              · by_cases hE2 : s2.E = 0
                · obtain ⟨m', hm'⟩ : ∃ m', last.toNat - j = m' + 1 := ⟨last.toNat - j - 1, by omega⟩
                  rw [hm'] at hit
                  simp only [iterR, if_pos hE2] at hit
                  have hlast : last.toNat - (j + 1) = m' := by omega
                  have Hq2 := Lib.hid hq2
                  have Hk2 := Lib.hid hk2
                  have Hi2 := Lib.hid hi2
                  have Hit := Lib.hid hit
                  have HL' := Lib.hid hlast
                  rw [hE2] at hc5
                  have HRw2 := Lib.hid (HRw.out.keep_far hk2 (fun ad' hA _ h => by
                    have hg := HA.out ad'.block ⟨ad', hA, rfl⟩
                    rw [hg] at h
                    rcases h with h | h
                    · exact HQg.out.2.2 h
                    · exact hQg2.out h))
                  clear hq2 hk2 hi2 hit hlast hm' HJ HX hE2
                  go_wp2_with (refine wpList_cut rfl (.tmp 83) (.tmp 85) (.tmp 86) _ rfl Tryd.underlying61 hszs.out (some ad) n c (k + 1) (k + m + 1) m (by go_simp) ((k : Int) + 1) ((k : Int) + m + 1) (by go_simp) (by go_simp) (by omega) (by omega) (by omega) (by omega) hc ?_; intro A' c' HS)
                  have hr3 := HS.out.1 _ _ _ HRw2.out
                  rw [Nat.mul_one, Nat.mul_one, ← List.map_take, ← List.map_drop, Hin.out] at hr3
                  refine (HC.out A' c' s2 Q2 wr hr3 (fun q h => HA.out q (HS.out.2.2.2 q h)) HS.out.2.1 (fun h => by rcases Hq2.out g h with h | h; exact hQg2.out h; have := HQg.out.2.1; have := Hk.out.size; omega) Hk2.out.size Hi2.out).mono ?_
                  rintro e w3 ⟨rfl, hk3, Q3, hi3, hq3⟩
                  have HF : Hid (Keep (fun k => k = p ∨ Qr k) wo w3 ∧ ∃ (Q2 : Nat → Prop) (s2 : RW), (∀ k, Q2 k → Qr k ∨ wo.heap.size ≤ k) ∧ InvW RB p RG Kr s2 Q2 w3 ∧ iterR (runT l 0) (last.toNat - (j + 1)) s2 = iterR (runT l 0) (last.toNat) s') :=
                    ⟨keep_next (S := fun k => k = p) Hk2.out Hq2.out hk3, Q3, runT l 0 s2, own_next Hk2.out Hq2.out hq3, hi3, by rw [HL'.out]; exact Hit.out⟩
                  clear hk3 hi3 hq3 hr3 HS
                  go_wp2_with fail
                  go_roundw
                  case rel => exact ⟨j + 1, by omega, by go_num, HF.out⟩
                  case measure => simp [intOf]; try omega
                · have hE2' : (s2.E == 0) = false := by simpa using hE2
                  have HF := Lib.hid (HX.out (by rw [← hit, iterR_stop hE2]))
                  clear hq2 hk2 hi2 hit HJ HX hE2
                  go_wp2_with fail
                  go_roundw
                  case rel => exact ⟨k + m + 1 + 1, last, by omega, by go_num, rfl, hl1, hl2, HF.out⟩
                  case measure => simp [intOf]; try omega
              · have HF := Lib.hid (HX.out (by rw [← hit, show last.toNat - j = 0 by omega]; rfl))
                clear hq2 hk2 hi2 hit HJ HX
                go_wp2_with fail
                go_roundw
                case rel => exact ⟨k + m + 1 + 1, last, by omega, by go_num, rfl, hl1, hl2, HF.out⟩
                case measure => simp [intOf]; try omega
          · by_cases h1 : last = 1
            · have hcx : wr.cell? (ad.add k) = some (.string ⟨#[60]⟩) := Hcx.out
              have H1 := Lib.hid h1; have b1 : (last == 1) = true := (by simpa using h1); clear h1
              go_wp2_with fail
              refine HCl.out.mono ?_
              rintro e w1 ⟨rfl, hk1⟩
              have Hk1 := Lib.hid hk1
              have hcx : w1.cell? (ad.add k) = some (.string ⟨#[60]⟩) := by
                rw [hk1.cell (cell_lt Hcx.out) (fun h => h)]; exact Hcx.out
              have Hcx1 := Lib.hid hcx
              have hmg : ((k + m + 1 : Nat) : Int) = (k : Int) + m + 1 := by omega
              rw [hmg]
              clear hk1 hc5
              go_wp2_with fail

              obtain ⟨wo, rfl⟩ : ∃ wo : World, wo = wr := ⟨_, rfl⟩
              go_loopw [8] (fun i wi => ∃ j : Nat, j ≤ 1 ∧ i = .int .i64 j ∧ Hid (Keep (fun k => k = p ∨ Qr k) wo wi ∧ ∃ (Q2 : Nat → Prop) (s2 : RW), (∀ k, Q2 k → Qr k ∨ wo.heap.size ≤ k) ∧ InvW RB p RG Kr s2 Q2 wi ∧ iterR (runT l 0) (1 - j) s2 = iterR (runT l 0) (1) s'))
                (fun i _ => 1 - (intOf i).toNat)
              case atStart => exact ⟨0, by omega, rfl, Hk1.out.mono (fun _ _ h => h.elim), Qr, s', fun _ h => .inl h, Hinv.out.keep Hk1.out, rfl⟩
              case round =>
                obtain ⟨j, hj, rfl, HJ⟩ := hrel
                obtain ⟨hk2, Q2, s2, hq2, hi2, hit⟩ := HJ.out
                have hc5 : wr.cell? ⟨p, 5, none⟩ = some (.int .i64 s2.E) := by
                  obtain ⟨AV, cV, AB, cB, AO, cO, AG, cG, h1, _⟩ := hi2
                  exact h1.cell 5
                have HX : Hid (iterR (runT l 0) (1) s' = s2 → Keep (fun k => k = p ∨ Q k) w wr ∧ ∃ (Qr : Nat → Prop) (R : Parts) (s' : RW) (Kr : Nat), (∀ k, Qr k → Q k ∨ w.heap.size ≤ k) ∧ k + m + 1 + 1 + (toks R).length = n ∧ (toks T).drop (k + m + 1 + 1) = toks R ∧ R.sz ≤ N + 1 ∧ wfT R = true ∧ safe7 R = true ∧ Kr + n7 R = K + n7 T ∧ InvW RB p RG Kr s' Qr wr ∧ runT R last s' = runT T 0 st) := by
                  intro he
                  exact HNext.out wr last (k + m + 1 + 1) s2 Q2 Kr hk2 hq2 hi2 (by have := Hel.out; omega) Hre.out He6.out (by have := Hst.out; have hm9 : many 2 last = 1 := (by unfold many; rw [if_neg (by decide), if_pos (.inl H1.out)]); rw [hm9] at this; rw [he] at this; exact this)
                by_cases hjl : (j : Int) < 1
                · by_cases hE2 : s2.E = 0
                  · obtain ⟨m', hm'⟩ : ∃ m', 1 - j = m' + 1 := ⟨1 - j - 1, by omega⟩
                    rw [hm'] at hit
                    simp only [iterR, if_pos hE2] at hit
                    have hlast : 1 - (j + 1) = m' := by omega
                    have Hq2 := Lib.hid hq2
                    have Hk2 := Lib.hid hk2
                    have Hi2 := Lib.hid hi2
                    have Hit := Lib.hid hit
                    have HL' := Lib.hid hlast
                    rw [hE2] at hc5
                    have HRw2 := Lib.hid (HRw.out.keep_far hk2 (fun ad' hA _ h => by
                      have hg := HA.out ad'.block ⟨ad', hA, rfl⟩
                      rw [hg] at h
                      rcases h with h | h
                      · exact HQg.out.2.2 h
                      · exact hQg2.out h))
                    clear hq2 hk2 hi2 hit hlast hm' HJ HX hE2
                    go_wp2_with (refine wpList_cut rfl (.tmp 83) (.tmp 85) (.tmp 86) _ rfl Tryd.underlying61 hszs.out (some ad) n c (k + 1) (k + m + 1) m (by go_simp) ((k : Int) + 1) ((k : Int) + m + 1) (by go_simp) (by go_simp) (by omega) (by omega) (by omega) (by omega) hc ?_; intro A' c' HS)
                    have hr3 := HS.out.1 _ _ _ HRw2.out
                    rw [Nat.mul_one, Nat.mul_one, ← List.map_take, ← List.map_drop, Hin.out] at hr3
                    refine (HC.out A' c' s2 Q2 wr hr3 (fun q h => HA.out q (HS.out.2.2.2 q h)) HS.out.2.1 (fun h => by rcases Hq2.out g h with h | h; exact hQg2.out h; have := HQg.out.2.1; have := Hk.out.size; omega) Hk2.out.size Hi2.out).mono ?_
                    rintro e w3 ⟨rfl, hk3, Q3, hi3, hq3⟩
                    have HF : Hid (Keep (fun k => k = p ∨ Qr k) wo w3 ∧ ∃ (Q2 : Nat → Prop) (s2 : RW), (∀ k, Q2 k → Qr k ∨ wo.heap.size ≤ k) ∧ InvW RB p RG Kr s2 Q2 w3 ∧ iterR (runT l 0) (1 - (j + 1)) s2 = iterR (runT l 0) (1) s') :=
                      ⟨keep_next (S := fun k => k = p) Hk2.out Hq2.out hk3, Q3, runT l 0 s2, own_next Hk2.out Hq2.out hq3, hi3, by rw [HL'.out]; exact Hit.out⟩
                    clear hk3 hi3 hq3 hr3 HS
                    go_wp2_with fail
                    go_roundw
                    case rel => exact ⟨j + 1, by omega, by go_num, HF.out⟩
                    case measure => simp [intOf]; try omega
                  · have hE2' : (s2.E == 0) = false := by simpa using hE2
                    have HF := Lib.hid (HX.out (by rw [← hit, iterR_stop hE2]))
                    clear hq2 hk2 hi2 hit HJ HX hE2
                    go_wp2_with fail
                    go_roundw
                    case rel => exact ⟨k + m + 1 + 1, last, by omega, by go_num, rfl, hl1, hl2, HF.out⟩
                    case measure => simp [intOf]; try omega
                · have HF := Lib.hid (HX.out (by rw [← hit, show 1 - j = 0 by omega]; rfl))
                  clear hq2 hk2 hi2 hit HJ HX
                  go_wp2_with fail
                  go_roundw
                  case rel => exact ⟨k + m + 1 + 1, last, by omega, by go_num, rfl, hl1, hl2, HF.out⟩
                  case measure => simp [intOf]; try omega
            · have hcx : wr.cell? (ad.add k) = some (.string ⟨#[60]⟩) := Hcx.out
              have H1 := Lib.hid h1; have b1 : (last == 1) = false := (by simpa using h1); clear h1
              go_wp2_with fail
              refine HCl.out.mono ?_
              rintro e w1 ⟨rfl, hk1⟩
              have Hk1 := Lib.hid hk1
              have hcx : w1.cell? (ad.add k) = some (.string ⟨#[60]⟩) := by
                rw [hk1.cell (cell_lt Hcx.out) (fun h => h)]; exact Hcx.out
              have Hcx1 := Lib.hid hcx
              have hmg : ((k + m + 1 : Nat) : Int) = (k : Int) + m + 1 := by omega
              rw [hmg]
              clear hk1 hc5
              go_wp2_with fail

              obtain ⟨wo, rfl⟩ : ∃ wo : World, wo = wr := ⟨_, rfl⟩
              go_loopw [8] (fun i wi => ∃ j : Nat, j ≤ 0 ∧ i = .int .i64 j ∧ Hid (Keep (fun k => k = p ∨ Qr k) wo wi ∧ ∃ (Q2 : Nat → Prop) (s2 : RW), (∀ k, Q2 k → Qr k ∨ wo.heap.size ≤ k) ∧ InvW RB p RG Kr s2 Q2 wi ∧ iterR (runT l 0) (0 - j) s2 = iterR (runT l 0) (0) s'))
                (fun i _ => 0 - (intOf i).toNat)
              case atStart => exact ⟨0, by omega, rfl, Hk1.out.mono (fun _ _ h => h.elim), Qr, s', fun _ h => .inl h, Hinv.out.keep Hk1.out, rfl⟩
              case round =>
                obtain ⟨j, hj, rfl, HJ⟩ := hrel
                obtain ⟨hk2, Q2, s2, hq2, hi2, hit⟩ := HJ.out
                have hc5 : wr.cell? ⟨p, 5, none⟩ = some (.int .i64 s2.E) := by
                  obtain ⟨AV, cV, AB, cB, AO, cO, AG, cG, h1, _⟩ := hi2
                  exact h1.cell 5
                have HX : Hid (iterR (runT l 0) (0) s' = s2 → Keep (fun k => k = p ∨ Q k) w wr ∧ ∃ (Qr : Nat → Prop) (R : Parts) (s' : RW) (Kr : Nat), (∀ k, Qr k → Q k ∨ w.heap.size ≤ k) ∧ k + m + 1 + 1 + (toks R).length = n ∧ (toks T).drop (k + m + 1 + 1) = toks R ∧ R.sz ≤ N + 1 ∧ wfT R = true ∧ safe7 R = true ∧ Kr + n7 R = K + n7 T ∧ InvW RB p RG Kr s' Qr wr ∧ runT R last s' = runT T 0 st) := by
                  intro he
                  exact HNext.out wr last (k + m + 1 + 1) s2 Q2 Kr hk2 hq2 hi2 (by have := Hel.out; omega) Hre.out He6.out (by have := Hst.out; have hm9 : many 2 last = 0 := (by unfold many; rw [if_neg (by decide), if_neg (by rintro (h | h); exact H1.out h; exact absurd h.1 (by decide))]); rw [hm9] at this; rw [he] at this; exact this)
                by_cases hjl : (j : Int) < 0
                · omega
                · have HF := Lib.hid (HX.out (by rw [← hit, show 0 - j = 0 by omega]; rfl))
                  clear hq2 hk2 hi2 hit HJ HX
                  go_wp2_with fail
                  go_roundw
                  case rel => exact ⟨k + m + 1 + 1, last, by omega, by go_num, rfl, hl1, hl2, HF.out⟩
                  case measure => simp [intOf]; try omega
          · by_cases h1 : last = 1
            · have hcx : wr.cell? (ad.add k) = some (.string ⟨#[40, 49, 50]⟩) := Hcx.out
              have H1 := Lib.hid h1; have b1 : (last == 1) = true := (by simpa using h1); clear h1
              go_wp2_with fail
              refine HCl.out.mono ?_
              rintro e w1 ⟨rfl, hk1⟩
              have Hk1 := Lib.hid hk1
              have hcx : w1.cell? (ad.add k) = some (.string ⟨#[40, 49, 50]⟩) := by
                rw [hk1.cell (cell_lt Hcx.out) (fun h => h)]; exact Hcx.out
              have Hcx1 := Lib.hid hcx
              have hmg : ((k + m + 1 : Nat) : Int) = (k : Int) + m + 1 := by omega
              rw [hmg]
              clear hk1 hc5
              go_wp2_with fail

              obtain ⟨wo, rfl⟩ : ∃ wo : World, wo = wr := ⟨_, rfl⟩
              go_loopw [8] (fun i wi => ∃ j : Nat, j ≤ 1 ∧ i = .int .i64 j ∧ Hid (Keep (fun k => k = p ∨ Qr k) wo wi ∧ ∃ (Q2 : Nat → Prop) (s2 : RW), (∀ k, Q2 k → Qr k ∨ wo.heap.size ≤ k) ∧ InvW RB p RG Kr s2 Q2 wi ∧ iterR (runT l 0) (1 - j) s2 = iterR (runT l 0) (1) s'))
                (fun i _ => 1 - (intOf i).toNat)
              case atStart => exact ⟨0, by omega, rfl, Hk1.out.mono (fun _ _ h => h.elim), Qr, s', fun _ h => .inl h, Hinv.out.keep Hk1.out, rfl⟩
              case round =>
                obtain ⟨j, hj, rfl, HJ⟩ := hrel
                obtain ⟨hk2, Q2, s2, hq2, hi2, hit⟩ := HJ.out
                have hc5 : wr.cell? ⟨p, 5, none⟩ = some (.int .i64 s2.E) := by
                  obtain ⟨AV, cV, AB, cB, AO, cO, AG, cG, h1, _⟩ := hi2
                  exact h1.cell 5
                have HX : Hid (iterR (runT l 0) (1) s' = s2 → Keep (fun k => k = p ∨ Q k) w wr ∧ ∃ (Qr : Nat → Prop) (R : Parts) (s' : RW) (Kr : Nat), (∀ k, Qr k → Q k ∨ w.heap.size ≤ k) ∧ k + m + 1 + 1 + (toks R).length = n ∧ (toks T).drop (k + m + 1 + 1) = toks R ∧ R.sz ≤ N + 1 ∧ wfT R = true ∧ safe7 R = true ∧ Kr + n7 R = K + n7 T ∧ InvW RB p RG Kr s' Qr wr ∧ runT R last s' = runT T 0 st) := by
                  intro he
                  exact HNext.out wr last (k + m + 1 + 1) s2 Q2 Kr hk2 hq2 hi2 (by have := Hel.out; omega) Hre.out He6.out (by have := Hst.out; have hm9 : many 3 last = 1 := (by unfold many; rw [if_neg (by decide), if_pos (.inl H1.out)]); rw [hm9] at this; rw [he] at this; exact this)
                by_cases hjl : (j : Int) < 1
                · by_cases hE2 : s2.E = 0
                  · obtain ⟨m', hm'⟩ : ∃ m', 1 - j = m' + 1 := ⟨1 - j - 1, by omega⟩
                    rw [hm'] at hit
                    simp only [iterR, if_pos hE2] at hit
                    have hlast : 1 - (j + 1) = m' := by omega
                    have Hq2 := Lib.hid hq2
                    have Hk2 := Lib.hid hk2
                    have Hi2 := Lib.hid hi2
                    have Hit := Lib.hid hit
                    have HL' := Lib.hid hlast
                    rw [hE2] at hc5
                    have HRw2 := Lib.hid (HRw.out.keep_far hk2 (fun ad' hA _ h => by
                      have hg := HA.out ad'.block ⟨ad', hA, rfl⟩
                      rw [hg] at h
                      rcases h with h | h
                      · exact HQg.out.2.2 h
                      · exact hQg2.out h))
                    clear hq2 hk2 hi2 hit hlast hm' HJ HX hE2
                    go_wp2_with (refine wpList_cut rfl (.tmp 83) (.tmp 85) (.tmp 86) _ rfl Tryd.underlying61 hszs.out (some ad) n c (k + 1) (k + m + 1) m (by go_simp) ((k : Int) + 1) ((k : Int) + m + 1) (by go_simp) (by go_simp) (by omega) (by omega) (by omega) (by omega) hc ?_; intro A' c' HS)
                    have hr3 := HS.out.1 _ _ _ HRw2.out
                    rw [Nat.mul_one, Nat.mul_one, ← List.map_take, ← List.map_drop, Hin.out] at hr3
                    refine (HC.out A' c' s2 Q2 wr hr3 (fun q h => HA.out q (HS.out.2.2.2 q h)) HS.out.2.1 (fun h => by rcases Hq2.out g h with h | h; exact hQg2.out h; have := HQg.out.2.1; have := Hk.out.size; omega) Hk2.out.size Hi2.out).mono ?_
                    rintro e w3 ⟨rfl, hk3, Q3, hi3, hq3⟩
                    have HF : Hid (Keep (fun k => k = p ∨ Qr k) wo w3 ∧ ∃ (Q2 : Nat → Prop) (s2 : RW), (∀ k, Q2 k → Qr k ∨ wo.heap.size ≤ k) ∧ InvW RB p RG Kr s2 Q2 w3 ∧ iterR (runT l 0) (1 - (j + 1)) s2 = iterR (runT l 0) (1) s') :=
                      ⟨keep_next (S := fun k => k = p) Hk2.out Hq2.out hk3, Q3, runT l 0 s2, own_next Hk2.out Hq2.out hq3, hi3, by rw [HL'.out]; exact Hit.out⟩
                    clear hk3 hi3 hq3 hr3 HS
                    go_wp2_with fail
                    go_roundw
                    case rel => exact ⟨j + 1, by omega, by go_num, HF.out⟩
                    case measure => simp [intOf]; try omega
                  · have hE2' : (s2.E == 0) = false := by simpa using hE2
                    have HF := Lib.hid (HX.out (by rw [← hit, iterR_stop hE2]))
                    clear hq2 hk2 hi2 hit HJ HX hE2
                    go_wp2_with fail
                    go_roundw
                    case rel => exact ⟨k + m + 1 + 1, last, by omega, by go_num, rfl, hl1, hl2, HF.out⟩
                    case measure => simp [intOf]; try omega
                · have HF := Lib.hid (HX.out (by rw [← hit, show 1 - j = 0 by omega]; rfl))
                  clear hq2 hk2 hi2 hit HJ HX
                  go_wp2_with fail
                  go_roundw
                  case rel => exact ⟨k + m + 1 + 1, last, by omega, by go_num, rfl, hl1, hl2, HF.out⟩
                  case measure => simp [intOf]; try omega
            · by_cases h2 : last = 2
              · have hcx : wr.cell? (ad.add k) = some (.string ⟨#[40, 49, 50]⟩) := Hcx.out
                have H1 := Lib.hid h1; have H2 := Lib.hid h2; have b1 : (last == 1) = false := (by simpa using h1); have b2 : (last == 2) = true := (by simpa using h2); clear h1 h2
                go_wp2_with fail
                refine HCl.out.mono ?_
                rintro e w1 ⟨rfl, hk1⟩
                have Hk1 := Lib.hid hk1
                have hcx : w1.cell? (ad.add k) = some (.string ⟨#[40, 49, 50]⟩) := by
                  rw [hk1.cell (cell_lt Hcx.out) (fun h => h)]; exact Hcx.out
                have Hcx1 := Lib.hid hcx
                have hmg : ((k + m + 1 : Nat) : Int) = (k : Int) + m + 1 := by omega
                rw [hmg]
                clear hk1 hc5
                go_wp2_with fail

                obtain ⟨wo, rfl⟩ : ∃ wo : World, wo = wr := ⟨_, rfl⟩
                go_loopw [8] (fun i wi => ∃ j : Nat, j ≤ 1 ∧ i = .int .i64 j ∧ Hid (Keep (fun k => k = p ∨ Qr k) wo wi ∧ ∃ (Q2 : Nat → Prop) (s2 : RW), (∀ k, Q2 k → Qr k ∨ wo.heap.size ≤ k) ∧ InvW RB p RG Kr s2 Q2 wi ∧ iterR (runT l 0) (1 - j) s2 = iterR (runT l 0) (1) s'))
                  (fun i _ => 1 - (intOf i).toNat)
                case atStart => exact ⟨0, by omega, rfl, Hk1.out.mono (fun _ _ h => h.elim), Qr, s', fun _ h => .inl h, Hinv.out.keep Hk1.out, rfl⟩
                case round =>
                  obtain ⟨j, hj, rfl, HJ⟩ := hrel
                  obtain ⟨hk2, Q2, s2, hq2, hi2, hit⟩ := HJ.out
                  have hc5 : wr.cell? ⟨p, 5, none⟩ = some (.int .i64 s2.E) := by
                    obtain ⟨AV, cV, AB, cB, AO, cO, AG, cG, h1, _⟩ := hi2
                    exact h1.cell 5
                  have HX : Hid (iterR (runT l 0) (1) s' = s2 → Keep (fun k => k = p ∨ Q k) w wr ∧ ∃ (Qr : Nat → Prop) (R : Parts) (s' : RW) (Kr : Nat), (∀ k, Qr k → Q k ∨ w.heap.size ≤ k) ∧ k + m + 1 + 1 + (toks R).length = n ∧ (toks T).drop (k + m + 1 + 1) = toks R ∧ R.sz ≤ N + 1 ∧ wfT R = true ∧ safe7 R = true ∧ Kr + n7 R = K + n7 T ∧ InvW RB p RG Kr s' Qr wr ∧ runT R last s' = runT T 0 st) := by
                    intro he
                    exact HNext.out wr last (k + m + 1 + 1) s2 Q2 Kr hk2 hq2 hi2 (by have := Hel.out; omega) Hre.out He6.out (by have := Hst.out; have hm9 : many 3 last = 1 := (by unfold many; rw [if_neg (by decide), if_pos (.inr ⟨rfl, H2.out⟩)]); rw [hm9] at this; rw [he] at this; exact this)
                  by_cases hjl : (j : Int) < 1
                  · by_cases hE2 : s2.E = 0
                    · obtain ⟨m', hm'⟩ : ∃ m', 1 - j = m' + 1 := ⟨1 - j - 1, by omega⟩
                      rw [hm'] at hit
                      simp only [iterR, if_pos hE2] at hit
                      have hlast : 1 - (j + 1) = m' := by omega
                      have Hq2 := Lib.hid hq2
                      have Hk2 := Lib.hid hk2
                      have Hi2 := Lib.hid hi2
                      have Hit := Lib.hid hit
                      have HL' := Lib.hid hlast
                      rw [hE2] at hc5
                      have HRw2 := Lib.hid (HRw.out.keep_far hk2 (fun ad' hA _ h => by
                        have hg := HA.out ad'.block ⟨ad', hA, rfl⟩
                        rw [hg] at h
                        rcases h with h | h
                        · exact HQg.out.2.2 h
                        · exact hQg2.out h))
                      clear hq2 hk2 hi2 hit hlast hm' HJ HX hE2
                      go_wp2_with (refine wpList_cut rfl (.tmp 83) (.tmp 85) (.tmp 86) _ rfl Tryd.underlying61 hszs.out (some ad) n c (k + 1) (k + m + 1) m (by go_simp) ((k : Int) + 1) ((k : Int) + m + 1) (by go_simp) (by go_simp) (by omega) (by omega) (by omega) (by omega) hc ?_; intro A' c' HS)
                      have hr3 := HS.out.1 _ _ _ HRw2.out
                      rw [Nat.mul_one, Nat.mul_one, ← List.map_take, ← List.map_drop, Hin.out] at hr3
                      refine (HC.out A' c' s2 Q2 wr hr3 (fun q h => HA.out q (HS.out.2.2.2 q h)) HS.out.2.1 (fun h => by rcases Hq2.out g h with h | h; exact hQg2.out h; have := HQg.out.2.1; have := Hk.out.size; omega) Hk2.out.size Hi2.out).mono ?_
                      rintro e w3 ⟨rfl, hk3, Q3, hi3, hq3⟩
                      have HF : Hid (Keep (fun k => k = p ∨ Qr k) wo w3 ∧ ∃ (Q2 : Nat → Prop) (s2 : RW), (∀ k, Q2 k → Qr k ∨ wo.heap.size ≤ k) ∧ InvW RB p RG Kr s2 Q2 w3 ∧ iterR (runT l 0) (1 - (j + 1)) s2 = iterR (runT l 0) (1) s') :=
                        ⟨keep_next (S := fun k => k = p) Hk2.out Hq2.out hk3, Q3, runT l 0 s2, own_next Hk2.out Hq2.out hq3, hi3, by rw [HL'.out]; exact Hit.out⟩
                      clear hk3 hi3 hq3 hr3 HS
                      go_wp2_with fail
                      go_roundw
                      case rel => exact ⟨j + 1, by omega, by go_num, HF.out⟩
                      case measure => simp [intOf]; try omega
                    · have hE2' : (s2.E == 0) = false := by simpa using hE2
                      have HF := Lib.hid (HX.out (by rw [← hit, iterR_stop hE2]))
                      clear hq2 hk2 hi2 hit HJ HX hE2
                      go_wp2_with fail
                      go_roundw
                      case rel => exact ⟨k + m + 1 + 1, last, by omega, by go_num, rfl, hl1, hl2, HF.out⟩
                      case measure => simp [intOf]; try omega
                  · have HF := Lib.hid (HX.out (by rw [← hit, show 1 - j = 0 by omega]; rfl))
                    clear hq2 hk2 hi2 hit HJ HX
                    go_wp2_with fail
                    go_roundw
                    case rel => exact ⟨k + m + 1 + 1, last, by omega, by go_num, rfl, hl1, hl2, HF.out⟩
                    case measure => simp [intOf]; try omega
              · have hcx : wr.cell? (ad.add k) = some (.string ⟨#[40, 49, 50]⟩) := Hcx.out
                have H1 := Lib.hid h1; have H2 := Lib.hid h2; have b1 : (last == 1) = false := (by simpa using h1); have b2 : (last == 2) = false := (by simpa using h2); clear h1 h2
                go_wp2_with fail
                refine HCl.out.mono ?_
                rintro e w1 ⟨rfl, hk1⟩
                have Hk1 := Lib.hid hk1
                have hcx : w1.cell? (ad.add k) = some (.string ⟨#[40, 49, 50]⟩) := by
                  rw [hk1.cell (cell_lt Hcx.out) (fun h => h)]; exact Hcx.out
                have Hcx1 := Lib.hid hcx
                have hmg : ((k + m + 1 : Nat) : Int) = (k : Int) + m + 1 := by omega
                rw [hmg]
                clear hk1 hc5
                go_wp2_with fail

                obtain ⟨wo, rfl⟩ : ∃ wo : World, wo = wr := ⟨_, rfl⟩
                go_loopw [8] (fun i wi => ∃ j : Nat, j ≤ 0 ∧ i = .int .i64 j ∧ Hid (Keep (fun k => k = p ∨ Qr k) wo wi ∧ ∃ (Q2 : Nat → Prop) (s2 : RW), (∀ k, Q2 k → Qr k ∨ wo.heap.size ≤ k) ∧ InvW RB p RG Kr s2 Q2 wi ∧ iterR (runT l 0) (0 - j) s2 = iterR (runT l 0) (0) s'))
                  (fun i _ => 0 - (intOf i).toNat)
                case atStart => exact ⟨0, by omega, rfl, Hk1.out.mono (fun _ _ h => h.elim), Qr, s', fun _ h => .inl h, Hinv.out.keep Hk1.out, rfl⟩
                case round =>
                  obtain ⟨j, hj, rfl, HJ⟩ := hrel
                  obtain ⟨hk2, Q2, s2, hq2, hi2, hit⟩ := HJ.out
                  have hc5 : wr.cell? ⟨p, 5, none⟩ = some (.int .i64 s2.E) := by
                    obtain ⟨AV, cV, AB, cB, AO, cO, AG, cG, h1, _⟩ := hi2
                    exact h1.cell 5
                  have HX : Hid (iterR (runT l 0) (0) s' = s2 → Keep (fun k => k = p ∨ Q k) w wr ∧ ∃ (Qr : Nat → Prop) (R : Parts) (s' : RW) (Kr : Nat), (∀ k, Qr k → Q k ∨ w.heap.size ≤ k) ∧ k + m + 1 + 1 + (toks R).length = n ∧ (toks T).drop (k + m + 1 + 1) = toks R ∧ R.sz ≤ N + 1 ∧ wfT R = true ∧ safe7 R = true ∧ Kr + n7 R = K + n7 T ∧ InvW RB p RG Kr s' Qr wr ∧ runT R last s' = runT T 0 st) := by
                    intro he
                    exact HNext.out wr last (k + m + 1 + 1) s2 Q2 Kr hk2 hq2 hi2 (by have := Hel.out; omega) Hre.out He6.out (by have := Hst.out; have hm9 : many 3 last = 0 := (by unfold many; rw [if_neg (by decide), if_neg (by rintro (h | h); exact H1.out h; exact H2.out h.2)]); rw [hm9] at this; rw [he] at this; exact this)
                  by_cases hjl : (j : Int) < 0
                  · omega
                  · have HF := Lib.hid (HX.out (by rw [← hit, show 0 - j = 0 by omega]; rfl))
                    clear hq2 hk2 hi2 hit HJ HX
                    go_wp2_with fail
                    go_roundw
                    case rel => exact ⟨k + m + 1 + 1, last, by omega, by go_num, rfl, hl1, hl2, HF.out⟩
                    case measure => simp [intOf]; try omega

end Go.Proofs.YtiebjnibmomcjaaDoor
