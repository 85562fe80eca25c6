/- Chapter 6: fits. -/
import Derived.Test.YtiebjnibmomcjaaDoorBdMsgB
import Derived.Test.YtiebjnibmomcjaaDoorSlF
import Derived.Test.YtiebjnibmomcjaaDoorSet
import Derived.Test.YtiebjnibmomcjaaDoorBdPackN
import Derived.BigQuiet
namespace Go.Proofs.YtiebjnibmomcjaaDoor
open Go.RowKit Go.Maps

/-- each is one of those that may be, and none of those that were met -/
def fitsR (may : List Int) : List Int → List Int → Bool
  | _, [] => true
  | met, x :: l => if x ∈ met ∨ x ∉ may then false else fitsR may (x :: met) l
/-- are packets as a form says? -/
def fitsM (must : Int) (may ids : List Int) : Bool :=
  if 0 ≤ must then match ids with
    | [] => false
    | x :: l => (decide (x = must) || (decide (must = 0) && decide (x = 1))) && fitsR may [] l
  else fitsR may [] ids

/-- the numbers of packets that lie in a slice -/
def IdsAt (w : World) (B : Nat) (A : Option Addr) (n : Nat) (ids : List Int) : Prop :=
  ∃ xs, Rd w B 2 A n xs ∧ ids.length = n ∧ ∀ k x, ids[k]? = some x → xs[k * 2]? = some (.int .i64 x) ∧ i64 x ∧ ∃ A' n' c', xs[k * 2 + 1]? = some (.slice A' n' c')
/-- a packet in memory: as repPack, but a slice that leads nowhere may be of any capacity -/
def repPk : Rep (Int × List Int) where
  size := 2
  cells w B p cs := ∃ A n c, cs = [.int .i64 p.1, .slice A n c] ∧ i64 p.1 ∧ Rd w B 1 A n (p.2.map (.int .i64)) ∧ p.2.length = n ∧ n ≤ c ∧ c ≤ maxLen ∧ ∀ x ∈ p.2, i64 x
  len := by rintro w B a cs ⟨A, n, c, rfl, _⟩; rfl
  one := by
    rintro w B a cs ⟨A, n, c, rfl, _⟩ u hu
    simp at hu
    rcases hu with rfl | rfl <;> rfl
  keep_ := by
    rintro w w' B a cs ⟨A, n, c, rfl, h1, h2, h3⟩ hk
    exact ⟨A, n, c, rfl, h1, h2.keep_ hk, h3⟩
  more := by
    rintro w B B' a cs ⟨A, n, c, rfl, h1, h2, h3⟩ hk
    exact ⟨A, n, c, rfl, h1, h2.more hk, h3⟩
theorem repPk_of {w : World} {B n c : Nat} {A : Option Addr} {P : List (Int × List Int)} (h : repPack.Sl w B A n c P) : repPk.Sl w B A n c P := by
  obtain ⟨h1, h2, h3, h4, css, h5, h6⟩ := h
  refine ⟨h1, h2, h3, h4, css, h5, h6.imp fun p cs hc => ?_⟩
  obtain ⟨d, e, rfl, ⟨rfl, b1, b2⟩, A', n', c', rfl, hs⟩ := hc
  obtain ⟨r1, r2, r3⟩ := ints_rd hs
  exact ⟨A', n', c', rfl, ⟨b1, b2⟩, r1, r2, hs.2.1, hs.2.2.1, r3⟩
theorem IdsAt.of_sl {w : World} {B n c : Nat} {A : Option Addr} {P : List (Int × List Int)} (h : repPk.Sl w B A n c P) : IdsAt w B A n (P.map (·.1)) := by
  obtain ⟨h1, _, _, _, css, h5, h6⟩ := h
  refine ⟨css.flatten, h5, by simp [h1], fun k x hx => ?_⟩
  rw [List.getElem?_map] at hx
  cases hp : P[k]? with
  | none => rw [hp] at hx; cases hx
  | some p =>
    rw [hp] at hx
    simp only [Option.map_some, Option.some.injEq] at hx
    obtain ⟨cs, hcs, hc⟩ := h6.at_ hp
    obtain ⟨A', n', c', rfl, hi, _⟩ := hc
    have f0 := Rep.flat_at h6 hcs (j := 0) (by decide)
    have f1 := Rep.flat_at h6 hcs (j := 1) (by decide)
    have e2 : k * repPk.size = k * 2 := rfl
    rw [e2] at f0 f1
    rw [Nat.add_zero] at f0
    rw [f0, f1, ← hx]
    exact ⟨rfl, hi, A', n', c', rfl⟩
theorem IdsAt.keep {w w' : World} {B n : Nat} {A : Option Addr} {ids : List Int} (h : IdsAt w B A n ids) {S : Nat → Prop} (hk : Keep S w w') (hS : ∀ k, S k → B ≤ k) : IdsAt w' B A n ids := by
  obtain ⟨xs, h1, h2⟩ := h
  exact ⟨xs, h1.keep hk hS, h2⟩
theorem IdsAt.at_ {w : World} {B n k : Nat} {A : Option Addr} {ids : List Int} (h : IdsAt w B A n ids) (hk : k < n) : ∃ ad x A' n' c', A = some ad ∧ ids[k]? = some x ∧ i64 x ∧ w.cell? (ad.add (k * 2)) = some (.int .i64 x) ∧ w.cell? ⟨(ad.add (k * 2)).block, (ad.add (k * 2)).off + 1, none⟩ = some (.slice A' n' c') := by
  obtain ⟨xs, h1, h2, h3⟩ := h
  have hx : ids[k]? = some (ids[k]'(by omega)) := List.getElem?_eq_getElem _
  obtain ⟨a, hb, A', n', c', b⟩ := h3 k _ hx
  obtain ⟨ad, e, _, hc⟩ := h1.2 (by omega)
  have d1 := hc _ _ b
  rw [fld _ _ (by omega)] at d1
  exact ⟨ad, _, A', n', c', e, hx, hb, hc _ _ a, d1⟩
theorem IdsAt.tail {w : World} {B m : Nat} {A A' : Option Addr} {x : Int} {l : List Int} (h : IdsAt w B A (m + 1) (x :: l)) (hA : ∀ w B xs, Rd w B 2 A (m + 1) xs → Rd w B 2 A' (m + 1 - 1) (xs.drop (1 * 2))) : IdsAt w B A' m l := by
  obtain ⟨xs, h1, h2, h3⟩ := h
  refine ⟨xs.drop 2, by simpa using hA _ _ _ h1, by simpa using h2, fun k y hy => ?_⟩
  obtain ⟨a, b, A2, n2, c2, c⟩ := h3 (k + 1) y (by simpa using hy)
  refine ⟨?_, b, A2, n2, c2, ?_⟩
  · rw [List.getElem?_drop, show 2 + k * 2 = (k + 1) * 2 by omega]; exact a
  · rw [List.getElem?_drop, show 2 + (k * 2 + 1) = (k + 1) * 2 + 1 by omega]; exact c
theorem fitsR_step {may met ids : List Int} {k : Nat} {x : Int} (h : ids[k]? = some x) : fitsR may met (ids.drop k) = if x ∈ met ∨ x ∉ may then false else fitsR may (x :: met) (ids.drop (k + 1)) := by
  obtain ⟨h1, h2⟩ := List.getElem?_eq_some_iff.1 h
  rw [List.drop_eq_getElem_cons h1, h2]
  rfl
theorem law86 : Keyed Tryd.prog 3 := int_keyed Tryd.underlying3
theorem zero_bool (w : World) : (zeroValue 4).run Tryd.prog w = .ok (.bool false) w := by kernel_rfl

set_option maxHeartbeats 4000000 in
set_option maxRecDepth 100000 in
theorem fits_any (B : Nat) (A1 : Option Addr) (n1 c1 : Nat) (must : Int) (A2 : Option Addr) (n2 c2 : Nat) (may : List Int) (A : Option Addr) (n c : Nat) (ids : List Int) (w : World) (hm : Rd w B 1 A2 n2 (may.map (.int .i64))) (hml : may.length = n2) (hn2 : n2 ≤ 1000) (hi : IdsAt w B A n ids) (hn : n ≤ 100000) (hc : n ≤ c) (_hB : B ≤ w.heap.size) :
    Calls Tryd.prog 29 #[.agg #[.slice A1 n1 c1, .int .i64 must, .slice A2 n2 c2], .slice A n c] w fun e w' => e = .returned (.bool (fitsM must may ids)) ∧ Keep Never w w' := by
  have hb0 : Hid (Blk (w.alloc (.cells #[.slice A1 n1 c1, .int .i64 must, .slice A2 n2 c2] 42)) w.heap.size 42 #[.slice A1 n1 c1, .int .i64 must, .slice A2 n2 c2]) := Blk.new w 42 _
  have hk0 : Hid (Keep Never w (w.alloc (.cells #[.slice A1 n1 c1, .int .i64 must, .slice A2 n2 c2] 42))) := (Keep.refl Never w).alloc _
  have hmm := @run_makeMap Tryd.prog
  have HM := Lib.hid hm
  have HML := Lib.hid hml
  have HI := Lib.hid hi
  clear hm hml hi
  by_cases h0 : 0 ≤ must
  · cases ids with
    | nil =>
      have hF : Hid (fitsM must may [] = false) := Lib.hid (by unfold fitsM; rw [if_pos h0])
      obtain rfl : n = 0 := by have := HI.out.choose_spec.2.1; simpa using this.symm
      go_enter Tryd.func29, Tryd.ntmps29
      go_wp2_with fail
      go_quiet (fail)
      go_wp2_with fail
      go_ret
      exact ⟨by rw [hF.out]; rfl, hk0.out.drewN _⟩
    | cons x0 l =>
      obtain ⟨m, rfl⟩ : ∃ m, n = m + 1 := ⟨n - 1, by have := HI.out.choose_spec.2.1; simp at this; omega⟩
      obtain ⟨ad, x, A', n', c', hAd, hx, hwf, cx0, cx1⟩ := HI.out.at_ (k := 0) (by omega)
      subst hAd
      simp only [List.getElem?_cons_zero, Option.some.injEq] at hx
      subst hx
      have hz : ad.add (0 * 2) = ad := by simp [Addr.add]
      rw [hz] at cx0
      have hmb0 := hb0.out.cell 1
      have hn0 : ((m : Int) + 1 == 0) = false := by simp; omega
      have hn0' : (((m + 1 : Nat) : Int) == 0) = false := by simp; omega
      have hltA : ad.block < w.heap.size := cell_lt cx0
      have cx : (w.alloc (.cells #[.slice A1 n1 c1, .int .i64 must, .slice A2 n2 c2] 42)).cell? ad = some (.int .i64 x0) := by rw [World.cell?_alloc_lt w _ _ hltA]; exact cx0
      clear hz cx1 hwf
      by_cases hok : x0 = must ∨ must = 0 ∧ x0 = 1
      · have hF : Hid (fitsM must may (x0 :: l) = fitsR may [] l) := Lib.hid (by
          have hd : (decide (x0 = must) || (decide (must = 0) && decide (x0 = 1))) = true := by simpa using hok
          unfold fitsM
          rw [if_pos h0]
          show ((decide (x0 = must) || (decide (must = 0) && decide (x0 = 1))) && fitsR may [] l) = _
          rw [hd]
          rfl)
        have h1 : ((x0 == must) = true ∧ (x0 != must) = false) ∨ ((x0 == must) = false ∧ (x0 != must) = true ∧ (must == 0) = true ∧ (must != 0) = false ∧ (x0 == 1) = true ∧ (x0 != 1) = false) := by
          by_cases h : x0 = must
          · left; exact ⟨by simpa using h, by simpa using h⟩
          · right
            rcases hok with h' | ⟨h', h''⟩
            · exact absurd h' h
            · exact ⟨by simpa using h, by simpa using h, by simpa using h', by simpa using h', by simpa using h'', by simpa using h''⟩
        have hszp : Hid (∀ w, (sizeOf 39).run Tryd.prog w = .ok 2 w) := fun w => by kernel_rfl
        have hm1 : m ≤ 100000 := by omega
        clear hok
        rcases h1 with ⟨h1, h1'⟩ | ⟨h1, h1', h2, h2', h3, h3'⟩
        all_goals
          go_enter Tryd.func29, Tryd.ntmps29
          go_wp2_with fail
          go_quiet (fail)
          go_wp2_with (refine wpList_from rfl (.tmp 35) (.const (.int .i64 1)) _ rfl Tryd.underlying23 hszp.out (some ad) (m + 1) c 1 (by go_simp) 1 (by go_simp) rfl (by omega) ?_; intro A9 c9 HS9)
          have HI9 : Hid (IdsAt w B A9 m l) := Lib.hid (HI.out.tail (fun w B xs h => HS9.out.1 w B xs hc h))
          clear HS9 cx cx0 hn0 hn0' hmb0 h1 h1'
          (try rw [Nat.add_sub_cancel])
          obtain ⟨W1, hW1⟩ : ∃ W1, ((w.alloc (.cells #[.slice A1 n1 c1, .int .i64 must, .slice A2 n2 c2] 42)).drewN nq).alloc (.map #[] 0) = W1 := ⟨_, rfl⟩
          rw [hW1]
          have hset : SetAt Tryd.prog 3 4 W1 (w.heap.size + 1) 0 [] := by
            have := SetAt.made ((w.alloc (.cells #[.slice A1 n1 c1, .int .i64 must, .slice A2 n2 c2] 42)).drewN nq) Tryd.prog 3 4
            rw [hW1] at this
            simpa using this
          have HB1 : Hid (Blk W1 w.heap.size 42 #[.slice A1 n1 c1, .int .i64 must, .slice A2 n2 c2]) := by rw [← hW1]; exact Lib.hid (Blk.alloc (hb0.out.drewN nq) _)
          have HK1 : Hid (Keep Never w W1) := by rw [← hW1]; exact Lib.hid (Keep.alloc (hk0.out.drewN nq) _)
          have HS1 : Hid (W1.heap.size = w.heap.size + 2) := by rw [← hW1]; exact Lib.hid (by simp)
          have Hset := Lib.hid hset
          clear hW1 hset
          go_loopw [40] (fun i wr => ∃ (k : Nat) (S : List Int), k ≤ m ∧ i = .int .i64 k ∧ Hid (SetAt Tryd.prog 3 4 wr (w.heap.size + 1) k S ∧ Keep (fun q => q = w.heap.size + 1) W1 wr ∧ fitsR may S (l.drop k) = fitsR may [] l)) (fun i _ => m - (intOf i).toNat)
          case atStart => exact ⟨0, [], by omega, rfl, Lib.hid ⟨Hset.out, Keep.refl _ _, rfl⟩⟩
          case round =>
            obtain ⟨k, S, hk, rfl, HH⟩ := hrel
            obtain ⟨hs, hkw, hfr⟩ := HH.out
            have hkW : Keep Never w wr := HK1.out.then_ hkw (fun q hq h => by omega)
            by_cases hkn : k < m
            · have hki : (k : Int) < (m : Int) := by omega
              obtain ⟨ad, x, A', n', c', hAd, hx, hwf, cx0, cx1⟩ := (HI9.out.keep hkW (fun _ h => h.elim)).at_ hkn
              subst hAd
              rw [fitsR_step hx] at hfr
              have hwfx : (Lit.int .i64 x).wf = true := by obtain ⟨a, b⟩ := hwf; simp [Lit.wf, IntKind.min, IntKind.max, IntKind.signed, IntKind.bits]; omega
              have HWf := Lib.hid hwfx
              have hbf := HB1.out.keep hkw (fun h => by omega)
              have hlt := hbf.lt
              have m2 : (wr.alloc (.cells #[.int .i64 x, .slice A' n' c'] 39)).cell? ⟨w.heap.size, 2, none⟩ = some (.slice A2 n2 c2) := (hbf.alloc _).cell 2
              have m2' := hbf.cell 2
              have HC : Hid (∀ W, Keep Never wr W → Calls Tryd.prog 57 #[.slice A2 n2 c2, .int .i64 x] W fun e w' => e = .returned (.bool (decide (x ∈ may))) ∧ W = w') :=
                Lib.hid (fun W hk => icontains_any A2 n2 c2 B may HML.out x W (HM.out.keep (hkW.trans hk) (fun _ h => h.elim)) (by omega))
              have Hs := Lib.hid (hs.keep (S := S) ((Keep.refl Never wr).alloc (.cells #[.int .i64 x, .slice A' n' c'] 39)) (fun h => h))
              have HKa := Lib.hid (hkw.alloc (.cells #[.int .i64 x, .slice A' n' c'] 39))
              have HKw := Lib.hid (hkW.alloc (.cells #[.int .i64 x, .slice A' n' c'] 39))
              clear hx hwf hwfx hbf hs hkw hkW HH
              by_cases hin : x ∈ S
              · have hd : decide (x ∈ S) = true := by simpa using hin
                have HR := Lib.hid (show false = fitsR may [] l by rw [← hfr, if_pos (.inl hin)])
                clear hfr hin
                go_wp2_with (first | (at_lookup; refine wpList_look_set rfl (.tmp 44) (.tmp 46) 86 rfl law86 Tryd.underlying86 Tryd.underlying4 zero_bool Tryd.underlying3 rfl Hs.out x rfl HWf.out ?_; rw [hd]))
                go_ret
                exact ⟨by rw [hF.out, ← HR.out]; rfl, HKw.out⟩
              · have hd : decide (x ∈ S) = false := by simpa using hin
                by_cases hmy : x ∈ may
                · have hd2 : decide (x ∈ may) = true := by simpa using hmy
                  have HR := Lib.hid (show fitsR may (x :: S) (l.drop (k + 1)) = fitsR may [] l by rw [← hfr, if_neg (by simp [hin, hmy])])
                  rw [hd2] at HC
                  clear hfr hin hmy hd2
                  go_wp2_with (first
                    | (at_lookup; refine wpList_look_set rfl (.tmp 44) (.tmp 46) 86 rfl law86 Tryd.underlying86 Tryd.underlying4 zero_bool Tryd.underlying3 rfl Hs.out x rfl HWf.out ?_; rw [hd])
                    | (go_at_call 57; refine (HC.out _ ((Keep.refl Never wr).alloc _)).mono ?_; rintro e w5 ⟨rfl, rfl⟩)
                    | (at_mapUpdate; refine wpList_put_set rfl (.tmp 56) (.tmp 58) (.const (.bool true)) 86 rfl law86 Tryd.underlying86 Tryd.underlying4 Tryd.underlying3 rfl Hs.out (by unfold maxLen; omega) x rfl HWf.out rfl ?_; intro w6 hs6 hk6; have HF6 := Lib.hid (And.intro hs6 (And.intro (HKa.out.trans hk6) HR.out)); clear hs6 hk6))
                  go_roundw
                  case rel => exact ⟨k + 1, x :: S, by omega, by go_num, HF6⟩
                  case measure => simp [intOf]; try omega
                · have hd2 : decide (x ∈ may) = false := by simpa using hmy
                  have HR := Lib.hid (show false = fitsR may [] l by rw [← hfr, if_pos (.inr hmy)])
                  rw [hd2] at HC
                  clear hfr hin hmy hd2
                  go_wp2_with (first
                    | (at_lookup; refine wpList_look_set rfl (.tmp 44) (.tmp 46) 86 rfl law86 Tryd.underlying86 Tryd.underlying4 zero_bool Tryd.underlying3 rfl Hs.out x rfl HWf.out ?_; rw [hd])
                    | (go_at_call 57; refine (HC.out _ ((Keep.refl Never wr).alloc _)).mono ?_; rintro e w5 ⟨rfl, rfl⟩))
                  go_ret
                  exact ⟨by rw [hF.out, ← HR.out]; rfl, HKw.out⟩
            · obtain rfl : k = m := by omega
              have hki : ¬ (k : Int) < (k : Int) := by omega
              have HR := Lib.hid (show true = fitsR may [] l by rw [← hfr, List.drop_eq_nil_of_le (by have := HI9.out.choose_spec.2.1; omega)]; rfl)
              have HKw := Lib.hid hkW
              clear hs hkw hkW hfr HH
              go_wp2_with fail
              go_ret
              exact ⟨by rw [hF.out, ← HR.out]; rfl, HKw.out⟩
      · have hF : Hid (fitsM must may (x0 :: l) = false) := Lib.hid (by unfold fitsM; rw [if_pos h0]; simp; intro h; exact absurd (by simpa using h) hok)
        have h1 : (x0 == must) = false ∧ (x0 != must) = true := by constructor <;> (simp; exact fun h => hok (.inl h))
        obtain ⟨h1, h1'⟩ := h1
        have h2 : ((must == 0) = false ∧ (must != 0) = true) ∨ ((must == 0) = true ∧ (must != 0) = false ∧ (x0 == 1) = false ∧ (x0 != 1) = true) := by
          by_cases h : must = 0
          · right; refine ⟨by simpa using h, by simpa using h, ?_, ?_⟩ <;> (simp; exact fun h' => hok (.inr ⟨h, h'⟩))
          · left; exact ⟨by simpa using h, by simpa using h⟩
        clear hok
        rcases h2 with ⟨h2, h2'⟩ | ⟨h2, h2', h3, h3'⟩
        all_goals
          go_enter Tryd.func29, Tryd.ntmps29
          go_wp2_with fail
          go_quiet (fail)
          go_wp2_with fail
          go_ret
          exact ⟨by rw [hF.out]; rfl, hk0.out.drewN _⟩
  · have hF : Hid (fitsM must may ids = fitsR may [] ids) := Lib.hid (by unfold fitsM; rw [if_neg h0])
    go_enter Tryd.func29, Tryd.ntmps29
    go_wp2_with fail
    obtain ⟨W1, hW1⟩ : ∃ W1, ((w.alloc (.cells #[.slice A1 n1 c1, .int .i64 must, .slice A2 n2 c2] 42))).alloc (.map #[] 0) = W1 := ⟨_, rfl⟩
    rw [hW1]
    have hset : SetAt Tryd.prog 3 4 W1 (w.heap.size + 1) 0 [] := by
      have := SetAt.made ((w.alloc (.cells #[.slice A1 n1 c1, .int .i64 must, .slice A2 n2 c2] 42))) Tryd.prog 3 4
      rw [hW1] at this
      simpa using this
    have HB1 : Hid (Blk W1 w.heap.size 42 #[.slice A1 n1 c1, .int .i64 must, .slice A2 n2 c2]) := by rw [← hW1]; exact Lib.hid (Blk.alloc (hb0.out) _)
    have HK1 : Hid (Keep Never w W1) := by rw [← hW1]; exact Lib.hid (Keep.alloc (hk0.out) _)
    have HS1 : Hid (W1.heap.size = w.heap.size + 2) := by rw [← hW1]; exact Lib.hid (by simp)
    have Hset := Lib.hid hset
    clear hW1 hset
    go_loopw [40] (fun i wr => ∃ (k : Nat) (S : List Int), k ≤ n ∧ i = .int .i64 k ∧ Hid (SetAt Tryd.prog 3 4 wr (w.heap.size + 1) k S ∧ Keep (fun q => q = w.heap.size + 1) W1 wr ∧ fitsR may S (ids.drop k) = fitsR may [] ids)) (fun i _ => n - (intOf i).toNat)
    case atStart => exact ⟨0, [], by omega, rfl, Lib.hid ⟨Hset.out, Keep.refl _ _, rfl⟩⟩
    case round =>
      obtain ⟨k, S, hk, rfl, HH⟩ := hrel
      obtain ⟨hs, hkw, hfr⟩ := HH.out
      have hkW : Keep Never w wr := HK1.out.then_ hkw (fun q hq h => by omega)
      by_cases hkn : k < n
      · have hki : (k : Int) < (n : Int) := by omega
        obtain ⟨ad, x, A', n', c', hAd, hx, hwf, cx0, cx1⟩ := (HI.out.keep hkW (fun _ h => h.elim)).at_ hkn
        subst hAd
        rw [fitsR_step hx] at hfr
        have hwfx : (Lit.int .i64 x).wf = true := by obtain ⟨a, b⟩ := hwf; simp [Lit.wf, IntKind.min, IntKind.max, IntKind.signed, IntKind.bits]; omega
        have HWf := Lib.hid hwfx
        have hbf := HB1.out.keep hkw (fun h => by omega)
        have hlt := hbf.lt
        have m2 : (wr.alloc (.cells #[.int .i64 x, .slice A' n' c'] 39)).cell? ⟨w.heap.size, 2, none⟩ = some (.slice A2 n2 c2) := (hbf.alloc _).cell 2
        have m2' := hbf.cell 2
        have HC : Hid (∀ W, Keep Never wr W → Calls Tryd.prog 57 #[.slice A2 n2 c2, .int .i64 x] W fun e w' => e = .returned (.bool (decide (x ∈ may))) ∧ W = w') :=
          Lib.hid (fun W hk => icontains_any A2 n2 c2 B may HML.out x W (HM.out.keep (hkW.trans hk) (fun _ h => h.elim)) (by omega))
        have Hs := Lib.hid (hs.keep (S := S) ((Keep.refl Never wr).alloc (.cells #[.int .i64 x, .slice A' n' c'] 39)) (fun h => h))
        have HKa := Lib.hid (hkw.alloc (.cells #[.int .i64 x, .slice A' n' c'] 39))
        have HKw := Lib.hid (hkW.alloc (.cells #[.int .i64 x, .slice A' n' c'] 39))
        clear hx hwf hwfx hbf hs hkw hkW HH
        by_cases hin : x ∈ S
        · have hd : decide (x ∈ S) = true := by simpa using hin
          have HR := Lib.hid (show false = fitsR may [] ids by rw [← hfr, if_pos (.inl hin)])
          clear hfr hin
          go_wp2_with (first | (at_lookup; refine wpList_look_set rfl (.tmp 44) (.tmp 46) 86 rfl law86 Tryd.underlying86 Tryd.underlying4 zero_bool Tryd.underlying3 rfl Hs.out x rfl HWf.out ?_; rw [hd]))
          go_ret
          exact ⟨by rw [hF.out, ← HR.out]; rfl, HKw.out⟩
        · have hd : decide (x ∈ S) = false := by simpa using hin
          by_cases hmy : x ∈ may
          · have hd2 : decide (x ∈ may) = true := by simpa using hmy
            have HR := Lib.hid (show fitsR may (x :: S) (ids.drop (k + 1)) = fitsR may [] ids by rw [← hfr, if_neg (by simp [hin, hmy])])
            rw [hd2] at HC
            clear hfr hin hmy hd2
            go_wp2_with (first
              | (at_lookup; refine wpList_look_set rfl (.tmp 44) (.tmp 46) 86 rfl law86 Tryd.underlying86 Tryd.underlying4 zero_bool Tryd.underlying3 rfl Hs.out x rfl HWf.out ?_; rw [hd])
              | (go_at_call 57; refine (HC.out _ ((Keep.refl Never wr).alloc _)).mono ?_; rintro e w5 ⟨rfl, rfl⟩)
              | (at_mapUpdate; refine wpList_put_set rfl (.tmp 56) (.tmp 58) (.const (.bool true)) 86 rfl law86 Tryd.underlying86 Tryd.underlying4 Tryd.underlying3 rfl Hs.out (by unfold maxLen; omega) x rfl HWf.out rfl ?_; intro w6 hs6 hk6; have HF6 := Lib.hid (And.intro hs6 (And.intro (HKa.out.trans hk6) HR.out)); clear hs6 hk6))
            go_roundw
            case rel => exact ⟨k + 1, x :: S, by omega, by go_num, HF6⟩
            case measure => simp [intOf]; try omega
          · have hd2 : decide (x ∈ may) = false := by simpa using hmy
            have HR := Lib.hid (show false = fitsR may [] ids by rw [← hfr, if_pos (.inr hmy)])
            rw [hd2] at HC
            clear hfr hin hmy hd2
            go_wp2_with (first
              | (at_lookup; refine wpList_look_set rfl (.tmp 44) (.tmp 46) 86 rfl law86 Tryd.underlying86 Tryd.underlying4 zero_bool Tryd.underlying3 rfl Hs.out x rfl HWf.out ?_; rw [hd])
              | (go_at_call 57; refine (HC.out _ ((Keep.refl Never wr).alloc _)).mono ?_; rintro e w5 ⟨rfl, rfl⟩))
            go_ret
            exact ⟨by rw [hF.out, ← HR.out]; rfl, HKw.out⟩
      · obtain rfl : k = n := by omega
        have hki : ¬ (k : Int) < (k : Int) := by omega
        have HR := Lib.hid (show true = fitsR may [] ids by rw [← hfr, List.drop_eq_nil_of_le (by have := HI.out.choose_spec.2.1; omega)]; rfl)
        have HKw := Lib.hid hkW
        clear hs hkw hkW hfr HH
        go_wp2_with fail
        go_ret
        exact ⟨by rw [hF.out, ← HR.out]; rfl, HKw.out⟩

end Go.Proofs.YtiebjnibmomcjaaDoor
