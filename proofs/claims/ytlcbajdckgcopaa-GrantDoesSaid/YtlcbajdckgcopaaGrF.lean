/- Chapter 18 (grant): the iterator of what is left of entries. -/
import Derived.Test.YtlcbajdckgcopaaGrE
import Derived.Test.YtlcbajdckgcopaaSpnK
import Derived.RangeFuncNested
import Derived.RangeFuncBound
import Derived.RangeFuncCalls
import Derived.RangeFuncLeaves
import Derived.OwnWalkIn
import Derived.TacticsInMore
import Derived.LoopNIn
import Derived.LoopIn
import Derived.Laws.EntriesVeiled
namespace Go.Proofs.Ytlcbajdckgcopaa
open Go.RowKit

attribute [local go_sem] Oper.semAt_some

/-- a block of entries -/
def TyE (W : World) (q : Nat) : Prop := ∃ cs, Blk W q 77 cs
/-- what stands between two rounds: T are the blocks that the iterator keeps for itself -/
structure JOkE (J : (Nat → Prop) → List Ent → World → Prop) : Prop where
  box : ∀ T T' pre W cs, J T pre W → (∀ q, T' q → T q ∨ q = W.heap.size) → J T' pre (W.alloc (.cells cs 77))
  weak : ∀ T T' pre W, J T pre W → (∀ q, T' q → T q) → J T' pre W
  put : ∀ T pre W q i v, J T pre W → T q → J T pre (W.setCell ⟨q, i, none⟩ v)
  go : ∀ T pre W W', J T pre W → Keep Never W W' → J T pre W'
/-- a round of the caller's -/
def RoundOkE (n l M N : Nat) (Z : Nat → Prop) (J : (Nat → Prop) → List Ent → World → Prop) : Prop :=
  ∀ (T : Nat → Prop) (pre : List Ent) (x : Ent) (A : Option Addr) (k c : Nat) (W : World), J T pre W → (∀ q, T q → q < W.heap.size) → pre.length < M → SpG N W A k c x.2.2.1 →
    YieldAt Fence.wide (n - 1) Try.prog l #[.agg #[.int .i64 x.1, .int .i64 x.2.1, .slice A k c, .bool x.2.2.2]] W fun e W' => e = .returned (.bool true) ∧ J T (pre ++ [x]) W' ∧ Keep (fun q => Z q ∧ ¬ T q) W W'
/-- the function of what is left -/
def ExtOk (g : Nat) (lb : Array Value) (f : Ent → List Sp) (N : Nat) (Z : Nat → Prop) (W : World) (es : List Ent) : Prop :=
  ∀ (W' : World) (e : Ent) (A : Option Addr) (n c : Nat), Keep Z W W' → e ∈ es → SpG N W' A n c e.2.2.1 → Calls Try.prog g (#[.agg #[.int .i64 e.1, .int .i64 e.2.1, .slice A n c, .bool e.2.2.2]] ++ lb) W' (SpRetG N (f e) W')
theorem leftM_take {f : Ent → List Sp} {l : List Ent} {k : Nat} {e : Ent} (h : l[k]? = some e) : leftM f (l.take (k + 1)) = leftM f (l.take k) ++ (if 0 < (f e).length then [(e.1, e.2.1, f e, e.2.2.2)] else []) := by
  rw [take_ent h, leftM_app, leftM_cons, leftM_nil]
theorem leftM_take_le (f : Ent → List Sp) (l : List Ent) (k : Nat) : (leftM f (l.take k)).length ≤ k := Nat.le_trans (leftM_len f _) (by rw [List.length_take]; omega)

set_option maxHeartbeats 8000000 in
set_option maxRecDepth 100000 in
theorem left1_in (n : Nat) (hn : 1 ≤ n) (l M pa pb na ca N : Nat) (Aa : Option Addr) (es : List Ent) (g : Nat) (lb : Array Value) (f : Ent → List Sp) (Z : Nat → Prop) (J : (Nat → Prop) → List Ent → World → Prop) (hJ : JOkE J)
    (hY : RoundOkE n l M N Z J) (W : World) (hpa : W.cell? ⟨pa, 0, none⟩ = some (.slice Aa na ca)) (hpb : W.cell? ⟨pb, 0, none⟩ = some (.func (.func g) #[] lb)) (hZ : ¬ Z pa ∧ ¬ Z pb) (ha : EsG N W Aa na ca es) (hF : Far2 N W Z) (hna : na ≤ 1000000) (h0 : J NoB [] W) (hZn : ∀ q, W.heap.size ≤ q → Z q) (hM : na ≤ M)
    (eg : ∀ args w, (callFunc g args).run Try.prog w = .ok (.enter g args) w) (hE : ExtOk g lb f N Z W es) (hNW : N ≤ W.heap.size) :
    CallsIn Fence.wide n Try.prog 151 #[.func (.yield l) #[] #[], .pointer (some ⟨pa, 0, none⟩), .pointer (some ⟨pb, 0, none⟩)] W fun e W' => (∃ v, e = .returned v) ∧ J NoB (leftM f es) W' := by
  have HR := Lib.hid ha
  have HFz := Lib.hid hF
  have HZ := Lib.hid (And.intro hZ hZn)
  have HL : Hid (es.length = na) := Lib.hid ha.len.symm
  have HC := Lib.hid (And.intro hpa hpb)
  have HJ := Lib.hid hJ
  have HY := Lib.hid hY
  have H0 := Lib.hid h0
  have HE := Lib.hid hE
  have HNW := Lib.hid hNW
  clear ha hF hZ hZn hJ hY h0 hE hNW
  refine callsIn_of_wp Try.func151 rfl trivial ?_ rfl
  simp only [Try.ntmps151, List.size_toArray, List.length_cons, List.length_nil, Nat.reduceAdd, Nat.reduceSub, Array.replicate_succ, Array.replicate_zero, List.push_toArray, List.append_toArray, List.nil_append, List.cons_append]
  gi_wp2
  gi_loopw [8] (fun i wr => ∃ k : Nat, k ≤ na ∧ i = .int .i64 k ∧ Hid (J NoB (leftM f (es.take k)) wr ∧ Keep Z W wr)) (fun i _ => na - (intOf i).toNat)
  case atStart => exact ⟨0, by omega, rfl, Lib.hid ⟨by simpa [leftM] using H0.out, Keep.refl _ _⟩⟩
  case round =>
    obtain ⟨k, hk, rfl, HH⟩ := hrel
    by_cases hlt : k < na
    · have hkz : (k : Int) < (na : Int) := by omega
      obtain ⟨ad, e, A2, n2, c2, hA, he, c0, c1, c2', c3', hsp⟩ := ent_g (HR.out.keep HH.out.2 HFz.out) hlt
      subst hA
      have Hmem : Hid (e ∈ es) := Lib.hid (List.mem_of_getElem? he)
      have HT := Lib.hid (leftM_take (f := f) he)
      have HEe : Hid (∀ (W' : World) (A : Option Addr) (n c : Nat), Keep Z W W' → SpG N W' A n c e.2.2.1 → Calls Try.prog g (#[.agg #[.int .i64 e.1, .int .i64 e.2.1, .slice A n c, .bool e.2.2.2]] ++ lb) W' (SpRetG N (f e) W')) := Lib.hid (fun W' A n c hk hs => HE.out W' e A n c hk Hmem.out hs)
      obtain ⟨fe, hfe⟩ : ∃ z, f e = z := ⟨_, rfl⟩
      rw [hfe] at HT HEe
      obtain ⟨e0, e1, ex, e3⟩ := e
      simp only at c0 c1 c2' c3' hsp HT HEe
      have HlM : Hid ((leftM f (es.take (k + 1))).length ≤ M) := Lib.hid (by have := leftM_take_le f es (k + 1); omega)
      have hpb' : wr.cell? ⟨pb, 0, none⟩ = some (.func (.func g) #[] lb) := (HH.out.2.cell (cell_lt HC.out.2) HZ.out.1.2).trans HC.out.2
      obtain ⟨w5, hw5⟩ : ∃ w5 : World, wr.alloc (.cells #[.int .i64 e0, .int .i64 e1, .slice A2 n2 c2, .bool e3] 77) = w5 := ⟨_, rfl⟩
      have hB5 := Blk.new wr 77 #[.int .i64 e0, .int .i64 e1, .slice A2 n2 c2, .bool e3]
      have hka : Keep Never wr w5 := by rw [← hw5]; exact (Keep.refl Never wr).alloc _
      have hk5 : Keep Z W w5 := HH.out.2.trans (hka.mono (fun _ _ h => h.elim))
      have hJ5 : J (fun q => q = wr.heap.size) (leftM f (es.take k)) w5 := by rw [← hw5]; exact HJ.out.box _ _ _ _ _ HH.out.1 (fun q h => .inr h)
      rw [hw5] at hB5
      have HB5 := Lib.hid hB5
      have HK5 := Lib.hid hk5
      have HJ5 := Lib.hid hJ5
      have Hbs : Hid (W.heap.size ≤ wr.heap.size) := Lib.hid HH.out.2.size
      have HEc := Lib.hid (HEe.out w5 A2 n2 c2 hk5 (hsp.never hka))
      obtain ⟨bs, hbs⟩ : ∃ q, wr.heap.size = q := ⟨_, rfl⟩
      rw [hbs] at HB5 HJ5 Hbs
      have hpb5 : w5.cell? ⟨pb, 0, none⟩ = some (.func (.func g) #[] lb) := keepT hka hpb'
      have d0 : w5.cell? ⟨bs, 0, none⟩ = some (.int .i64 e0) := HB5.out.cell 0
      have d1 : w5.cell? ⟨bs, 1, none⟩ = some (.int .i64 e1) := HB5.out.cell 1
      have d2 : w5.cell? ⟨bs, 2, none⟩ = some (.slice A2 n2 c2) := HB5.out.cell 2
      have d3 : w5.cell? ⟨bs, 3, none⟩ = some (.bool e3) := HB5.out.cell 3
      clear hsp he hB5 hk5 hJ5 hka HH HEe
      gi_wp2_with fail
      refine ⟨trivial, (callsIn_wide.2 HEc.out).mono ?_⟩
      rintro e w6 ⟨A6, n6, c6, rfl, hsp6, hk6⟩
      have b6 := HB5.out.keep hk6 (fun h => h)
      have hk6z : Keep Z W w6 := HK5.out.trans (hk6.mono (fun _ _ h => h.elim))
      have hj6 := HJ.out.go _ _ _ _ HJ5.out hk6
      have f2 := b6.frozen 2
      have v0 : w6.cell? ⟨bs, 0, none⟩ = some (.int .i64 e0) := b6.cell 0
      have v1 : w6.cell? ⟨bs, 1, none⟩ = some (.int .i64 e1) := b6.cell 1
      have v2 : w6.cell? ⟨bs, 2, none⟩ = some (.slice A2 n2 c2) := b6.cell 2
      have v3 : w6.cell? ⟨bs, 3, none⟩ = some (.bool e3) := b6.cell 3
      have hbsZ : Z bs := HZ.out.2 _ Hbs.out
      obtain ⟨w7, hw7⟩ : ∃ W' : World, w6.setCell ⟨bs, 2, none⟩ (.slice A6 n6 c6) = W' := ⟨_, rfl⟩
      have hs7 : Keep (fun q => q = bs) w6 w7 := by rw [← hw7]; exact (Keep.refl (fun q => q = bs) w6).st (.inl rfl)
      have HJ7 : Hid (J (fun q => q = bs) (leftM f (es.take k)) w7) := Lib.hid (by rw [← hw7]; exact HJ.out.put _ _ _ _ _ _ hj6 rfl)
      have HK7 : Hid (Keep Z W w7) := Lib.hid (hk6z.trans (hs7.mono (fun q _ h => by subst h; exact hbsZ)))
      have HB7 : Hid (Blk w7 bs 77 #[.int .i64 e0, .int .i64 e1, .slice A6 n6 c6, .bool e3]) := Lib.hid (by rw [← hw7]; have := b6.set_ 2 (.slice A6 n6 c6); simpa using this)
      have HS7 := Lib.hid (hsp6.keep hs7 (Far.blk b6 (by decide) (Nat.le_trans HNW.out Hbs.out)))
      have HW7 := Lib.hid hw7
      have Hn6 : Hid (fe.length = n6) := Lib.hid hsp6.at_.len
      have hbl : bs < w7.heap.size := HB7.out.lt
      clear hsp6 hk6 hk6z hj6 hs7 hbsZ hw7 hw5 hbs b6 HEc HJ5 HB5 HK5 hpb5 hpb' d0 d1 d2 d3 c0 c1 c2' c3'
      by_cases hp : 0 < n6
      · have t1 : decide (0 < n6) = true := by simpa using hp
        have HT1 : Hid (leftM f (es.take (k + 1)) = leftM f (es.take k) ++ [(e0, e1, fe, e3)]) := Lib.hid (by rw [HT.out, if_pos (by rw [Hn6.out]; exact hp)])
        have hlt2 : (leftM f (es.take k)).length < M := by have h1 := HlM.out; rw [HT1.out] at h1; simp only [List.length_append, List.length_cons, List.length_nil] at h1; omega
        obtain ⟨fn, tmps, assign, body, hy, hR⟩ := HY.out _ _ (e0, e1, fe, e3) A6 n6 c6 w7 HJ7.out (fun q h => by subst h; exact hbl) hlt2 HS7.out
        dsimp only at hy
        rw [← HW7.out] at hy hR
        clear hlt2 hbl
        gi_wp2_with fail
        refine hR.mono ?_
        rintro e w8 ⟨rfl, hJ8, hk8⟩
        rw [HW7.out] at hk8
        have HF : Hid (J NoB (leftM f (es.take (k + 1))) w8 ∧ Keep Z W w8) := Lib.hid ⟨by rw [HT1.out]; exact HJ.out.weak _ _ _ _ hJ8 (fun _ h => h.elim), HK7.out.trans (hk8.mono (fun _ _ h => h.1))⟩
        clear hJ8 hk8 hy hR
        gi_wp2
        go_roundw
        case rel => exact ⟨k + 1, by omega, by go_num, HF⟩
        case measure => simp [intOf]; try omega
      · have t1 : decide (0 < n6) = false := by simpa using hp
        have HT1 : Hid (leftM f (es.take (k + 1)) = leftM f (es.take k)) := Lib.hid (by rw [HT.out, if_neg (by rw [Hn6.out]; exact hp), List.append_nil])
        have HF : Hid (J NoB (leftM f (es.take (k + 1))) w7 ∧ Keep Z W w7) := Lib.hid ⟨by rw [HT1.out]; exact HJ.out.weak _ _ _ _ HJ7.out (fun _ h => h.elim), HK7.out⟩
        rw [← HW7.out] at HF
        clear hbl
        gi_wp2
        refine ⟨fun _ h => (by cases h), ?_⟩
        gi_wp2
        go_roundw
        case rel => exact ⟨k + 1, by omega, by go_num, HF⟩
        case measure => simp [intOf]; try omega
    · obtain rfl : k = na := by omega
      have hkz : ¬ (k : Int) < (k : Int) := by omega
      gi_wp2
      go_end0
      exact ⟨⟨_, rfl⟩, by have := HH.out.1; rwa [List.take_of_length_le (by have := HL.out; omega)] at this⟩
end Go.Proofs.Ytlcbajdckgcopaa
