/- Chapter 18 (grant): turned. -/
import Derived.Test.YtlcbajdckgcopaaGrG
namespace Go.Proofs.Ytlcbajdckgcopaa
open Go.RowKit

attribute [local go_sem] Oper.semAt_some

/-- append, in a region inside a fence -/
theorem wpListIn_app {F : Fence} {nF : Nat} {P : Program} {w : World} {ops : Array Oper} {rest : List Oper} {o : Oper} {a : Act} {Q : Exit → Act → World → Prop} (hgd : o.guard = none) (s x : Operand) (t : TypeId)
    (ho : o.op = .call { callee := .builtin .append, args := #[s, x], argTypes := #[t, t] })
    {e size bytes : Nat} (hE : Elem P t e size bytes) (base : Nat) {A : Option Addr} {n c : Nat} {xs : List Value} (hs : a.eval s = .slice A n c) (hown : Own w base e size A n c xs)
    (B : Nat) {A' : Option Addr} {m c' : Nat} {news : List Value} (hx : a.eval x = .slice A' m c') (hr : Rd w B size A' m news) (h1 : ∀ u ∈ news, u.oneCell' = true)
    (hbytes : (n + m) * bytes ≤ 140737488355328) (h63 : n + m ≤ maxLen) (hbase : base ≤ w.heap.size)
    (h : ∀ A2 c2 w2, Own w2 base e size A2 (n + m) c2 (xs ++ news) → Keep (InRow A) w w2 → Hid (∀ k, InRow A2 k → InRow A k ∨ k = w.heap.size) → wpListIn F nF P ops Q rest (a.put o.dst (.slice A2 (n + m) c2)) w2) : wpListIn F nF P ops Q (o :: rest) a w := by
  refine wpListIn_plain hgd fun K hK => ?_
  obtain ⟨A2, c2, w2, hrun, h2, h3, h4⟩ := run_app (P := P) w hE o.type base hown hr h1 hbytes h63 hbase (c' := c')
  unfold Oper.wpIn
  refine ⟨by simp [Oper.about, ho, resolve, Target.leads, Sem.run_pure], ?_⟩
  rw [Oper.semAt_plain F _ _ (by rw [ho]; intro c hc'; cases hc')]
  simp [execOp, ho, resolve, invoke, builtin, hs, hx, hrun, Result.andThen]
  exact hK _ _ (h A2 c2 w2 h2 h3 h4)

set_option maxHeartbeats 8000000 in
set_option maxRecDepth 100000 in
theorem turned_any (x : LA) (l : Ldg) (N g : Nat) (lb : Array Value) (f : Ent → List Sp) (w : World) (h : LdG N w x l) (hs : LdSmall x l) (hn1 : x.n ≤ 1000000) (hN : N ≤ w.heap.size) (eg : ∀ args w, (callFunc g args).run Try.prog w = .ok (.enter g args) w) (hE : ExtOk g lb f N Never w l.1) :
    Calls Try.prog 89 #[.agg x.cs, .func (.func g) #[] lb] w (LdRet2 N (turnM f l) w) := by
  have HM := Lib.hid (fun (W : World) (hk : Keep Never w W) => gMay_any x l W.heap.size W ((h.never hk).ld) hs (Nat.le_refl _))
  have HCo := Lib.hid (fun (W : World) (hk : Keep Never w W) => copied_any x l N W (h.never hk) hs (Nat.le_trans hN hk.size))
  have HNw := Lib.hid hN
  have HKn := Lib.hid h.k
  have HE := Lib.hid hE
  have HLn := Lib.hid h.e.len
  have Hn1 := Lib.hid hn1
  obtain ⟨A, n, c, A2, n2, c2, k⟩ := x
  obtain ⟨es, hr, kn⟩ := l
  simp only [LA.cs] at HM HCo HKn HE HLn Hn1 ⊢
  obtain rfl := HKn.out
  clear h hs hN HKn hE hn1
  refine (callsIn_wide (n := 3)).1 ?_
  refine callsIn_of_wp_marks Try.func89 rfl trivial ?_ rfl
  simp only [Try.ntmps89, List.size_toArray, List.length_cons, List.length_nil, Nat.reduceAdd, Nat.reduceSub, Array.replicate_succ, Array.replicate_zero, List.push_toArray, List.append_toArray, List.nil_append, List.cons_append]
  obtain ⟨w1, hw1⟩ : ∃ W : World, w.alloc (.cells #[.slice A n c, .slice A2 n2 c2, .bool k] 53) = W := ⟨_, rfl⟩
  have zw1 : w1.heap.size = w.heap.size + 1 := by rw [← hw1]; simp
  have kw1 : Keep Never w w1 := by rw [← hw1]; exact (Keep.refl _ _).alloc _
  have bw1 := Blk.new w 53 #[.slice A n c, .slice A2 n2 c2, .bool k]
  rw [hw1] at bw1
  obtain ⟨w2, hw2⟩ : ∃ W : World, w1.alloc (.cells #[.slice none 0 0, .slice none 0 0, .bool false] 53) = W := ⟨_, rfl⟩
  have kw2 : Keep Never w1 w2 := by rw [← hw2]; exact (Keep.refl _ _).alloc _
  have bw2 := Blk.new w1 53 #[.slice none 0 0, .slice none 0 0, .bool false]
  rw [hw2, zw1] at bw2
  have HB1 := Lib.hid (bw1.keep kw2 (fun h => h))
  have HB2 := Lib.hid bw2
  have HK := Lib.hid (kw1.trans kw2)
  have y0 : w2.cell? ⟨w.heap.size, 0, none⟩ = some (.slice A n c) := HB1.out.cell 0
  have y1 : w2.cell? ⟨w.heap.size, 1, none⟩ = some (.slice A2 n2 c2) := HB1.out.cell 1
  have y2 : w2.cell? ⟨w.heap.size, 2, none⟩ = some (.bool k) := HB1.out.cell 2
  clear kw1 kw2 bw1 bw2
  have HC := Lib.hid (HM.out w2 HK.out)
  gi_wp2_with fail
  refine ⟨trivial, (callsIn_wide.2 HC.out).mono ?_⟩
  rintro e w3 ⟨rfl, hk3⟩
  have HK3 := Lib.hid (HK.out.trans hk3)
  have b3 := HB1.out.keep hk3 (fun h => h)
  have b3' := HB2.out.keep hk3 (fun h => h)
  have HB3 := Lib.hid b3
  have HB3' := Lib.hid b3'
  clear hk3 HC y0 y1 y2 hw1 hw2 zw1 HM
  cases hm : mayL (es, hr, k) with
  | false =>
    have HF : Hid (turnM f (es, hr, k) = (noL, 1)) := Lib.hid (by unfold turnM; rw [if_neg (by rw [hm]; simp)])
    have s0 : w3.cell? ⟨w.heap.size + 1, 0, none⟩ = some (.slice none 0 0) := b3'.cell 0
    have s1 : w3.cell? ⟨w.heap.size + 1, 1, none⟩ = some (.slice none 0 0) := b3'.cell 1
    have s2 : w3.cell? ⟨w.heap.size + 1, 2, none⟩ = some (.bool false) := b3'.cell 2
    have sf0 := b3'.frozen 0
    have sf1 := b3'.frozen 1
    have sf2 := b3'.frozen 2
    clear hm b3 b3'
    gi_wp2_with fail
    have hp := putL_keep HK3.out (b := w.heap.size + 1) (.inr (by show w.heap.size ≤ w.heap.size + 1; omega)) (.slice none 0 0) (.slice none 0 0) (.bool false)
    refine ⟨_, ld_results2 (fn := Try.f89) (r := 4) (s := 5) rfl (putL_blk HB3'.out (.slice none 0 0) (.slice none 0 0) (.bool false)) _ rfl, ⟨none, 0, 0, none, 0, 0, false⟩, by rw [HF.out]; rfl, by rw [HF.out]; exact LdG.no _ _, hp⟩
  | true =>
    have HF : Hid (turnM f (es, hr, k) = ((leftM f es, hr, k), 0)) := Lib.hid (by unfold turnM; rw [if_pos hm])
    have y0 : w3.cell? ⟨w.heap.size, 0, none⟩ = some (.slice A n c) := b3.cell 0
    have y1 : w3.cell? ⟨w.heap.size, 1, none⟩ = some (.slice A2 n2 c2) := b3.cell 1
    have y2 : w3.cell? ⟨w.heap.size, 2, none⟩ = some (.bool k) := b3.cell 2
    have HC := Lib.hid (HCo.out w3 HK3.out)
    clear hm b3 b3' HCo
    gi_wp2_with fail
    refine ⟨trivial, (callsIn_wide.2 HC.out).mono ?_⟩
    rintro e w4 ⟨⟨A3, n3, c3, A4, n4, c4, k4⟩, rfl, hg4, hk4⟩
    have HK4 := Lib.hid (HK3.out.trans hk4)
    have b4 := HB3.out.keep hk4 (fun h => h)
    have b4' := HB3'.out.keep hk4 (fun h => h)
    obtain rfl : k = k4 := hg4.k.symm
    obtain ⟨w5, hw5⟩ : ∃ W : World, ((w4.setCell ⟨w.heap.size, 0, none⟩ (.slice A3 n3 c3)).setCell ⟨w.heap.size, 1, none⟩ (.slice A4 n4 c4)).setCell ⟨w.heap.size, 2, none⟩ (.bool k) = W := ⟨_, rfl⟩
    have k5 : Keep (fun q => q = w.heap.size) w4 w5 := by rw [← hw5]; exact putL_keep (Keep.refl (fun q => q = w.heap.size) w4) (.inl rfl) _ _ _
    have b5 : Blk w5 w.heap.size 53 #[.slice A3 n3 c3, .slice A4 n4 c4, .bool k] := by rw [← hw5]; exact putL_blk b4 _ _ _
    have hg5 := hg4.keep k5 (Far2.blk b4 (by decide) (by decide) HNw.out)
    have b5' := b4'.keep k5 (by omega)
    obtain ⟨w6, hw6⟩ : ∃ W : World, w5.alloc (.cells #[.slice none 0 0] 50) = W := ⟨_, rfl⟩
    have k6 : Keep Never w5 w6 := by rw [← hw6]; exact (Keep.refl _ _).alloc _
    have b6 := b5.keep k6 (fun h => h)
    have HB6 := Lib.hid b6
    have HB6' := Lib.hid (b5'.keep k6 (fun h => h))
    have o6 := Blk.new w5 50 #[.slice none 0 0]
    rw [hw6] at o6
    have HG6 := Lib.hid (hg5.never k6)
    have HK6 := Lib.hid ((HK4.out.then_ k5 (fun i hi e => by omega)).trans k6)
    have HS5 : Hid (w.heap.size + 1 < w5.heap.size) := Lib.hid (Nat.lt_of_lt_of_le b4'.lt k5.size)
    obtain ⟨ob, hob⟩ : ∃ q, w5.heap.size = q := ⟨_, rfl⟩
    rw [hob] at o6
    have HS5b : Hid (w.heap.size + 1 < ob) := Lib.hid (by rw [← hob]; exact HS5.out)
    have HO6 := Lib.hid o6
    have HZ6 : Hid (ob < w6.heap.size) := Lib.hid o6.lt
    have HN3 : Hid (n3 = n) := Lib.hid (hg4.e.len.trans HLn.out.symm)
    clear hg4 hk4 HC y0 y1 y2
    dsimp only [LA.cs]
    have y0 : w4.cell? ⟨w.heap.size, 0, none⟩ = some (.slice A n c) := b4.cell 0
    have y1 : w4.cell? ⟨w.heap.size, 1, none⟩ = some (.slice A2 n2 c2) := b4.cell 1
    have y2 : w4.cell? ⟨w.heap.size, 2, none⟩ = some (.bool k) := b4.cell 2
    have yf0 := b4.frozen 0
    have yf1 := b4.frozen 1
    have yf2 := b4.frozen 2
    have z0 : w6.cell? ⟨w.heap.size, 0, none⟩ = some (.slice A3 n3 c3) := b6.cell 0
    have z1 : w6.cell? ⟨w.heap.size, 1, none⟩ = some (.slice A4 n4 c4) := b6.cell 1
    have z2 : w6.cell? ⟨w.heap.size, 2, none⟩ = some (.bool k) := b6.cell 2
    have HL := Lib.hid (left_any A3 n3 c3 (.func (.func g) #[] lb) w6 ⟨g, lb, rfl⟩)
    clear b4 b4' k5 b5 b5' k6 b6 o6 hg5 HS5
    gi_wp2_with fail
    refine ⟨trivial, (callsIn_wide.2 HL.out).mono ?_⟩
    rintro e w7 ⟨rfl, rfl⟩
    obtain ⟨w0, hw0⟩ : ∃ w0 : World, (w6.alloc (.cells #[.slice A3 n3 c3] 50)).alloc (.cells #[.func (.func g) #[] lb] 115) = w0 := ⟨_, rfl⟩
    have hk0 : Keep Never w6 w0 := by rw [← hw0]; exact ((Keep.refl Never w6).alloc _).alloc _
    have hpa : Blk w0 w6.heap.size 50 #[.slice A3 n3 c3] := by rw [← hw0]; exact (Blk.new w6 _ _).alloc _
    have hpb : Blk w0 (w6.heap.size + 1) 115 #[.func (.func g) #[] lb] := by
      have := Blk.new (w6.alloc (.cells #[.slice A3 n3 c3] 50)) 115 #[.func (.func g) #[] lb]
      rw [World.size_alloc] at this
      rw [← hw0]; exact this
    rw [hw0]
    have HK0 := Lib.hid (HK6.out.trans hk0)
    have HB0 := Lib.hid (HB6.out.keep hk0 (fun h => h))
    have HB0' := Lib.hid (HB6'.out.keep hk0 (fun h => h))
    have HO0 := Lib.hid (HO6.out.keep hk0 (fun h => h))
    have HG0 := Lib.hid (HG6.out.never hk0)
    have HZ0 : Hid (w6.heap.size + 1 < w0.heap.size ∧ ob < w6.heap.size) := Lib.hid ⟨hpb.lt, HZ6.out⟩
    clear hw0 hk0 hw5 hw6 hob HL y0 y1 y2 yf0 yf1 yf2 z0 z1 z2
    gi_wp2_with fail
    have hz := HZ0.out
    have hs5 := HS5b.out
    have hnw := HNw.out
    have hN3 := HN3.out
    have hn1' := Hn1.out
    refine wpIn_range_left (ps := #[18]) w6.heap.size (pb := w6.heap.size + 1) n3 c3 ob N A3 es g lb f ?_ rfl (hpa.cell 0) (hpb.cell 0) ⟨by omega, by omega⟩ HG0.out.e (by omega) (by omega) HO0.out eg
      (fun W' e A n c hk he hs => HE.out W' e A n c (HK0.out.then_ hk (fun i hi h => by rcases h with h | h <;> omega)) he hs)
      (fun q v => { tmps := #[Value.agg #[Value.slice A n c, Value.slice A2 n2 c2, Value.bool k], Value.func (Fn.func g) #[] lb, Value.pointer (some ⟨w.heap.size, 0, none⟩), undef, Value.pointer (some ⟨w.heap.size + 1, 0, none⟩), Value.int IntKind.i64 0, Value.pointer (some ⟨ob, 0, none⟩), Value.pointer (some ⟨q, 0, none⟩), Value.agg #[Value.slice A n c, Value.slice A2 n2 c2, Value.bool k], Value.bool true, Value.bool false, undef, Value.agg #[Value.slice A n c, Value.slice A2 n2 c2, Value.bool k], Value.agg #[Value.slice A3 n3 c3, Value.slice A4 n4 c4, Value.bool k], Value.pointer (some ⟨w.heap.size, 0, none⟩), Value.slice A3 n3 c3, Value.func (Fn.func g) #[] lb, Value.func (Fn.func 151) #[] #[Value.pointer (some ⟨w6.heap.size, 0, none⟩), Value.pointer (some ⟨w6.heap.size + 1, 0, none⟩)], v, undef, undef, undef, undef, undef, undef, undef], defers := [] }) ?_ ?_ ?_
    · rfl
    · intro l x A5 n5 c5 W K hK
      clear hz hs5 hnw hN3 hn1'
      obtain ⟨x0, x1, xe, x3⟩ := x
      simp only at hK ⊢
      gi_wp2
      exact hK
    · intro l lp T pre x A5 n5 c5 q W hI hx hsp hlen
      obtain ⟨x0, x1, xe, x3⟩ := x
      simp only at hx hsp ⊢
      obtain ⟨Ao, no, co, css, hno, hB, hO, hA, hT⟩ := hI.row
      have q0 : W.cell? ⟨q, 0, none⟩ = some (.int .i64 x0) := hx.cell 0
      have q1 : W.cell? ⟨q, 1, none⟩ = some (.int .i64 x1) := hx.cell 1
      have q2 : W.cell? ⟨q, 2, none⟩ = some (.slice A5 n5 c5) := hx.cell 2
      have q3 : W.cell? ⟨q, 3, none⟩ = some (.bool x3) := hx.cell 3
      have o0 : W.cell? ⟨ob, 0, none⟩ = some (.slice Ao no co) := hB.cell 0
      have hnob : no ≤ 1000000 := by omega
      have HI := Lib.hid hI
      have HB := Lib.hid hB
      have HO := Lib.hid hO
      have HA := Lib.hid hA
      have HT := Lib.hid hT
      have HSp := Lib.hid hsp
      have Hno := Lib.hid hno
      have Hnin : Hid (¬ InRow Ao ob) := Lib.hid (fun h => HO.out.ne_blk HB.out (by decide) ob h rfl)
      have hsz : w0.heap.size ≤ (W.alloc (.cells #[.int .i64 x0, .int .i64 x1, .slice A5 n5 c5, .bool x3] 77)).heap.size := by have := hI.keep.size; simp; omega
      clear hI hB hO hA hT hsp hno hx hlen hpa hpb hz hs5 hnw hN3 hn1'
      gi_wp2_with (gi_at_builtin; refine wpListIn_app rfl (.tmp 19) (.tmp 21) _ rfl elemE w0.heap.size (A := Ao) (n := no) (c := co) (by go_simp) (HO.out.alloc _) _ (A' := some ⟨W.heap.size, 0, none⟩) (m := 1) (c' := 1) (by go_simp) (Rd.of_blk (n := 1) (cs := [.int .i64 x0, .int .i64 x1, .slice A5 n5 c5, .bool x3]) (Blk.new W _ _) rfl) (by simp [Value.oneCell']) (by omega) (by unfold maxLen; omega) hsz ?_; intro A6 c6 w6' hown6 hk6 hrow6; have hb6 := (HB.out.alloc (.cells #[.int .i64 x0, .int .i64 x1, .slice A5 n5 c5, .bool x3] 77)).keep hk6 Hnin.out; have o6 : w6'.cell? ⟨ob, 0, none⟩ = some (.slice Ao no co) := hb6.cell 0; have f6 : w6'.frozen? ⟨ob, 0, none⟩ = false := hb6.frozen 0; have HBx := Lib.hid hb6; have HOx := Lib.hid hown6; have HKx := Lib.hid hk6; have HRx := Lib.hid hrow6; clear hb6 hown6 hk6 hrow6)
      have hkA : Keep Never W (W.alloc (.cells #[.int .i64 x0, .int .i64 x1, .slice A5 n5 c5, .bool x3] 77)) := (Keep.refl Never W).alloc _
      have hlow := HI.out.low
      have hFo : Far N _ (InRow Ao) := Far.own (HO.out.keep hkA (fun _ _ h => h)) (by decide) (by have := HNw.out; omega)
      have hE6 := egs_keep (egs_keep HA.out hkA (Far.none _ _)) HKx.out hFo
      have hS6 := ((HSp.out.never hkA).keep HKx.out hFo)
      have hFb : Far N w6' (fun q => q = ob) := Far.blk HBx.out (by decide) hlow.1
      have hkb : Keep (fun q => q = ob) w6' (w6'.setCell ⟨ob, 0, none⟩ (.slice A6 (no + 1) c6)) := (Keep.refl (fun q => q = ob) w6').st (.inl rfl)
      have hmine := HI.out.mine
      have hlt := HI.out.lt
      have hkW : Keep (fun q => q = ob ∨ InRow Ao q) W (w6'.setCell ⟨ob, 0, none⟩ (.slice A6 (no + 1) c6)) :=
        ((hkA.mono (fun _ _ h => h.elim)).trans (HKx.out.mono (fun _ _ h => .inr h))).trans (hkb.mono (fun _ _ h => .inl h))
      have hS : ∀ q, (q = ob ∨ InRow Ao q) → (q = ob ∨ w0.heap.size ≤ q) ∧ ¬ T q := fun q h => by
        rcases h with rfl | h
        · exact ⟨.inl rfl, fun h => by have := hmine _ h; omega⟩
        · exact ⟨.inr (HO.out.row h).1, HT.out q h⟩
      refine ⟨⟨HI.out.keep.trans (hkW.mono (fun q _ h => (hS q h).1)), fun q h => ?_, ⟨A6, no + 1, c6, css ++ [[.int .i64 x0, .int .i64 x1, .slice A5 n5 c5, .bool x3]], ?_, HBx.out.set_ 0 _, ?_, ?_, fun q hq hTq => ?_⟩, ?_, ?_, hlow⟩, hkW.mono (fun q _ h => hS q h)⟩
      · obtain ⟨h1, h2, h3, h4, cs, h5⟩ := hmine q h
        exact ⟨h1, h2, h3, Nat.lt_of_lt_of_le h4 hkW.size, cs, h5.keep hkW (fun hs => (hS q hs).2 h)⟩
      · rw [List.length_append, ← Hno.out]; rfl
      · rw [List.flatten_append]
        have := HOx.out.far (p := ⟨ob, 0, none⟩) (HOx.out.ne_blk HBx.out (by decide)) (.slice A6 (no + 1) c6)
        simpa using this
      · exact (egs_keep hE6 hkb hFb).app ⟨EG.keep (EG.ofSp (e := (x0, x1, xe, x3)) hS6.at_ hS6.g) hkb hFb, trivial⟩
      · rcases HRx.out q hq with h | h
        · exact HT.out q h hTq
        · have h4 := (hmine q hTq).2.2.2.1
          rw [World.size_alloc] at h; omega
      · refine (hkW.block l hlt.1 (fun h => ?_)).trans HI.out.loop
        rcases h with h | h
        · omega
        · have := HO.out.cells_of h HI.out.loop; cases this
      · refine (hkW.block _ hlt.2 (fun h => ?_)).trans HI.out.dfr
        rcases h with h | h
        · omega
        · have := HO.out.cells_of h HI.out.dfr; cases this
    · intro l lp W hI
      obtain ⟨Ao, no, co, css, hno, hB, hO, hA, _⟩ := hI.row
      have hKw : Keep Never w W := HK0.out.then_ hI.keep (fun i hi h => by rcases h with h | h <;> omega)
      have hZW : Keep (fun q => q = ob ∨ w0.heap.size ≤ q) w0 W := hI.keep
      have hbW := HB0.out.keep hZW (fun h => by rcases h with h | h <;> omega)
      have hbW' := HB0'.out.keep hZW (fun h => by rcases h with h | h <;> omega)
      have hEs := EsG.own hO hA
      have hF0 : Far N w0 (fun q => q = ob ∨ w0.heap.size ≤ q) := fun q hq => by
        refine ⟨by rcases hq with h | h <;> omega, fun cs hb => ?_⟩
        rcases hq with rfl | hq
        · exact Blk.ne_ HO0.out hb (by decide) rfl
        · have := hb.lt; omega
      have hH := HG0.out.h.keep hZW hF0
      have o0 : W.cell? ⟨ob, 0, none⟩ = some (.slice Ao no co) := hB.cell 0
      have HBW := Lib.hid hbW
      have HBW' := Lib.hid hbW'
      have HKw := Lib.hid hKw
      have HDf := Lib.hid hI.dfr
      have HEs := Lib.hid hEs
      have HH := Lib.hid hH
      have HLo := Lib.hid hI.low
      obtain ⟨W5, hW5⟩ : ∃ V : World, W.setCell ⟨w.heap.size, 0, none⟩ (.slice Ao no co) = V := ⟨_, rfl⟩
      have k5 : Keep (fun q => q = w.heap.size) W W5 := by rw [← hW5]; exact (Keep.refl (fun q => q = w.heap.size) W).st (.inl rfl)
      have b5 : Blk W5 w.heap.size 53 #[.slice Ao no co, .slice A4 n4 c4, .bool k] := by rw [← hW5]; have := hbW.set_ 0 (.slice Ao no co); simpa using this
      have HB5 := Lib.hid b5
      have HB5' := Lib.hid (hbW'.keep k5 (by omega))
      have hF5 : Far2 N W (fun q => q = w.heap.size) := Far2.blk hbW (by decide) (by decide) HNw.out
      have HE5 := Lib.hid (hEs.keep k5 hF5)
      have HH5 := Lib.hid (hH.keep k5 hF5.far)
      have HK5 := Lib.hid (hKw.then_ k5 (fun i hi e => by omega))
      have HD5 : Hid (W5.heap[w0.heap.size]? = some (.deferred (some []))) := Lib.hid ((k5.block _ (Array.getElem?_eq_some_iff.1 HDf.out).1 (fun h => by omega)).trans HDf.out)
      have y0 : W.cell? ⟨w.heap.size, 0, none⟩ = some (.slice A3 n3 c3) := hbW.cell 0
      have y1 : W.cell? ⟨w.heap.size, 1, none⟩ = some (.slice A4 n4 c4) := hbW.cell 1
      have y2 : W.cell? ⟨w.heap.size, 2, none⟩ = some (.bool k) := hbW.cell 2
      have yf0 := hbW.frozen 0
      have yf1 := hbW.frozen 1
      have yf2 := hbW.frozen 2
      have z0 : W5.cell? ⟨w.heap.size, 0, none⟩ = some (.slice Ao no co) := b5.cell 0
      have z1 : W5.cell? ⟨w.heap.size, 1, none⟩ = some (.slice A4 n4 c4) := b5.cell 1
      have z2 : W5.cell? ⟨w.heap.size, 2, none⟩ = some (.bool k) := b5.cell 2
      have s0 : W5.cell? ⟨w.heap.size + 1, 0, none⟩ = some (.slice none 0 0) := HB5'.out.cell 0
      have s1 : W5.cell? ⟨w.heap.size + 1, 1, none⟩ = some (.slice none 0 0) := HB5'.out.cell 1
      have s2 : W5.cell? ⟨w.heap.size + 1, 2, none⟩ = some (.bool false) := HB5'.out.cell 2
      have sf0 := HB5'.out.frozen 0
      have sf1 := HB5'.out.frozen 1
      have sf2 := HB5'.out.frozen 2
      clear hno hB hO hA hKw hZW hbW hbW' hEs hF0 hH k5 b5 hF5 hz hs5 hnw hN3 hn1' hI hpa hpb
      gi_wp2_with fail
      have hz := HZ0.out
      have hs5 := HS5b.out
      have hp := putL_keep (S := fun q => q = w.heap.size + 1) (Keep.refl _ W5) (b := w.heap.size + 1) (.inl rfl) (.slice Ao no co) (.slice A4 n4 c4) (.bool k)
      have hbP := putL_blk HB5'.out (.slice Ao no co) (.slice A4 n4 c4) (.bool k)
      have hFP : Far2 N W5 (fun q => q = w.heap.size + 1) := Far2.blk HB5'.out (by decide) (by decide) (by have := HNw.out; omega)
      obtain ⟨W6, hW6⟩ : ∃ V : World, (((W5.setCell ⟨w.heap.size + 1, 0, none⟩ (.slice Ao no co)).setCell ⟨w.heap.size + 1, 1, none⟩ (.slice A4 n4 c4)).setCell ⟨w.heap.size + 1, 2, none⟩ (.bool k)) = V := ⟨_, rfl⟩
      rw [hW6] at hp hbP ⊢
      have hD6 : W6.heap[w0.heap.size]? = some (.deferred (some [])) := (hp.block _ (Array.getElem?_eq_some_iff.1 HD5.out).1 (fun h => by omega)).trans HD5.out
      have hlt6 := (Array.getElem?_eq_some_iff.1 hD6).1
      have hpk := putObj_keep W6 w0.heap.size (.deferred none) hlt6
      have hFD : Far2 N W6 (fun q => q = w0.heap.size) := fun q hq => by
        subst hq
        have hno : ∀ (t : TypeId) (cs : Array Value), ¬ Blk W6 w0.heap.size t cs := fun t cs hb => by unfold Blk at hb; rw [hD6] at hb; cases hb
        exact ⟨by have := HLo.out; omega, fun cs => hno _ cs, fun cs => hno _ cs⟩
      refine ⟨by simp, .inl ⟨_, _, rfl, run_takeDeferred hD6, ?_⟩⟩
      refine ⟨_, ld_results2 (fn := Try.f89) (r := 4) (s := 5) rfl (hbP.keep hpk (by omega)) _ rfl, ?_⟩
      refine ⟨⟨Ao, no, co, A4, n4, c4, k⟩, by rw [HF.out]; rfl, ?_, ?_⟩
      · rw [HF.out]
        exact ⟨(HE5.out.keep hp hFP).keep hpk hFD, (HH5.out.keep hp hFP.far).keep hpk hFD.far, rfl⟩
      · exact (HK5.out.then_ hp (fun i hi e => by omega)).then_ hpk (fun i hi e => by have := HK0.out.size; omega)
end Go.Proofs.Ytlcbajdckgcopaa
