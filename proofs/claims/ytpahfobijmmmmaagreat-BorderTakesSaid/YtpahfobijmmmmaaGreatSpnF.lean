/- Chapter 15: slices.DeleteFunc at spans, with the closure of Norm. -/
import Derived.Test.YtpahfobijmmmmaaGreatSpnE
namespace Go.Proofs.YtpahfobijmmmmaaGreat
open Go.RowKit

theorem add0 (g j : Nat) : (⟨g, 0, none⟩ : Addr).add j = ⟨g, j, none⟩ := by unfold Addr.add; split <;> simp_all
theorem Own.cell0 {w : World} {base e size n c g : Nat} {xs : List Value} (h : Own w base e size (some ⟨g, 0, none⟩) n c xs) {j : Nat} {u : Value} (hj : xs[j]? = some u) : w.cell? ⟨g, j, none⟩ = some u := by
  have := World.ownsRow.cells h (g := g) rfl j u hj
  rwa [add0] at this
theorem Own.frozen0 {w : World} {base e size n c g : Nat} {xs : List Value} (h : Own w base e size (some ⟨g, 0, none⟩) n c xs) (j : Nat) : w.frozen? ⟨g, j, none⟩ = false := by
  have := h.frozen rfl j
  rwa [add0] at this
/-- the front of an own row -/
theorem Own.front {w : World} {base e size n c k : Nat} {A : Option Addr} {xs : List Value} (h : Own w base e size A n c xs) (hk : k ≤ n) : Own w base e size A k c (xs.take (k * size)) := by
  have hl := h.len
  have hks : k * size ≤ n * size := Nat.mul_le_mul_right _ hk
  refine ⟨by rw [List.length_take]; omega, ?_⟩
  rcases h.2 with ⟨h1, h2⟩ | ⟨g, cap, cur, h1, h2, h3, h4, h5, h6, h7⟩
  · injection h1 with a b d
    subst h2
    obtain rfl : k = 0 := by omega
    exact .inl ⟨by rw [a, d], rfl⟩
  · injection h1 with a b d
    subst d
    refine .inr ⟨g, c, cur, by rw [a], h2, h3, by omega, h5, h6, ?_⟩
    rw [← h7, List.take_take, Nat.min_eq_left hks]
theorem setCells_cons (w : World) (g o : Nat) (v : Value) (r : List Value) : w.setCells g o (v :: r) = (w.setCell ⟨g, o, none⟩ v).setCells g (o + 1) r := rfl
/-- what is laid behind the row leaves it -/
theorem Own.behind {base e size n c g : Nat} {xs : List Value} : ∀ (vs : List Value) (o : Nat) (w : World), Own w base e size (some ⟨g, 0, none⟩) n c xs → n * size ≤ o → Own (w.setCells g o vs) base e size (some ⟨g, 0, none⟩) n c xs ∧ Keep (InRow (some ⟨g, 0, none⟩)) w (w.setCells g o vs)
  | [], o, w, h, _ => ⟨h, Keep.refl _ _⟩
  | v :: r, o, w, h, ho => by
    have h1 := h.stored rfl o v
    rw [add0, List.set_eq_of_length_le (by rw [h.len]; exact ho)] at h1
    obtain ⟨h2, h3⟩ := Own.behind r (o + 1) _ h1 (by omega)
    rw [setCells_cons]
    exact ⟨h2, ((Keep.refl _ w).set_ (p := ⟨g, o, none⟩) (.inl ⟨_, rfl, rfl⟩) v).trans h3⟩
/-- 'clear(s[i:])' of spans: three noughts for each -/
theorem run_clear_sp (w : World) (ty : TypeId) {base n c g i : Nat} {xs : List Value} (h : Own w base 74 3 (some ⟨g, 0, none⟩) n c xs) (hi : i < n) :
    (Builtin.clear_ #[32] ty #[.slice (some ⟨g, i * 3, none⟩) (n - i) (c - i)]).run Tryz.prog w = .ok (.tuple #[]) (w.setCells g (i * 3) (Builtin.zeroCells #[.int .i64 0, .int .i64 0, .int .i64 0] (n - i)).toList) := by
  have hsz : (Builtin.zeroCells #[Value.int .i64 0, .int .i64 0, .int .i64 0] (n - i)).size = (n - i) * 3 := by simp [size_zeroCells]
  have hone : ∀ v ∈ (Builtin.zeroCells #[Value.int .i64 0, .int .i64 0, .int .i64 0] (n - i)).toList, v.oneCell' = true := by
    intro v hv
    simp [Builtin.zeroCells] at hv
    obtain ⟨a, _, rfl⟩ := hv
    have h3 : a % 3 = 0 ∨ a % 3 = 1 ∨ a % 3 = 2 := by omega
    rcases h3 with h3 | h3 | h3 <;> simp [h3, Value.oneCell']
  have hst := run_storeCells_cells (P := Tryz.prog) g (i * 3) (Builtin.zeroCells #[Value.int .i64 0, .int .i64 0, .int .i64 0] (n - i)).toList 0 w
    (fun j hj => by
      have hj' : i * 3 + j < xs.length := by rw [h.len]; simp at hj; rw [hsz] at hj; omega
      have := World.ownsRow.cells h (g := g) rfl (i * 3 + j) _ (List.getElem?_eq_getElem hj')
      rw [add0] at this
      rw [Nat.add_zero, this]; rfl)
    (fun j _ => by
      have := h.frozen rfl (i * 3 + j)
      rw [add0] at this
      rw [Nat.add_zero]; exact this)
    hone
  simp only [Nat.add_zero] at hst
  obtain ⟨m, hm⟩ : ∃ m, n - i = m + 1 := ⟨n - i - 1, by omega⟩
  rw [hm] at hst ⊢
  have hz : ∀ w, (zeroValue 74).run Tryz.prog w = .ok (.agg #[.int .i64 0, .int .i64 0, .int .i64 0]) w := Tryz.zeroValue74
  simp [Builtin.clear_, run_underlying Tryz.underlying32, hz, Value.cells, hst]
/-- 's[i:]' of a row from a block's start on -/
theorem wpList_from0 {P : Program} {w : World} {ops : Array Oper} {rest : List Oper} {o : Oper} {a : Act} {Q : Exit → Act → World → Prop} (hgd : o.guard = none) (s l : Operand) (t : TypeId) (ho : o.op = .slice t s (some l) none none)
    {e size : Nat} (ht : P.underlying t = some (.slice e)) (hsz : ∀ w, (sizeOf e).run P w = .ok size w) (g n c k : Nat) (hs : a.eval s = .slice (some ⟨g, 0, none⟩) n c) (x : Int) (hl : a.eval l = .int .i64 x) (hx : x = k) (hk : k ≤ n) (hkc : k < c)
    (h : wpList P ops Q rest (a.put o.dst (.slice (some ⟨g, k * size, none⟩) (n - k) (c - k))) w) :
    wpList P ops Q (o :: rest) a w := by
  obtain ⟨A', c', h1, _, _, _, _, h6, h7⟩ := run_from (P := P) ht hsz (some ⟨g, 0, none⟩) n c k hk x hx
  rw [if_neg (by omega)] at h6
  simp only [Option.map_some, add0] at h6
  subst h6 h7
  refine wpList_plain hgd fun K hK => ?_
  unfold Oper.wp
  simp only [execOp, ho, Option.map_some, Option.map_none, hs, hl]
  have he : P.underlying t = some (.slice (P.elem t)) := by simp [Program.elem, ht]
  simp only [Sem.run_bind, run_sliceAt_slice _ _ _ _ _ _ he, h1, Result.andThen, Sem.run_pure, Oper.upon]
  exact hK _ _ h
/-- 's[:j]' of a row from a block's start on -/
theorem wpList_upto0 {P : Program} {w : World} {ops : Array Oper} {rest : List Oper} {o : Oper} {a : Act} {Q : Exit → Act → World → Prop} (hgd : o.guard = none) (s r : Operand) (t : TypeId) (ho : o.op = .slice t s none (some r) none)
    {e size : Nat} (ht : P.underlying t = some (.slice e)) (hsz : ∀ w, (sizeOf e).run P w = .ok size w) (g n c j : Nat) (hs : a.eval s = .slice (some ⟨g, 0, none⟩) n c) (y : Int) (hr : a.eval r = .int .i64 y) (hy : y = j) (hj : j ≤ n) (hc : n ≤ c)
    (h : wpList P ops Q rest (a.put o.dst (.slice (some ⟨g, 0, none⟩) j c)) w) :
    wpList P ops Q (o :: rest) a w := by
  subst hy
  have h1 : ∀ w, (Instr.slice t (.slice (some ⟨g, 0, none⟩) n c) none (some (.int .i64 j)) none).run P w = .ok (.slice (some ⟨g, 0, none⟩) j c) w := fun w => by
    have hjc : j ≤ c := by omega
    simp [Instr.slice, run_underlying ht, Instr.sliceBounds, Instr.sliceBound, asIntOf, hsz, hjc, Result.andThen, add0]
  refine wpList_plain hgd fun K hK => ?_
  unfold Oper.wp
  simp only [execOp, ho, Option.map_some, Option.map_none, hs, hr]
  have he : P.underlying t = some (.slice (P.elem t)) := by simp [Program.elem, ht]
  simp only [Sem.run_bind, run_sliceAt_slice _ _ _ _ _ _ he, h1, Result.andThen, Sem.run_pure, Oper.upon]
  exact hK _ _ h
/-- an element of an own row is laid anew -/
theorem own_put {w : World} {base n c g i : Nat} {l : List Sp} (s : Sp) (h : Own w base 74 3 (some ⟨g, 0, none⟩) n c (spCells l)) (hi : i < n) :
    Own (((w.setCell ⟨g, i * 3, none⟩ (.int .i64 s.1)).setCell ⟨g, i * 3 + 1, none⟩ (.int .i64 s.2.1)).setCell ⟨g, i * 3 + 2, none⟩ (.int .i64 s.2.2)) base 74 3 (some ⟨g, 0, none⟩) n c (spCells (l.set i s)) ∧
      Keep (InRow (some ⟨g, 0, none⟩)) w (((w.setCell ⟨g, i * 3, none⟩ (.int .i64 s.1)).setCell ⟨g, i * 3 + 1, none⟩ (.int .i64 s.2.1)).setCell ⟨g, i * 3 + 2, none⟩ (.int .i64 s.2.2)) := by
  have h1 := ((h.stored rfl (i * 3) (.int .i64 s.1)).stored rfl (i * 3 + 1) (.int .i64 s.2.1)).stored rfl (i * 3 + 2) (.int .i64 s.2.2)
  rw [add0, add0, add0] at h1
  have hlen : l.length = n := by have := h.len; rw [len_spCells] at this; omega
  have he : ∀ (l : List Sp) (i : Nat), i < l.length → (((spCells l).set (i * 3) (.int .i64 s.1)).set (i * 3 + 1) (.int .i64 s.2.1)).set (i * 3 + 2) (.int .i64 s.2.2) = spCells (l.set i s) := by
    intro l
    induction l with
    | nil => intro i hi; simp at hi
    | cons y l ih =>
      intro i hi
      cases i with
      | zero => rfl
      | succ i =>
        rw [List.set_cons_succ, spCells_cons, spCells_cons, ← ih i (by simpa using hi), show (i + 1) * 3 = i * 3 + 1 + 1 + 1 by omega]
        simp only [show i * 3 + 1 + 1 + 1 + 1 = (i * 3 + 1) + 1 + 1 + 1 by omega, show i * 3 + 1 + 1 + 1 + 2 = (i * 3 + 2) + 1 + 1 + 1 by omega, List.set_cons_succ]
  rw [he l i (by omega)] at h1
  exact ⟨h1, (((Keep.refl _ w).set_ (p := ⟨g, i * 3, none⟩) (.inl ⟨_, rfl, rfl⟩) _).set_ (p := ⟨g, i * 3 + 1, none⟩) (.inl ⟨_, rfl, rfl⟩) _).set_ (p := ⟨g, i * 3 + 2, none⟩) (.inl ⟨_, rfl, rfl⟩) _⟩
theorem filter_take {l : List Sp} {j : Nat} {s : Sp} (h : l[j]? = some s) (p : Sp → Bool) : (l.take (j + 1)).filter p = (l.take j).filter p ++ (if p s = true then [s] else []) := by
  rw [List.take_add_one, h, List.filter_append]
  simp [List.filter_cons]

set_option maxHeartbeats 2000000 in
set_option maxRecDepth 100000 in
theorem deletef_any (base : Nat) (A : Option Addr) (n c : Nat) (l : List Sp) (w : World) (ho : Own w base 74 3 A n c (spCells l)) (hn : n ≤ 100000000000) :
    Calls Tryz.prog 69 #[.slice A n c, .func (.func 71) #[] #[]] w fun e w' => e = .returned (.slice A (l.filter someS).length c) ∧ Own w' base 74 3 A (l.filter someS).length c (spCells (l.filter someS)) ∧ Keep (InRow A) w w' := by
  have HO := Lib.hid ho
  have HL : Hid (l.length = n) := Lib.hid ho.rd.sp_len
  have HI := Lib.hid (indexf_any 71 #[] (fun s => !someS s) (enters_of Tryz.func71 (by kernel_rfl) rfl) A n c _ l w ho.rd (fun W s _ => norm1_any s W) hn)
  have HN : Hid (∀ (s : Sp) W, Calls Tryz.prog 71 #[.agg #[.int .i64 s.1, .int .i64 s.2.1, .int .i64 s.2.2]] W fun e w' => e = .returned (.bool (!someS s)) ∧ Keep Never W w') := Lib.hid norm1_any
  have eg : ∀ args w, (callFunc 71 args).run Tryz.prog w = .ok (.enter 71 args) w := enters_of Tryz.func71 (by kernel_rfl) rfl
  clear ho
  go_enter Tryz.func69, Tryz.ntmps69
  go_wp2_with fail
  refine HI.out.mono ?_
  rintro e w1 ⟨⟨i0, s0, rfl, h1, h2, h3⟩ | ⟨rfl, h1⟩, hk⟩
  rotate_left
  · have HF : Hid (l.filter someS = l) := Lib.hid (List.filter_eq_self.2 (fun x hx => by have := h1 x hx; simpa using this))
    have HK := Lib.hid hk
    have HO1 := Lib.hid (HO.out.keep hk (fun _ _ h => h))
    clear h1 hk
    go_wp2_with fail
    go_ret
    exact ⟨by rw [HF.out, HL.out]; rfl, by rw [HF.out, HL.out]; exact HO1.out, HK.out.mono (fun _ _ h => h.elim)⟩
  · have hi0 : i0 < n := by have := (List.getElem?_eq_some_iff.1 h1).1; have := HL.out; omega
    obtain ⟨g, cur, rfl, hbg, hB, hnc, hcm, hcs, hct⟩ : ∃ g cur, A = some ⟨g, 0, none⟩ ∧ base ≤ g ∧ Blk w g 74 cur ∧ n ≤ c ∧ c ≤ maxLen ∧ cur.size = c * 3 ∧ cur.toList.take (n * 3) = spCells l := by
      rcases HO.out.form with ⟨_, h, _⟩ | h
      · omega
      · exact h
    have HS0 : Hid (l.take i0 = (l.take (i0 + 1)).filter someS) := Lib.hid (by
      have h4 : (l.take i0).filter someS = l.take i0 := List.filter_eq_self.2 (fun x hx => by have := h3 x hx; simpa using this)
      rw [filter_take h1, h4, if_neg (by simpa using h2)]; simp)
    have HO1 := Lib.hid (HO.out.keep hk (fun _ _ h => h))
    have HK1 := Lib.hid hk
    have b0 : ((i0 : Int) == -1) = false := beq_eq_false_iff_ne.2 (by omega)
    clear hB hcs hct h1 h2 h3 hk HI
    go_wp2_with fail
    go_loopw [5, 6, 7] (fun s5 s6 _ wr => ∃ i j : Nat, s5 = .int .i64 i ∧ s6 = .int .i64 j ∧ i < j ∧ j ≤ n ∧ Hid (∃ cur : List Sp, Own wr base 74 3 (some ⟨g, 0, none⟩) n c (spCells cur) ∧ cur.take i = (l.take j).filter someS ∧ cur.drop j = l.drop j ∧ Keep (InRow (some ⟨g, 0, none⟩)) w wr))
      (fun _ j _ _ => n - (intOf j).toNat)
    case atStart => exact ⟨i0, i0 + 1, rfl, by go_num, by omega, by omega, Lib.hid ⟨l, HO1.out, HS0.out, rfl, HK1.out.mono (fun _ _ h => h.elim)⟩⟩
    case round =>
      obtain ⟨i, j, rfl, rfl, hij, hjn, HH⟩ := hrel
      by_cases h0 : j < n
      · obtain ⟨cur2, ho, ht, hd, hk⟩ := HH.out
        have hjz : (j : Int) < (n : Int) := by omega
        have hlc : cur2.length = n := ho.rd.sp_len
        have hs : cur2[j]? = some cur2[j] := List.getElem?_eq_getElem (by omega)
        have hsl : l[j]? = some cur2[j] := by
          have e1 : (cur2.drop j)[0]? = cur2[j]? := by rw [List.getElem?_drop, Nat.add_zero]
          have e2 : (l.drop j)[0]? = l[j]? := by rw [List.getElem?_drop, Nat.add_zero]
          rw [← e2, ← hd, e1, hs]
        obtain ⟨a0, a1, a2⟩ := spCells_at _ hs
        have c0 := ho.cell0 a0
        have c1 := ho.cell0 a1
        have c2 := ho.cell0 a2
        obtain ⟨so, hso⟩ : ∃ so, cur2[i]? = some so := ⟨_, List.getElem?_eq_getElem (by omega)⟩
        obtain ⟨o0, o1, o2⟩ := spCells_at _ hso
        generalize cur2[j] = s at *
        have HP := Lib.hid (HN.out s)
        have HO2 := Lib.hid ho
        have Hk := Lib.hid hk
        have Ht := Lib.hid ht
        have Hd := Lib.hid hd
        have Hsl := Lib.hid hsl
        have Hlc := Lib.hid hlc
        have HQ := Lib.hid (And.intro o0 (And.intro o1 o2))
        obtain ⟨s1, s2, s3⟩ := s
        simp only at c0 c1 c2 HP
        have hkb : Hid (Keep Never wr (wr.alloc (.cells #[.int .i64 s1, .int .i64 s2, .int .i64 s3] 74)) ∧ Blk (wr.alloc (.cells #[.int .i64 s1, .int .i64 s2, .int .i64 s3] 74)) wr.heap.size 74 #[.int .i64 s1, .int .i64 s2, .int .i64 s3]) := Lib.hid ⟨(Keep.refl Never wr).alloc _, Blk.new wr _ _⟩
        clear ho hk ht hd hsl hlc hs hso a0 a1 a2 o0 o1 o2 HH
        cases hsm : someS (s1, s2, s3) with
        | false =>
          rw [hsm] at HP
          have HF : Hid ((l.take (j + 1)).filter someS = (l.take j).filter someS) := Lib.hid (by rw [filter_take Hsl.out, if_neg (by rw [hsm]; simp)]; simp)
          clear hsm
          go_wp2_with (go_at_fn 71; refine (HP.out _).mono ?_; rintro e w' ⟨rfl, hk'⟩)
          have HFin : Hid (∃ cur : List Sp, Own w' base 74 3 (some ⟨g, 0, none⟩) n c (spCells cur) ∧ cur.take i = (l.take (j + 1)).filter someS ∧ cur.drop (j + 1) = l.drop (j + 1) ∧ Keep (InRow (some ⟨g, 0, none⟩)) w w') := by
            have hk2 : Keep Never wr w' := hkb.out.1.trans hk'
            refine Lib.hid ⟨cur2, HO2.out.keep hk2 (fun _ _ h => h), by rw [HF.out]; exact Ht.out, ?_, Hk.out.trans (hk2.mono (fun _ _ h => h.elim))⟩
            rw [← List.drop_drop, ← List.drop_drop, Hd.out]
          clear hk'
          go_roundw
          case measure => simp [intOf]; try omega
          case rel => exact ⟨i, j + 1, rfl, by go_num, by omega, by omega, HFin⟩
        | true =>
          rw [hsm] at HP
          have HF : Hid ((l.take (j + 1)).filter someS = (l.take j).filter someS ++ [(s1, s2, s3)]) := Lib.hid (by rw [filter_take Hsl.out, if_pos hsm])
          clear hsm
          go_wp2_with fail
          go_at_fn 71
          refine (HP.out _).mono ?_
          rintro e w' ⟨rfl, hk'⟩
          have hk2 : Keep Never wr w' := hkb.out.1.trans hk'
          have HO3 := Lib.hid (HO2.out.keep hk2 (fun _ _ h => h))
          have HK3 := Lib.hid (Hk.out.trans (hk2.mono (fun _ _ h => h.elim)))
          have hb3 := hkb.out.2.keep hk' (fun h => h)
          have b1 : w'.cell? ⟨wr.heap.size, 0, none⟩ = some (.int .i64 s1) := hb3.cell 0
          have b2 : w'.cell? ⟨wr.heap.size, 1, none⟩ = some (.int .i64 s2) := hb3.cell 1
          have b3 : w'.cell? ⟨wr.heap.size, 2, none⟩ = some (.int .i64 s3) := hb3.cell 2
          have d0 := HO3.out.cell0 HQ.out.1
          have d1 := HO3.out.cell0 HQ.out.2.1
          have d2 := HO3.out.cell0 HQ.out.2.2
          have f0 := HO3.out.frozen0 (i * 3)
          have f1 := HO3.out.frozen0 (i * 3 + 1)
          have f2 := HO3.out.frozen0 (i * 3 + 2)
          have hiz : (i : Int) < (n : Int) := by omega
          have hPut := own_put (s1, s2, s3) HO3.out (show i < n by omega)
          simp only at hPut
          have HFin : Hid (∃ cur : List Sp, Own (((w'.setCell ⟨g, i * 3, none⟩ (.int .i64 s1)).setCell ⟨g, i * 3 + 1, none⟩ (.int .i64 s2)).setCell ⟨g, i * 3 + 2, none⟩ (.int .i64 s3)) base 74 3 (some ⟨g, 0, none⟩) n c (spCells cur) ∧ cur.take (i + 1) = (l.take (j + 1)).filter someS ∧ cur.drop (j + 1) = l.drop (j + 1) ∧ Keep (InRow (some ⟨g, 0, none⟩)) w (((w'.setCell ⟨g, i * 3, none⟩ (.int .i64 s1)).setCell ⟨g, i * 3 + 1, none⟩ (.int .i64 s2)).setCell ⟨g, i * 3 + 2, none⟩ (.int .i64 s3))) := by
            refine Lib.hid ⟨cur2.set i (s1, s2, s3), hPut.1, ?_, ?_, HK3.out.trans hPut.2⟩
            · rw [HF.out, List.take_add_one, List.getElem?_set_self (by have := Hlc.out; omega), List.take_set, List.set_eq_of_length_le (by simp; omega), Ht.out]
              rfl
            · rw [List.drop_set_of_lt (by omega), ← List.drop_drop, ← List.drop_drop, Hd.out]
          clear hPut hk' hk2 hb3 c0 c1 c2
          go_wp2_with fail
          go_roundw
          case measure => simp [intOf]; try omega
          case rel => exact ⟨i + 1, j + 1, by go_num, by go_num, by omega, by omega, HFin⟩
      · obtain rfl : j = n := by omega
        obtain ⟨cur2, ho, ht, hd, hk⟩ := HH.out
        have hjz : ¬ (j : Int) < (j : Int) := by omega
        have hlen : i = (l.filter someS).length := by
          have h1 := congrArg List.length ht
          rw [List.length_take, ho.rd.sp_len, Nat.min_eq_left (by omega), List.take_of_length_le (by have := HL.out; omega)] at h1
          exact h1
        have hcl : ∀ ty, (Builtin.clear_ #[32] ty #[.slice (some ⟨g, i * 3, none⟩) (j - i) (c - i)]).run Tryz.prog wr = .ok (.tuple #[]) (wr.setCells g (i * 3) (Builtin.zeroCells #[.int .i64 0, .int .i64 0, .int .i64 0] (j - i)).toList) := fun ty => run_clear_sp wr ty ho hij
        have hB := (ho.front (show i ≤ j by omega)).behind (Builtin.zeroCells #[.int .i64 0, .int .i64 0, .int .i64 0] (j - i)).toList (i * 3) wr (Nat.le_refl _)
        rw [spCells_take, ht, List.take_of_length_le (by have := HL.out; omega)] at hB
        generalize wr.setCells g (i * 3) (Builtin.zeroCells #[.int .i64 0, .int .i64 0, .int .i64 0] (j - i)).toList = w9 at *
        have HB := Lib.hid hB
        have Hk := Lib.hid hk
        have Hlen := Lib.hid hlen
        clear hB hk ht hd ho hlen HH
        go_wp2_with (first | (refine wpList_from0 rfl (.tmp 36) (.tmp 37) _ rfl Tryz.underlying32 Tryz.sizeOf74 g j c i (by go_simp) _ (by go_simp) rfl (by omega) (by omega) ?_) | (refine wpList_upto0 rfl (.tmp 39) (.tmp 40) _ rfl Tryz.underlying32 Tryz.sizeOf74 g j c i (by go_simp) _ (by go_simp) rfl (by omega) (by omega) ?_))
        go_ret
        exact ⟨by rw [← Hlen.out]; rfl, by rw [← Hlen.out]; exact HB.out.1, Hk.out.trans HB.out.2⟩

end Go.Proofs.YtpahfobijmmmmaaGreat
