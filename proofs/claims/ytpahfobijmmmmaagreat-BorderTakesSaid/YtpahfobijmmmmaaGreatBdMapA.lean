/- Chapter 13: the steps that After keeps in a map: which steps block b has. -/
import Derived.Test.YtpahfobijmmmmaaGreatBdTopA
import Derived.Test.YtpahfobijmmmmaaGreatLaw
import Derived.Maps.RangeWalk
import Derived.DeepKeys4
namespace Go.Proofs.YtpahfobijmmmmaaGreat
open Go.RowKit Go.Maps Go.WideShapes Go.WideMaps

def stpV (s : Stp) : Value := .agg #[.int .i64 s.1, .bool s.2]
def kS (s : Stp) : Lit := .string (keyBytes [.int .i64 s.1, .bool s.2])
set_option maxRecDepth 100000 in
theorem wideStp : (match Tryz.prog.underlying 106 with | some (.array _ _) | some (.struct _) => true | _ => false) = true := by kernel_rfl
set_option maxRecDepth 100000 in
theorem rowStp : (106 : TypeId) < Tryz.prog.types.size := of_decide_eq_true (by kernel_rfl)
set_option maxRecDepth 100000 in
theorem lawStp : Keyed Tryz.prog 106 := Keyed.of_law (deep_law_laid laidOut (m := 3) (by omega) rowStp (by kernel_rfl) wideStp)
set_option maxRecDepth 100000 in
theorem keyTypeStp : Tryz.prog.keyType 106 = true := by kernel_rfl
set_option maxRecDepth 100000 in
theorem cellsStp : Tryz.prog.cellsOf 106 = 2 := by kernel_rfl
set_option maxRecDepth 100000 in
theorem cellsInt : Tryz.prog.cellsOf 3 = 1 := by kernel_rfl
set_option maxRecDepth 100000 in
theorem cellsBool : Tryz.prog.cellsOf 4 = 1 := by kernel_rfl
set_option maxRecDepth 100000 in
theorem pred_of_lt {n k : Nat} (h : k < n) : ∃ m, n = m + 1 := ⟨n - 1, by omega⟩
set_option maxRecDepth 100000 in
theorem typesSize : ∃ m, Tryz.prog.types.size = m + 1 := pred_of_lt rowStp
set_option maxRecDepth 100000 in
theorem keyLits_stp (m : Nat) (s : Stp) (h : -9223372036854775808 ≤ s.1 ∧ s.1 ≤ 9223372036854775807) : Tryz.prog.keyLits (m + 2) 106 [.int .i64 s.1, .bool s.2] = some [.int .i64 s.1, .bool s.2] := by
  have hw : (Lit.int .i64 s.1).wf = true := by simp [Lit.wf, IntKind.min, IntKind.max, IntKind.bits, IntKind.signed]; omega
  have h1 : Tryz.prog.keyLits (m + 1) 3 [.int .i64 s.1] = some [.int .i64 s.1] := by
    unfold Program.keyLits; rw [Tryz.underlying3]; simp [hw]
  have h2 : Tryz.prog.keyLits (m + 1) 4 [.bool s.2] = some [.bool s.2] := by
    unfold Program.keyLits; rw [Tryz.underlying4]
  unfold Program.keyLits
  rw [Tryz.underlying106]
  simp only [cellsStp]
  simp [cellsInt, cellsBool, h1, h2]
set_option maxRecDepth 100000 in
theorem keyOf_stp (s : Stp) (h : -9223372036854775808 ≤ s.1 ∧ s.1 ≤ 9223372036854775807) : keyOf Tryz.prog 106 (stpV s) = some (kS s) := by
  obtain ⟨m, hm⟩ := typesSize
  have hf : (stpV s).formed Tryz.prog 106 = true := by simp [stpV, Value.formed, Tryz.underlying106, cellsStp]
  unfold keyOf
  rw [Tryz.underlying106]
  simp only [keyTypeStp, hf, Bool.and_self, if_true, hm]
  have := keyLits_stp m s h
  simp only [stpV, Value.cells]
  rw [this]
  rfl
set_option maxRecDepth 100000 in
theorem keyOf_inv {v : Value} {l : Lit} (h : keyOf Tryz.prog 106 v = some l) : ∃ s : Stp, v = stpV s ∧ -9223372036854775808 ≤ s.1 ∧ s.1 ≤ 9223372036854775807 := by
  obtain ⟨m, hm⟩ := typesSize
  obtain ⟨xs, L, rfl, h1, -⟩ := keyOf_top wideStp h
  rw [hm] at h1
  unfold Program.keyLits at h1
  rw [Tryz.underlying106] at h1
  simp only [cellsStp] at h1
  split at h1
  · rename_i hc
    obtain ⟨l⟩ := xs
    match l, hc.1 with
    | [x, y], _ =>
      simp [cellsInt, cellsBool] at h1
      cases hp : Tryz.prog.keyLits (m + 1) 3 [x] with
      | none => rw [hp] at h1; simp at h1
      | some p =>
        cases hq : Tryz.prog.keyLits (m + 1) 4 [y] with
        | none => rw [hp, hq] at h1; simp at h1
        | some q =>
          unfold Program.keyLits at hp hq
          rw [Tryz.underlying3] at hp
          rw [Tryz.underlying4] at hq
          cases x <;> simp at hp
          cases y <;> simp at hq
          obtain ⟨⟨rfl, hw⟩, _⟩ := hp
          simp [Lit.wf, IntKind.min, IntKind.max, IntKind.bits, IntKind.signed] at hw
          exact ⟨(_, _), rfl, by simp only; omega, by simp only; omega⟩
  · cases h1
set_option maxRecDepth 100000 in
theorem kS_inj {s u : Stp} (hs : -9223372036854775808 ≤ s.1 ∧ s.1 ≤ 9223372036854775807) (hu : -9223372036854775808 ≤ u.1 ∧ u.1 ≤ 9223372036854775807) (h : kS s = kS u) : s = u := by
  have h1 := keyOf_stp s hs
  have h2 := keyOf_stp u hu
  rw [h] at h1
  have := lawStp.inj h1 h2
  unfold stpV at this
  injection this with this
  simp at this
  exact Prod.ext this.1 this.2

noncomputable abbrev elB : Value → Option (DataW Unit × List MemPlace) := plainElem Tryz.prog 4
set_option maxRecDepth 100000 in
theorem elB_inv (v : Value) (y : DataW Unit × List MemPlace) (h : elB v = some y) : ∃ c : Bool, v = .bool c := by
  unfold elB plainElem at h
  rw [Tryz.underlying4] at h
  cases v <;> simp at h
  exact ⟨_, rfl⟩
def in64 (s : Stp) : Prop := -9223372036854775808 ≤ s.1 ∧ s.1 ≤ 9223372036854775807
/-- block b is a map of at most n entries, whose keys are the steps ks -/
def SetAt (w : World) (b n : Nat) (ks : Stp → Prop) : Prop := ∃ D : DataW Unit, w.ownsMap Tryz.prog 106 elB b n D ∧ (∀ s, in64 s → (has D (kS s) = true ↔ ks s)) ∧ IsMap D
set_option maxRecDepth 100000 in
theorem SetAt.keep {S : Nat → Prop} {w w' : World} {b n : Nat} {ks : Stp → Prop} (h : SetAt w b n ks) (hk : Keep S w w') (hS : ¬ S b) : SetAt w' b n ks := by
  obtain ⟨D, ho, h1, h2⟩ := h
  have hlt := ho.lt
  obtain ⟨es, clock, hb, F, hs, hD⟩ := ho
  exact ⟨D, ⟨es, clock, (hk.block b hlt hS).trans hb, F, hs, hD⟩, h1, h2⟩
set_option maxRecDepth 100000 in
theorem SetAt.lt {w : World} {b n : Nat} {ks : Stp → Prop} (h : SetAt w b n ks) : b < w.heap.size := by obtain ⟨D, ho, _⟩ := h; exact ho.lt
set_option maxRecDepth 100000 in
theorem SetAt.congr {w : World} {b n m : Nat} {ks ks' : Stp → Prop} (h : SetAt w b n ks) (hn : n ≤ m) (hk : ∀ u, in64 u → (ks u ↔ ks' u)) : SetAt w b m ks' := by
  obtain ⟨D, ho, h1, h2⟩ := h
  exact ⟨D, ho.mono hn, fun u hu => (h1 u hu).trans (hk u hu), h2⟩
set_option maxRecDepth 100000 in
theorem SetAt.made (w : World) : SetAt (w.alloc (.map #[] 0)) w.heap.size 0 (fun _ => False) :=
  ⟨.map [], World.ownsMap_made _ _ _ _, fun s _ => by simp [has], isMap_empty⟩
set_option maxRecDepth 100000 in
theorem keep_grown {w w' : World} {b : Nat} (h : w.grownBy w' (some b)) : Keep (fun k => k = b) w w' := ⟨h.os, h.tape, h.output, h.size, fun k hk hn => h.block k hk (fun e => hn (by injection e))⟩
set_option maxRecDepth 100000 in
theorem keep_grown0 {w w' : World} (h : w.grownBy w' none) : Keep Never w w' := ⟨h.os, h.tape, h.output, h.size, fun k hk _ => h.block k hk (fun e => by cases e)⟩

section
variable (w : World) {ops : Array Oper} {rest : List Oper} {o : Oper} {a : Act} {Q : Exit → Act → World → Prop}
/-- 'range' over the map under way in block r -/
def RngAt (w : World) (b r n : Nat) (ks left : Stp → Prop) (cnt : Nat) : Prop := ∃ (D : DataW Unit) (lf : Lit → Bool), w.ranges Tryz.prog 106 elB b r n D lf cnt ∧ (∀ s, in64 s → (has D (kS s) = true ↔ ks s)) ∧ (∀ s, in64 s → (lf (kS s) = true ↔ left s))
set_option maxRecDepth 100000 in
theorem RngAt.left_eq {w : World} {b r n : Nat} {ks left : Stp → Prop} {cnt : Nat} (h : RngAt w b r n ks left cnt) : w.rangeLeft b r = cnt := by obtain ⟨D, lf, hr, _⟩ := h; exact hr.left_eq
set_option maxRecDepth 100000 in
theorem RngAt.keep {S : Nat → Prop} {w w' : World} {b r n : Nat} {ks left : Stp → Prop} {cnt : Nat} (h : RngAt w b r n ks left cnt) (hk : Keep S w w') (hb : ¬ S b) (hr : ¬ S r) : RngAt w' b r n ks left cnt := by
  obtain ⟨D, lf, hrg, h1, h2⟩ := h
  have hl1 := hrg.owns.lt
  have hl2 := hrg.lt
  obtain ⟨es, clock, since, seen, c0, hb', F, hs, hD, hr', rest⟩ := hrg
  exact ⟨D, lf, ⟨es, clock, since, seen, c0, (hk.block b hl1 hb).trans hb', F, hs, hD, (hk.block r hl2 hr).trans hr', rest⟩, h1, h2⟩
set_option maxRecDepth 100000 in
theorem wpList_nxt (hg : o.guard = none) (it : Operand) (hop : o.op = Op.next it false) (b r n : Nat) (ks left : Stp → Prop) (cnt : Nat) (hit : a.eval it = .pointer (some ⟨r, 0, none⟩)) (h : RngAt w b r n ks left cnt)
    (hDone : cnt = 0 → (∀ s, in64 s → ¬ left s) → wpList Tryz.prog ops Q rest (a.put o.dst (.tuple #[.bool false])) w)
    (hMore : ∀ (s : Stp) (c : Bool) (w' : World) (cnt' : Nat), in64 s → left s → RngAt w' b r n ks (fun u => left u ∧ u ≠ s) cnt' → cnt' < cnt → Keep (fun k => k = r) w w' → Hid (w'.heap.size = w.heap.size) →
      (Instr.entry (.pointer (some ⟨r, 0, none⟩))).run Tryz.prog w' = .ok (.tuple #[.agg #[.int .i64 s.1, .bool s.2], .bool c]) w' → wpList Tryz.prog ops Q rest (a.put o.dst (.tuple #[.bool true, .agg #[.int .i64 s.1, .bool s.2], .bool c])) w') :
    wpList Tryz.prog ops Q (o :: rest) a w := by
  obtain ⟨D, lf, hrg, h1, h2⟩ := h
  refine wpList_next_ranges w hg it hop 106 lawStp elB (fun s : Stp => stpV s) (fun c : Bool => .bool c) (fun key kl hk => (keyOf_inv hk).imp fun s h => h.1) (fun v y hv => elB_inv v y hv) b r n D lf cnt hit hrg ?_ ?_
  · intro h0 hl
    exact hDone h0 (fun s hs hx => by rw [← h2 s hs, hl] at hx; cases hx)
  · intro s c kl y w' cnt' hk hl hv hat hr' hlt hgr hsz hen
    obtain ⟨s', he, h64⟩ := keyOf_inv hk
    have hss : s = s' := by
      unfold stpV at he
      injection he with he
      simp at he
      exact Prod.ext he.1 he.2
    subst hss
    have hkl : kl = kS s := by
      have := keyOf_stp s h64
      rw [hk] at this
      injection this
    subst hkl
    refine hMore s c w' cnt' h64 ((h2 s h64).1 hl) ⟨D, _, hr', h1, fun u hu => ?_⟩ hlt (keep_grown hgr) (Lib.hid hsz) hen
    rw [Bool.and_eq_true, h2 u hu]
    by_cases e : u = s
    · subst e
      simp [WideAt.sameKey_self (lawStp.key (keyOf_stp u h64))]
    · have hne : kS u ≠ kS s := fun h => e (kS_inj hu h64 h)
      simp [sameKey_ne hne, e]
end

end Go.Proofs.YtpahfobijmmmmaaGreat

namespace Go.Proofs.YtpahfobijmmmmaaGreat
open Go.RowKit

def stpCell (s : Stp) : List Value := [.int .i64 s.1, .bool s.2]
/-- the cells of steps -/
def stpCells (l : List Stp) : List Value := l.flatMap stpCell
theorem stpCells_cons (s : Stp) (l : List Stp) : stpCells (s :: l) = .int .i64 s.1 :: .bool s.2 :: stpCells l := rfl
theorem stpCells_nil : stpCells [] = [] := rfl
theorem stpCells_app (l m : List Stp) : stpCells (l ++ m) = stpCells l ++ stpCells m := by simp [stpCells]
theorem len_stpCells (l : List Stp) : (stpCells l).length = l.length * 2 := by
  induction l with
  | nil => rfl
  | cons s l ih => rw [stpCells_cons]; simp only [List.length_cons, ih]; omega
theorem stpCells_one (l : List Stp) : ∀ u ∈ stpCells l, u.oneCell' = true := by
  induction l with
  | nil => intro u hu; cases hu
  | cons s l ih =>
    intro u hu
    rw [stpCells_cons] at hu
    rcases List.mem_cons.1 hu with rfl | hu
    · rfl
    rcases List.mem_cons.1 hu with rfl | hu
    · rfl
    exact ih u hu
theorem stpCells_at : ∀ (l : List Stp) {i : Nat} {s : Stp}, l[i]? = some s → (stpCells l)[i * 2]? = some (.int .i64 s.1) ∧ (stpCells l)[i * 2 + 1]? = some (.bool s.2) := by
  intro l
  induction l with
  | nil => intro i s h; simp at h
  | cons y l ih =>
    intro i s h
    cases i with
    | zero => simp only [List.getElem?_cons_zero, Option.some.injEq] at h; subst h; exact ⟨rfl, rfl⟩
    | succ i =>
      simp only [List.getElem?_cons_succ] at h
      obtain ⟨h1, h2⟩ := ih h
      rw [stpCells_cons, show (i + 1) * 2 = i * 2 + 1 + 1 by omega, show i * 2 + 1 + 1 + 1 = (i * 2 + 1) + 1 + 1 by omega]
      simp only [List.getElem?_cons_succ]
      exact ⟨h1, h2⟩
theorem stpCells_set : ∀ (l : List Stp) {i : Nat} (s : Stp), i < l.length → stpCells (l.set i s) = ((stpCells l).set (i * 2) (.int .i64 s.1)).set (i * 2 + 1) (.bool s.2) := by
  intro l
  induction l with
  | nil => intro i s h; simp at h
  | cons y l ih =>
    intro i s h
    cases i with
    | zero => rfl
    | succ i =>
      have := ih (i := i) s (by simpa using h)
      rw [List.set_cons_succ, stpCells_cons, stpCells_cons, this, show (i + 1) * 2 = i * 2 + 1 + 1 by omega, show i * 2 + 1 + 1 + 1 = (i * 2 + 1) + 1 + 1 by omega]
      simp only [List.set_cons_succ]
theorem Rd.stp {w : World} {B n k : Nat} {A : Option Addr} {l : List Stp} (h : Rd w B 2 A n (stpCells l)) (hk : k < n) : ∃ ad s, A = some ad ∧ ad.block < B ∧ l[k]? = some s ∧ w.cell? (ad.add (k * 2)) = some (.int .i64 s.1) ∧
    w.cell? ⟨(ad.add (k * 2)).block, (ad.add (k * 2)).off + 1, none⟩ = some (.bool s.2) := by
  obtain ⟨ad, e, hb, hc⟩ := h.2 (by omega)
  have hl : k < l.length := by have := h.1; rw [len_stpCells] at this; omega
  have hs : l[k]? = some l[k] := List.getElem?_eq_getElem hl
  obtain ⟨a0, a1⟩ := stpCells_at l hs
  have c0 := hc _ _ a0
  have c1 := hc _ _ a1
  rw [fld _ _ (by omega)] at c1
  exact ⟨ad, l[k], e, hb, hs, c0, c1⟩
theorem Rd.stp_len {w : World} {B n : Nat} {A : Option Addr} {l : List Stp} (h : Rd w B 2 A n (stpCells l)) : l.length = n := by have := h.1; rw [len_stpCells] at this; omega
theorem stps_rd {w : World} {B n c : Nat} {A : Option Addr} {l : List Stp} (h : repStp.Sl w B A n c l) : Rd w B 2 A n (stpCells l) ∧ n = l.length ∧ n ≤ c ∧ c ≤ maxLen ∧ (A = none → c = 0) ∧ ∀ s ∈ l, in64 s := by
  obtain ⟨h1, h2, h3, h4, css, h5, h6⟩ := h
  have hf : css.flatten = stpCells l ∧ ∀ s ∈ l, in64 s := by
    clear h5 h1
    induction l generalizing css with
    | nil => cases css with
      | nil => simp [stpCells_nil]
      | cons b m => exact h6.elim
    | cons a l ih => cases css with
      | nil => exact h6.elim
      | cons b m =>
        obtain ⟨e1, e2⟩ := ih m h6.2
        obtain ⟨c1, d1, rfl, ⟨rfl, h1⟩, rfl⟩ := h6.1
        refine ⟨by rw [List.flatten_cons, e1]; rfl, fun s hs => ?_⟩
        rcases List.mem_cons.1 hs with rfl | hs
        · exact h1
        · exact e2 s hs
  exact ⟨by rw [← hf.1]; exact h5, h1, h2, h3, h4, hf.2⟩
theorem stps_sl {w : World} {B n c : Nat} {A : Option Addr} {l : List Stp} (h : Rd w B 2 A n (stpCells l)) (hn : n ≤ c) (hc : c ≤ maxLen) (hA : A = none → c = 0) (h64 : ∀ s ∈ l, in64 s) : repStp.Sl w B A n c l := by
  refine ⟨h.stp_len.symm, hn, hc, hA, l.map stpCell, ?_, ?_⟩
  · have : (l.map stpCell).flatten = stpCells l := by simp [stpCells, List.flatMap]
    rw [this]; exact h
  · clear h
    induction l with
    | nil => trivial
    | cons s l ih => exact ⟨⟨[.int .i64 s.1], [.bool s.2], rfl, ⟨rfl, h64 s (by simp)⟩, rfl⟩, ih (fun u hu => h64 u (by simp [hu]))⟩
theorem stps_own {w : World} {base n c : Nat} {A : Option Addr} {l : List Stp} (h : Own w base 106 2 A n c (stpCells l)) (h64 : ∀ s ∈ l, in64 s) : repStp.Sl w w.heap.size A n c l := by
  refine stps_sl h.rd h.cap_le ?_ (fun e => ?_) h64
  · rcases h.form with ⟨_, _, h2, _⟩ | ⟨_, _, _, _, _, _, h2, _⟩
    · omega
    · exact h2
  · rcases h.form with ⟨_, _, h2, _⟩ | ⟨_, _, h2, _⟩
    · exact h2
    · rw [e] at h2; cases h2
set_option maxRecDepth 100000 in
theorem elemStp : Elem Tryz.prog 51 106 2 16 := ⟨Tryz.underlying51, _, _, rfl, rfl, rfl, rfl, rfl, by omega⟩

end Go.Proofs.YtpahfobijmmmmaaGreat

namespace Go.Proofs.YtpahfobijmmmmaaGreat
open Go.RowKit

/-- the order of steps -/
def ltT (s u : Stp) : Prop := s.1 < u.1 ∨ (s.1 = u.1 ∧ s.2 = false ∧ u.2 = true)
theorem ltT_irrefl (s : Stp) : ¬ ltT s s := by rintro (h | ⟨_, h1, h2⟩); omega; rw [h1] at h2; cases h2
theorem ltT_trans {s u v : Stp} (h1 : ltT s u) (h2 : ltT u v) : ltT s v := by
  rcases h1 with h1 | ⟨h1, h3, h4⟩ <;> rcases h2 with h2 | ⟨h2, h5, h6⟩
  · left; omega
  · left; omega
  · left; omega
  · rw [h4] at h5; cases h5
theorem rise_one : ∀ {l m : List Stp}, l.Pairwise ltT → m.Pairwise ltT → (∀ s, s ∈ l ↔ s ∈ m) → l = m
  | [], [], _, _, _ => rfl
  | [], u :: m, _, _, h => by have := (h u).2 (by simp); simp at this
  | s :: l, [], _, _, h => by have := (h s).1 (by simp); simp at this
  | s :: l, u :: m, h1, h2, h => by
    obtain ⟨a1, a2⟩ := List.pairwise_cons.1 h1
    obtain ⟨b1, b2⟩ := List.pairwise_cons.1 h2
    have e : s = u := by
      rcases List.mem_cons.1 ((h s).1 (by simp)) with e | e
      · exact e
      · rcases List.mem_cons.1 ((h u).2 (by simp)) with e' | e'
        · exact e'.symm
        · exact absurd (ltT_trans (a1 u e') (b1 s e)) (ltT_irrefl s)
    subst e
    rw [rise_one a2 b2 fun v => ?_]
    constructor
    · intro hv
      rcases List.mem_cons.1 ((h v).1 (by simp [hv])) with e | e
      · subst e; exact absurd (a1 v hv) (ltT_irrefl v)
      · exact e
    · intro hv
      rcases List.mem_cons.1 ((h v).2 (by simp [hv])) with e | e
      · subst e; exact absurd (b1 v hv) (ltT_irrefl v)
      · exact e
def pairM (J : List Jt) (s : Stp) (i : Nat) : List Stp := (if mayJ J s ((i : Int), false) = true then [((i : Int), false)] else []) ++ (if mayJ J s ((i : Int), true) = true then [((i : Int), true)] else [])
def listM (J : List Jt) (s : Stp) (k : Nat) : List Stp := (List.range k).flatMap (pairM J s)
/-- the steps that may follow one -/
def afterM (t : Tp) (s : Stp) : List Stp := if thereB t.1.length s.1 = true then listM t.2.1 s t.1.length else []
theorem listM_succ (J : List Jt) (s : Stp) (k : Nat) : listM J s (k + 1) = listM J s k ++ pairM J s k := by simp [listM, List.range_succ, List.flatMap_append]
theorem pairM_mem {J : List Jt} {s u : Stp} {i : Nat} : u ∈ pairM J s i ↔ u.1 = (i : Int) ∧ mayJ J s u = true := by
  obtain ⟨e, r⟩ := u
  unfold pairM
  rw [List.mem_append]
  constructor
  · rintro (h | h)
    · split at h
      · rename_i hm; simp at h; obtain ⟨rfl, rfl⟩ := h; exact ⟨rfl, hm⟩
      · simp at h
    · split at h
      · rename_i hm; simp at h; obtain ⟨rfl, rfl⟩ := h; exact ⟨rfl, hm⟩
      · simp at h
  · rintro ⟨h1, h2⟩
    simp only at h1
    subst h1
    cases r
    · left; rw [if_pos h2]; simp
    · right; rw [if_pos h2]; simp
theorem listM_mem {J : List Jt} {s u : Stp} {k : Nat} : u ∈ listM J s k ↔ thereB k u.1 = true ∧ mayJ J s u = true := by
  unfold listM thereB
  rw [List.mem_flatMap, Bool.and_eq_true, decide_eq_true_eq, decide_eq_true_eq]
  constructor
  · rintro ⟨i, hi, h⟩
    obtain ⟨h1, h2⟩ := pairM_mem.1 h
    rw [List.mem_range] at hi
    exact ⟨by omega, h2⟩
  · rintro ⟨h1, h2⟩
    exact ⟨u.1.toNat, List.mem_range.2 (by omega), pairM_mem.2 ⟨by omega, h2⟩⟩
theorem pairM_rise (J : List Jt) (s : Stp) (i : Nat) : (pairM J s i).Pairwise ltT := by
  unfold pairM
  split <;> split <;> simp [ltT]
theorem listM_rise (J : List Jt) (s : Stp) : ∀ k, (listM J s k).Pairwise ltT
  | 0 => by simp [listM]
  | k + 1 => by
    rw [listM_succ, List.pairwise_append]
    refine ⟨listM_rise J s k, pairM_rise J s k, fun u hu v hv => ?_⟩
    have h1 := (listM_mem.1 hu).1
    have h2 := (pairM_mem.1 hv).1
    unfold thereB at h1
    rw [Bool.and_eq_true, decide_eq_true_eq, decide_eq_true_eq] at h1
    left; omega
theorem listM_len (J : List Jt) (s : Stp) (k : Nat) : (listM J s k).length ≤ 2 * k := by
  induction k with
  | zero => simp [listM]
  | succ k ih =>
    rw [listM_succ, List.length_append]
    have : (pairM J s k).length ≤ 2 := by unfold pairM; split <;> split <;> simp
    omega
theorem afterM_len (t : Tp) (s : Stp) : (afterM t s).length ≤ 2 * t.1.length := by
  unfold afterM; split
  · exact listM_len _ _ _
  · simp
theorem afterM_mem {t : Tp} {s u : Stp} : u ∈ afterM t s ↔ thereB t.1.length s.1 = true ∧ thereB t.1.length u.1 = true ∧ mayJ t.2.1 s u = true := by
  unfold afterM; split
  · rename_i h; rw [listM_mem]; simp [h]
  · rename_i h; simp [h]
/-- what has the same members, in order, is it -/
theorem after_one {t : Tp} {s : Stp} (ht : thereB t.1.length s.1 = true) {l : List Stp} (h : l.Pairwise ltT) (hm : ∀ u, u ∈ l ↔ thereB t.1.length u.1 = true ∧ mayJ t.2.1 s u = true) : l = afterM t s := by
  unfold afterM
  rw [if_pos ht]
  exact rise_one h (listM_rise _ _ _) fun u => (hm u).trans listM_mem.symm
theorem there_in {n : Nat} {x : Int} (h : thereB n x = true) : 0 ≤ x ∧ x < (n : Int) := by
  unfold thereB at h; rwa [Bool.and_eq_true, decide_eq_true_eq, decide_eq_true_eq] at h

end Go.Proofs.YtpahfobijmmmmaaGreat
