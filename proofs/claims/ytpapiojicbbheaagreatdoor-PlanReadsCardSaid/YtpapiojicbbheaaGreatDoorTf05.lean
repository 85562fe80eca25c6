/- Texts of this claim, together: LckG, PlnF, PlnG, PlcF, PlnH, PlnI, Rf13A, Rf13B, Rf13C. -/
import Derived.Test.YtpapiojicbbheaaGreatDoorTf04
import Derived.Test.YtpapiojicbbheaaGreatDoorTf02
import Derived.Deep.DeepCutAuto
import Derived.Test.YtpapiojicbbheaaGreatDoorTf03
namespace Go.Proofs.YtpapiojicbbheaaGreatDoor
open Go.RowKit
def lineT:Tp:=([100,200,300],[((0,1),(1,0)),((1,1),(2,0))],[(7,0,10),(8,1,20),(9,2,30)],[(1,[(0,false),(1,false)],0,30),(2,[(1,false),(2,false)],50,20)])
theorem line_small {w:World}{B:Nat}{x:TA} (h:TpAt w B x lineT):TpSmall x lineT:=
  ⟨by rw[h.e.len];decide,by rw[h.j.len];decide,by rw[h.b.len];decide,by rw[h.r.len];decide,by decide⟩
set_option maxRecDepth 100000 in
theorem line_results {w:World}{b:Nat}{v0 v1 v2 v3:Value} (hb:Blk w b 27 #[v0,v1,v2,v3]) (tmps:Array Value) (ht:tmps.getD 0 undef=.pointer (some ⟨b,0,none⟩)) :
    (results Tryz.f38 tmps).run Tryz.prog w=.ok (.agg #[v0,v1,v2,v3]) w:=by
  have q0:w.cell? ⟨b,0,none⟩=some v0:=hb.cell 0
  have q1:w.cell? ⟨b,1,none⟩=some v1:=hb.cell 1
  have q2:w.cell? ⟨b,2,none⟩=some v2:=hb.cell 2
  have q3:w.cell? ⟨b,3,none⟩=some v3:=hb.cell 3
  have ht':tmps[0]?.getD undef=.pointer (some ⟨b,0,none⟩):=by rw[←Array.getD_eq_getD_getElem?];exact ht
  simp[results,ht',go_sem,q0,q1,q2,q3]
set_option maxHeartbeats 8000000 in
set_option maxRecDepth 100000 in
theorem line_any (w:World):Calls Tryz.prog 38 #[] w fun e w'=>∃x:TA,e=.returned (.agg x.cs)∧TpAt w' w'.heap.size x lineT∧Keep Never w w':=by
 obtain⟨w1,hw1⟩:∃W:World,w.alloc (.cells #[.slice none 0 0,.slice none 0 0,.slice none 0 0,.slice none 0 0] 27)=W:=⟨_,rfl⟩
 have k1:Keep Never w w1:=by rw[←hw1];exact(Keep.refl _ _).alloc _
 have b1:=Blk.new w 27 #[.slice none 0 0,.slice none 0 0,.slice none 0 0,.slice none 0 0]
 rw[hw1] at b1
 obtain⟨w2,hw2⟩:∃W:World,w1.alloc (.cells #[.int .i64 100,.int .i64 200,.int .i64 300] 3)=W:=⟨_,rfl⟩
 have k2:Keep Never w1 w2:=by rw[←hw2];exact(Keep.refl _ _).alloc _
 have b2:=Blk.new w1 3 #[.int .i64 100,.int .i64 200,.int .i64 300]
 rw[hw2] at b2
 obtain⟨w3,hw3⟩:∃W:World,w2.alloc (.cells #[.int .i64 0,.int .i64 1,.int .i64 1,.int .i64 0,.int .i64 1,.int .i64 1,.int .i64 2,.int .i64 0] 134)=W:=⟨_,rfl⟩
 have k3:Keep Never w2 w3:=by rw[←hw3];exact(Keep.refl _ _).alloc _
 have b3:=Blk.new w2 134 #[.int .i64 0,.int .i64 1,.int .i64 1,.int .i64 0,.int .i64 1,.int .i64 1,.int .i64 2,.int .i64 0]
 rw[hw3] at b3
 obtain⟨w4,hw4⟩:∃W:World,w3.alloc (.cells #[.int .i64 7,.int .i64 0,.int .i64 10,.int .i64 8,.int .i64 1,.int .i64 20,.int .i64 9,.int .i64 2,.int .i64 30] 94)=W:=⟨_,rfl⟩
 have k4:Keep Never w3 w4:=by rw[←hw4];exact(Keep.refl _ _).alloc _
 have b4:=Blk.new w3 94 #[.int .i64 7,.int .i64 0,.int .i64 10,.int .i64 8,.int .i64 1,.int .i64 20,.int .i64 9,.int .i64 2,.int .i64 30]
 rw[hw4] at b4
 obtain⟨w5,hw5⟩:∃W:World,w4.alloc (.cells #[.int .i64 0,.bool false,.int .i64 1,.bool false] 30)=W:=⟨_,rfl⟩
 have k5:Keep Never w4 w5:=by rw[←hw5];exact(Keep.refl _ _).alloc _
 have b5:=Blk.new w4 30 #[.int .i64 0,.bool false,.int .i64 1,.bool false]
 rw[hw5] at b5
 obtain⟨w6,hw6⟩:∃W:World,w5.alloc (.cells #[.int .i64 1,.bool false,.int .i64 2,.bool false] 30)=W:=⟨_,rfl⟩
 have k6:Keep Never w5 w6:=by rw[←hw6];exact(Keep.refl _ _).alloc _
 have b6:=Blk.new w5 30 #[.int .i64 1,.bool false,.int .i64 2,.bool false]
 rw[hw6] at b6
 obtain⟨w7,hw7⟩:∃W:World,w6.alloc (.cells #[.int .i64 1,.slice (some ⟨w4.heap.size,0,none⟩) 2 2,.int .i64 0,.int .i64 30,.int .i64 2,.slice (some ⟨w5.heap.size,0,none⟩) 2 2,.int .i64 50,.int .i64 20] 64)=W:=⟨_,rfl⟩
 have k7:Keep Never w6 w7:=by rw[←hw7];exact(Keep.refl _ _).alloc _
 have b7:=Blk.new w6 64 #[.int .i64 1,.slice (some ⟨w4.heap.size,0,none⟩) 2 2,.int .i64 0,.int .i64 30,.int .i64 2,.slice (some ⟨w5.heap.size,0,none⟩) 2 2,.int .i64 50,.int .i64 20]
 rw[hw7] at b7
 have B1:=((((((b1.keep k2 (fun h=>h)).keep k3 (fun h=>h)).keep k4 (fun h=>h)).keep k5 (fun h=>h)).keep k6 (fun h=>h)).keep k7 (fun h=>h))
 have B2:=(((((b2.keep k3 (fun h=>h)).keep k4 (fun h=>h)).keep k5 (fun h=>h)).keep k6 (fun h=>h)).keep k7 (fun h=>h))
 have B3:=((((b3.keep k4 (fun h=>h)).keep k5 (fun h=>h)).keep k6 (fun h=>h)).keep k7 (fun h=>h))
 have B4:=(((b4.keep k5 (fun h=>h)).keep k6 (fun h=>h)).keep k7 (fun h=>h))
 have B5:=((b5.keep k6 (fun h=>h)).keep k7 (fun h=>h))
 have B6:=(b6.keep k7 (fun h=>h))
 have B7:=b7
 have g0:w7.cell? ⟨w.heap.size,0,none⟩=some (.slice none 0 0):=B1.cell 0
 have m0:=B1.frozen 0
 have g1:w7.cell? ⟨w.heap.size,1,none⟩=some (.slice none 0 0):=B1.cell 1
 have m1:=B1.frozen 1
 have g2:w7.cell? ⟨w.heap.size,2,none⟩=some (.slice none 0 0):=B1.cell 2
 have m2:=B1.frozen 2
 have g3:w7.cell? ⟨w.heap.size,3,none⟩=some (.slice none 0 0):=B1.cell 3
 have m3:=B1.frozen 3
 have HLt:Hid (w.heap.size<w1.heap.size∧w1.heap.size<w2.heap.size∧w2.heap.size<w3.heap.size∧w3.heap.size<w4.heap.size∧w4.heap.size<w5.heap.size∧w5.heap.size<w6.heap.size∧w6.heap.size<w7.heap.size):=qh ⟨b1.lt,b2.lt,b3.lt,b4.lt,b5.lt,b6.lt,b7.lt⟩
 have HBz:=qh (put4_blk B1 (.slice (some ⟨w1.heap.size,0,none⟩) 3 3) (.slice (some ⟨w2.heap.size,0,none⟩) 2 2) (.slice (some ⟨w3.heap.size,0,none⟩) 3 3) (.slice (some ⟨w6.heap.size,0,none⟩) 2 2))
 have HKz:=qh (put4_keep ((((((k1.trans k2).trans k3).trans k4).trans k5).trans k6).trans k7) (.inr (Nat.le_refl _)) (.slice (some ⟨w1.heap.size,0,none⟩) 3 3) (.slice (some ⟨w2.heap.size,0,none⟩) 2 2) (.slice (some ⟨w3.heap.size,0,none⟩) 3 3) (.slice (some ⟨w6.heap.size,0,none⟩) 2 2))
 have hput:=put4_keep (b:=w.heap.size) (Keep.refl (fun k=>k=w.heap.size) w7) (.inl rfl) (.slice (some ⟨w1.heap.size,0,none⟩) 3 3) (.slice (some ⟨w2.heap.size,0,none⟩) 2 2) (.slice (some ⟨w3.heap.size,0,none⟩) 3 3) (.slice (some ⟨w6.heap.size,0,none⟩) 2 2)
 have hlt:=HLt.out
 obtain⟨wz,hwz⟩:∃W:World,(((w7.setCell ⟨w.heap.size,0,none⟩ (.slice (some ⟨w1.heap.size,0,none⟩) 3 3)).setCell ⟨w.heap.size,1,none⟩ (.slice (some ⟨w2.heap.size,0,none⟩) 2 2)).setCell ⟨w.heap.size,2,none⟩ (.slice (some ⟨w3.heap.size,0,none⟩) 3 3)).setCell ⟨w.heap.size,3,none⟩ (.slice (some ⟨w6.heap.size,0,none⟩) 2 2)=W:=⟨_,rfl⟩
 rw[hwz] at hput HBz HKz
 have HE:=qh (Rd.of_blk (size:=1) (n:=3) (cs:=[.int .i64 100,.int .i64 200,.int .i64 300]) (B2.keep hput (by omega)) rfl)
 have HJ:=qh (Rd.of_blk (size:=4) (n:=2) (cs:=[.int .i64 0,.int .i64 1,.int .i64 1,.int .i64 0,.int .i64 1,.int .i64 1,.int .i64 2,.int .i64 0]) (B3.keep hput (by omega)) rfl)
 have HL:=qh (Rd.of_blk (size:=3) (n:=3) (cs:=[.int .i64 7,.int .i64 0,.int .i64 10,.int .i64 8,.int .i64 1,.int .i64 20,.int .i64 9,.int .i64 2,.int .i64 30]) (B4.keep hput (by omega)) rfl)
 have HP:=qh (Rd.of_blk (size:=2) (n:=2) (cs:=[.int .i64 0,.bool false,.int .i64 1,.bool false]) (B5.keep hput (by omega)) rfl)
 have HQ:=qh (Rd.of_blk (size:=2) (n:=2) (cs:=[.int .i64 1,.bool false,.int .i64 2,.bool false]) (B6.keep hput (by omega)) rfl)
 have HR:=qh (Rd.of_blk (size:=4) (n:=2) (cs:=[.int .i64 1,.slice (some ⟨w4.heap.size,0,none⟩) 2 2,.int .i64 0,.int .i64 30,.int .i64 2,.slice (some ⟨w5.heap.size,0,none⟩) 2 2,.int .i64 50,.int .i64 20]) (B7.keep hput (by omega)) rfl)
 clear k1 k2 k3 k4 k5 k6 k7 b1 b2 b3 b4 b5 b6 b7 B1 B2 B3 B4 B5 B6 B7 hput hlt
 have HW:=qh hwz
 clear hwz
 go_enter Tryz.func38, Tryz.ntmps38
 go_wp2_with fail
 (try simp only[Exit.inBlock,Exit.then])
 rw[HW.out]
 refine bodyPost_ret (line_results HBz.out _ rfl) rfl ⟨⟨some ⟨w1.heap.size,0,none⟩,3,3,some ⟨w2.heap.size,0,none⟩,2,2,some ⟨w3.heap.size,0,none⟩,3,3,some ⟨w6.heap.size,0,none⟩,2,2⟩,rfl,⟨?_,?_,?_,?_⟩,HKz.out⟩
 ·exact⟨rfl,Nat.le_refl _,by unfold maxLen;simp only;omega,by simp,[[.int .i64 100],[.int .i64 200],[.int .i64 300]],HE.out,⟨rfl,by decide⟩,⟨rfl,by decide⟩,⟨rfl,by decide⟩,trivial⟩
 ·exact⟨rfl,Nat.le_refl _,by unfold maxLen;simp only;omega,by simp,[[.int .i64 0,.int .i64 1,.int .i64 1,.int .i64 0],[.int .i64 1,.int .i64 1,.int .i64 2,.int .i64 0]],HJ.out,⟨[.int .i64 0,.int .i64 1],[.int .i64 1,.int .i64 0],rfl,⟨[.int .i64 0],[.int .i64 1],rfl,⟨rfl,by decide⟩,⟨rfl,by decide⟩⟩,⟨[.int .i64 1],[.int .i64 0],rfl,⟨rfl,by decide⟩,⟨rfl,by decide⟩⟩⟩,⟨[.int .i64 1,.int .i64 1],[.int .i64 2,.int .i64 0],rfl,⟨[.int .i64 1],[.int .i64 1],rfl,⟨rfl,by decide⟩,⟨rfl,by decide⟩⟩,⟨[.int .i64 2],[.int .i64 0],rfl,⟨rfl,by decide⟩,⟨rfl,by decide⟩⟩⟩,trivial⟩
 ·exact⟨rfl,Nat.le_refl _,by unfold maxLen;simp only;omega,by simp,[[.int .i64 7,.int .i64 0,.int .i64 10],[.int .i64 8,.int .i64 1,.int .i64 20],[.int .i64 9,.int .i64 2,.int .i64 30]],HL.out,⟨[.int .i64 7],[.int .i64 0,.int .i64 10],rfl,⟨rfl,by decide⟩,[.int .i64 0],[.int .i64 10],rfl,⟨rfl,by decide⟩,⟨rfl,by decide⟩⟩,⟨[.int .i64 8],[.int .i64 1,.int .i64 20],rfl,⟨rfl,by decide⟩,[.int .i64 1],[.int .i64 20],rfl,⟨rfl,by decide⟩,⟨rfl,by decide⟩⟩,⟨[.int .i64 9],[.int .i64 2,.int .i64 30],rfl,⟨rfl,by decide⟩,[.int .i64 2],[.int .i64 30],rfl,⟨rfl,by decide⟩,⟨rfl,by decide⟩⟩,trivial⟩
 ·exact⟨rfl,Nat.le_refl _,by unfold maxLen;simp only;omega,by simp,[[.int .i64 1,.slice (some ⟨w4.heap.size,0,none⟩) 2 2,.int .i64 0,.int .i64 30],[.int .i64 2,.slice (some ⟨w5.heap.size,0,none⟩) 2 2,.int .i64 50,.int .i64 20]],HR.out,⟨[.int .i64 1],[.slice (some ⟨w4.heap.size,0,none⟩) 2 2,.int .i64 0,.int .i64 30],rfl,⟨rfl,by decide⟩,[.slice (some ⟨w4.heap.size,0,none⟩) 2 2],[.int .i64 0,.int .i64 30],rfl,⟨some ⟨w4.heap.size,0,none⟩,2,2,rfl,stps_sl HP.out (by omega) (by unfold maxLen;omega) (by simp) (by intro s hs;simp at hs;rcases hs with rfl | rfl <;> (constructor <;> simp))⟩,[.int .i64 0],[.int .i64 30],rfl,⟨rfl,by decide⟩,⟨rfl,by decide⟩⟩,⟨[.int .i64 2],[.slice (some ⟨w5.heap.size,0,none⟩) 2 2,.int .i64 50,.int .i64 20],rfl,⟨rfl,by decide⟩,[.slice (some ⟨w5.heap.size,0,none⟩) 2 2],[.int .i64 50,.int .i64 20],rfl,⟨some ⟨w5.heap.size,0,none⟩,2,2,rfl,stps_sl HQ.out (by omega) (by unfold maxLen;omega) (by simp) (by intro s hs;simp at hs;rcases hs with rfl | rfl <;> (constructor <;> simp))⟩,[.int .i64 50],[.int .i64 20],rfl,⟨rfl,by decide⟩,⟨rfl,by decide⟩⟩,trivial⟩
end Go.Proofs.YtpapiojicbbheaaGreatDoor

namespace Go.Proofs.YtpapiojicbbheaaGreatDoor
open Go.RowKit
def scCell (s:Sc):List Value:=[.int .i64 s.1,.int .i64 s.2]
def scCells (l:List Sc):List Value:=l.flatMap scCell
theorem scCells_cons (s:Sc) (l:List Sc):scCells (s::l)=.int .i64 s.1::.int .i64 s.2::scCells l:=rfl
theorem scCells_nil:scCells []=[]:=rfl
theorem scCells_app (l m:List Sc):scCells (l++m)=scCells l++scCells m:=by simp[scCells]
theorem len_scCells (l:List Sc):(scCells l).length=l.length*2:=by
 induction l with
 | nil=>rfl
 | cons s l ih=>rw[scCells_cons];simp only[List.length_cons,ih];omega
theorem scCells_at:∀(l:List Sc) {i:Nat}{s:Sc},l[i]?=some s→(scCells l)[i*2]?=some (.int .i64 s.1)∧(scCells l)[i*2+1]?=some (.int .i64 s.2):=by
 intro l
 induction l with
 | nil=>intro i s h;simp at h
 | cons y l ih=>
  intro i s h
  cases i with
  | zero=>simp only[List.getElem?_cons_zero,Option.some.injEq] at h;subst h;exact⟨rfl,rfl⟩
  | succ i=>
   simp only[List.getElem?_cons_succ] at h
   obtain⟨h1,h2⟩:=ih h
   rw[scCells_cons,show (i+1)*2=i*2+1+1 by omega,show i*2+1+1+1=(i*2+1)+1+1 by omega]
   simp only[List.getElem?_cons_succ]
   exact⟨h1,h2⟩
theorem scCells_set:∀(l:List Sc) {i:Nat} (s:Sc),i<l.length→scCells (l.set i s)=((scCells l).set (i*2) (.int .i64 s.1)).set (i*2+1) (.int .i64 s.2):=by
 intro l
 induction l with
 | nil=>intro i s h;simp at h
 | cons y l ih=>
  intro i s h
  cases i with
  | zero=>rfl
  | succ i=>
   have:=ih (i:=i) s (by simpa using h)
   rw[List.set_cons_succ,scCells_cons,scCells_cons,this,show (i+1)*2=i*2+1+1 by omega,show i*2+1+1+1=(i*2+1)+1+1 by omega]
   simp only[List.set_cons_succ]
theorem Rd.sc {w:World}{B n k:Nat}{A:Option Addr}{l:List Sc} (h:Rd w B 2 A n (scCells l)) (hk:k<n):∃ad s,A=some ad∧ad.block<B∧l[k]?=some s∧w.cell? (ad.add (k*2))=some (.int .i64 s.1) ∧
    w.cell? ⟨(ad.add (k*2)).block,(ad.add (k*2)).off+1,none⟩=some (.int .i64 s.2):=by
  obtain⟨ad,e,hb,hc⟩:=h.2 (by omega)
  have hl:k<l.length:=by have:=h.1;rw[len_scCells] at this;omega
  have hs:l[k]?=some l[k]:=List.getElem?_eq_getElem hl
  obtain⟨a0,a1⟩:=scCells_at l hs
  have c0:=hc _ _ a0
  have c1:=hc _ _ a1
  rw[fld _ _ (by omega)] at c1
  exact⟨ad,l[k],e,hb,hs,c0,c1⟩
theorem Rd.sc_len {w:World}{B n:Nat}{A:Option Addr}{l:List Sc} (h:Rd w B 2 A n (scCells l)):l.length=n:=by have:=h.1;rw[len_scCells] at this;omega
structure ScAt (w:World) (B:Nat) (A:Option Addr) (n c:Nat) (l:List Sc):Prop where
  rd:Rd w B 2 A n (scCells l)
  nil:A=none→c=0
  cap:n≤c
theorem ScAt.keep {w w':World}{B n c:Nat}{A:Option Addr}{l:List Sc} (h:ScAt w B A n c l) (hk:Keep Never w w'):ScAt w' B A n c l:=⟨h.rd.keep hk (fun _ h=>h.elim),h.nil,h.cap⟩
theorem ScAt.more {w:World}{B B' n c:Nat}{A:Option Addr}{l:List Sc} (h:ScAt w B A n c l) (hB:B≤B'):ScAt w B' A n c l:=⟨h.rd.more hB,h.nil,h.cap⟩
theorem ScAt.len {w:World}{B n c:Nat}{A:Option Addr}{l:List Sc} (h:ScAt w B A n c l):l.length=n:=h.rd.sc_len
theorem ScAt.nil_ (w:World) (B:Nat):ScAt w B none 0 0 []:=⟨Rd.nil _ _ _ _,fun _=>rfl,Nat.le_refl _⟩
set_option maxRecDepth 100000 in
theorem elemSc:Elem Tryz.prog 36 58 2 16:=⟨Tryz.underlying36, _,_,rfl,rfl,rfl,rfl,rfl,by omega⟩
theorem scAt_own {w:World}{base n c:Nat}{A:Option Addr}{l:List Sc} (h:Own w base 58 2 A n c (scCells l)):ScAt w w.heap.size A n c l:=
  ⟨h.rd,(fun e=>by
   rcases h.form with⟨_,_,h2,_⟩ | ⟨_,_,h2,_⟩
   ·exact h2
   ·rw[e] at h2;cases h2),h.cap_le⟩
structure MX where
  Ap:Option Addr
  np:Nat
  cp:Nat
  As:Option Addr
  ns:Nat
  cs:Nat
abbrev MX.vs (x:MX) (m:Ma):Array Value:=#[.int .i64 m.1,.bool m.2.1,.slice x.Ap x.np x.cp,.slice x.As x.ns x.cs,.int .i64 m.2.2.2.2]
structure MaAt (w:World) (B:Nat) (x:MX) (m:Ma):Prop where
  p:repStp.Sl w B x.Ap x.np x.cp m.2.2.1
  s:ScAt w B x.As x.ns x.cs m.2.2.2.1
theorem MaAt.keep {w w':World}{B:Nat}{x:MX}{m:Ma} (h:MaAt w B x m) (hk:Keep Never w w'):MaAt w' B x m:=⟨h.p.keep hk (fun _ h=>h.elim),h.s.keep hk⟩
theorem MaAt.more {w:World}{B B':Nat}{x:MX}{m:Ma} (h:MaAt w B x m) (hB:B≤B'):MaAt w B' x m:=⟨h.p.more hB,h.s.more hB⟩
def RtRet3 (o:Option Rt) (w:World) (e:Ending) (w':World):Prop:=
  ∃A n c,e=.returned (.tuple #[.agg #[.int .i64 (o.getD (0,[],0,0)).1,.slice A n c,.int .i64 (o.getD (0,[],0,0)).2.2.1,.int .i64 (o.getD (0,[],0,0)).2.2.2],.bool o.isSome])∧(o=none→A=none∧n=0∧c=0)∧Own w' w.heap.size 30 2 A n c (stpCells (o.getD (0,[],0,0)).2.1)∧Hid (∀s∈(o.getD (0,[],0,0)).2.1,in64 s)∧Keep Never w w'
set_option maxHeartbeats 4000000 in
set_option maxRecDepth 100000 in
theorem route_own (x:TA) (t:Tp) (B:Nat) (id:Int) (w:World) (ht:TpAt w B x t) (hn:x.nr≤100000000) (hp:∀r∈t.2.2.2,r.2.1.length≤100000000) (hB:B≤w.heap.size) :
    Calls Tryz.prog 28 #[.agg x.cs,.int .i64 id] w (RtRet3 (rtM t.2.2.2 id) w):=by
  have HR:=qh ht.r
  obtain⟨Ae,ne,ce,Aj,nj,cj,Ab,nb,cb,Ar,nr,cr⟩:=x
  simp only[TA.cs] at HR hn ⊢
  obtain⟨w1,hw1⟩:∃W:World,w.alloc (.cells #[.slice Ae ne ce,.slice Aj nj cj,.slice Ab nb cb,.slice Ar nr cr] 27)=W:=⟨_,rfl⟩
  obtain⟨w2,hw2⟩:∃W:World,w1.alloc (.cells #[.int .i64 id] 3)=W:=⟨_,rfl⟩
  obtain⟨w3,hw3⟩:∃W:World,w2.alloc (.cells #[.int .i64 0,.slice none 0 0,.int .i64 0,.int .i64 0] 64)=W:=⟨_,rfl⟩
  have z1:w1.heap.size=w.heap.size+1:=by rw[←hw1];simp
  have z2:w2.heap.size=w.heap.size+1+1:=by rw[←hw2,←z1];simp
  have k1:Keep Never w w1:=by rw[←hw1];exact(Keep.refl _ _).alloc _
  have k2:Keep Never w1 w2:=by rw[←hw2];exact(Keep.refl _ _).alloc _
  have k3:Keep Never w2 w3:=by rw[←hw3];exact(Keep.refl _ _).alloc _
  have b1:=Blk.new w 27 #[.slice Ae ne ce,.slice Aj nj cj,.slice Ab nb cb,.slice Ar nr cr]
  rw[hw1] at b1
  have b2:=Blk.new w1 3 #[.int .i64 id]
  rw[hw2,z1] at b2
  have b3:=Blk.new w2 64 #[.int .i64 0,.slice none 0 0,.int .i64 0,.int .i64 0]
  rw[hw3,z2] at b3
  have HB1:=qh ((b1.keep k2 (fun h=>h)).keep k3 (fun h=>h))
  have HB3:=qh b3
  have HK:=qh ((k1.trans k2).trans k3)
  have HZ:=qh b3.lt
  have y2:w3.cell? ⟨w.heap.size,3,none⟩=some (.slice Ar nr cr):=HB1.out.cell 3
  have v0:w3.cell? ⟨w.heap.size+1,0,none⟩=some (.int .i64 id):=(b2.keep k3 (fun h=>h)).cell 0
  have HC:=qh (indexfr_any 82 #[.pointer (some ⟨w.heap.size+1,0,none⟩)] (fun i=>i==id) (enters_of Tryz.func82 (by kernel_rfl) rfl) Ar nr cr B t.2.2.2 w3 (HR.out.keep HK.out (fun _ h=>h.elim)) (fun W i a b A n c hk=>rtF_any i A n c a b id _ W (keepT hk v0)) (by omega))
  clear k1 k2 k3 b1 b2 b3 ht v0
  go_enter Tryz.func28, Tryz.ntmps28
  go_wp2_with fail
  refine HC.out.mono ?_
  rintro e w4 ⟨⟨i,s,rfl,h1,h2,h3⟩ | ⟨rfl,h1⟩,hk4⟩
  ·have HM:Hid (rtM t.2.2.2 id=some s):=qh (find_idx h1 h2 h3)
   have HK4:=qtr HK hk4
   have hin:i<nr:=by have:=HR.out.len;have:=(List.getElem?_eq_some_iff.1 h1).1;omega
   have hiz:(i:Int)<(nr:Int):=by omega
   have hi0:¬(i:Int)<0:=by omega
   have hps:=hp s (List.mem_of_getElem? h1)
   obtain⟨ad,s',A2,n2,d2,hA,_,hs,c0,c1,c2,c3,hsl⟩:=rt_at2 (HR.out.keep HK4.out (fun _ h=>h.elim)) hin
   subst hA
   rw[h1] at hs
   injection hs with hs
   subst hs
   have hb1:=HB1.out.keep hk4 (fun h=>h)
   have y2:w4.cell? ⟨w.heap.size,3,none⟩=some (.slice (some ad) nr cr):=hb1.cell 3
   have HB4:=qkb HB3 hk4
   obtain⟨s1,p,s2,s3⟩:=s
   simp only at c0 c1 c2 c3 hsl hps
   obtain⟨W1,hW1⟩:∃W:World,w4.alloc (.cells #[.int .i64 s1,.slice A2 n2 d2,.int .i64 s2,.int .i64 s3] 64)=W:=⟨_,rfl⟩
   have K1:Keep Never w4 W1:=by rw[←hW1];exact(Keep.refl _ _).alloc _
   have B1:=Blk.new w4 64 #[.int .i64 s1,.slice A2 n2 d2,.int .i64 s2,.int .i64 s3]
   rw[hW1] at B1
   have HB5:=qh B1
   have d1:W1.cell? ⟨w4.heap.size,1,none⟩=some (.slice A2 n2 d2):=B1.cell 1
   obtain⟨r1,r2,r3,r4,r5,r6⟩:=stps_rd (hsl.keep K1 (fun _ h=>h.elim))
   have HCl:=qh (cloneT_any A2 n2 d2 B p W1 r1 r5 r3 (by omega) (Nat.le_trans (Nat.le_trans hB HK4.out.size) K1.size))
   have HI6:=qh r6
   have HKW:=qtr HK4 K1
   have HBW:=qkb HB4 K1
   have HZ4:Hid (w.heap.size+1+1<w4.heap.size):=qh (Nat.lt_of_lt_of_le HZ.out hk4.size)
   clear h1 h2 h3 hk4 hb1 HC K1 B1 hsl r1 r2 r3 r4 r5 r6 HB1 HB3
   go_wp2_with fail
   refine HCl.out.mono ?_
   rintro e w5 ⟨A3,d3,rfl,ho5,hk5⟩
   have hb5:=HB5.out.keep hk5 (fun h=>h)
   have HBr:=qkb HBW hk5
   obtain⟨e0,e1,e2,e3⟩:=bc4 hb5
   have f0:=hb5.frozen 0
   have f1:=hb5.frozen 1
   have f2:=hb5.frozen 2
   have f3:=hb5.frozen 3
   obtain⟨g0,g1,g2,g3⟩:=bc4 HBr.out
   have h0:=HBr.out.frozen 0
   have h1:=HBr.out.frozen 1
   have h2:=HBr.out.frozen 2
   have h3:=HBr.out.frozen 3
   have hne:w.heap.size+1+1≠w4.heap.size:=by have:=HZ4.out;omega
   have hset:Keep (fun k=>k=w4.heap.size) w5 (w5.setCell ⟨w4.heap.size,1,none⟩ (.slice A3 n2 d3)):=(Keep.refl (fun k=>k=w4.heap.size) w5).set_ (p:=⟨w4.heap.size,1,none⟩) (.inl rfl) _
   have HBs:=qh (HBr.out.keep hset hne)
   have HKs:Hid (Keep Never w (w5.setCell ⟨w4.heap.size,1,none⟩ (.slice A3 n2 d3))):=qh ((HKW.out.trans hk5).set_ (p:=⟨w4.heap.size,1,none⟩) (.inr HK4.out.size) _)
   have hrow:∀q,InRow A3 q→W1.heap.size≤q:=fun q h=>(ho5.row h).1
   have HW1:Hid (w4.heap.size<W1.heap.size):=qh HB5.out.lt
   have hos:=ho5.keep hset (fun q h e=>by have:=hrow q h;have:=HW1.out;omega)
   have hput:Keep (fun k=>k=w.heap.size+1+1) (w5.setCell ⟨w4.heap.size,1,none⟩ (.slice A3 n2 d3)) (((((w5.setCell ⟨w4.heap.size,1,none⟩ (.slice A3 n2 d3)).setCell ⟨w.heap.size+1+1,0,none⟩ (.int .i64 s1)).setCell ⟨w.heap.size+1+1,1,none⟩ (.slice A3 n2 d3)).setCell ⟨w.heap.size+1+1,2,none⟩ (.int .i64 s2)).setCell ⟨w.heap.size+1+1,3,none⟩ (.int .i64 s3)):=put4_keep (Keep.refl (fun k=>k=w.heap.size+1+1) _) (.inl rfl) _ _ _ _
   have hW1z:w.heap.size≤W1.heap.size:=HKW.out.size
   have HOz:=qh ((hos.keep hput (fun q h e=>by have:=hrow q h;have:=HZ4.out;have:=HW1.out;omega)).less hW1z)
   have HBz:=qh (put4_blk HBs.out (.int .i64 s1) (.slice A3 n2 d3) (.int .i64 s2) (.int .i64 s3))
   have HKz:=qh (put4_keep HKs.out (.inr (show w.heap.size≤w.heap.size+1+1 by omega)) (.int .i64 s1) (.slice A3 n2 d3) (.int .i64 s2) (.int .i64 s3))
   clear hb5 ho5 hk5 HCl hset hrow hos hput hW1z
   go_wp2_with fail
   (try simp only[Exit.inBlock,Exit.then])
   refine bodyPost_ret (rt_results HBz.out _ rfl) rfl ⟨A3,n2,d3,by rw[HM.out];rfl,(fun h=>absurd h (by rw[HM.out];simp)),by rw[HM.out];exact HOz.out,qh (by rw[HM.out];exact HI6.out),HKz.out⟩
  ·have HM:Hid (rtM t.2.2.2 id=none):=qh (find_no h1)
   have HK4:=qtr HK hk4
   have HB4:=qkb HB3 hk4
   have f0:=HB4.out.frozen 0
   have f1:=HB4.out.frozen 1
   have f2:=HB4.out.frozen 2
   have f3:=HB4.out.frozen 3
   obtain⟨g0,g1,g2,g3⟩:=bc4 HB4.out
   have HBz:=qh (put4_blk HB4.out (.int .i64 0) (.slice none 0 0) (.int .i64 0) (.int .i64 0))
   have HKz:=qh (put4_keep HK4.out (.inr (show w.heap.size≤w.heap.size+1+1 by omega)) (.int .i64 0) (.slice none 0 0) (.int .i64 0) (.int .i64 0))
   clear h1 hk4 HC y2
   go_wp2_with fail
   (try simp only[Exit.inBlock,Exit.then])
   refine bodyPost_ret (rt_results HBz.out _ rfl) rfl ⟨none,0,0,by rw[HM.out];rfl,(fun _=>⟨rfl,rfl,rfl⟩),by rw[HM.out];exact Own.nil _ _ _ _,qh (by rw[HM.out];intro s hs;cases hs),HKz.out⟩
end Go.Proofs.YtpapiojicbbheaaGreatDoor

namespace Go.Proofs.YtpapiojicbbheaaGreatDoor
open Go.RowKit
set_option maxHeartbeats 4000000 in
set_option maxRecDepth 100000 in
theorem nom_any (r:Bool) (w:World) :
    Calls Tryz.prog 77 #[.bool r] w fun e w'=>e=.returned (.int .i64 (nomI r))∧Keep Never w w':=by
  cases r
  all_goals
   go_enter Tryz.func77, Tryz.ntmps77
   go_wp2_with fail
   go_ret
   exact⟨rfl,Keep.refl _ _⟩
set_option maxHeartbeats 1000000 in
set_option maxRecDepth 100000 in
theorem pvF_any (a:Int) (r:Bool) (id:Int) (g:Nat) (w:World) (h:w.cell? ⟨g,0,none⟩=some (.int .i64 id)):Calls Tryz.prog 107 #[.agg #[.int .i64 a,.bool r],.pointer (some ⟨g,0,none⟩)] w fun e w'=>e=.returned (.bool (a==id))∧Keep Never w w':=by
 obtain⟨w1,hw1⟩:∃W:World,w.alloc (.cells #[.int .i64 a,.bool r] 30)=W:=⟨_,rfl⟩
 have k1:Keep Never w w1:=by rw[←hw1];exact(Keep.refl _ _).alloc _
 have b1:=Blk.new w 30 #[.int .i64 a,.bool r]
 rw[hw1] at b1
 have c0:=b1.cell 0
 have c1:=b1.cell 1
 have d0:=keepT k1 h
 have HK:=qh k1
 clear k1 b1 h
 by_cases e1:a=id
 ·have t1:(a==id)=true:=by simpa using e1
  have HF:=qh t1
  clear e1
  go_enter Tryz.func107, Tryz.ntmps107
  go_wp2_with fail
  go_ret
  exact⟨by rw[HF.out];rfl,HK.out⟩
 ·have t1:(a==id)=false:=by simpa using e1
  have HF:=qh t1
  clear e1
  go_enter Tryz.func107, Tryz.ntmps107
  go_wp2_with fail
  go_ret
  exact⟨by rw[HF.out];rfl,HK.out⟩
set_option maxHeartbeats 4000000 in
set_option maxRecDepth 100000 in
theorem pover17_any (A:Option Addr) (n c B:Nat) (l:List Stp) (e:Int) (w:World) (h:Rd w B 2 A n (stpCells l)) (hn:n≤1000000) :
    Calls Tryz.prog 46 #[.slice A n c,.int .i64 e] w fun en w'=>en=.returned (.bool (overB l e))∧Keep Never w w':=by
  obtain⟨w1,hw1⟩:∃V:World,w.alloc (.cells #[.int .i64 e] 3)=V:=⟨_,rfl⟩
  have kw1:Keep Never w w1:=by rw[←hw1];exact(Keep.refl _ _).alloc _
  have bw1:=Blk.new w 3 #[.int .i64 e]
  rw[hw1] at bw1
  have HB1:=qh bw1
  have HK:=qh kw1
  have v0:w1.cell? ⟨w.heap.size,0,none⟩=some (.int .i64 e):=HB1.out.cell 0
  clear kw1 bw1
  have HC:=qh (containsfs_any 107 #[.pointer (some ⟨w.heap.size,0,none⟩)] (fun u=>u.1==e) (enters_of Tryz.func107 (by kernel_rfl) rfl) A n c B l w1 (h.keep HK.out (fun _ h=>h.elim)) (fun W s hk=>pvF_any s.1 s.2 e _ W (keepT hk v0)) (by omega))
  clear h v0
  go_enter Tryz.func46, Tryz.ntmps46
  go_wp2_with fail
  refine HC.out.mono ?_
  rintro en w2 ⟨rfl,hk⟩
  have HK2:=qh hk
  clear hk
  go_wp2_with fail
  go_ret
  exact⟨rfl,HK.out.trans HK2.out⟩
set_option maxHeartbeats 4000000 in
set_option maxRecDepth 100000 in
theorem behind_any (x:TA) (t:Tp) (B:Nat) (e a:Int) (r:Bool) (w:World) (h:TpAt w B x t) (h0:0≤e) (h1:e<(x.ne:Int)) (hv1:0≤edgeM t e) (hv2:edgeM t e≤1000000) (ha1:0≤a) (ha2:a≤1000000) :
    Calls Tryz.prog 57 #[.agg x.cs,.agg #[.int .i64 e,.int .i64 a,.bool r]] w fun en w'=>en=.returned (.int .i64 (alongP t (e,a,r)))∧Keep Never w w':=by
  obtain⟨ad,k,v,hA,he,hk,d0,hv⟩:=edge_at h h0 h1
  have HD:Hid (∀W,Keep Never w W→W.cell? (ad.add k)=some (.int .i64 v)):=qh (fun W hk=>keepT hk d0)
  obtain⟨Ae,ne,ce,Aj,nj,cj,Ab,nb,cb,Ar,nr,cr⟩:=x
  simp only[TA.cs] at hA hk ⊢
  subst hA he
  have hkz:(k:Int)<(ne:Int):=by omega
  rw[hv] at hv1 hv2
  have hw:IntKind.i64.wrap (v - a)=v - a:=IntWalk.i64_in _ (by omega)
  cases r with
  | true=>
   have HF:Hid (alongP t (((k:Nat):Int),a,true)=v - a):=qh (by unfold alongP;rw[if_pos rfl];simp only;rw[hv])
   clear h d0 hv h0 h1 hv1 hv2 ha1 ha2
   obtain⟨w1,hw1⟩:∃V:World,w.alloc (.cells #[.slice (some ad) ne ce,.slice Aj nj cj,.slice Ab nb cb,.slice Ar nr cr] 27)=V:=⟨_,rfl⟩
   have zw1:w1.heap.size=w.heap.size+1:=by rw[←hw1];simp
   have kw1:Keep Never w w1:=by rw[←hw1];exact(Keep.refl _ _).alloc _
   have bw1:=Blk.new w 27 #[.slice (some ad) ne ce,.slice Aj nj cj,.slice Ab nb cb,.slice Ar nr cr]
   rw[hw1] at bw1
   obtain⟨w2,hw2⟩:∃V:World,w1.alloc (.cells #[.int .i64 ((k:Nat):Int),.int .i64 a,.bool true] 71)=V:=⟨_,rfl⟩
   have kw2:Keep Never w1 w2:=by rw[←hw2];exact(Keep.refl _ _).alloc _
   have bw2:=Blk.new w1 71 #[.int .i64 ((k:Nat):Int),.int .i64 a,.bool true]
   rw[hw2,zw1] at bw2
   have HB1:=qh (bw1.keep kw2 (fun h=>h))
   have HB2:=qh bw2
   have HK:=qh (kw1.trans kw2)
   clear kw1 kw2 bw1 bw2
   obtain⟨y0,y1,y2,y3⟩:=bc4 HB1.out
   obtain⟨q0,q1,q2⟩:=bc3 HB2.out
   have d0:=HD.out w2 HK.out
   go_enter Tryz.func57, Tryz.ntmps57
   go_wp2_with fail
   go_quiet (fail)
   go_wp2_with fail
   go_ret
   exact⟨by rw[HF.out];rfl,HK.out.drewN _⟩
  | false=>
   have HF:Hid (alongP t (((k:Nat):Int),a,false)=a):=qh (by unfold alongP;rw[if_neg (by simp)])
   clear h d0 hv h0 h1 hv1 hv2 ha1 ha2
   obtain⟨w1,hw1⟩:∃V:World,w.alloc (.cells #[.slice (some ad) ne ce,.slice Aj nj cj,.slice Ab nb cb,.slice Ar nr cr] 27)=V:=⟨_,rfl⟩
   have zw1:w1.heap.size=w.heap.size+1:=by rw[←hw1];simp
   have kw1:Keep Never w w1:=by rw[←hw1];exact(Keep.refl _ _).alloc _
   have bw1:=Blk.new w 27 #[.slice (some ad) ne ce,.slice Aj nj cj,.slice Ab nb cb,.slice Ar nr cr]
   rw[hw1] at bw1
   obtain⟨w2,hw2⟩:∃V:World,w1.alloc (.cells #[.int .i64 ((k:Nat):Int),.int .i64 a,.bool false] 71)=V:=⟨_,rfl⟩
   have kw2:Keep Never w1 w2:=by rw[←hw2];exact(Keep.refl _ _).alloc _
   have bw2:=Blk.new w1 71 #[.int .i64 ((k:Nat):Int),.int .i64 a,.bool false]
   rw[hw2,zw1] at bw2
   have HB1:=qh (bw1.keep kw2 (fun h=>h))
   have HB2:=qh bw2
   have HK:=qh (kw1.trans kw2)
   clear kw1 kw2 bw1 bw2
   obtain⟨y0,y1,y2,y3⟩:=bc4 HB1.out
   obtain⟨q0,q1,q2⟩:=bc3 HB2.out
   have d0:=HD.out w2 HK.out
   go_enter Tryz.func57, Tryz.ntmps57
   go_wp2_with fail
   go_ret
   exact⟨by rw[HF.out];rfl,HK.out⟩
end Go.Proofs.YtpapiojicbbheaaGreatDoor

namespace Go.Proofs.YtpapiojicbbheaaGreatDoor
open Go.RowKit
theorem on_hit {path:List Stp}{u:Stp}{i:Nat} (h:path[i]?=some u) (hn:∀s∈path.take i,s≠u):path.findIdx? (fun s=>decide (s=u))=some i:=by
 rw[List.findIdx?_eq_some_iff_getElem]
 obtain⟨hi,h2⟩:=List.getElem?_eq_some_iff.1 h
 refine⟨hi,by rw[h2];simp,fun j hj=>?_⟩
 simp only[decide_eq_true_eq]
 refine hn _ ?_
 rw[List.mem_take_iff_getElem]
 exact⟨j,by omega,rfl⟩
theorem on_miss {path:List Stp}{u:Stp} (hn:∀s∈path,s≠u):path.findIdx? (fun s=>decide (s=u))=none:=by
 rw[List.findIdx?_eq_none_iff]
 intro s hs
 simpa using hn s hs
theorem on_found {t:Tp}{path:List Stp}{p:Ps}{i:Nat} (hr:rightB t p=true) (hl:(lenM t path).2=0) (h:path[i]?=some (p.1,p.2.2)) (hn:∀s∈path.take i,s≠(p.1,p.2.2)) :
    onP t path p=(sumM t.1 (path.take i)+alongP t p,0):=by
  unfold onP;rw[if_pos hr,if_pos hl,on_hit h hn]
theorem on_none {t:Tp}{path:List Stp}{p:Ps} (hr:rightB t p=true) (hl:(lenM t path).2=0) (hn:∀s∈path,s≠(p.1,p.2.2)):onP t path p=(0,4):=by
 unfold onP;rw[if_pos hr,if_pos hl,on_miss hn]
theorem on_wrong {t:Tp}{path:List Stp}{p:Ps} (hr:rightB t p=false):onP t path p=(0,1):=by
 unfold onP;rw[if_neg (by rw[hr];simp)]
theorem on_err {t:Tp}{path:List Stp}{p:Ps} (hr:rightB t p=true) (hl:(lenM t path).2≠0):onP t path p=(0,(lenM t path).2):=by
 unfold onP;rw[if_pos hr,if_neg hl]
theorem sum_in {t:Tp}{path:List Stp} (hc:checkM t=0) (hl:(lenM t path).2=0) {i:Nat} (hi:i≤path.length):0≤sumM t.1 (path.take i)∧sumM t.1 (path.take i)≤40000000:=by
 obtain⟨hg,_,_⟩:=good_of hc hl
 rw[sum_plain hg i hi]
 have key:∀(l:List Stp),(∀s∈l,s∈path)→0≤plainS t.1 l∧plainS t.1 l≤1000000*(l.length:Int):=by
  intro l
  induction l with
  | nil=>intro _;exact⟨Int.le_refl _,by simp[plainS]⟩
  | cons s l ih=>
   intro hs
   obtain⟨a,b⟩:=ih (fun u hu=>hs u (List.mem_cons_of_mem _ hu))
   obtain⟨k,hk⟩:=List.getElem?_of_mem (hs s (by simp))
   obtain⟨_,c,d⟩:=good_pos hg hk
   rw[plainS_cons,List.length_cons]
   constructor <;> omega
 obtain⟨a,b⟩:=key (path.take i) (fun s hs=>List.mem_of_mem_take hs)
 have h2:=hg.2.2
 have h3:(path.take i).length≤path.length:=by rw[List.length_take];omega
 constructor <;> omega
theorem sum_next {t:Tp}{path:List Stp} (hc:checkM t=0) (hl:(lenM t path).2=0) {i:Nat}{s:Stp} (h:path[i]?=some s):sumM t.1 (path.take (i+1))=sumM t.1 (path.take i)+edgeM t s.1:=by
 obtain⟨hg,_,_⟩:=good_of hc hl
 have hi:i<path.length:=(List.getElem?_eq_some_iff.1 h).1
 rw[sum_plain hg _ (by omega),sum_plain hg _ (by omega),plain_step h];rfl
end Go.Proofs.YtpapiojicbbheaaGreatDoor

namespace Go.Proofs.YtpapiojicbbheaaGreatDoor
open Go.RowKit
theorem stp_front {w:World}{B n k:Nat}{A:Option Addr}{l:List Stp} (h:Rd w B 2 A n (stpCells l)) (hk:k≤n):Rd w B 2 A k (stpCells (l.take k)):=by
 have hl:=h.stp_len
 refine⟨by rw[len_stpCells,List.length_take];omega,fun h0=>?_⟩
 obtain⟨ad,e,hb,hc⟩:=h.2 (by omega)
 refine⟨ad,e,hb,fun j v hj=>hc j v ?_⟩
 have e2:stpCells l=stpCells (l.take k)++stpCells (l.drop k):=by rw[←stpCells_app,List.take_append_drop]
 rw[e2,List.getElem?_append_left (List.getElem?_eq_some_iff.1 hj).1]
 exact hj
theorem twice_step {l:List Stp}{k:Nat}{s:Stp} (hs:l[k]?=some s):twiceAt l k=overB (l.take k) s.1:=by unfold twiceAt;rw[hs]
theorem twice_t {l:List Stp}{k:Nat} (hk:k<l.length) (h:twiceAt l k=true):twiceB l=true:=by
 unfold twiceB;rw[List.any_eq_true];exact⟨k,List.mem_range.2 hk,h⟩
theorem twice_f {l:List Stp} (h:∀k,k<l.length→twiceAt l k=false):twiceB l=false:=by
 unfold twiceB;rw[List.any_eq_false];intro k hk;rw[h k (List.mem_range.1 hk)];simp
set_option maxHeartbeats 4000000 in
set_option maxRecDepth 100000 in
theorem twice_any (A:Option Addr) (n c B:Nat) (l:List Stp) (w:World) (h:Rd w B 2 A n (stpCells l)) (hc:n≤c) (hn:n≤1000000) :
    Calls Tryz.prog 59 #[.slice A n c] w fun en w'=>en=.returned (.bool (twiceB l))∧Keep Never w w':=by
  have HL:=qh h.stp_len
  have HR:=qh h
  have HCap:=qh hc
  clear h hc
  go_enter Tryz.func59, Tryz.ntmps59
  go_wp2_with fail
  go_loopw [7] (fun si wr=>∃k:Nat,k≤n∧si=.int .i64 k∧Hid (Keep Never w wr∧∀j,j<k→twiceAt l j=false)) (fun si _=>n - (intOf si).toNat)
  case atStart=>exact⟨0,by omega,rfl,qh ⟨Keep.refl _ _,fun j hj=>absurd hj (by omega)⟩⟩
  case round=>
   obtain⟨k,hk,rfl,HH⟩:=hrel
   by_cases h0:k<n
   ·have hki:(k:Int)<(n:Int):=by omega
    obtain⟨ad,s,hA,_,hs,c0,c1⟩:=(HR.out.keep HH.out.1 (fun _ h=>h.elim)).stp h0
    subst hA
    have HTw:=qh (twice_step hs)
    have hq:=run_front Tryz.underlying35 Tryz.sizeOf30 (some ad) n c k (by omega) HCap.out
    obtain⟨s1,s2⟩:=s
    simp only at c0 c1
    clear hs
    obtain⟨w4,hw4⟩:∃V:World,wr.alloc (.cells #[.int .i64 s1,.bool s2] 30)=V:=⟨_,rfl⟩
    have k4:Keep Never wr w4:=by rw[←hw4];exact(Keep.refl _ _).alloc _
    have B4:=Blk.new wr 30 #[.int .i64 s1,.bool s2]
    rw[hw4] at B4
    obtain⟨br,hbr⟩:∃q,wr.heap.size=q:=⟨_,rfl⟩
    rw[hbr] at B4
    have HB4:=qh B4
    have HK4:=qh (HH.out.1.trans k4)
    have HOv:=qh (fun V (hV:Keep Never w4 V)=>pover17_any (some ad) k c B (l.take k) s1 V (stp_front (HR.out.keep (HK4.out.trans hV) (fun _ h=>h.elim)) (by omega)) (by omega))
    obtain⟨ob,hob⟩:∃z,overB (l.take k) s1=z:=⟨_,rfl⟩
    rw[hob] at HOv
    have HOb:=qh hob
    have b0:w4.cell? ⟨br,0,none⟩=some (.int .i64 s1):=HB4.out.cell 0
    have HS2:Hid (∀W',Keep Never w4 W'→Keep Never w4 W'∧W'.cell? ⟨br,0,none⟩=some (.int .i64 s1)):=qh (fun W' h=>⟨h,keepT h b0⟩)
    clear hob k4 B4
    go_wp2_with fail
    clear b0
    go_region_held3 (fun W'=>Keep Never w4 W'∧W'.cell? ⟨br,0,none⟩=some (.int .i64 s1))
      (first| assumption | exact HS2.out _ ((Keep.refl Never w4).drew) | exact HS2.out _ (Keep.trans (And.left (by assumption)) hk3) | exact HS2.out _ (Keep.trans ((Keep.refl Never w4).drew) hk3))
      (first
        | (go_at_call 46; refine(HOv.out _ (by first | exact And.left (by assumption) | exact(Keep.refl Never w4).drew | exact Keep.refl Never w4)).mono ?_;rintro e w5 ⟨rfl,hk3⟩))
    all_goals
     rename_i hS
     have HKe:=qh (HK4.out.trans hS.1)
     clear hS
     cases ob with
     | true=>
      have HF:Hid (twiceB l=true):=qh (twice_t (k:=k) (by rw[HL.out];exact h0) (by rw[HTw.out];exact HOb.out))
      go_wp2_with fail
      go_ret
      exact⟨by rw[HF.out];rfl,HKe.out⟩
     | false=>
      go_wp2_with fail
      refine⟨⟨k+1,by omega,by go_num,qh ⟨HKe.out,fun j hj=>?_⟩⟩,?_⟩
      ·rcases Nat.lt_or_ge j k with h | h
       ·exact HH.out.2 j h
       ·obtain rfl:j=k:=by omega
        rw[HTw.out];exact HOb.out
      ·simp[intOf];try omega
   ·obtain rfl:k=n:=by omega
    have hki:¬(k:Int)<(k:Int):=by omega
    have HF:Hid (twiceB l=false):=qh (twice_f (fun j hj=>HH.out.2 j (by rw[HL.out] at hj;exact hj)))
    go_wp2_with fail
    go_ret
    exact⟨by rw[HF.out];rfl,HH.out.1⟩
theorem run_ne_stp (w:World) (x1:Int) (x2:Bool) (y1:Int) (y2:Bool):(binOp .neq 30 (.agg #[.int .i64 x1,.bool x2]) (.agg #[.int .i64 y1,.bool y2])).run Tryz.prog w=.ok (.bool (!sameS x1 x2 y1 y2)) w:=by
 by_cases h1:x1=y1
 ·have t1:(x1==y1)=true:=by simpa using h1
  by_cases h2:x2=y2
  ·have t2:(x2==y2)=true:=by simpa using h2
   have hd:sameS x1 x2 y1 y2=true:=decide_eq_true (by rw[h1,h2])
   rw[hd]
   clear h1 h2 hd
   go_simp
   (try simp[t1,t2])
  ·have t2:(x2==y2)=false:=by simpa using h2
   have hd:sameS x1 x2 y1 y2=false:=decide_eq_false (by intro h;injection h with _ h;exact h2 h)
   rw[hd]
   clear h1 h2 hd
   go_simp
   (try simp[t1,t2])
 ·have t1:(x1==y1)=false:=by simpa using h1
  have hd:sameS x1 x2 y1 y2=false:=decide_eq_false (by intro h;injection h with h _;exact h1 h)
  rw[hd]
  clear h1 hd
  go_simp
  (try simp[t1])
def LeftRet (o:Option (Int×Int)) (w:World) (e:Ending) (w':World):Prop:=e=.returned (.tuple #[.int .i64 (o.getD (0,0)).1,.int .i64 (o.getD (0,0)).2,.bool o.isSome])∧Keep Never w w'
theorem ret3 {fn:Func}{r s u:Nat} (h:fn.results=#[.tmp r,.tmp s,.tmp u]) (tmps:Array Value) (w:World):(results fn tmps).run Tryz.prog w=.ok (.tuple #[tmps.getD r undef,tmps.getD s undef,tmps.getD u undef]) w:=by
 simp[results,h,go_sem]
set_option maxHeartbeats 8000000 in
set_option maxRecDepth 100000 in
theorem pleft_any (x:TA) (t:Tp) (B:Nat) (ref:Int) (rv:Bool) (P:List Stp) (S:List Sc) (g:Int) (Ap:Option Addr) (np cp:Nat) (As:Option Addr) (ns cs:Nat) (w:World) (h:TpAt w B x t) (hs:TpSmall x t) (hp:repStp.Sl w B Ap np cp P) (hck:checkM t=0) (hn:np≤100000000) :
    Calls Tryz.prog 80 #[.agg x.cs,.agg #[.int .i64 ref,.bool rv,.slice Ap np cp,.slice As ns cs,.int .i64 g]] w (LeftRet (leftA t (ref,rv,P,S,g)) w):=by
  have HBa:=qh (fun (W:World) (hk:Keep Never w W)=>bal_any x t B ref W (h.keep hk) hs.b)
  have HLn:=qh (fun (W:World) (hk:Keep Never w W)=>length_any x t B Ap np cp P W (h.keep hk) (hp.keep hk (fun _ h=>h.elim)) hs.j hn)
  have HED:=qh (fun (W:World) (hk:Keep Never w W) (i:Int) (h0:0≤i) (h1:i<(x.ne:Int))=>edge_at (h.keep hk) h0 h1)
  have HEl:Hid (x.ne=t.1.length):=qh h.e.len
  have HPl:Hid (np=P.length):=qh hp.len
  have HP:=qh hp
  have HCk:=qh hck
  have HD:Hid (leftA t (ref,rv,P,S,g)=match balM t.2.2.1 ref with | none=>none | some b=>if P.head?=some (b.2.1,rv)∧(lenM t P).2=0 then some ((lenM t P).1 - alongP t (b.2.1,b.2.2,rv),alongP t (b.2.1,b.2.2,rv)) else none):=qh rfl
  obtain⟨Ae,ne,ce,Aj,nj,cj,Ab,nb,cb,Ar,nr,cr⟩:=x
  simp only[TA.cs] at HBa HLn HED HEl ⊢
  clear h hs hp hck
  obtain⟨w1,hw1⟩:∃V:World,w.alloc (.cells #[.slice Ae ne ce,.slice Aj nj cj,.slice Ab nb cb,.slice Ar nr cr] 27)=V:=⟨_,rfl⟩
  have zw1:w1.heap.size=w.heap.size+1:=by rw[←hw1];simp
  have kw1:Keep Never w w1:=by rw[←hw1];exact(Keep.refl _ _).alloc _
  have bw1:=Blk.new w 27 #[.slice Ae ne ce,.slice Aj nj cj,.slice Ab nb cb,.slice Ar nr cr]
  rw[hw1] at bw1
  obtain⟨w2,hw2⟩:∃V:World,w1.alloc (.cells #[.int .i64 ref,.bool rv,.slice Ap np cp,.slice As ns cs,.int .i64 g] 38)=V:=⟨_,rfl⟩
  have kw2:Keep Never w1 w2:=by rw[←hw2];exact(Keep.refl _ _).alloc _
  have bw2:=Blk.new w1 38 #[.int .i64 ref,.bool rv,.slice Ap np cp,.slice As ns cs,.int .i64 g]
  rw[hw2,zw1] at bw2
  have HB1:=qh (bw1.keep kw2 (fun h=>h))
  have HB2:=qh bw2
  have HK:=qh (kw1.trans kw2)
  clear kw1 kw2 bw1 bw2
  obtain⟨ob,hob⟩:∃z,balM t.2.2.1 ref=z:=⟨_,rfl⟩
  have hC0:=HBa.out w2 HK.out
  unfold BalRet at hC0
  rw[hob] at hC0 HD
  have HC:=qh hC0
  have HOb:=qh hob
  clear hC0 HBa hob
  obtain⟨y0,y1,y2,y3⟩:=bc4 HB1.out
  obtain⟨q0,q1,q2,q3,q4⟩:=bc5 HB2.out
  cases ob with
  | none=>
   have HF:Hid (leftA t (ref,rv,P,S,g)=none):=qh HD.out
   go_enter Tryz.func80, Tryz.ntmps80
   go_wp2_with fail
   refine HC.out.mono ?_
   rintro en w4 ⟨rfl,hk4⟩
   have HK1:=qtr HK hk4
   have Hy1:=qkb HB1 hk4
   have Hq1:=qkb HB2 hk4
   clear y0 y1 y2 y3 q0 q1 q2 q3 q4 hk4 HC hw1 hw2 zw1
   simp only[Option.getD,Option.isSome]
   have HKz:=qh (HK1.out.trans ((Keep.refl Never w4).alloc (.cells #[.int .i64 0,.int .i64 0,.int .i64 0] 94)))
   go_wp2_with fail
   go_quiet (fail)
   go_wp2_with fail
   (try simp only[Exit.inBlock,Exit.then])
   refine bodyPost_ret (ret3 (fn:=Tryz.f80) (r:=4) (s:=5) (u:=6) rfl _ _) rfl ⟨by rw[HF.out];rfl,(HKz.out.drewN _)⟩
  | some b=>
   obtain⟨b1,b2,b3⟩:=b
   simp only at HD
   go_enter Tryz.func80, Tryz.ntmps80
   go_wp2_with fail
   refine HC.out.mono ?_
   rintro en w4 ⟨rfl,hk4⟩
   have HK1:=qtr HK hk4
   have Hy1:=qkb HB1 hk4
   have Hq1:=qkb HB2 hk4
   clear y0 y1 y2 y3 q0 q1 q2 q3 q4 hk4 HC hw1 hw2 zw1
   simp only[Option.getD,Option.isSome]
   obtain⟨w102,hw102⟩:∃V:World,w4.alloc (.cells #[.int .i64 b1,.int .i64 b2,.int .i64 b3] 94)=V:=⟨_,rfl⟩
   have kx:Keep Never w4 w102:=by rw[←hw102];exact(Keep.refl _ _).alloc _
   have bx:=Blk.new w4 94 #[.int .i64 b1,.int .i64 b2,.int .i64 b3]
   rw[hw102] at bx
   obtain⟨bb,hbb⟩:∃q,w4.heap.size=q:=⟨_,rfl⟩
   rw[hbb] at bx
   have HBx2:=qh bx
   have HK2:=qtr HK1 kx
   have Hy2:=qkb Hy1 kx
   have Hq2:=qkb Hq1 kx
   clear kx bx
   by_cases g0:np=0
   ·have HF:Hid (leftA t (ref,rv,P,S,g)=none):=qh (by
     have:P=[]:=List.length_eq_zero_iff.1 (by rw[←HPl.out];exact g0)
     rw[HD.out,this,if_neg (by simp)])
    subst g0
    obtain⟨y0,y1,y2,y3⟩:=bc4 Hy2.out
    obtain⟨q0,q1,q2,q3,q4⟩:=bc5 Hq2.out
    obtain⟨b0,b1,b2⟩:=bc3 HBx2.out
    go_wp2_with fail
    go_quiet (fail)
    go_wp2_with fail
    (try simp only[Exit.inBlock,Exit.then])
    refine bodyPost_ret (ret3 (fn:=Tryz.f80) (r:=4) (s:=5) (u:=6) rfl _ _) rfl ⟨by rw[HF.out];rfl,(HK2.out.drewN _)⟩
   have t0:((np:Int)==0)=false:=by simp;omega
   have hn0:0<np:=by omega
   obtain⟨ad,s,hA,_,hs,c0,c1,_⟩:=stp_at (HP.out.keep HK2.out (fun _ h=>h.elim)) hn0
   subst hA
   have ea:ad.add (0*2)=ad:=by rw[Nat.zero_mul];unfold Addr.add;split <;> simp_all
   rw[ea] at c0 c1
   have hhd:P.head?=some s:=by rw[List.head?_eq_getElem?];exact hs
   have qn:=run_ne_stp
   obtain⟨s1,s2⟩:=s
   simp only at c0 c1
   have HHd:=qh hhd
   clear hs ea hhd g0
   by_cases hq:((s1,s2):Stp)=(b2,rv)
   case neg=>
    have tq:(!sameS s1 s2 b2 rv)=true:=by have:sameS s1 s2 b2 rv=false:=decide_eq_false hq;rw[this];rfl
    have HF:Hid (leftA t (ref,rv,P,S,g)=none):=qh (by rw[HD.out,if_neg (by rintro⟨h,_⟩;rw[HHd.out] at h;exact hq (Option.some.inj h))])
    clear hq
    obtain⟨y0,y1,y2,y3⟩:=bc4 Hy2.out
    obtain⟨q0,q1,q2,q3,q4⟩:=bc5 Hq2.out
    obtain⟨b0,b1,b2⟩:=bc3 HBx2.out
    go_wp2_with fail
    go_quiet (fail)
    go_wp2_with fail
    (try simp only[Exit.inBlock,Exit.then])
    refine bodyPost_ret (ret3 (fn:=Tryz.f80) (r:=4) (s:=5) (u:=6) rfl _ _) rfl ⟨by rw[HF.out];rfl,(HK2.out.drewN _)⟩
   have tq:(!sameS s1 s2 b2 rv)=false:=by have:sameS s1 s2 b2 rv=true:=decide_eq_true hq;rw[this];rfl
   have HD2:Hid (leftA t (ref,rv,P,S,g)=if (lenM t P).2=0 then some ((lenM t P).1 - alongP t (b2,b3,rv),alongP t (b2,b3,rv)) else none):=qh (by
    rw[HD.out]
    by_cases hz:(lenM t P).2=0
    ·rw[if_pos ⟨by rw[HHd.out,hq],hz⟩,if_pos hz]
    ·rw[if_neg (fun h=>hz h.2),if_neg hz])
   clear hq HD
   obtain⟨l1,hl1⟩:∃z,(lenM t P).1=z:=⟨_,rfl⟩
   obtain⟨l2,hl2⟩:∃z,(lenM t P).2=z:=⟨_,rfl⟩
   rw[hl1,hl2] at HD2 HLn
   have HL1:=qh hl1
   have HL2:=qh hl2
   clear hl1 hl2
   obtain⟨y0,y1,y2,y3⟩:=bc4 Hy2.out
   obtain⟨q0,q1,q2,q3,q4⟩:=bc5 Hq2.out
   obtain⟨b0,b1,b2⟩:=bc3 HBx2.out
   go_wp2_with fail
   go_quiet (fail)
   go_wp2_with fail
   refine(HLn.out _ (HK2.out.drewN _)).mono ?_
   rintro en w8 ⟨rfl,hk8⟩
   have hk8:=Keep.drewNL hk8
   have HK3:=qtr HK2 hk8
   have Hy3:=qkb Hy2 hk8
   have Hq3:=qkb Hq2 hk8
   have Hb3:=qkb HBx2 hk8
   clear y0 y1 y2 y3 q0 q1 q2 q3 q4 b0 b1 b2 hk8 qn tq
   by_cases g1:l2=0
   case neg=>
    have t1:(l2 != 0)=true:=by simpa using g1
    have HF:Hid (leftA t (ref,rv,P,S,g)=none):=qh (by rw[HD2.out,if_neg g1])
    clear g1
    go_wp2_with fail
    (try simp only[Exit.inBlock,Exit.then])
    refine bodyPost_ret (ret3 (fn:=Tryz.f80) (r:=4) (s:=5) (u:=6) rfl _ _) rfl ⟨by rw[HF.out];rfl,HK3.out⟩
   have t1:(l2 != 0)=false:=by simpa using g1
   have HL0:Hid ((lenM t P).2=0):=qh (HL2.out.trans g1)
   have HD3:Hid (leftA t (ref,rv,P,S,g)=some (l1 - alongP t (b2,b3,rv),alongP t (b2,b3,rv))):=qh (by rw[HD2.out,if_pos g1])
   clear g1 HD2
   obtain⟨x1,x2,x3,x4,x5⟩:=check_bal HCk.out (bal_mem HOb.out).1
   simp only at x3 x4 x5
   have hsum:=sum_in HCk.out HL0.out (i:=P.length) (Nat.le_refl _)
   rw[List.take_length,←(good_of HCk.out HL0.out).2.2,HL1.out] at hsum
   have hin:=edge_in HCk.out x3
   unfold thereB at x3
   simp only[Bool.and_eq_true,decide_eq_true_eq] at x3
   rw[←HEl.out] at x3
   cases rv with
   | false=>
    have HF:Hid (leftA t (ref,false,P,S,g)=some (l1 - b3,b3)):=qh HD3.out
    have hw:wrap64 (l1 - b3)=l1 - b3:=by have:=IntWalk.i64_in (l1 - b3) (by omega);rwa [IntWalk.i64_left] at this
    clear x1 x2 x3 x4 x5 hsum hin
    obtain⟨y0,y1,y2,y3⟩:=bc4 Hy3.out
    obtain⟨q0,q1,q2,q3,q4⟩:=bc5 Hq3.out
    obtain⟨b0,b1,b2⟩:=bc3 Hb3.out
    go_wp2_with fail
    (try rw[hw])
    (try simp only[Exit.inBlock,Exit.then])
    refine bodyPost_ret (ret3 (fn:=Tryz.f80) (r:=4) (s:=5) (u:=6) rfl _ _) rfl ⟨by rw[HF.out];rfl,HK3.out⟩
   | true=>
    obtain⟨ad2,j,v,hA2,he,hj,d0,hv⟩:=HED.out w8 HK3.out b2 x3.1 x3.2
    subst hA2
    rw[hv] at x5 hin
    have HF:Hid (leftA t (ref,true,P,S,g)=some (l1 - (v - b3),v - b3)):=qh (by rw[HD3.out];unfold alongP;rw[if_pos rfl];simp only[hv])
    have hw0:IntKind.i64.wrap (v - b3)=v - b3:=IntWalk.i64_in _ (by omega)
    have hw:wrap64 (l1 - (v - b3))=l1 - (v - b3):=by have:=IntWalk.i64_in (l1 - (v - b3)) (by omega);rwa [IntWalk.i64_left] at this
    subst he
    have hjz:(j:Int)<(ne:Int):=by omega
    obtain⟨y0,y1,y2,y3⟩:=bc4 Hy3.out
    obtain⟨q0,q1,q2,q3,q4⟩:=bc5 Hq3.out
    obtain⟨b0,b1,b2⟩:=bc3 Hb3.out
    clear x1 x2 x3 x4 x5 hsum hin hv
    go_wp2_with fail
    go_quiet (fail)
    go_wp2_with fail
    (try rw[hw])
    (try simp only[Exit.inBlock,Exit.then])
    refine bodyPost_ret (ret3 (fn:=Tryz.f80) (r:=4) (s:=5) (u:=6) rfl _ _) rfl ⟨by rw[HF.out];rfl,(HK3.out.drewN _)⟩
end Go.Proofs.YtpapiojicbbheaaGreatDoor

namespace Go.Proofs.YtpapiojicbbheaaGreatDoor
open Go.RowKit
structure GnI (w:World) (t:Tp) (res acc:List Stp) (f:Nat) (s:Stp) (m:Int):Prop where
  wy:∃a,acc=a++[s]∧a++goneM t f s m=res
  ok:(goM t f s m).2=0
  there:thereB t.1.length s.1=true
  pos:0≤m
  top:m≤2199023255552
  len:acc.length+f=41
  f40:f≤40
  all:∀u∈acc,in64 u
theorem GnI.fin {w:World}{t:Tp}{res acc:List Stp}{f:Nat}{s:Stp}{m:Int} (h:GnI w t res acc f s m) (hm:m≤edgeM t s.1):acc=res:=by
 obtain⟨a,h1,h2⟩:=h.wy
 rw[gone_in hm] at h2
 rw[h1,h2]
theorem in64_there {t:Tp}{s:Stp} (h:thereB t.1.length s.1=true) (hl:t.1.length≤100000000):in64 s:=by
 unfold thereB at h
 simp only[Bool.and_eq_true,decide_eq_true_eq] at h
 unfold in64
 omega
theorem GnI.next {w:World}{t:Tp}{res acc:List Stp}{f:Nat}{s:Stp}{m:Int} (h:GnI w t res acc f s m) (hm:¬m≤edgeM t s.1) (hv:0≤edgeM t s.1) (hl:t.1.length≤100000000):∃g x,f=g+1∧afterM t s=[x]∧GnI w t res (acc++[x]) g x (m - edgeM t s.1):=by
 obtain⟨g,x,h1,h2,h3⟩:=go_on h.ok hm
 obtain⟨a,e1,e2⟩:=h.wy
 have hx:=after_there (t:=t) (s:=s) (x:=x) (by rw[h2];simp)
 subst h1
 refine⟨g,x,rfl,h2,⟨⟨acc,rfl,?_⟩,h3,hx,by omega,by have:=h.top;omega,by have:=h.len;simp;omega,by have:=h.f40;omega,fun u hu=>?_⟩⟩
 ·rw[gone_next hm h2] at e2
  rw[e1,←e2];simp
 ·rcases List.mem_append.1 hu with hu | hu
  ·exact h.all u hu
  ·simp at hu;subst hu;exact in64_there hx hl
def StpsRet (l:List Stp) (w:World) (e:Ending) (w':World):Prop:=∃A n c,e=.returned (.slice A n c)∧Hid (n=l.length)∧Own w' w.heap.size 30 2 A n c (stpCells l)∧Hid (∀u∈l,in64 u)∧Keep Never w w'
set_option maxHeartbeats 8000000 in
set_option maxRecDepth 100000 in
theorem gone_any (x:TA) (t:Tp) (B:Nat) (id e a:Int) (r:Bool) (n:Int) (w:World) (h:TpAt w B x t) (hs:TpSmall x t) (hck:checkM t=0) (hth:thereB t.1.length e=true) (ha0:0≤a) (ha1:a≤edgeM t e) (hn0:0≤n) (hn1:n≤1099511627776) (hok:(goM t 40 (e,r) (n+alongP t (e,a,r))).2=0) :
    Calls Tryz.prog 56 #[.agg x.cs,.agg #[.int .i64 id,.int .i64 e,.int .i64 a],.bool r,.int .i64 n] w (StpsRet (goneM t 40 (e,r) (n+alongP t (e,a,r))) w):=by
  have HBe:=qh (fun (W:World) (hk:Keep Never w W)=>behind_any x t B e a r W (h.keep hk))
  have HAf:=qh (fun (W:World) (hk:Keep Never w W) (s:Stp)=>after_any x t B s W (h.keep hk) hs.j hs.e)
  have HED:=qh (fun (W:World) (hk:Keep Never w W) (i:Int) (h0:0≤i) (h1:i<(x.ne:Int))=>edge_at (h.keep hk) h0 h1)
  have HEl:Hid (x.ne=t.1.length):=qh h.e.len
  have HEs:=qh hs.e
  have HCk:=qh hck
  have HOk:=qh hok
  have hin:=edge_in hck hth
  have hal:=along_in (t:=t) (p:=(e,a,r)) ha0 ha1
  have HTh:=qh hth
  simp only at hal
  unfold thereB at hth
  simp only[Bool.and_eq_true,decide_eq_true_eq] at hth
  rw[←HEl.out] at hth
  have hC0:=HBe.out
  obtain⟨Ae,ne,ce,Aj,nj,cj,Ab,nb,cb,Ar,nr,cr⟩:=x
  simp only[TA.cs] at HBe HAf HED HEl HEs hth ⊢
  clear h hs hck hok hC0
  obtain⟨w1,hw1⟩:∃V:World,w.alloc (.cells #[.slice Ae ne ce,.slice Aj nj cj,.slice Ab nb cb,.slice Ar nr cr] 27)=V:=⟨_,rfl⟩
  have zw1:w1.heap.size=w.heap.size+1:=by rw[←hw1];simp
  have kw1:Keep Never w w1:=by rw[←hw1];exact(Keep.refl _ _).alloc _
  have bw1:=Blk.new w 27 #[.slice Ae ne ce,.slice Aj nj cj,.slice Ab nb cb,.slice Ar nr cr]
  rw[hw1] at bw1
  obtain⟨w2,hw2⟩:∃V:World,w1.alloc (.cells #[.int .i64 id,.int .i64 e,.int .i64 a] 94)=V:=⟨_,rfl⟩
  have zw2:w2.heap.size=w.heap.size+1+1:=by rw[←hw2];simp[zw1]
  have kw2:Keep Never w1 w2:=by rw[←hw2];exact(Keep.refl _ _).alloc _
  have bw2:=Blk.new w1 94 #[.int .i64 id,.int .i64 e,.int .i64 a]
  rw[hw2,zw1] at bw2
  obtain⟨w3,hw3⟩:∃V:World,w2.alloc (.cells #[.int .i64 e,.bool r] 30)=V:=⟨_,rfl⟩
  have zw3:w3.heap.size=w.heap.size+1+1+1:=by rw[←hw3];simp[zw2]
  have kw3:Keep Never w2 w3:=by rw[←hw3];exact(Keep.refl _ _).alloc _
  have bw3:=Blk.new w2 30 #[.int .i64 e,.bool r]
  rw[hw3,zw2] at bw3
  obtain⟨w4,hw4⟩:∃V:World,w3.alloc (.cells #[.int .i64 e,.bool r] 30)=V:=⟨_,rfl⟩
  have kw4:Keep Never w3 w4:=by rw[←hw4];exact(Keep.refl _ _).alloc _
  have bw4:=Blk.new w3 30 #[.int .i64 e,.bool r]
  rw[hw4,zw3] at bw4
  have p1:w2.cell? ⟨w.heap.size+1,1,none⟩=some (.int .i64 e):=bw2.cell 1
  obtain⟨s0,s1⟩:=bc2 bw3
  have HB1:=qh (((bw1.keep kw2 (fun h=>h)).keep kw3 (fun h=>h)).keep kw4 (fun h=>h))
  have HB2:=qh ((bw2.keep kw3 (fun h=>h)).keep kw4 (fun h=>h))
  have HB3:=qh (bw3.keep kw4 (fun h=>h))
  have HB4:=qh bw4
  have HK:=qh (((kw1.trans kw2).trans kw3).trans kw4)
  clear kw1 kw2 kw3 kw4 bw1 bw2 bw3 bw4
  have HCb:=qh (fun (W:World) (hk:Keep Never w W)=>HBe.out W hk hth.1 hth.2 (by omega) hin.2 ha0 (by omega))
  obtain⟨al,hal'⟩:∃z,alongP t (e,a,r)=z:=⟨_,rfl⟩
  rw[hal'] at HCb HOk hal ⊢
  have hw:=IntWalk.i64_in (n+al) (by omega)
  have hw':wrap64 (n+al)=n+al:=by have:=hw;rwa [IntWalk.i64_left] at this
  have HI0:Hid (GnI w t (goneM t 40 (e,r) (n+al)) [(e,r)] 40 (e,r) (n+al)):=qh ⟨⟨[],rfl,rfl⟩,HOk.out,HTh.out,by omega,by omega,rfl,by omega,fun u hu=>by simp at hu;subst hu;exact in64_there HTh.out (by rw[←HEl.out];exact HEs.out)⟩
  have HBlo:Hid (w3.heap.size=w.heap.size+2+1):=qh zw3
  obtain⟨y0,y1,y2,y3⟩:=bc4 HB1.out
  obtain⟨q0,q1,q2⟩:=bc3 HB2.out
  have HC:=qh (HCb.out w4 HK.out)
  clear hal' hal hin hth HBe HOk HTh
  go_enter Tryz.func56, Tryz.ntmps56
  go_wp2_with fail
  refine HC.out.mono ?_
  rintro en w5 ⟨rfl,hk5⟩
  have HLit:=Own.lit w3 30 #[.int .i64 e,.bool r] 1 2 (by unfold maxLen;omega) rfl
  rw[hw4,HBlo.out] at HLit
  have HO5:=qh (HLit.keep hk5 (fun _ _ h=>h))
  have HK5:=qtr HK hk5
  have HT5:=qkb HB1 hk5
  have HS5:=qkb HB3 hk5
  clear hk5 HC HCb HLit HB1 HB2 HB3 HB4 y0 y1 y2 y3 q0 q1 q2 s0 s1 p1 hw1 hw2 hw3 hw4 zw1 zw2 zw3
  go_wp2_with fail
  (try rw[hw'])
  obtain⟨res,hres⟩:∃z,goneM t 40 (e,r) (n+al)=z:=⟨_,rfl⟩
  rw[hres] at HI0
  have HRes:=qh hres
  obtain⟨m0,hm0⟩:∃z,n+al=z:=⟨_,rfl⟩
  rw[hm0] at HI0
  (try rw[hm0])
  clear hm0 hw hw' hres
  go_loopw [3,10] (fun m o wr=>∃(f:Nat) (s:Stp) (mm:Int) (acc:List Stp) (Ao:Option Addr) (no co:Nat),m=.int .i64 mm∧o=.slice Ao no co∧no≤41∧Hid (Keep Never w wr∧Blk wr w.heap.size 27 #[.slice Ae ne ce,.slice Aj nj cj,.slice Ab nb cb,.slice Ar nr cr]∧Blk wr (w.heap.size+2) 30 #[.int .i64 s.1,.bool s.2]∧Own wr (w.heap.size+3) 30 2 Ao no co (stpCells acc)∧GnI w t res acc f s mm∧no=acc.length)) (fun m _ _=>(intOf m).toNat)
  case atStart=>exact⟨40,(e,r),m0,[(e,r)],_,1,1,rfl,rfl,by omega,qh ⟨HK5.out,HT5.out,HS5.out,HO5.out,HI0.out,rfl⟩⟩
  case round=>
   obtain⟨f,s,mm,acc,Ao,no,co,rfl,rfl,hno,HH⟩:=hrel
   have HKr:=qh HH.out.1
   have HTr:=qh HH.out.2.1
   have HSr:=qh HH.out.2.2.1
   have HOr:=qh HH.out.2.2.2.1
   have HIr:=qh HH.out.2.2.2.2.1
   have HNr:=qh HH.out.2.2.2.2.2
   obtain⟨es,er⟩:=s
   have hin:=edge_in HCk.out HIr.out.there
   have hth:=HIr.out.there
   unfold thereB at hth
   simp only[Bool.and_eq_true,decide_eq_true_eq] at hth
   rw[←HEl.out] at hth
   obtain⟨ad,k,v,hA,he,hk,d0,hv⟩:=HED.out wr HKr.out es hth.1 hth.2
   subst hA
   subst he
   simp only at hin HSr hth
   rw[hv] at hin
   have hkz:(k:Int)<(ne:Int):=by omega
   have HV:=qh hv
   have hpos:=HIr.out.pos
   have htop:=HIr.out.top
   obtain⟨y0,y1,y2,y3⟩:=bc4 HTr.out
   obtain⟨s0,s1⟩:=bc2 HSr.out
   clear HH
   by_cases g:mm>v
   ·have t2:decide (mm>v)=true:=by simpa using g
    obtain⟨f',x,hf',hax,hIx⟩:=HIr.out.next (by simp only;rw[hv];omega) (by simp only;rw[hv];omega) (by rw[←HEl.out];exact HEs.out)
    simp only at hIx
    rw[hv] at hIx
    have HIx:=qh hIx
    have hw6:IntKind.i64.wrap (mm - v)=mm - v:=IntWalk.i64_in _ (by omega)
    have HMs:Hid ((mm - v).toNat<mm.toNat):=qh (by omega)
    have HC:=qh (HAf.out wr HKr.out (((k:Nat):Int),er))
    dsimp only at HC
    rw[hax] at HC
    clear hv hth hin hpos htop hIx hax hf' g
    go_wp2_with fail
    refine HC.out.mono ?_
    rintro en w7 ⟨A7,n7,c7,rfl,hn7,ho7,hk7⟩
    have HK7:=qtr HKr hk7
    have HT7:=qkb HTr hk7
    have HS7:=qkb HSr hk7
    have HO7:=qko HOr hk7
    obtain rfl:n7=1:=hn7.out
    obtain⟨ad2,x',hA2,hb2,hx',c0,c1⟩:=ho7.rd.stp (k:=0) (by omega)
    obtain rfl:x=x':=by simpa using hx'
    subst hA2
    obtain⟨x0,x1⟩:=x
    simp only[Nat.zero_mul] at c0 c1
    have ea:ad2.add 0=ad2:=by unfold Addr.add;split <;> simp_all
    have c0':=c0
    have c1':=c1
    rw[ea] at c0' c1'
    obtain⟨z0,z1⟩:=bc2 HS7.out
    have zf0:=HS7.out.frozen 0
    have zf1:=HS7.out.frozen 1
    clear ho7 hk7 HC y0 y1 y2 y3 s0 s1 d0 hn7 hx' hb2 ea
    go_upto_region 7 with(fail)
    obtain⟨w8,hw8⟩:∃V:World,(w7.setCell ⟨w.heap.size+2,0,none⟩ (.int .i64 x0)).setCell ⟨w.heap.size+2,1,none⟩ (.bool x1)=V:=⟨_,rfl⟩
    rw[hw8]
    have k8:Keep (fun q=>q=w.heap.size+2) w7 w8:=by rw[←hw8];exact((Keep.refl (fun q=>q=w.heap.size+2) w7).set_ (p:=⟨w.heap.size+2,0,none⟩) (.inl rfl) _).set_ (p:=⟨w.heap.size+2,1,none⟩) (.inl rfl) _
    have HS8:Hid (Blk w8 (w.heap.size+2) 30 #[.int .i64 x0,.bool x1]):=qh (by rw[←hw8];have:=(HS7.out.set_ 0 (.int .i64 x0)).set_ 1 (.bool x1);simpa using this)
    have HT8:=qh (HT7.out.keep k8 (by omega))
    have HO8:=qh (HO7.out.keep k8 (fun q h e=>by have:=(HO7.out.row h).1;omega))
    have HK8:=qh (HK7.out.then_ k8 (fun i hi e=>by omega))
    obtain⟨s0,s1⟩:=bc2 HS8.out
    clear hw8 k8 c0 c1 c0' c1' z0 z1 zf0 zf1
    have hz8:w.heap.size+3≤w8.heap.size:=HS8.out.lt
    go_wp2_with (at_builtin;refine wpList_app _ rfl (.tmp 48) (.tmp 50) _ rfl elemStp (w.heap.size+3) (A:=Ao) (n:=no) (c:=co) (by go_simp) (HO8.out.alloc _) _ (A':=some ⟨_,0,none⟩) (m:=1) (c':=1) (news:=[.int .i64 x0,.bool x1]) (by go_simp) (Rd.of_blk (n:=1) (cs:=[.int .i64 x0,.bool x1]) (Blk.new _ _ _) rfl) (by simp[Value.oneCell']) (by omega) (by unfold maxLen;omega) (by simp;omega) ?_
                 intro A9 c9 w9 hown hk9 hrow9
                 have HO9:=qh hown
                 have HK9:=qh hk9
                 clear hown hk9 hrow9)
    go_roundw
    case measure=>simp[intOf];have:=HMs.out;omega
    case rel=>
     have hr:=fun q (h:InRow Ao q)=>(HO8.out.row h).1
     refine⟨f',(x0,x1),mm - v,acc++[(x0,x1)],A9,no+1,c9,rfl,rfl,by have h1:=HIx.out.len;have h2:=HNr.out;simp only[List.length_append,List.length_cons,List.length_nil] at h1;omega,qh ⟨(HK8.out.alloc _).then_ HK9.out (fun i hi h=>by have:=hr i h;omega),(HT8.out.alloc _).keep HK9.out (fun h=>by have:=hr _ h;omega),(HS8.out.alloc _).keep HK9.out (fun h=>by have:=hr _ h;omega),by rw[stpCells_app];exact HO9.out,HIx.out,by rw[HNr.out];simp⟩⟩
   ·have t2:decide (mm>v)=false:=by simpa using g
    have HF:Hid (acc=res):=qh (HIr.out.fin (by simp only;rw[hv];omega))
    clear hv hth hin hpos htop g
    go_wp2_with fail
    go_ret
    exact⟨Ao,no,co,rfl,qh (by rw[HRes.out,←HF.out];exact HNr.out),by rw[HRes.out,←HF.out];exact HOr.out.less (by omega),qh (by rw[HRes.out,←HF.out];exact HIr.out.all),HKr.out⟩
end Go.Proofs.YtpapiojicbbheaaGreatDoor

namespace Go.Proofs.YtpapiojicbbheaaGreatDoor
open Go.RowKit
set_option maxRecDepth 100000 in
theorem rbal_results {w:World}{b:Nat}{v0 v1 v2:Value} (hb:Blk w b 94 #[v0,v1,v2]) (tmps:Array Value) (ht:tmps.getD 4 undef=.pointer (some ⟨b,0,none⟩)) :
    (results Tryz.f116 tmps).run Tryz.prog w=.ok (.tuple #[.agg #[v0,v1,v2],tmps.getD 5 undef]) w:=by
  have q0:w.cell? ⟨b,0,none⟩=some v0:=hb.cell 0
  have q1:w.cell? ⟨b,1,none⟩=some v1:=hb.cell 1
  have q2:w.cell? ⟨b,2,none⟩=some v2:=hb.cell 2
  have ht':tmps[4]?.getD undef=.pointer (some ⟨b,0,none⟩):=by rw[←Array.getD_eq_getD_getElem?];exact ht
  simp[results,ht',go_sem,q0,q1,q2]
set_option maxHeartbeats 4000000 in
set_option maxRecDepth 100000 in
theorem rbal_any (x:TA) (t:Tp) (B:Nat) (id:Int) (w:World) (ht:TpAt w B x t) (hn:x.nb≤100000000) :
    Calls Tryz.prog 116 #[.agg x.cs,.int .i64 id] w (BalRet (balM t.2.2.1 id) w):=by
  have HT:=qh ht
  have HL:Hid (x.nb=t.2.2.1.length):=qh ht.b.len
  obtain⟨Ae,ne,ce,Aj,nj,cj,Ab,nb,cb,Ar,nr,cr⟩:=x
  simp only[TA.cs] at HL hn ⊢
  clear ht
  obtain⟨w1,hw1⟩:∃W:World,w.alloc (.cells #[.slice Ae ne ce,.slice Aj nj cj,.slice Ab nb cb,.slice Ar nr cr] 27)=W:=⟨_,rfl⟩
  obtain⟨w2,hw2⟩:∃W:World,w1.alloc (.cells #[.int .i64 0,.int .i64 0,.int .i64 0] 94)=W:=⟨_,rfl⟩
  have z1:w1.heap.size=w.heap.size+1:=by rw[←hw1];simp
  have k1:Keep Never w w1:=by rw[←hw1];exact(Keep.refl _ _).alloc _
  have k2:Keep Never w1 w2:=by rw[←hw2];exact(Keep.refl _ _).alloc _
  have c1:=Blk.new w 27 #[.slice Ae ne ce,.slice Aj nj cj,.slice Ab nb cb,.slice Ar nr cr]
  rw[hw1] at c1
  have c2:=Blk.new w1 94 #[.int .i64 0,.int .i64 0,.int .i64 0]
  rw[hw2,z1] at c2
  have HB1:=qh (c1.keep k2 (fun h=>h))
  have HB2:=qh c2
  have HK:=qh (k1.trans k2)
  clear k1 k2 c1 c2
  go_enter Tryz.func116, Tryz.ntmps116
  go_wp2_with fail
  clear hw2 hw1
  go_loopw [6] (fun i wr=>∃k:Nat,k≤nb∧i=.int .i64 k∧Hid (Keep Never w2 wr∧∀x∈t.2.2.1.take k,x.1≠id)) (fun i _=>nb - (intOf i).toNat)
  case atStart=>exact⟨0,by omega,rfl,qh ⟨Keep.refl _ _,by simp⟩⟩
  case round=>
   obtain⟨k,hk,rfl,HH⟩:=hrel
   have yF:wr.cell? ⟨w.heap.size,2,none⟩=some (.slice Ab nb cb):=(HB1.out.keep HH.out.1 (fun h=>h)).cell 2
   have hb2:=HB2.out.keep HH.out.1 (fun h=>h)
   have HB2':=qh hb2
   have HKr:=qh (HK.out.trans HH.out.1)
   by_cases h0:k<nb
   ·have hkz:(k:Int)<(nb:Int):=by omega
    obtain⟨ad,b,hA,_,hb,c0,c1,c2⟩:=(bl_rd (HT.out.keep HKr.out).b).sp h0
    simp only at hA
    subst hA
    obtain⟨s1,s2,s3⟩:=b
    simp only at c0 c1 c2
    have Hb:=qh hb
    by_cases g:s1=id
    ·have t1:(s1==id)=true:=by simpa using g
     have HM:Hid (balM t.2.2.1 id=some (s1,s2,s3)):=qh (bal_hit Hb.out g HH.out.2)
     have g0:wr.cell? ⟨w.heap.size+1,0,none⟩=some (.int .i64 0):=hb2.cell 0
     have h0':=hb2.frozen 0
     have g1:wr.cell? ⟨w.heap.size+1,1,none⟩=some (.int .i64 0):=hb2.cell 1
     have h1':=hb2.frozen 1
     have g2:wr.cell? ⟨w.heap.size+1,2,none⟩=some (.int .i64 0):=hb2.cell 2
     have h2':=hb2.frozen 2
     clear g hb hb2
     go_wp2_with fail
     (try simp only[Exit.inBlock,Exit.then])
     refine bodyPost_ret (rbal_results (put3_blk HB2'.out (.int .i64 s1) (.int .i64 s2) (.int .i64 s3)) _ rfl) rfl ⟨by rw[HM.out];rfl,put3_keep HKr.out (show w.heap.size≤w.heap.size+1 by omega) (.int .i64 s1) (.int .i64 s2) (.int .i64 s3)⟩
    ·have t1:(s1==id)=false:=by simpa using g
     have HN:Hid (∀x∈t.2.2.1.take (k+1),x.1≠id):=qh (all_take Hb.out HH.out.2 g)
     clear g hb hb2 c1 c2
     go_wp2_with fail
     refine⟨⟨k+1,by omega,by go_num,qh ⟨HH.out.1,HN.out⟩⟩,?_⟩
     simp[intOf];try omega
   ·obtain rfl:nb=k:=by omega
    have hkz:¬(nb:Int)<(nb:Int):=by omega
    have HM:Hid (balM t.2.2.1 id=none):=qh (bal_miss (fun x hx=>HH.out.2 x (by rw[List.take_of_length_le (by rw[←HL.out];exact Nat.le_refl _)];exact hx)))
    have g0:wr.cell? ⟨w.heap.size+1,0,none⟩=some (.int .i64 0):=hb2.cell 0
    have h0':=hb2.frozen 0
    have g1:wr.cell? ⟨w.heap.size+1,1,none⟩=some (.int .i64 0):=hb2.cell 1
    have h1':=hb2.frozen 1
    have g2:wr.cell? ⟨w.heap.size+1,2,none⟩=some (.int .i64 0):=hb2.cell 2
    have h2':=hb2.frozen 2
    clear hb2
    go_wp2_with fail
    (try simp only[Exit.inBlock,Exit.then])
    refine bodyPost_ret (rbal_results (put3_blk HB2'.out (.int .i64 0) (.int .i64 0) (.int .i64 0)) _ rfl) rfl ⟨by rw[HM.out];rfl,put3_keep HKr.out (show w.heap.size≤w.heap.size+1 by omega) (.int .i64 0) (.int .i64 0) (.int .i64 0)⟩
end Go.Proofs.YtpapiojicbbheaaGreatDoor

namespace Go.Proofs.YtpapiojicbbheaaGreatDoor
open Go.RowKit
set_option maxHeartbeats 1000000 in
set_option maxRecDepth 100000 in
theorem rend_any (x:TA) (a:En) (w:World) :
    Calls Tryz.prog 108 #[.agg x.cs,.agg #[.int .i64 a.1,.int .i64 a.2]] w fun e w'=>e=.returned (.bool (endB x.ne a))∧Keep Never w w':=by
  have HT:=qh (fun W=>redge_any x a.1 W)
  obtain⟨Ae,ne,ce,Aj,nj,cj,Ab,nb,cb,Ar,nr,cr⟩:=x
  obtain⟨a1,a2⟩:=a
  simp only[TA.cs] at HT ⊢
  obtain⟨w1,hw1⟩:∃wb:World,w.alloc (.cells #[.slice Ae ne ce,.slice Aj nj cj,.slice Ab nb cb,.slice Ar nr cr] 27)=wb:=⟨_,rfl⟩
  obtain⟨w2,hw2⟩:∃wb:World,w1.alloc (.cells #[.int .i64 a1,.int .i64 a2] 132)=wb:=⟨_,rfl⟩
  have z1:w1.heap.size=w.heap.size+1:=by rw[←hw1];simp
  have k1:Keep Never w w1:=by rw[←hw1];exact(Keep.refl _ _).alloc _
  have k2:Keep Never w1 w2:=by rw[←hw2];exact(Keep.refl _ _).alloc _
  have b1:=Blk.new w 27 #[.slice Ae ne ce,.slice Aj nj cj,.slice Ab nb cb,.slice Ar nr cr]
  rw[hw1] at b1
  have b2:=Blk.new w1 132 #[.int .i64 a1,.int .i64 a2]
  rw[hw2,z1] at b2
  have hb1:=b1.keep k2 (fun h=>h)
  have HB2:=qh b2
  have HK:=qh (k1.trans k2)
  obtain⟨y0,y1,y2,y3⟩:=bc4 hb1
  obtain⟨v0,v1⟩:=bc2 HB2.out
  clear k1 k2 b1 b2 hb1
  go_enter Tryz.func108, Tryz.ntmps108
  go_wp2_with fail
  refine(HT.out w2).mono ?_
  rintro e w3 ⟨rfl,hk3⟩
  have HK3:=qtr HK hk3
  have u1:w3.cell? ⟨w.heap.size+1,1,none⟩=some (.int .i64 a2):=keepT hk3 v1
  clear y0 y1 y2 y3 v0 v1 hk3
  cases htb:thereB ne a1 with
  | false=>
   have HF:Hid (endB ne (a1,a2)=false):=qh (by unfold endB;rw[htb];rfl)
   clear htb
   go_wp2_with fail
   go_ret
   exact⟨by rw[HF.out];rfl,HK3.out⟩
  | true=>
   by_cases q0:a2=0
   ·have t0:(a2==0)=true:=by simpa using q0
    have HF:Hid (endB ne (a1,a2)=true):=qh (by unfold endB;rw[htb];simp[q0])
    clear htb q0
    go_wp2_with fail
    go_ret
    exact⟨by rw[HF.out];rfl,HK3.out⟩
   ·have t0:(a2==0)=false:=by simpa using q0
    by_cases q1:a2=1
    ·have t1:(a2==1)=true:=by simpa using q1
     have HF:Hid (endB ne (a1,a2)=true):=qh (by unfold endB;rw[htb];simp[q1])
     clear htb q0 q1
     go_wp2_with fail
     go_ret
     exact⟨by rw[HF.out];rfl,HK3.out⟩
    ·have t1:(a2==1)=false:=by simpa using q1
     have HF:Hid (endB ne (a1,a2)=false):=qh (by unfold endB;rw[htb];simp[q0,q1])
     clear htb q0 q1
     go_wp2_with fail
     go_ret
     exact⟨by rw[HF.out];rfl,HK3.out⟩
end Go.Proofs.YtpapiojicbbheaaGreatDoor

namespace Go.Proofs.YtpapiojicbbheaaGreatDoor
open Go.RowKit
set_option maxHeartbeats 4000000 in
set_option maxRecDepth 100000 in
theorem rroute_any (x:TA) (t:Tp) (B:Nat) (r:Rt) (A:Option Addr) (n c:Nat) (w:World) (ht:TpAt w B x t) (hp:repStp.Sl w B A n c r.2.1) (hn:x.nj≤100000000) (hn1:x.nb≤100000000) (hn2:n≤100000000) (hw:t.1.any wrongB=false) :
    Calls Tryz.prog 111 #[.agg x.cs,.agg #[.int .i64 r.1,.slice A n c,.int .i64 r.2.2.1,.int .i64 r.2.2.2]] w fun e w'=>e=.returned (.int .i64 (routedM t r))∧Keep Never w w':=by
  have HLn:Hid (∀(w':World),Keep Never w w'→Calls Tryz.prog 130 #[.agg x.cs,.slice A n c] w' fun e w''=>e=.returned (.tuple #[.int .i64 (lenM t r.2.1).1,.int .i64 (lenM t r.2.1).2])∧Keep Never w' w''):=qh (fun w' h=>rlength_any x t B A n c r.2.1 w' (ht.keep h) (hp.keep h (fun _ h=>h.elim)) hn hn2)
  have HT:=qh (fun i W=>redge_any x i W)
  have HEl:Hid (x.ne=t.1.length):=qh ht.e.len
  have HBl:=qh (bl_rd ht.b)
  have HP:=qh hp
  have HPl:Hid (n=r.2.1.length):=qh hp.len
  have HBn:Hid (x.nb=t.2.2.1.length):=qh ht.b.len
  obtain⟨Ae,ne,ce,Aj,nj,cj,Ab,nb,cb,Ar,nr,cr⟩:=x
  obtain⟨r1,p,r3,r4⟩:=r
  simp only[TA.cs] at HLn HT HEl HBl HP HPl HBn hn1 ⊢
  have HWr:=qh hw
  obtain⟨w1,hw1⟩:∃wb:World,w.alloc (.cells #[.slice Ae ne ce,.slice Aj nj cj,.slice Ab nb cb,.slice Ar nr cr] 27)=wb:=⟨_,rfl⟩
  obtain⟨w2,hw2⟩:∃wb:World,w1.alloc (.cells #[.int .i64 r1,.slice A n c,.int .i64 r3,.int .i64 r4] 64)=wb:=⟨_,rfl⟩
  have z1:w1.heap.size=w.heap.size+1:=by rw[←hw1];simp
  have k1:Keep Never w w1:=by rw[←hw1];exact(Keep.refl _ _).alloc _
  have k2:Keep Never w1 w2:=by rw[←hw2];exact(Keep.refl _ _).alloc _
  have b1:=Blk.new w 27 #[.slice Ae ne ce,.slice Aj nj cj,.slice Ab nb cb,.slice Ar nr cr]
  rw[hw1] at b1
  have b2:=Blk.new w1 64 #[.int .i64 r1,.slice A n c,.int .i64 r3,.int .i64 r4]
  rw[hw2,z1] at b2
  have HB1:=qh (b1.keep k2 (fun h=>h))
  have HB2:=qh b2
  have HK:=qh (k1.trans k2)
  obtain⟨v0,v1⟩:=bc2 HB2.out
  clear k1 k2 b1 b2 ht hp hw
  by_cases g1:r1<1
  ·have t1:decide (r1<1)=true:=by simpa using g1
   have HF:Hid (routedM t (r1,p,r3,r4)=1):=qh (by unfold routedM;rw[if_pos (.inl g1)])
   clear g1
   go_enter Tryz.func111, Tryz.ntmps111
   go_wp2_with fail
   go_ret
   exact⟨by rw[HF.out];rfl,HK.out⟩
  have t1:decide (r1<1)=false:=by simpa using g1
  by_cases g2:n<1
  ·have t2:((n:Int)==0)=true:=by simp;omega
   have HF:Hid (routedM t (r1,p,r3,r4)=1):=qh (by unfold routedM;rw[if_pos (.inr (.inl (by rw[←HPl.out];exact g2)))])
   clear g1 g2
   go_enter Tryz.func111, Tryz.ntmps111
   go_wp2_with fail
   go_ret
   exact⟨by rw[HF.out];rfl,HK.out⟩
  have t2:((n:Int)==0)=false:=by simp;omega
  by_cases g3:8<n
  ·have t3:decide ((n:Int)>8)=true:=by simp;omega
   have HF:Hid (routedM t (r1,p,r3,r4)=1):=qh (by unfold routedM;rw[if_pos (.inr (.inr (by rw[←HPl.out];exact g3)))])
   clear g1 g2 g3
   go_enter Tryz.func111, Tryz.ntmps111
   go_wp2_with fail
   go_ret
   exact⟨by rw[HF.out];rfl,HK.out⟩
  have t3:decide ((n:Int)>8)=false:=by simp;omega
  have HN1:Hid (¬(r1<1∨p.length<1∨8<p.length)):=qh (by have:=HPl.out;omega)
  have hn8:n≤8:=by omega
  clear g1 g2 g3
  go_enter Tryz.func111, Tryz.ntmps111
  go_wp2_with fail
  clear t1 t2 t3 v0 v1
  go_loopw [5] (fun i wr=>∃k:Nat,k≤n∧i=.int .i64 k∧Hid (Keep Never w2 wr∧∀j,j<k→badAt ne p j=false)) (fun i _=>n - (intOf i).toNat)
  case atStart=>exact⟨0,by omega,rfl,qh ⟨Keep.refl _ _,fun j h=>by omega⟩⟩
  case round=>
   obtain⟨k,hk,rfl,HH⟩:=hrel
   have hb1:=HB1.out.keep HH.out.1 (fun h=>h)
   have hb2:=HB2.out.keep HH.out.1 (fun h=>h)
   have v1:wr.cell? ⟨w.heap.size+1,1,none⟩=some (.slice A n c):=hb2.cell 1
   by_cases h0:k<n
   ·have hkz:(k:Int)<(n:Int):=by omega
    obtain⟨ad,s,hA,_,hs,c0,c1,_⟩:=stp_at (HP.out.keep (HK.out.trans HH.out.1) (fun _ h=>h.elim)) h0
    subst hA
    obtain⟨s1,s2⟩:=s
    simp only at c0 c1 hs
    obtain⟨y0,y1,y2,y3⟩:=bc4 hb1
    have Hs:=qh hs
    have HS2:Hid (∀W',Keep Never wr W'→Keep Never wr W'∧W'.cell? ⟨w.heap.size,0,none⟩=some (.slice Ae ne ce)∧W'.cell? ⟨w.heap.size,1,none⟩=some (.slice Aj nj cj)∧W'.cell? ⟨w.heap.size,2,none⟩=some (.slice Ab nb cb)∧W'.cell? ⟨w.heap.size,3,none⟩=some (.slice Ar nr cr)∧W'.cell? ⟨w.heap.size+1,1,none⟩=some (.slice (some ad) n c)∧W'.cell? (ad.add (k*2))=some (.int .i64 s1)):=qh (fun W' h=>⟨h,keepT h y0,keepT h y1,keepT h y2,keepT h y3,keepT h v1,keepT h c0⟩)
    clear hs hb1 hb2 c1
    go_wp2_with fail
    clear y0 y1 y2 y3 v1 c0
    go_region_held3 (fun W'=>Keep Never wr W'∧W'.cell? ⟨w.heap.size,0,none⟩=some (.slice Ae ne ce)∧W'.cell? ⟨w.heap.size,1,none⟩=some (.slice Aj nj cj)∧W'.cell? ⟨w.heap.size,2,none⟩=some (.slice Ab nb cb)∧W'.cell? ⟨w.heap.size,3,none⟩=some (.slice Ar nr cr)∧W'.cell? ⟨w.heap.size+1,1,none⟩=some (.slice (some ad) n c)∧W'.cell? (ad.add (k*2))=some (.int .i64 s1))
      (first| assumption | exact HS2.out _ ((Keep.refl Never wr).drew) | exact HS2.out _ (Keep.trans (And.left (by assumption)) hk3) | exact HS2.out _ (Keep.trans ((Keep.refl Never wr).drew) hk3))
      (first
        | (go_at_call 110; refine(HT.out s1 _).mono ?_;rintro e w3 ⟨rfl,hk3⟩))
    rename_i hS
    have HK3:=qh (HH.out.1.trans hS.1)
    clear hS HS2 hk3
    cases htb:thereB ne s1 with
    | false=>
     have HBd:Hid (badAt ne p k=true):=qh (by unfold badAt;rw[Hs.out];simp[htb])
     have HF:Hid (routedM t (r1,p,r3,r4)=1):=qh (by unfold routedM;rw[if_neg HN1.out,if_pos (pathBad_t (k:=k) (by show k<p.length;have:=HPl.out;omega) (by rw[←HEl.out];exact HBd.out))])
     clear htb
     go_wp2_with fail
     go_ret
     exact⟨by rw[HF.out];rfl,HK.out.trans HK3.out⟩
    | true=>
     have HTb:=qh htb
     clear htb
     go_wp2_with fail
     go_loopw [7] (fun i wr=>∃j:Nat,j≤k∧i=.int .i64 j∧Hid (Keep Never w2 wr∧∀(i:Nat) (u:Stp),i<j→p[i]?=some u→u.1≠s1)) (fun i _=>k - (intOf i).toNat)
     case atStart=>exact⟨0,by omega,rfl,qh ⟨HK3.out,fun i u h=>by omega⟩⟩
     case round=>
      obtain⟨j,hj,rfl,HJ⟩:=hrel
      by_cases h1:j<k
      ·have hjz:(j:Int)<(k:Int):=by omega
       have hj1:j<n:=by omega
       have hjn:(j:Int)<(n:Int):=by omega
       have hpk:=HP.out.keep (HK.out.trans HJ.out.1) (fun _ h=>h.elim)
       obtain⟨ad6,sj,hA6,_,hv,c0,_,_⟩:=stp_at hpk hj1
       obtain⟨ad7,sk,hA7,_,hu,d0,_,_⟩:=stp_at hpk h0
       injection hA6 with hA6
       injection hA7 with hA7
       subst hA6 hA7
       rw[Hs.out] at hu
       injection hu with hu
       subst hu
       obtain⟨o1,o2⟩:=sj
       simp only at c0 d0
       have Hv:=qh hv
       have v1:wr.cell? ⟨w.heap.size+1,1,none⟩=some (.slice (some ad) n c):=(HB2.out.keep HJ.out.1 (fun h=>h)).cell 1
       clear hv hpk
       by_cases gq:o1=s1
       ·have t1:(o1==s1)=true:=by simpa using gq
        have HBd:Hid (badAt ne p k=true):=qh (by
         unfold badAt
         rw[Hs.out]
         simp only[Bool.or_eq_true]
         right
         rw[List.any_eq_true]
         refine⟨(o1,o2),?_,by simpa using gq⟩
         rw[List.mem_iff_getElem?]
         exact⟨j,by rw[List.getElem?_take,if_pos h1];exact Hv.out⟩)
        have HF:Hid (routedM t (r1,p,r3,r4)=1):=qh (by unfold routedM;rw[if_neg HN1.out,if_pos (pathBad_t (k:=k) (by show k<p.length;have:=HPl.out;omega) (by rw[←HEl.out];exact HBd.out))])
        clear gq
        go_wp2_with fail
        go_quiet (fail)
        go_wp2_with fail
        go_ret
        exact⟨by rw[HF.out];rfl,HK.out.trans (HJ.out.1.drewN _)⟩
       ·have t1:(o1==s1)=false:=by simpa using gq
        have HN:Hid (∀(i:Nat) (u:Stp),i<j+1→p[i]?=some u→u.1≠s1):=qh (fun i u hi hs=>by
         by_cases e:i=j
         ·rw[e,Hv.out] at hs;injection hs with hs;rw[←hs];exact gq
         ·exact HJ.out.2 i u (by omega) hs)
        clear gq
        go_wp2_with fail
        go_quiet (fail)
        go_wp2_with fail
        refine⟨⟨j+1,by omega,by go_num,qh ⟨HJ.out.1.drewN _,HN.out⟩⟩,?_⟩
        simp[intOf];try omega
      ·obtain rfl:k=j:=by omega
       have hjz:¬(k:Int)<(k:Int):=by omega
       have HBd:Hid (badAt ne p k=false):=qh (by
        unfold badAt
        rw[Hs.out]
        simp only
        rw[HTb.out]
        simp only[Bool.not_true,Bool.false_or]
        rw[List.any_eq_false]
        intro u hu
        obtain⟨i,hi⟩:=List.mem_iff_getElem?.1 hu
        rw[List.getElem?_take] at hi
        split at hi
        ·rename_i hik
         simpa using HJ.out.2 i u hik hi
        ·cases hi)
       go_wp2_with fail
       refine⟨⟨k+1,by omega,by go_num,qh ⟨HJ.out.1,fun j hj=>?_⟩⟩,?_⟩
       ·by_cases e:j=k
        ·rw[e];exact HBd.out
        ·exact HH.out.2 j (by omega)
       ·simp[intOf];try omega
   ·obtain rfl:k=n:=by omega
    have hkz:¬(k:Int)<(k:Int):=by omega
    have HN2:Hid (¬pathBad t.1.length p=true):=qh (by
     rw[pathBad_f (fun j hj=>by rw[←HEl.out];exact HH.out.2 j (by have:=HPl.out;omega))];simp)
    have HKr:=qh HH.out.1
    obtain⟨y0,y1,y2,y3⟩:=bc4 hb1
    have HC:=qh (HLn.out wr (HK.out.trans HH.out.1))
    clear HH hb1 hb2 HT HLn
    obtain⟨all,hall⟩:∃z,(lenM t p).1=z:=⟨_,rfl⟩
    obtain⟨er,her⟩:∃z,(lenM t p).2=z:=⟨_,rfl⟩
    have HAl:=qh hall
    have HEr:=qh her
    rw[hall,her] at HC
    clear hall her
    go_wp2_with fail
    refine HC.out.mono ?_
    rintro e w3 ⟨rfl,hk3⟩
    have HK3:=qtr HKr hk3
    have HB2r:=qh ((HB2.out.keep HKr.out (fun h=>h)).keep hk3 (fun h=>h))
    have HB1r:=qh ((HB1.out.keep HKr.out (fun h=>h)).keep hk3 (fun h=>h))
    clear hk3 y0 y1 y2 y3 v1 HC
    by_cases g0:er=0
    case neg=>
     have t0:(er != 0)=true:=by simpa using g0
     have t0':(er==0)=false:=by simpa using g0
     have HF:Hid (routedM t (r1,p,r3,r4)=er):=qh (by unfold routedM;rw[if_neg HN1.out,if_neg HN2.out,if_pos (by simp only;rw[HEr.out];exact g0)];exact HEr.out)
     clear g0
     go_wp2_with fail
     go_ret
     exact⟨by rw[HF.out];rfl,HK.out.trans HK3.out⟩
    subst g0
    have HN3:Hid (¬(lenM t p).2≠0):=qh (by rw[HEr.out];simp)
    have hgl:=len_good (HEr.out) HWr.out
    have hsg:=sum_good hgl.1 p.length (Nat.le_refl _)
    rw[List.take_of_length_le (Nat.le_refl _),←hgl.2] at hsg
    have hall0:0≤all:=by rw[←HAl.out];exact hsg.1
    have hall1:all≤8000000:=by rw[←HAl.out];have:=hsg.2;have:=HPl.out;omega
    clear hsg hgl
    have v1:w3.cell? ⟨w.heap.size+1,1,none⟩=some (.slice A k c):=HB2r.out.cell 1
    have v2:w3.cell? ⟨w.heap.size+1,2,none⟩=some (.int .i64 r3):=HB2r.out.cell 2
    have v3:w3.cell? ⟨w.heap.size+1,3,none⟩=some (.int .i64 r4):=HB2r.out.cell 3
    have hF1:(r3<0∨all≤r3∨r4<1∨1000<r4)→routedM t (r1,p,r3,r4)=1:=fun h=>by
     unfold routedM;rw[if_neg HN1.out,if_neg HN2.out,if_neg HN3.out,if_pos (by simp only;rw[HAl.out];exact h)]
    have HF1:=qh hF1
    clear hF1
    by_cases g1:r3<0
    ·have t1:decide (r3<0)=true:=by simpa using g1
     have HF:=qh (HF1.out (.inl g1))
     clear g1
     go_wp2_with fail
     go_ret
     exact⟨by rw[HF.out];rfl,HK.out.trans HK3.out⟩
    have t1:decide (r3<0)=false:=by simpa using g1
    by_cases g2:all≤r3
    ·have t2:decide (r3>all - 1)=true:=by simp;omega
     have HF:=qh (HF1.out (.inr (.inl g2)))
     clear g1 g2
     go_wp2_with fail
     go_ret
     exact⟨by rw[HF.out];rfl,HK.out.trans HK3.out⟩
    have t2:decide (r3>all - 1)=false:=by simp;omega
    by_cases g3:r4<1
    ·have t3:decide (r4<1)=true:=by simpa using g3
     have HF:=qh (HF1.out (.inr (.inr (.inl g3))))
     clear g1 g2 g3
     go_wp2_with fail
     go_ret
     exact⟨by rw[HF.out];rfl,HK.out.trans HK3.out⟩
    have t3:decide (r4<1)=false:=by simpa using g3
    by_cases g4:1000<r4
    ·have t4:decide (r4>1000)=true:=by simpa using g4
     have HF:=qh (HF1.out (.inr (.inr (.inr g4))))
     clear g1 g2 g3 g4
     go_wp2_with fail
     go_ret
     exact⟨by rw[HF.out];rfl,HK.out.trans HK3.out⟩
    have t4:decide (r4>1000)=false:=by simpa using g4
    have HN4:Hid (¬(r3<0∨(lenM t p).1≤r3∨r4<1∨1000<r4)):=qh (by rw[HAl.out];omega)
    clear g1 g2 g3 g4 HF1
    go_wp2_with fail
    clear t1 t2 t3 t4 v1 v2 v3 hall0 hall1
    rename World=>w3
    go_loopw [10] (fun i wr=>∃j:Nat,j≤k∧i=.int .i64 j∧Hid (Keep Never w2 wr∧∀s∈p.take j,noBal t.2.2.1 s=false)) (fun i _=>k - (intOf i).toNat)
    case atStart=>exact⟨0,by omega,rfl,qh ⟨HK3.out,by simp⟩⟩
    case round=>
     obtain⟨j,hj,rfl,HH⟩:=hrel
     have v1:wr.cell? ⟨w.heap.size+1,1,none⟩=some (.slice A k c):=(HB2.out.keep HH.out.1 (fun h=>h)).cell 1
     by_cases h0:j<k
     ·have hjz:(j:Int)<(k:Int):=by omega
      obtain⟨wk,hwk⟩:∃z,wr=z:=⟨_,rfl⟩
      rw[hwk] at HH v1
      rw[hwk]
      clear hwk
      go_wp2_with fail
      clear v1
      go_loopw [11,12] (fun h q wr=>∃q':Nat,q'≤nb∧h=.bool ((t.2.2.1.take q').any (fun b=>b.2.1==(p.getD j (0,false)).1))∧q=.int .i64 q'∧Hid (Keep Never wk wr)) (fun _ i _=>nb - (intOf i).toNat)
      case atStart=>exact⟨0,by omega,by simp,rfl,qh (Keep.refl _ _)⟩
      case round=>
       obtain⟨q,hq,rfl,rfl,HH3⟩:=hrel
       have HK4:=qh (HH.out.1.trans HH3.out)
       have y2:wr.cell? ⟨w.heap.size,2,none⟩=some (.slice Ab nb cb):=(HB1.out.keep HK4.out (fun h=>h)).cell 2
       have v1:wr.cell? ⟨w.heap.size+1,1,none⟩=some (.slice A k c):=(HB2.out.keep HK4.out (fun h=>h)).cell 1
       obtain⟨ad,s,hA,_,hs,c0,_,_⟩:=stp_at (HP.out.keep (HK.out.trans HK4.out) (fun _ h=>h.elim)) h0
       subst hA
       obtain⟨s1,s2⟩:=s
       simp only at c0
       have hgd:(p.getD j (0,false)).1=s1:=by rw[List.getD_eq_getElem?_getD,hs];rfl
       rw[hgd]
       have Hs:=qh hs
       clear hs hgd
       by_cases hqb:q<nb
       ·have hqz:(q:Int)<(nb:Int):=by omega
        obtain⟨ad6,b,hA6,_,hb,f0,f1,f2⟩:=(HBl.out.keep (HK.out.trans HK4.out) (fun _ h=>h.elim)).sp hqb
        (try simp only at hA6)
        subst hA6
        obtain⟨b1,b2,b3⟩:=b
        simp only at f0 f1 f2
        have HNx:Hid ((t.2.2.1.take (q+1)).any (fun b=>b.2.1==s1)=((t.2.2.1.take q).any (fun b=>b.2.1==s1) || (b2==s1))):=qh (by
         obtain⟨h2,h3⟩:=List.getElem?_eq_some_iff.1 hb
         rw[List.take_succ_eq_append_getElem h2,h3]
         simp[List.any_append])
        obtain⟨hs,hhs⟩:∃z,(t.2.2.1.take q).any (fun b=>b.2.1==s1)=z:=⟨_,rfl⟩
        obtain⟨z,hz⟩:∃z,(b2==s1)=z:=⟨_,rfl⟩
        rw[hhs,hz] at HNx
        rw[hhs]
        clear hhs hb f0 f2
        cases hs with
        | true=>
         clear f1 hz
         go_wp2_with fail
         go_quiet (fail)
         go_wp2_with fail
         refine⟨⟨q+1,by omega,by rw[HNx.out];rfl,by go_num,qh (HH3.out.drewN _)⟩,?_⟩
         simp[intOf];try omega
        | false=>
         go_wp2_with fail
         go_quiet (fail)
         go_wp2_with fail
         refine⟨⟨q+1,by omega,by rw[HNx.out];rfl,by go_num,qh (HH3.out.drewN _)⟩,?_⟩
         simp[intOf];try omega
       ·obtain rfl:nb=q:=by omega
        have hqz:¬(nb:Int)<(nb:Int):=by omega
        have HTl:Hid (t.2.2.1.take nb=t.2.2.1):=qh (by rw[List.take_of_length_le (by rw[←HBn.out];exact Nat.le_refl _)])
        rw[HTl.out]
        clear v1 c0
        cases hany:t.2.2.1.any (fun b=>b.2.1==s1) with
        | false=>
         have HF:Hid (routedM t (r1,p,r3,r4)=4):=qh (by
          unfold routedM
          rw[if_neg HN1.out,if_neg HN2.out,if_neg HN3.out,if_neg HN4.out,if_pos]
          exact List.any_eq_true.2 ⟨_,List.mem_of_getElem? Hs.out,by unfold noBal;simp only;rw[hany];rfl⟩)
         clear hany
         go_wp2_with fail
         go_ret
         exact⟨by rw[HF.out];rfl,HK.out.trans HK4.out⟩
        | true=>
         have HNb:Hid (noBal t.2.2.1 (s1,s2)=false):=qh (by unfold noBal;simp only;rw[hany];rfl)
         have HTk:Hid (p.take (j+1)=p.take j++[(s1,s2)]):=qh (by
          obtain⟨h2,h3⟩:=List.getElem?_eq_some_iff.1 Hs.out
          rw[List.take_succ_eq_append_getElem h2,h3])
         clear hany
         go_wp2_with fail
         refine⟨⟨j+1,by omega,by go_num,qh ⟨HK4.out,fun u hu=>?_⟩⟩,?_⟩
         ·rw[HTk.out] at hu
          rcases List.mem_append.1 hu with hu | hu
          ·exact HH.out.2 u hu
          ·simp at hu;subst hu;exact HNb.out
         ·simp[intOf];try omega
     ·obtain rfl:j=k:=by omega
      have hjz:¬(j:Int)<(j:Int):=by omega
      have HF:Hid (routedM t (r1,p,r3,r4)=0):=qh (by
       unfold routedM
       rw[if_neg HN1.out,if_neg HN2.out,if_neg HN3.out,if_neg HN4.out,if_neg]
       rw[List.any_eq_true]
       rintro⟨s,hs,h⟩
       have:=HH.out.2 s (by rw[List.take_of_length_le (by rw[HPl.out];exact Nat.le_refl _)];exact hs)
       rw[this] at h;cases h)
      have HKe:=qh (HK.out.trans HH.out.1)
      go_wp2_with fail
      go_ret
      exact⟨by rw[HF.out];rfl,HKe.out⟩
end Go.Proofs.YtpapiojicbbheaaGreatDoor
