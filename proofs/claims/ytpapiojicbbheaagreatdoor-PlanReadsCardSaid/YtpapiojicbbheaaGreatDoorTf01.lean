/- Texts of this claim, together: Sld, SpnD, SpnE, SpnF, StpS, TopD, AftB, TopL, TopM. -/
import Derived.Test.YtpapiojicbbheaaGreatDoorTf00
import Derived.Deep.RegionHeld3
import Derived.Shelf.GgClosure.Gives
import Derived.Lib.SliceRun
import Derived.Test.YtpapiojicbbheaaGreatDoorRows
import Derived.Shelf.SlSortCmp.WholeK
import Derived.StillTailTactics
namespace Go.Proofs.YtpapiojicbbheaaGreatDoor
open Go.RowKit
theorem Rd.front {w:World}{B size n k:Nat}{A:Option Addr}{xs:List Value} (h:Rd w B size A n xs) (hk:k≤n):Rd w B size A k (xs.take (k*size)):=by
 refine⟨?_,fun hp=>?_⟩
 ·rw[List.length_take,h.1,Nat.min_eq_left (Nat.mul_le_mul_right _ hk)]
 ·obtain⟨ad,e,hb,hc⟩:=h.2 (by omega)
  refine⟨ad,e,hb,fun j u hu=>hc j u ?_⟩
  rw[List.getElem?_take] at hu
  split at hu
  ·exact hu
  ·cases hu
theorem run_cut {P:Program}{t e size:Nat} (ht:P.underlying t=some (.slice e)) (hsz:∀w,(sizeOf e).run P w=.ok size w) (A:Option Addr) (n c i j:Nat) (hij:i≤j) (hj:j≤n) (hc:n≤c) (lo:Option Value) (hlo:lo=some (.int .i64 i)∨lo=none∧i=0) :
    ∃A' c',(∀w,(Instr.slice t (.slice A n c) lo (some (.int .i64 j)) none).run P w=.ok (.slice A' (j - i) c') w)∧(∀w B xs,Rd w B size A n xs→Rd w B size A' (j - i) ((xs.take (j*size)).drop (i*size)))∧j - i≤c'∧c'≤c∧(∀q,InRow A' q→InRow A q):=by
  have hjc:j≤c:=by omega
  refine⟨if c=i then A else A.map (·.add (i*size)),c - i,fun w=>?_,fun w B xs h=>(h.front hj).cut hij hjc,by omega,by omega,fun q hq=>?_⟩
  ·rcases hlo with rfl | ⟨rfl,rfl⟩
   ·simp[Instr.slice,run_underlying ht,Instr.sliceBounds,Instr.sliceBound,asIntOf,hsz,hij,hjc,Result.andThen]
   ·simp[Instr.slice,run_underlying ht,Instr.sliceBounds,Instr.sliceBound,asIntOf,hsz,hjc,Result.andThen]
  ·obtain⟨ad,h1,h2⟩:=hq
   split at h1
   ·exact⟨ad,h1,h2⟩
   ·rcases A with _ | a0
    ·cases h1
    ·injection h1 with h1
     exact⟨a0,rfl,by rw[←h2,←h1,block_add]⟩
theorem wpList_cut {P:Program}{w:World}{ops:Array Oper}{rest:List Oper}{o:Oper}{a:Act}{Q:Exit→Act→World→Prop} (hgd:o.guard=none) (s l r:Operand) (t:TypeId) (ho:o.op=.slice t s (some l) (some r) none)
    {e size:Nat} (ht:P.underlying t=some (.slice e)) (hsz:∀w,(sizeOf e).run P w=.ok size w) (A:Option Addr) (n c i j m:Nat) (hs:a.eval s=.slice A n c) (x y:Int) (hl:a.eval l=.int .i64 x) (hr:a.eval r=.int .i64 y) (hx:x=i) (hy:y=j) (hm:j=i+m) (hj:j≤n) (hc:n≤c)
    (h:∀A' c',Hid ((∀w B xs,Rd w B size A n xs→Rd w B size A' m ((xs.take (j*size)).drop (i*size)))∧m≤c'∧c'≤c∧(∀q,InRow A' q→InRow A q))→wpList P ops Q rest (a.put o.dst (.slice A' m c')) w) :
    wpList P ops Q (o::rest) a w:=by
  subst hx;subst hy
  have hij:i≤j:=by omega
  obtain rfl:m=j - i:=by omega
  obtain⟨A',c',h1,h2,h3,h4,h5⟩:=run_cut (P:=P) ht hsz A n c i j hij hj hc (some (.int .i64 i)) (.inl rfl)
  refine wpList_plain hgd fun K hK=>?_
  unfold Oper.wp
  simp only[execOp,ho,Option.map_some,Option.map_none,hs,hl,hr]
  have he:P.underlying t=some (.slice (P.elem t)):=by simp[Program.elem,ht]
  simp only[Sem.run_bind,run_sliceAt_slice _ _ _ _ _ _ he,h1,Result.andThen,Sem.run_pure,Oper.upon]
  exact hK _ _ (h A' c' ⟨h2,h3,h4,h5⟩)
end Go.Proofs.YtpapiojicbbheaaGreatDoor

namespace Go.Proofs.YtpapiojicbbheaaGreatDoor
open Go.RowKit
theorem some15_any (s:Sp) (w:World):Calls Tryz.prog 149 #[.agg #[.int .i64 s.1,.int .i64 s.2.1,.int .i64 s.2.2]] w fun e w'=>e=.returned (.bool (someS s))∧Keep Never w w':=by
 obtain⟨a,b,c⟩:=s
 simp only
 by_cases h1:0≤a
 ·by_cases h2:0≤b
  ·by_cases h3:b<c
   ·by_cases h4:c≤1000000
    ·have hs:Hid (someS (a,b,c)=true):=qh (someS_iff.2 ⟨h1,h2,h3,h4⟩)
     go_enter Tryz.func149, Tryz.ntmps149
     go_wp2
     go_ret
     exact⟨by rw[hs.out];rfl,(Keep.refl Never w).alloc _⟩
    ·have hs:Hid (someS (a,b,c)=false):=qh (by rw[←not_true_iff,someS_iff];simp only;omega)
     go_enter Tryz.func149, Tryz.ntmps149
     go_wp2
     go_ret
     exact⟨by rw[hs.out];rfl,(Keep.refl Never w).alloc _⟩
   ·have hs:Hid (someS (a,b,c)=false):=qh (by rw[←not_true_iff,someS_iff];simp only;omega)
    go_enter Tryz.func149, Tryz.ntmps149
    go_wp2
    go_ret
    exact⟨by rw[hs.out];rfl,(Keep.refl Never w).alloc _⟩
  ·have hs:Hid (someS (a,b,c)=false):=qh (by rw[←not_true_iff,someS_iff];simp only;omega)
   go_enter Tryz.func149, Tryz.ntmps149
   go_wp2
   go_ret
   exact⟨by rw[hs.out];rfl,(Keep.refl Never w).alloc _⟩
 ·have hs:Hid (someS (a,b,c)=false):=qh (by rw[←not_true_iff,someS_iff];simp only;omega)
  go_enter Tryz.func149, Tryz.ntmps149
  go_wp2
  go_ret
  exact⟨by rw[hs.out];rfl,(Keep.refl Never w).alloc _⟩
def PredSp (g:Nat) (lb:Array Value) (p:Sp→Bool) (w:World):Prop:=
  ∀(W:World) (s:Sp),Keep Never w W→Calls Tryz.prog g (#[.agg #[.int .i64 s.1,.int .i64 s.2.1,.int .i64 s.2.2]]++lb) W fun e w'=>e=.returned (.bool (p s))∧Keep Never W w'
def IdxRet (p:Sp→Bool) (l:List Sp) (w:World) (e:Ending) (w':World):Prop:=
  ((∃(i:Nat) (s:Sp),e=.returned (.int .i64 i)∧l[i]?=some s∧p s=true∧∀x∈l.take i,p x=false)∨(e=.returned (.int .i64 (-1))∧∀x∈l,p x=false))∧Keep Never w w'
end Go.Proofs.YtpapiojicbbheaaGreatDoor

namespace Go.Proofs.YtpapiojicbbheaaGreatDoor
open Go.RowKit Go.Sort
theorem norm1_any (s:Sp) (w:World):Calls Tryz.prog 148 #[.agg #[.int .i64 s.1,.int .i64 s.2.1,.int .i64 s.2.2]] w fun e w'=>e=.returned (.bool (!someS s))∧Keep Never w w':=by
 obtain⟨s1,s2,s3⟩:=s
 simp only
 have HS:Hid (∀W,Calls Tryz.prog 149 #[.agg #[.int .i64 s1,.int .i64 s2,.int .i64 s3]] W fun e w'=>e=.returned (.bool (someS (s1,s2,s3)))∧Keep Never W w'):=qh (fun W=>some15_any (s1,s2,s3) W)
 go_enter Tryz.func148, Tryz.ntmps148
 go_wp2_with fail
 refine(HS.out _).mono ?_
 rintro e w' ⟨rfl,hk⟩
 go_wp2_with fail
 go_ret
 exact⟨rfl,((Keep.refl Never w).alloc _).trans hk⟩
def cmpI (a b:Int):Int:=if a<b then -1 else if b<a then 1 else 0
theorem cmpI_neg {a b:Int}:cmpI a b<0↔a<b:=by unfold cmpI;split <;> (try split) <;> omega
theorem cmpI_zero {a b:Int}:cmpI a b=0↔a=b:=by unfold cmpI;split <;> (try split) <;> omega
theorem isnan_any (a:Int) (w:World):Calls Tryz.prog 136 #[.int .i64 a] w fun e w'=>e=.returned (.bool false)∧w=w':=by
 have h:(a != a)=false:=by simp
 go_enter Tryz.func136, Tryz.ntmps136
 go_wp2
 go_ret
 exact⟨rfl,rfl⟩
theorem compare_any (a b:Int) (w:World):Calls Tryz.prog 89 #[.int .i64 a,.int .i64 b] w fun e w'=>e=.returned (.int .i64 (cmpI a b))∧w=w':=by
 have HN:Hid (∀a W,Calls Tryz.prog 136 #[.int .i64 a] W fun e w'=>e=.returned (.bool false)∧W=w'):=qh isnan_any
 have HC:Hid ((a<b→cmpI a b=-1)∧(b<a→cmpI a b=1)∧(a=b→cmpI a b=0)):=qh (by unfold cmpI;refine⟨fun h=>?_,fun h=>?_,fun h=>?_⟩ <;> split <;> (try split) <;> omega)
 by_cases h1:a<b
 ·have h2:¬a>b:=by omega
  go_enter Tryz.func89, Tryz.ntmps89
  go_wp2_with (go_at_call 136; refine(HN.out _ _).mono ?_;rintro e w' ⟨rfl,rfl⟩)
  go_ret
  exact⟨by rw[HC.out.1 h1];rfl,rfl⟩
 ·by_cases h2:a>b
  ·go_enter Tryz.func89, Tryz.ntmps89
   go_wp2_with (go_at_call 136; refine(HN.out _ _).mono ?_;rintro e w' ⟨rfl,rfl⟩)
   go_ret
   exact⟨by rw[HC.out.2.1 h2];rfl,rfl⟩
  ·go_enter Tryz.func89, Tryz.ntmps89
   go_wp2_with (go_at_call 136; refine(HN.out _ _).mono ?_;rintro e w' ⟨rfl,rfl⟩)
   go_ret
   exact⟨by rw[HC.out.2.2 (by omega)];rfl,rfl⟩
def orI (a b:Int):Int:=if a≠0 then a else b
theorem or_any (g t:Nat) (a b:Int) (w:World) (hb:Blk w g t #[.int .i64 a,.int .i64 b]):Calls Tryz.prog 88 #[.slice (some ⟨g,0,none⟩) 2 2] w fun e w'=>e=.returned (.int .i64 (orI a b))∧w=w':=by
 unfold orI
 have q0:=hb.cell 0
 have q1:=hb.cell 1
 clear hb
 go_enter Tryz.func88, Tryz.ntmps88
 go_wp2
 go_loop [5,8] (fun _ i=>i=.int .i64 0∨(i=.int .i64 1∧a=0)∨(i=.int .i64 2∧a=0∧b=0)) (fun _ i=>2 - (intOf i).toNat)
 case atStart=>exact .inl rfl
 case round=>
  rcases hrel with rfl | ⟨rfl,ha⟩ | ⟨rfl,ha,hb⟩
  ·by_cases h:a=0
   ·have h1:(a != 0)=false:=by simpa using h
    go_wp2
    go_round
    case rel=>exact .inr (.inl ⟨rfl,h⟩)
    case measure=>simp[intOf]
   ·have h1:(a != 0)=true:=by simpa using h
    go_wp2
    go_ret
    exact⟨rfl,rfl⟩
  ·by_cases h:b=0
   ·have h1:(b != 0)=false:=by simpa using h
    go_wp2
    go_round
    case rel=>exact .inr (.inr ⟨rfl,ha,h⟩)
    case measure=>simp[intOf]
   ·have h1:(b != 0)=true:=by simpa using h
    go_wp2
    go_ret
    exact⟨rfl,rfl⟩
  ·go_wp2
   go_ret
   exact⟨rfl,rfl⟩
end Go.Proofs.YtpapiojicbbheaaGreatDoor

namespace Go.Proofs.YtpapiojicbbheaaGreatDoor
open Go.RowKit
theorem add0 (g j:Nat):(⟨g,0,none⟩:Addr).add j=⟨g,j,none⟩:=by unfold Addr.add;split <;> simp_all
theorem Own.cell0 {w:World}{base e size n c g:Nat}{xs:List Value} (h:Own w base e size (some ⟨g,0,none⟩) n c xs) {j:Nat}{u:Value} (hj:xs[j]?=some u):w.cell? ⟨g,j,none⟩=some u:=by
 have:=World.ownsRow.cells h (g:=g) rfl j u hj
 rwa [add0] at this
end Go.Proofs.YtpapiojicbbheaaGreatDoor

namespace Go.Proofs.YtpapiojicbbheaaGreatDoor
open Go.RowKit Go.Sort Go.Shelf
def cmpT (x y:Stp):Int:=if cmpI x.1 y.1≠0 then cmpI x.1 y.1 else cmpI (inE x).2 (inE y).2
theorem cmpT_neg {x y:Stp}:cmpT x y<0↔ltT x y:=by
 obtain⟨a,r⟩:=x
 obtain⟨b,q⟩:=y
 unfold cmpT ltT inE
 split
 ·rename_i h;rw[cmpI_neg];rw[Ne,cmpI_zero] at h;simp only at h ⊢;omega
 ·rename_i h;rw[cmpI_neg];rw[Ne,cmpI_zero] at h;simp only at h ⊢
  cases r <;> cases q <;> simp <;> omega
theorem lt_cmpT (x y:Stp):ltOf cmpT x y=true↔ltT x y:=by unfold ltOf;rw[decide_eq_true_eq,cmpT_neg]
theorem swo_cmpT:SWO (ltOf cmpT) where
  irrefl x:=by rw[←not_true_iff,lt_cmpT];exact ltT_irrefl x
  trans x y z h1 h2:=by rw[lt_cmpT] at *;exact ltT_trans h1 h2
  ntrans x y z h1 h2:=by
   rw[←not_true_iff,lt_cmpT] at *
   obtain⟨a,r⟩:=x
   obtain⟨b,q⟩:=y
   obtain⟨c,p⟩:=z
   unfold ltT at *
   simp only at *
   cases r <;> cases q <;> cases p <;> simp at*<;> omega
structure GrS (w w':World):Prop where
  ex:∃q os,w'=grow (w.drewN q) os
theorem GrS.drew (w:World):GrS w w.drew:=⟨1,#[],by simp[grow];rfl⟩
theorem GrS.alloc (w:World) (o:Obj):GrS w (w.alloc o):=⟨0,#[o],by rw[alloc_eq_grow];rfl⟩
theorem GrS.trans {a b c:World} (h1:GrS a b) (h2:GrS b c):GrS a c:=by
 obtain⟨q,os,rfl⟩:=h1.ex
 obtain⟨p,ot,rfl⟩:=h2.ex
 refine⟨q+p,os++ot,?_⟩
 simp[grow,World.drewN,Nat.add_assoc]
theorem GrS.keep {a b:World} (h:GrS a b):Keep Never a b:=by
 obtain⟨q,os,rfl⟩:=h.ex
 refine⟨rfl,rfl,rfl,by simp[grow],fun k hk _=>?_⟩
 simp only[grow,World.heap_drewN]
 exact Array.getElem?_append_left hk
theorem grs4_next {W0 w w':World}{a b c d:Addr}{ua ub uc ud:Value} (H:GrS W0 w∧w.cell? a=some ua∧w.cell? b=some ub∧w.cell? c=some uc∧w.cell? d=some ud) (hk:GrS w w') :
    GrS W0 w'∧w'.cell? a=some ua∧w'.cell? b=some ub∧w'.cell? c=some uc∧w'.cell? d=some ud:=
  ⟨H.1.trans hk,keepT hk.keep H.2.1,keepT hk.keep H.2.2.1,keepT hk.keep H.2.2.2.1,keepT hk.keep H.2.2.2.2⟩
set_option maxHeartbeats 1000000 in
set_option maxRecDepth 100000 in
theorem enters_grow (s:Stp) (w:World):Calls Tryz.prog 90 #[.agg #[.int .i64 s.1,.bool s.2]] w fun e w'=>e=.returned (.agg #[.int .i64 (inE s).1,.int .i64 (inE s).2])∧GrS w w':=by
 obtain⟨a,b⟩:=s
 simp only
 cases b
 all_goals
  go_enter Tryz.func90, Tryz.ntmps90
  go_wp2_with fail
  refine bodyPost_ret (end_results rfl (Blk.new _ _ _) _ (by simp)) rfl ⟨rfl,?_⟩
  exact(GrS.alloc _ _).trans (GrS.alloc _ _)
theorem flat_stp (d:Array Stp):∀j,j<d.size*2→(flatK stpCell 2 d)[j]! = (stpCells d.toList)[j]!:=by
 intro j hj
 rw[get_flatK _ _ _ _ hj]
 have hd:j / 2<d.size:=by omega
 have hs:d.toList[j / 2]?=some d[j / 2]!:=by rw[Array.getElem?_toList,getElem!_pos d _ hd,Array.getElem?_eq_getElem hd]
 obtain⟨a0,a1⟩:=stpCells_at _ hs
 have h3:j % 2=0∨j % 2=1:=by omega
 have e:j=j / 2*2+j % 2:=by omega
 rcases h3 with h | h
 ·have:(stpCells d.toList)[j]?=some (.int .i64 (d[j / 2]!).1):=by rw[←a0];congr 1;omega
  rw[h,List.getElem!_eq_getElem?_getD (l:=stpCells d.toList),this];rfl
 ·have:(stpCells d.toList)[j]?=some (.bool (d[j / 2]!).2):=by rw[←a1];congr 1;omega
  rw[h,List.getElem!_eq_getElem?_getD (l:=stpCells d.toList),this];rfl
theorem holds_of_ownT {w:World}{base n c g:Nat}{l:List Stp} (h:Own w base 30 2 (some ⟨g,0,none⟩) n c (stpCells l)):HoldsK stpCell 2 w g 0 l.toArray:=by
 intro j hj
 rw[size_flatK] at hj
 have hj':j<(stpCells l).length:=by rw[len_stpCells];simpa using hj
 have hu:(stpCells l)[j]?=some (stpCells l)[j]:=List.getElem?_eq_getElem hj'
 have h1:=World.ownsRow.cells h (g:=g) rfl j _ hu
 have e0:(⟨g,0,none⟩:Addr).add j=⟨g,j,none⟩:=by unfold Addr.add;split <;> simp_all
 rw[e0] at h1
 have h2:=h.frozen rfl j
 rw[e0] at h2
 rw[Nat.zero_add,flat_stp _ j (by simpa using hj)]
 refine⟨by rw[h1];simp[List.getElem!_eq_getElem?_getD,hu],h2⟩
theorem own_sortT {w:World}{base n c g m:Nat}{l l':List Stp} (os:Array Obj) (h:Own w base 30 2 (some ⟨g,0,none⟩) n c (stpCells l)) (hl:l'.length=l.length) (_hb:base≤w.heap.size) :
    Own (sortWorldK stpCell 2 w g 0 m l'.toArray os) base 30 2 (some ⟨g,0,none⟩) n c (stpCells l')∧Keep (InRow (some ⟨g,0,none⟩)) w (sortWorldK stpCell 2 w g 0 m l'.toArray os):=by
  have hlen:=h.len
  rw[len_stpCells] at hlen
  obtain⟨g',cur,hA,hbg,hB,hnc,hcm,hcs,hct⟩:∃g' cur,(some ⟨g,0,none⟩:Option Addr)=some ⟨g',0,none⟩∧base≤g'∧Blk w g' 30 cur∧n≤c∧c≤maxLen∧cur.size=c*2∧cur.toList.take (n*2)=stpCells l:=by
   rcases h.form with⟨h1,_⟩ | h1
   ·cases h1
   ·exact h1
  injection hA with hA
  injection hA with hA
  subst hA
  have hglt:=hB.lt
  obtain⟨F,hF⟩:∃F,flatK stpCell 2 l'.toArray=F:=⟨_,rfl⟩
  have hFs:F.size=n*2:=by rw[←hF,size_flatK];simp;omega
  have hFat:∀j,j<n*2→F[j]! = (stpCells l')[j]!:=fun j hj=>by
   have:=flat_stp l'.toArray j (by simp;omega)
   rwa [hF] at this
  have hheap:(sortWorldK stpCell 2 w g 0 m l'.toArray os).heap=w.heap.modify g (onCells (putCells id 0 F))++os:=by
   unfold sortWorldK grow putRowK putRow mapBlock
   rw[hF]
   rfl
  have hat:(sortWorldK stpCell 2 w g 0 m l'.toArray os).heap[g]?=some (.cells (putCells id 0 F cur) 30 (0,0)):=by
   unfold Blk at hB
   rw[hheap,Array.getElem?_append_left (by simpa using hglt),Array.getElem?_modify,if_pos rfl,hB]
   rfl
  have hother:∀k,k<w.heap.size→k≠g→(sortWorldK stpCell 2 w g 0 m l'.toArray os).heap[k]?=w.heap[k]?:=fun k hk hne=>by
   rw[hheap,Array.getElem?_append_left (by simpa using hk),Array.getElem?_modify,if_neg (by omega)]
  refine⟨⟨by rw[len_stpCells];omega,.inr ⟨g,c,putCells id 0 F cur,rfl,hbg,hat,hnc,hcm,by simp[putCells,hcs],?_⟩⟩,⟨rfl,rfl,rfl,by rw[hheap];simp,fun k hk hn=>hother k hk (fun e=>hn ⟨_,rfl,e.symm⟩)⟩⟩
  have hcl:n*2≤cur.size:=by rw[hcs];omega
  refine List.ext_getElem? fun j=>?_
  rw[List.getElem?_take]
  by_cases hj:j<n*2
  ·rw[if_pos hj,Array.getElem?_toList]
   have h1:(stpCells l')[j]?=some (stpCells l')[j]!:=by
    rw[getElem!_pos _ _ (by rw[len_stpCells];omega),List.getElem?_eq_getElem]
   rw[h1,←hFat j hj]
   unfold putCells
   rw[Array.getElem?_mapIdx,Array.getElem?_eq_getElem (by omega)]
   simp only[Option.map_some]
   rw[if_pos (by omega)]
   rfl
  ·rw[if_neg hj,List.getElem?_eq_none (by rw[len_stpCells];omega)]
set_option maxHeartbeats 1000000 in
set_option maxRecDepth 100000 in
theorem run_field_end (w:World) (a b:Int):(Instr.field 132 (.agg #[.int .i64 a,.int .i64 b]) 1).run Tryz.prog w=.ok (.int .i64 b) w:=by
 simp[Instr.field,go_sem,part,asAgg]
set_option maxHeartbeats 1000000 in
set_option maxRecDepth 100000 in
theorem aft1_any (x y:Stp) (w:World):Calls Tryz.prog 87 #[.agg #[.int .i64 x.1,.bool x.2],.agg #[.int .i64 y.1,.bool y.2]] w fun e w'=>e=.returned (.int .i64 (cmpT x y))∧GrS w w':=by
 have HC:Hid (∀a b W,Calls Tryz.prog 89 #[.int .i64 a,.int .i64 b] W fun e w'=>e=.returned (.int .i64 (cmpI a b))∧W=w'):=qh compare_any
 have qf:∀(w:World) (a b:Int),(Instr.field 132 (.agg #[.int .i64 a,.int .i64 b]) 1).run Tryz.prog w=.ok (.int .i64 b) w:=run_field_end
 have HR:Hid (cmpT x y=orI (cmpI x.1 y.1) (cmpI (inE x).2 (inE y).2)):=qh rfl
 have HX:Hid (∀(a:Int) (b:Bool) W,Calls Tryz.prog 90 #[.agg #[.int .i64 a,.bool b]] W fun e w'=>e=.returned (.agg #[.int .i64 (inE (a,b)).1,.int .i64 (inE (a,b)).2])∧GrS W w'):=qh (fun a b W=>enters_grow (a,b) W)
 obtain⟨x1,x2⟩:=x
 obtain⟨y1,y2⟩:=y
 simp only at HR ⊢
 obtain⟨w1,hw1⟩:∃W:World,w.alloc (.cells #[.int .i64 x1,.bool x2] 30)=W:=⟨_,rfl⟩
 obtain⟨w2,hw2⟩:∃W:World,w1.alloc (.cells #[.int .i64 y1,.bool y2] 30)=W:=⟨_,rfl⟩
 have s1:w1.heap.size=w.heap.size+1:=by rw[←hw1];simp
 have g1:GrS w w1:=by rw[←hw1];exact GrS.alloc _ _
 have g2:GrS w1 w2:=by rw[←hw2];exact GrS.alloc _ _
 have hx:=Blk.new w 30 #[.int .i64 x1,.bool x2]
 rw[hw1] at hx
 have hy:=Blk.new w1 30 #[.int .i64 y1,.bool y2]
 rw[hw2,s1] at hy
 have hx2:=hx.keep g2.keep (fun h=>h)
 obtain⟨q0,q1⟩:=bc2 hx2
 obtain⟨r0,r1⟩:=bc2 hy
 have HG:=qh (g1.trans g2)
 clear hx hy hx2 g1 g2
 go_enter Tryz.func87, Tryz.ntmps87
 go_wp2_with fail
 go_region_held3 (fun w'=>GrS w2 w'∧w'.cell? ⟨w.heap.size,0,none⟩=some (.int .i64 x1)∧w'.cell? ⟨w.heap.size,1,none⟩=some (.bool x2)∧w'.cell? ⟨w.heap.size+1,0,none⟩=some (.int .i64 y1)∧w'.cell? ⟨w.heap.size+1,1,none⟩=some (.bool y2))
   (first| assumption | exact⟨GrS.drew _,q0,q1,r0,r1⟩ | exact grs4_next (by assumption) hk' | exact grs4_next (by assumption) (GrS.alloc _ _) | exact grs4_next (by assumption) (GrS.drew _))
   (first
     | (go_at_call 89; refine(HC.out _ _ _).mono ?_;rintro e w' ⟨rfl,rfl⟩)
     | (go_at_call 90; refine(HX.out _ _ _).mono ?_;rintro e w' ⟨rfl,hk'⟩)
     | (go_at_call 88; refine(or_any _ _ (cmpI x1 y1) (cmpI (inE (x1,x2)).2 (inE (y1,y2)).2) _ (Blk.new _ _ _)).mono ?_;rintro e w6 ⟨rfl,rfl⟩))
 rename_i hS
 have HS:=qh (And.left hS)
 clear hS q0 q1 r0 r1
 go_wp2_with fail
 go_ret
 exact⟨by rw[HR.out];rfl,HG.out.trans HS.out⟩
theorem cmpLays_stp (blk off size:Nat) (w:World):Go.Proofs.CmpLays Tryz.prog 87 #[] stpCell 2 cmpT blk off size w:=
  fun _ _ _ _ x y=>(aft1_any x y _).mono fun _ _ h=>⟨h.1,h.2.ex⟩
theorem sortT0_insert (w:World):Calls Tryz.prog 175 #[.slice none 0 0,.int .i64 0,.int .i64 0,.func (.func 87) #[] #[]] w fun e w'=>e=.returned (.tuple #[])∧w'=w:=by
 go_enter Tryz.func175, Tryz.ntmps175
 go_wp2
 refine wp_loop_rounds 1 ?_
 rw[rounds_succ]
 go_wp2
 go_end0
 exact⟨rfl,rfl⟩
theorem sortT0_pdq (lim:Int) (w:World):Calls Tryz.prog 134 #[.slice none 0 0,.int .i64 0,.int .i64 0,.int .i64 lim,.func (.func 87) #[] #[]] w fun e w'=>e=.returned (.tuple #[])∧w'=w:=by
 have hi:=sortT0_insert
 go_enter Tryz.func134, Tryz.ntmps134
 go_wp2
 refine wp_loop_rounds 1 ?_
 rw[rounds_succ]
 go_wp2_with (go_at_call 175; refine(hi _).mono ?_;rintro e w' ⟨rfl,rfl⟩)
 (try simp only[Exit.inBlock,Exit.then])
 refine bodyPost_ret (results_none rfl _ _ _) rfl ?_
 exact⟨rfl,rfl⟩
theorem sortT0_any (w:World):Calls Tryz.prog 86 #[.slice none 0 0,.func (.func 87) #[] #[]] w fun e w'=>e=.returned (.tuple #[])∧w'=w:=by
 have hp:=sortT0_pdq
 have hl:∀W,Calls Tryz.prog 135 #[.int .u64 0] W fun e w'=>e=.returned (.int .i64 (Lib.bitLen 0:Nat))∧w'=W:=fun W=>
  Any.bits_Len (SlLaysF0.n15.bits (P:=Tryz.prog) (ρ:=sortSt_ren) { sortSt with }) 0 W (by omega) (by omega)
 go_enter Tryz.func86, Tryz.ntmps86
 go_wp2_with (first| (go_at_call 135; refine(hl _).mono ?_;rintro e w' ⟨rfl,rfl⟩) | (go_at_call 134; refine(hp _ _).mono ?_;rintro e w' ⟨rfl,rfl⟩))
 go_end0
 exact⟨rfl,rfl⟩
theorem sortfT_any (base:Nat) (A:Option Addr) (n c:Nat) (l:List Stp) (w:World) (ho:Own w base 30 2 A n c (stpCells l)) (hb:base≤w.heap.size) (hn:n≤100000000000) :
    Calls Tryz.prog 86 #[.slice A n c,.func (.func 87) #[] #[]] w fun e w'=>e=.returned (.tuple #[])∧∃l':List Stp,l'.Perm l∧l'.Pairwise (fun a b=>¬ltT b a)∧Own w' base 30 2 A n c (stpCells l')∧Keep (InRow A) w w':=by
  have hlen:l.length=n:=ho.rd.stp_len
  rcases ho.form with⟨rfl,rfl,rfl,_⟩ | ⟨g,cur,rfl,hbg,hB,_⟩
  ·obtain rfl:=List.eq_nil_of_length_eq_zero hlen
   refine(sortT0_any w).mono ?_
   rintro e w' ⟨rfl,rfl⟩
   exact⟨rfl,[],List.Perm.refl _,List.Pairwise.nil,ho,Keep.refl _ _⟩
  ·have hcon:=AnyQ.slices_SortFunc (P:=Tryz.prog) (ρ:=sortSt_ren) sortSt 2 Tryz.isAgg30 Tryz.sizeOf30 stpCell (fun _=>rfl) (fun x v hv=>by simp[stpCell] at hv;rcases hv with rfl | rfl <;> rfl) cmpT swo_cmpT 87 #[] g 0 c l.toArray w (enters_of Tryz.func87 (by kernel_rfl) rfl) (cmpLays_stp g 0 _ w) (holds_of_ownT ho) hB.lt (by simp;omega)
   have e1:l.toArray.size=n:=by simpa using hlen
   rw[e1] at hcon
   refine Calls.mono (show Calls Tryz.prog 86 _ _ _ from hcon) ?_
   rintro e w' ⟨rfl,d',m,os,hp,hs,rfl⟩
   have hsz:d'.size=n:=hp.1.trans e1
   have hperm:d'.toList.Perm l:=by
    have h:=hp.2.2
    rw[Array.extract_eq_self_of_le (by omega),Array.extract_eq_self_of_le (by omega)] at h
    simpa using h
   obtain⟨h1,h2⟩:=own_sortT (m:=m) (l':=d'.toList) os ho (by simpa[hlen] using hsz) hb
   simp only[Array.toArray_toList] at h1 h2
   refine⟨rfl,d'.toList,hperm,?_,h1,h2⟩
   rw[List.pairwise_iff_getElem]
   intro i j hi hj hij
   have h3:=hs i j (Nat.zero_le _) hij (by simpa[hsz] using hj)
   have hi':i<d'.size:=by simpa using hi
   have hj':j<d'.size:=by simpa using hj
   rw[getElem!_pos d' i hi',getElem!_pos d' j hj',←not_true_iff,lt_cmpT] at h3
   simp only[Array.getElem_toList]
   exact h3
end Go.Proofs.YtpapiojicbbheaaGreatDoor

namespace Go.Proofs.YtpapiojicbbheaaGreatDoor
open Go.RowKit
theorem held8_next {W0 w w':World}{a b c d e f g h:Addr}{ua ub uc ud ue uf ug uh:Value} (H:Keep Never W0 w∧w.cell? a=some ua∧w.cell? b=some ub∧w.cell? c=some uc∧w.cell? d=some ud∧w.cell? e=some ue∧w.cell? f=some uf∧w.cell? g=some ug∧w.cell? h=some uh) (hk:Keep Never w w') :
    Keep Never W0 w'∧w'.cell? a=some ua∧w'.cell? b=some ub∧w'.cell? c=some uc∧w'.cell? d=some ud∧w'.cell? e=some ue∧w'.cell? f=some uf∧w'.cell? g=some ug∧w'.cell? h=some uh:=
  ⟨H.1.trans hk,keepT hk H.2.1,keepT hk H.2.2.1,keepT hk H.2.2.2.1,keepT hk H.2.2.2.2.1,keepT hk H.2.2.2.2.2.1,keepT hk H.2.2.2.2.2.2.1,keepT hk H.2.2.2.2.2.2.2.1,keepT hk H.2.2.2.2.2.2.2.2⟩
set_option maxHeartbeats 4000000 in
set_option maxRecDepth 100000 in
theorem mayj_any (x:TA) (t:Tp) (B:Nat) (a b:Stp) (w:World) (ht:TpAt w B x t) (hn:x.nj≤100000000) :
    Calls Tryz.prog 205 #[.agg x.cs,.agg #[.int .i64 a.1,.bool a.2],.agg #[.int .i64 b.1,.bool b.2]] w fun e w'=>e=.returned (.bool (mayJ t.2.1 a b))∧Keep Never w w':=by
  have HJ:Hid (∀w',Keep Never w w'→Calls Tryz.prog 103 #[.agg x.cs,.agg #[.int .i64 (outE a).1,.int .i64 (outE a).2],.agg #[.int .i64 (inE b).1,.int .i64 (inE b).2]] w' fun e w''=>e=.returned (.bool (joinB t.2.1 (outE a) (inE b)))∧Keep Never w' w''):=qh (fun w' h=>joins_any x t B (outE a) (inE b) w' (ht.keep h) hn)
  have HO:=qh (fun W=>leaves_any a W)
  have HI:=qh (fun W=>enters_any b W)
  obtain⟨Ae,ne,ce,Aj,nj,cj,Ab,nb,cb,Ar,nr,cr⟩:=x
  simp only[TA.cs] at HJ ⊢
  have HMy:Hid (mayJ t.2.1 a b=joinB t.2.1 (outE a) (inE b)):=qh rfl
  obtain⟨a1,a2⟩:=a
  obtain⟨b1,b2⟩:=b
  generalize outE (a1,a2)=oa at *
  generalize inE (b1,b2)=ib at *
  obtain⟨oa1,oa2⟩:=oa
  obtain⟨ib1,ib2⟩:=ib
  simp only at HJ HO HI HMy ⊢
  obtain⟨w1,hw1⟩:∃wb:World,w.alloc (.cells #[.slice Ae ne ce,.slice Aj nj cj,.slice Ab nb cb,.slice Ar nr cr] 27)=wb:=⟨_,rfl⟩
  obtain⟨w2,hw2⟩:∃wb:World,w1.alloc (.cells #[.int .i64 a1,.bool a2] 30)=wb:=⟨_,rfl⟩
  obtain⟨w3,hw3⟩:∃wb:World,w2.alloc (.cells #[.int .i64 b1,.bool b2] 30)=wb:=⟨_,rfl⟩
  have s1:w1.heap.size=w.heap.size+1:=by rw[←hw1];simp
  have s2:w2.heap.size=w.heap.size+1+1:=by rw[←hw2,←s1];simp
  have k1:Keep Never w w1:=by rw[←hw1];exact(Keep.refl _ _).alloc _
  have k2:Keep Never w1 w2:=by rw[←hw2];exact(Keep.refl _ _).alloc _
  have k3:Keep Never w2 w3:=by rw[←hw3];exact(Keep.refl _ _).alloc _
  have b1':=Blk.new w 27 #[.slice Ae ne ce,.slice Aj nj cj,.slice Ab nb cb,.slice Ar nr cr]
  rw[hw1] at b1'
  have b2':=Blk.new w1 30 #[.int .i64 a1,.bool a2]
  rw[hw2,s1] at b2'
  have b3':=Blk.new w2 30 #[.int .i64 b1,.bool b2]
  rw[hw3,s2] at b3'
  have HK:=qh ((k1.trans k2).trans k3)
  have HB1:=(b1'.keep k2 (fun h=>h)).keep k3 (fun h=>h)
  have HB2:=b2'.keep k3 (fun h=>h)
  obtain⟨y0,y1,y2,y3⟩:=bc4 HB1
  obtain⟨y4,y5⟩:=bc2 HB2
  obtain⟨y6,y7⟩:=bc2 (b3')
  clear k1 k2 k3 b1' b2' b3' HB1 HB2
  go_enter Tryz.func205, Tryz.ntmps205
  go_wp2_with fail
  go_region_held3 (fun w'=>Keep Never w3 w'∧w'.cell? ⟨w.heap.size,0,none⟩=some (.slice Ae ne ce)∧w'.cell? ⟨w.heap.size,1,none⟩=some (.slice Aj nj cj)∧w'.cell? ⟨w.heap.size,2,none⟩=some (.slice Ab nb cb)∧w'.cell? ⟨w.heap.size,3,none⟩=some (.slice Ar nr cr)∧w'.cell? ⟨w.heap.size+1,0,none⟩=some (.int .i64 a1)∧w'.cell? ⟨w.heap.size+1,1,none⟩=some (.bool a2)∧w'.cell? ⟨w.heap.size+1+1,0,none⟩=some (.int .i64 b1)∧w'.cell? ⟨w.heap.size+1+1,1,none⟩=some (.bool b2))
    (first| assumption | exact⟨(Keep.refl Never w3).drew,y0,y1,y2,y3,y4,y5,y6,y7⟩ | exact held8_next (by assumption) hk')
    (first
      | (go_at_call 85; refine(HO.out _).mono ?_;rintro e w' ⟨rfl,hk'⟩)
      | (go_at_call 90; refine(HI.out _).mono ?_;rintro e w' ⟨rfl,hk'⟩)
      | (go_at_call 103; refine(HJ.out _ (HK.out.trans (by first | exact(Keep.refl Never w3).drew | exact And.left (by assumption)))).mono ?_;rintro e w' ⟨rfl,hk'⟩))
  all_goals
   rename_i hS
   have HKe:=qh (HK.out.trans (And.left hS))
   clear hS
   go_wp2_with fail
   go_ret
   exact⟨by rw[HMy.out];rfl,HKe.out⟩
set_option maxHeartbeats 4000000 in
set_option maxRecDepth 100000 in
theorem rmayj_any (x:TA) (t:Tp) (B:Nat) (a b:Stp) (w:World) (ht:TpAt w B x t) (hn:x.nj≤100000000) :
    Calls Tryz.prog 52 #[.agg x.cs,.agg #[.int .i64 a.1,.bool a.2],.agg #[.int .i64 b.1,.bool b.2]] w fun e w'=>e=.returned (.bool (mayJ t.2.1 a b))∧Keep Never w w':=by
  have HJ:Hid (∀w',Keep Never w w'→Calls Tryz.prog 109 #[.slice x.Aj x.nj x.cj,.agg #[.int .i64 (outE a).1,.int .i64 (outE a).2],.agg #[.int .i64 (inE b).1,.int .i64 (inE b).2]] w' fun e w''=>e=.returned (.bool (joinB t.2.1 (outE a) (inE b)))∧Keep Never w' w''):=qh (fun w' h=>rjoined_any x.Aj x.nj x.cj B t.2.1 (outE a) (inE b) w' (ht.keep h).j hn)
  have HO:=qh (fun W=>rout_any a W)
  have HI:=qh (fun W=>rin_any b W)
  obtain⟨Ae,ne,ce,Aj,nj,cj,Ab,nb,cb,Ar,nr,cr⟩:=x
  simp only[TA.cs] at HJ ⊢
  have HMy:Hid (mayJ t.2.1 a b=joinB t.2.1 (outE a) (inE b)):=qh rfl
  obtain⟨a1,a2⟩:=a
  obtain⟨b1,b2⟩:=b
  generalize outE (a1,a2)=oa at *
  generalize inE (b1,b2)=ib at *
  obtain⟨oa1,oa2⟩:=oa
  obtain⟨ib1,ib2⟩:=ib
  simp only at HJ HO HI HMy ⊢
  obtain⟨w1,hw1⟩:∃wb:World,w.alloc (.cells #[.slice Ae ne ce,.slice Aj nj cj,.slice Ab nb cb,.slice Ar nr cr] 27)=wb:=⟨_,rfl⟩
  obtain⟨w2,hw2⟩:∃wb:World,w1.alloc (.cells #[.int .i64 a1,.bool a2] 30)=wb:=⟨_,rfl⟩
  obtain⟨w3,hw3⟩:∃wb:World,w2.alloc (.cells #[.int .i64 b1,.bool b2] 30)=wb:=⟨_,rfl⟩
  have s1:w1.heap.size=w.heap.size+1:=by rw[←hw1];simp
  have s2:w2.heap.size=w.heap.size+1+1:=by rw[←hw2,←s1];simp
  have k1:Keep Never w w1:=by rw[←hw1];exact(Keep.refl _ _).alloc _
  have k2:Keep Never w1 w2:=by rw[←hw2];exact(Keep.refl _ _).alloc _
  have k3:Keep Never w2 w3:=by rw[←hw3];exact(Keep.refl _ _).alloc _
  have b1':=Blk.new w 27 #[.slice Ae ne ce,.slice Aj nj cj,.slice Ab nb cb,.slice Ar nr cr]
  rw[hw1] at b1'
  have b2':=Blk.new w1 30 #[.int .i64 a1,.bool a2]
  rw[hw2,s1] at b2'
  have b3':=Blk.new w2 30 #[.int .i64 b1,.bool b2]
  rw[hw3,s2] at b3'
  have HK:=qh ((k1.trans k2).trans k3)
  have HB1:=(b1'.keep k2 (fun h=>h)).keep k3 (fun h=>h)
  have HB2:=b2'.keep k3 (fun h=>h)
  obtain⟨y0,y1,y2,y3⟩:=bc4 HB1
  obtain⟨y4,y5⟩:=bc2 HB2
  obtain⟨y6,y7⟩:=bc2 (b3')
  clear k1 k2 k3 b1' b2' b3' HB1 HB2
  go_enter Tryz.func52, Tryz.ntmps52
  go_wp2_with fail
  go_region_held3 (fun w'=>Keep Never w3 w'∧w'.cell? ⟨w.heap.size,0,none⟩=some (.slice Ae ne ce)∧w'.cell? ⟨w.heap.size,1,none⟩=some (.slice Aj nj cj)∧w'.cell? ⟨w.heap.size,2,none⟩=some (.slice Ab nb cb)∧w'.cell? ⟨w.heap.size,3,none⟩=some (.slice Ar nr cr)∧w'.cell? ⟨w.heap.size+1,0,none⟩=some (.int .i64 a1)∧w'.cell? ⟨w.heap.size+1,1,none⟩=some (.bool a2)∧w'.cell? ⟨w.heap.size+1+1,0,none⟩=some (.int .i64 b1)∧w'.cell? ⟨w.heap.size+1+1,1,none⟩=some (.bool b2))
    (first| assumption | exact⟨(Keep.refl Never w3).drew,y0,y1,y2,y3,y4,y5,y6,y7⟩ | exact held8_next (by assumption) hk')
    (first
      | (go_at_call 112; refine(HO.out _).mono ?_;rintro e w' ⟨rfl,hk'⟩)
      | (go_at_call 113; refine(HI.out _).mono ?_;rintro e w' ⟨rfl,hk'⟩)
      | (go_at_call 109; refine(HJ.out _ (HK.out.trans (by first | exact(Keep.refl Never w3).drew | exact And.left (by assumption)))).mono ?_;rintro e w' ⟨rfl,hk'⟩))
  all_goals
   rename_i hS
   have HKe:=qh (HK.out.trans (And.left hS))
   clear hS
   go_wp2_with fail
   go_ret
   exact⟨by rw[HMy.out];rfl,HKe.out⟩
end Go.Proofs.YtpapiojicbbheaaGreatDoor

namespace Go.Proofs.YtpapiojicbbheaaGreatDoor
open Go.RowKit
def pairsJ (J:List Jt):List (En×En):=J.flatMap fun j=>[(j.1,j.2),(j.2,j.1)]
theorem pairsJ_at:∀{J:List Jt}{k:Nat}{j:Jt},J[k]?=some j→(pairsJ J)[2*k]?=some (j.1,j.2)∧(pairsJ J)[2*k+1]?=some (j.2,j.1)
  | [],k,j,h=>by simp at h
  | y::J,0,j,h=>by simp at h;subst h;exact⟨rfl,rfl⟩
  | y::J,k+1,j,h=>by
   have:=pairsJ_at (J:=J) (k:=k) (j:=j) (by simpa using h)
   rw[show 2*(k+1)=2*k+1+1 by omega]
   exact this
theorem pairsJ_len (J:List Jt):(pairsJ J).length=2*J.length:=by
 induction J with
 | nil=>rfl
 | cons j J ih=>simp only[pairsJ,List.flatMap_cons,List.length_append,List.length_cons,List.length_nil] at ih ⊢;omega
def setQ (J:List Jt) (ne:Nat) (s:Stp) (m:Nat) (u:Stp):Prop:=∃q∈(pairsJ J).take m,q.1=outE s∧q.2=inE u∧thereB ne u.1=true
theorem setQ_succ {J:List Jt}{ne:Nat}{s:Stp}{m:Nat}{a b:En} (h:(pairsJ J)[m]?=some (a,b)) (u:Stp):setQ J ne s (m+1) u↔(setQ J ne s m u∨(a=outE s∧b=inE u∧thereB ne u.1=true)):=by
 unfold setQ
 obtain⟨h2,h3⟩:=List.getElem?_eq_some_iff.1 h
 rw[List.take_succ_eq_append_getElem h2,h3]
 constructor
 ·rintro⟨q,hq,r⟩
  rcases List.mem_append.1 hq with hq | hq
  ·exact .inl ⟨q,hq,r⟩
  ·simp at hq;subst hq;exact .inr r
 ·rintro(⟨q,hq,r⟩ | r)
  ·exact⟨q,List.mem_append_left _ hq,r⟩
  ·exact⟨(a,b),by simp,r⟩
theorem setQ_all {J:List Jt}{ne:Nat}{s:Stp}{m:Nat} (hm:2*J.length≤m) (u:Stp):setQ J ne s m u↔(thereB ne u.1=true∧mayJ J s u=true):=by
 unfold setQ mayJ joinB
 rw[List.take_of_length_le (by rw[pairsJ_len];exact hm),List.any_eq_true]
 constructor
 ·rintro⟨q,hq,h1,h2,h3⟩
  obtain⟨j,hj,hqj⟩:=List.mem_flatMap.1 hq
  refine⟨h3,j,hj,?_⟩
  rw[Bool.or_eq_true,decide_eq_true_eq,decide_eq_true_eq,←h1,←h2]
  simp at hqj
  rcases hqj with rfl | rfl
  ·exact .inl rfl
  ·exact .inr rfl
 ·rintro⟨h3,j,hj,h⟩
  rw[Bool.or_eq_true,decide_eq_true_eq,decide_eq_true_eq] at h
  rcases h with rfl | rfl
  ·exact⟨(outE s,inE u),List.mem_flatMap.2 ⟨_,hj,by simp⟩,rfl,rfl,h3⟩
  ·exact⟨(outE s,inE u),List.mem_flatMap.2 ⟨_,hj,by simp⟩,rfl,rfl,h3⟩
theorem inE_zero {u:Stp}{b1 b2:Int} (h2:b2=0):(b1,b2)=inE u↔u=(b1,false):=by
 subst h2
 obtain⟨e,r⟩:=u
 cases r <;> simp[inE,eq_comm]
theorem inE_one {u:Stp}{b1 b2:Int} (h2:b2=1):(b1,b2)=inE u↔u=(b1,true):=by
 subst h2
 obtain⟨e,r⟩:=u
 cases r <;> simp[inE,eq_comm]
theorem inE_none {u:Stp}{b1 b2:Int} (h0:b2≠0) (h1:b2≠1):¬(b1,b2)=inE u:=by
 obtain⟨e,r⟩:=u
 cases r <;> simp[inE,h0,h1]
theorem held10_next {W0 w w':World}{a b c d e f g h i j:Addr}{ua ub uc ud ue uf ug uh ui uj:Value} (H:Keep Never W0 w∧w.cell? a=some ua∧w.cell? b=some ub∧w.cell? c=some uc∧w.cell? d=some ud∧w.cell? e=some ue∧w.cell? f=some uf∧w.cell? g=some ug∧w.cell? h=some uh∧w.cell? i=some ui∧w.cell? j=some uj) (hk:Keep Never w w') :
    Keep Never W0 w'∧w'.cell? a=some ua∧w'.cell? b=some ub∧w'.cell? c=some uc∧w'.cell? d=some ud∧w'.cell? e=some ue∧w'.cell? f=some uf∧w'.cell? g=some ug∧w'.cell? h=some uh∧w'.cell? i=some ui∧w'.cell? j=some uj:=
  ⟨H.1.trans hk,keepT hk H.2.1,keepT hk H.2.2.1,keepT hk H.2.2.2.1,keepT hk H.2.2.2.2.1,keepT hk H.2.2.2.2.2.1,keepT hk H.2.2.2.2.2.2.1,keepT hk H.2.2.2.2.2.2.2.1,keepT hk H.2.2.2.2.2.2.2.2.1,keepT hk H.2.2.2.2.2.2.2.2.2.1,keepT hk H.2.2.2.2.2.2.2.2.2.2⟩
def AftRet (l:List Stp) (w:World) (e:Ending) (w':World):Prop:=∃A n c,e=.returned (.slice A n c)∧Hid (n=l.length)∧Own w' w.heap.size 30 2 A n c (stpCells l)∧Keep Never w w'
theorem ltT_total {s u:Stp} (h1:¬ltT u s) (h2:s≠u):ltT s u:=by
 obtain⟨a,r⟩:=s
 obtain⟨b,q⟩:=u
 unfold ltT at *
 simp only[ne_eq,Prod.mk.injEq,not_and] at *
 cases r <;> cases q <;> simp at*<;> omega
set_option maxHeartbeats 40000000 in
set_option maxRecDepth 100000 in
theorem after_any (x:TA) (t:Tp) (B:Nat) (s:Stp) (w:World) (ht:TpAt w B x t) (hn:x.nj≤100000000) (hn1:x.ne≤100000000) :
    Calls Tryz.prog 30 #[.agg x.cs,.agg #[.int .i64 s.1,.bool s.2]] w (AftRet (afterM t s) w):=by
  have HT:=qh (fun i W=>there_any x i W)
  have hmm:=@run_makeMap Tryz.prog
  have qe:∀(w:World) (x1 x2 y1 y2:Int),(binOp .eql 132 (.agg #[.int .i64 x1,.int .i64 x2]) (.agg #[.int .i64 y1,.int .i64 y2])).run Tryz.prog w=.ok (.bool (sameE x1 x2 y1 y2)) w:=run_eq_end
  have HL:=qh (fun W=>leaves_any s W)
  have HJ:Hid (∀w',Keep Never w w'→repJt.Sl w' B x.Aj x.nj x.cj t.2.1):=qh (fun w' h=>ht.j.keep h (fun _ h=>h.elim))
  have HJl:Hid (x.nj=t.2.1.length):=qh ht.j.len
  have HEl:Hid (x.ne=t.1.length):=qh ht.e.len
  have HO:Hid (outE s=outE s):=qh rfl
  obtain⟨Ae,ne,ce,Aj,nj,cj,Ab,nb,cb,Ar,nr,cr⟩:=x
  simp only[TA.cs] at HT HJ HJl HEl hn hn1 ⊢
  obtain⟨o,ho⟩:∃o,outE s=o:=⟨_,rfl⟩
  have HOo:=qh ho
  rw[ho] at HL
  obtain⟨o1,o2⟩:=o
  obtain⟨s1,s2⟩:=s
  simp only at HL ⊢
  obtain⟨w1,hw1⟩:∃wb:World,w.alloc (.cells #[.slice Ae ne ce,.slice Aj nj cj,.slice Ab nb cb,.slice Ar nr cr] 27)=wb:=⟨_,rfl⟩
  obtain⟨w2,hw2⟩:∃wb:World,w1.alloc (.cells #[.int .i64 s1,.bool s2] 30)=wb:=⟨_,rfl⟩
  have z1:w1.heap.size=w.heap.size+1:=by rw[←hw1];simp
  have z2:w2.heap.size=w.heap.size+1+1:=by rw[←hw2,←z1];simp
  have k1:Keep Never w w1:=by rw[←hw1];exact(Keep.refl _ _).alloc _
  have k2:Keep Never w1 w2:=by rw[←hw2];exact(Keep.refl _ _).alloc _
  have b1:=Blk.new w 27 #[.slice Ae ne ce,.slice Aj nj cj,.slice Ab nb cb,.slice Ar nr cr]
  rw[hw1] at b1
  have b2:=Blk.new w1 30 #[.int .i64 s1,.bool s2]
  rw[hw2,z1] at b2
  have HB1:=qh (b1.keep k2 (fun h=>h))
  have HB2:=qh b2
  have HK:=qh (k1.trans k2)
  have HZ2:=qh z2
  obtain⟨y0,y1,y2,y3⟩:=bc4 HB1.out
  obtain⟨v0,v1⟩:=bc2 HB2.out
  have HTs:=HT.out s1 w2
  clear k1 k2 b1 b2 ht ho z2 HO
  cases htb:thereB ne s1 with
  | false=>
   rw[htb] at HTs
   have HTf:=qh HTs
   have HA:Hid (afterM t (s1,s2)=[]):=qh (by unfold afterM;rw[if_neg (by rw[←HEl.out,htb];simp)])
   clear HTs htb
   go_enter Tryz.func30, Tryz.ntmps30
   go_wp2_with fail
   refine HTf.out.mono ?_
   rintro e w3 ⟨rfl,hk3⟩
   have HK3:=qtr HK hk3
   clear hk3
   go_wp2_with fail
   go_ret
   exact⟨none,0,0,rfl,qh (by rw[HA.out];rfl),by rw[HA.out];exact Own.nil _ _ _ _,HK3.out⟩
  | true=>
   rw[htb] at HTs
   have HTf:=qh HTs
   have HTb:Hid (thereB t.1.length s1=true):=qh (by rw[←HEl.out];exact htb)
   clear HTs htb
   go_enter Tryz.func30, Tryz.ntmps30
   go_wp2_with fail
   refine HTf.out.mono ?_
   rintro e w3 ⟨rfl,hk3⟩
   have HK3:=qtr HK hk3
   have c1:=(HB1.out.keep hk3 (fun h=>h)).cell 1
   obtain⟨w4,hw4⟩:∃W:World,w3.alloc (.map #[] 0)=W:=⟨_,rfl⟩
   have k4:Keep Never w3 w4:=by rw[←hw4];exact(Keep.refl _ _).alloc _
   have c1':w4.cell? ⟨w.heap.size,1,none⟩=some (.slice Aj nj cj):=keepT k4 c1
   have hm4:=SetAt.made w3
   rw[hw4] at hm4
   have HM4:=qh hm4
   have HK4:=qtr HK3 k4
   have HB14:=qh ((HB1.out.keep hk3 (fun h=>h)).keep k4 (fun h=>h))
   have HB24:=qh ((HB2.out.keep hk3 (fun h=>h)).keep k4 (fun h=>h))
   have HM:Hid (w2.heap.size≤w3.heap.size∧w3.heap.size<w4.heap.size):=qh ⟨hk3.size,by rw[←hw4];simp⟩
   have HK24:Hid (Keep Never w2 w4):=qh (hk3.trans k4)
   clear hk3 k4 y0 y1 y2 y3 v0 v1 hm4 HB14 HB24 c1
   go_wp2_with fail
   generalize w3.heap.size=M at *
   clear hw4 c1' HTf
   go_loopw [7,9,21] (fun jv xv i wr=>∃k:Nat,k≤nj∧i=.int .i64 k∧Hid (Keep Never w2 wr∧SetAt wr M (2*k) (setQ t.2.1 ne (s1,s2) (2*k))∧M<wr.heap.size)) (fun _ _ i _=>nj - (intOf i).toNat)
   case atStart=>exact⟨0,by omega,rfl,qh ⟨HK24.out,HM4.out.congr (Nat.le_refl _) (fun u _=>by simp[setQ]),HM.out.2⟩⟩
   case round=>
    obtain⟨k,hk,rfl,HH⟩:=hrel
    by_cases h0:k<nj
    ·have hkz:(k:Int)<(nj:Int):=by omega
     obtain⟨ad,j,hA,_,hj,c0,c1,c2,c3⟩:=jt_at (HJ.out wr (HK.out.trans HH.out.1)) h0
     subst hA
     obtain⟨⟨x1,x2⟩,x3,x4⟩:=j
     simp only at c0 c1 c2 c3
     have HP0:=qh (pairsJ_at hj)
     obtain⟨W1,hW1⟩:∃W:World,wr.alloc (.cells #[.int .i64 x1,.int .i64 x2,.int .i64 x3,.int .i64 x4] 134)=W:=⟨_,rfl⟩
     obtain⟨W2,hW2⟩:∃W:World,W1.alloc (.cells #[.int .i64 x1,.int .i64 x2,.int .i64 x3,.int .i64 x4,.int .i64 x3,.int .i64 x4,.int .i64 x1,.int .i64 x2] 135)=W:=⟨_,rfl⟩
     have K1:Keep Never wr W1:=by rw[←hW1];exact(Keep.refl _ _).alloc _
     have K2:Keep Never W1 W2:=by rw[←hW2];exact(Keep.refl _ _).alloc _
     have B1:=Blk.new wr 134 #[.int .i64 x1,.int .i64 x2,.int .i64 x3,.int .i64 x4]
     rw[hW1] at B1
     have B2:=Blk.new W1 135 #[.int .i64 x1,.int .i64 x2,.int .i64 x3,.int .i64 x4,.int .i64 x3,.int .i64 x4,.int .i64 x1,.int .i64 x2]
     rw[hW2] at B2
     obtain⟨d0,d1,d2,d3⟩:=bc4 B1
     have y1:wr.cell? ⟨w.heap.size,1,none⟩=some (.slice (some ad) nj cj):=(HB1.out.keep HH.out.1 (fun h=>h)).cell 1
     have HKr:=qh (HH.out.1.trans (K1.trans K2))
     have HSr:=qh (HH.out.2.1.keep (K1.trans K2) (fun h=>h))
     have HRr:=qh (Rd.of_blk (size:=4) (n:=2) (cs:=[.int .i64 x1,.int .i64 x2,.int .i64 x3,.int .i64 x4,.int .i64 x3,.int .i64 x4,.int .i64 x1,.int .i64 x2]) B2 rfl)
     have HMg:Hid (M<W1.heap.size):=qh (Nat.lt_of_lt_of_le HH.out.2.2 K1.size)
     have HMg2:Hid (W1.heap.size<W2.heap.size):=qh B2.lt
     clear hj K1 K2 B1 B2 HJ HH hw1 hw2
     go_wp2_with fail
     clear c0 c1 c2 c3 d0 d1 d2 d3 y1 hW1 hW2
     obtain⟨adv,hadv⟩:∃a:Addr,(⟨W1.heap.size,0,none⟩:Addr)=a:=⟨_,rfl⟩
     have HAb:Hid (adv.block=W1.heap.size):=qh (by rw[←hadv])
     rw[hadv] at HRr ⊢
     clear hadv
     rename World=>W2
     go_loopw [9,37] (fun xv i2 wy=>∃i:Nat,i≤2∧i2=.int .i64 i∧Hid (Keep Never w2 wy∧SetAt wy M (2*k+i) (setQ t.2.1 ne (s1,s2) (2*k+i))∧Rd wy wy.heap.size 4 (some adv) 2 [.int .i64 x1,.int .i64 x2,.int .i64 x3,.int .i64 x4,.int .i64 x3,.int .i64 x4,.int .i64 x1,.int .i64 x2])) (fun _ i _=>2 - (intOf i).toNat)
     case atStart=>exact⟨0,by omega,rfl,qh ⟨HKr.out,HSr.out,HRr.out⟩⟩
     case round=>
      obtain⟨i,hi,rfl,HI⟩:=hrel
      by_cases hi2:i<2
      ·have hiz:(i:Int)<2:=by omega
       have hiz0:(0:Int)≤(i:Int):=by omega
       have hab:∃a1 a2 b1 b2:Int,wr.cell? (adv.add (i*4))=some (.int .i64 a1)∧wr.cell? ⟨(adv.add (i*4)).block,(adv.add (i*4)).off+1,none⟩=some (.int .i64 a2)∧wr.cell? ⟨(adv.add (i*4)).block,(adv.add (i*4)).off+2,none⟩=some (.int .i64 b1)∧wr.cell? ⟨(adv.add (i*4)).block,(adv.add (i*4)).off+3,none⟩=some (.int .i64 b2)∧(pairsJ t.2.1)[2*k+i]?=some ((a1,a2),(b1,b2)):=by
        obtain⟨ad',e,hb,hc⟩:=HI.out.2.2.2 (by omega)
        injection e with e
        subst e
        have hi':i=0∨i=1:=by omega
        rcases hi' with rfl | rfl
        ·have e0:=hc 0 _ rfl
         have e1:=hc 1 _ rfl
         have e2:=hc 2 _ rfl
         have e3:=hc 3 _ rfl
         have f1:=fld adv (0*4) (j:=1) (by omega)
         exact⟨x1,x2,x3,x4,e0,by rw[←fld _ _ (by omega)];exact e1,by rw[←fld _ _ (by omega)];exact e2,by rw[←fld _ _ (by omega)];exact e3,HP0.out.1⟩
        ·have e0:=hc 4 _ rfl
         have e1:=hc 5 _ rfl
         have e2:=hc 6 _ rfl
         have e3:=hc 7 _ rfl
         exact⟨x3,x4,x1,x2,e0,by rw[←fld _ _ (by omega)];exact e1,by rw[←fld _ _ (by omega)];exact e2,by rw[←fld _ _ (by omega)];exact e3,HP0.out.2⟩
       obtain⟨a1,a2,b1,b2,c0,c1,c2,c3,hq⟩:=hab
       have HQ:=qh (fun u=>setQ_succ (ne:=ne) (s:=(s1,s2)) hq u)
       obtain⟨W5,hW5⟩:∃W:World,wr.alloc (.cells #[.int .i64 a1,.int .i64 a2,.int .i64 b1,.int .i64 b2] 135)=W:=⟨_,rfl⟩
       have K5:Keep Never wr W5:=by rw[←hW5];exact(Keep.refl _ _).alloc _
       have B5:=Blk.new wr 135 #[.int .i64 a1,.int .i64 a2,.int .i64 b1,.int .i64 b2]
       rw[hW5] at B5
       obtain⟨d0,d1,d2,d3⟩:=bc4 B5
       have hb1:=HB1.out.keep (HI.out.1.trans K5) (fun h=>h)
       have hb2:=HB2.out.keep (HI.out.1.trans K5) (fun h=>h)
       obtain⟨y0,y1,y2,y3⟩:=bc4 hb1
       obtain⟨v0,v1⟩:=bc2 hb2
       have HK5:=qh K5
       have hT1:=HT.out b1
       clear hq K5 B5 hb1 hb2 HT HRr HSr HKr HP0
       go_wp2_with fail
       clear c0 c1 c2 c3 hW5
       rcases Bool.eq_false_or_eq_true (sameE a1 a2 o1 o2) with t1 | t1
       ·have HA:Hid ((a1,a2)=outE (s1,s2)):=qh (by rw[HOo.out];exact of_decide_eq_true t1)
        cases htb:thereB ne b1 with
        | false=>
         rw[htb] at hT1
         have HTb1:=qh hT1
         have HN:Hid (∀u,in64 u→(setQ t.2.1 ne (s1,s2) (2*k+i) u↔setQ t.2.1 ne (s1,s2) (2*k+(i+1)) u)):=qh (fun u _=>by
          rw[show 2*k+(i+1)=2*k+i+1 by omega,HQ.out u]
          constructor
          ·exact .inl
          ·rintro(h | ⟨_,h1,h2⟩)
           ·exact h
           ·have e:u.1=b1:=by have:=congrArg Prod.fst h1;simpa[inE] using this.symm
            rw[e,htb] at h2;cases h2)
         clear hT1 htb HQ
         refine wp_region_noPanic ?_
         refine wp_region_held_drew (S:=(fun w'=>Keep Never wr w'∧w'.cell? ⟨wr.heap.size,0,none⟩=some (.int .i64 a1)∧w'.cell? ⟨wr.heap.size,1,none⟩=some (.int .i64 a2)∧w'.cell? ⟨wr.heap.size,2,none⟩=some (.int .i64 b1)∧w'.cell? ⟨wr.heap.size,3,none⟩=some (.int .i64 b2)∧w'.cell? ⟨w.heap.size,0,none⟩=some (.slice Ae ne ce)∧w'.cell? ⟨w.heap.size,1,none⟩=some (.slice (some ad) nj cj)∧w'.cell? ⟨w.heap.size,2,none⟩=some (.slice Ab nb cb)∧w'.cell? ⟨w.heap.size,3,none⟩=some (.slice Ar nr cr)∧w'.cell? ⟨w.heap.size+1,0,none⟩=some (.int .i64 s1)∧w'.cell? ⟨w.heap.size+1,1,none⟩=some (.bool s2))) (by kernel_rfl) ?_ (fun hHeld=>?_)
         ·exact⟨HK5.out.drew,d0,d1,d2,d3,y0,y1,y2,y3,v0,v1⟩
         refine qT 0 ?_
         try simp only[qy]
         refine qT 1 ?_
         try simp only[qy]
         refine qT 2 ?_
         try simp only[qy]
         refine wpAnyH_ready (rs:=[3]) (by kernel_rfl) (by simp) ?_
         refine AllReadyH.cons (o:=?_) ?_ (fun K hK=>?_) AllReadyH.nil
         rotate_left 1
         ·(simp only[qz];rfl)
         go_simp
         first
          | (go_at_call 85; refine(HL.out _).mono ?_;rintro e w' ⟨rfl,hk'⟩)
          | (go_at_call 84; refine(HTb1.out _).mono ?_;rintro e w' ⟨rfl,hk'⟩)
         (try go_wp2_with fail)
         refine hK.out _ _ ?_ (fun hHeld=>?_)
         ·(try dsimp only);exact held10_next (by assumption) hk'
         clear hK K
         try simp only[qy]
         refine qT 4 ?_
         try simp only[qy]
         refine qT 5 ?_
         try simp only[qy]
         refine qT 6 ?_
         try simp only[qy]
         refine qT 7 ?_
         try simp only[qy]
         refine qT 8 ?_
         try simp only[qy]
         refine qT 9 ?_
         try simp only[qy]
         refine wpAnyH_ready (rs:=[10]) (by kernel_rfl) (by simp) ?_
         refine AllReadyH.cons (o:=?_) ?_ (fun K hK=>?_) AllReadyH.nil
         rotate_left 1
         ·(simp only[qz];rfl)
         go_simp
         first
          | (go_at_call 85; refine(HL.out _).mono ?_;rintro e w' ⟨rfl,hk'⟩)
          | (go_at_call 84; refine(HTb1.out _).mono ?_;rintro e w' ⟨rfl,hk'⟩)
         (try go_wp2_with fail)
         refine hK.out _ _ ?_ (fun hHeld=>?_)
         ·(try dsimp only);exact held10_next (by assumption) hk'
         clear hK K
         try simp only[qy]
         refine qT 11 ?_
         try simp only[qy]
         refine qT 12 ?_
         try simp only[qy]
         refine qU 13 ?_
         try simp only[qy]
         refine qU 14 ?_
         try simp only[qy]
         refine qU 15 ?_
         try simp only[qy]
         refine qU 16 ?_
         try simp only[qy]
         refine qU 17 ?_
         try simp only[qy]
         refine qU 18 ?_
         try simp only[qy]
         refine qU 19 ?_
         try simp only[qy]
         refine qU 20 ?_
         try simp only[qy]
         refine qU 21 ?_
         try simp only[qy]
         refine qU 22 ?_
         try simp only[qy]
         refine qT 23 ?_
         try simp only[qy]
         refine wpAnyH_done (by kernel_rfl) ?_ _
         refine NoPanic.normal ?_
         have hS:=hHeld
         have HKe:=qh (And.left hS)
         clear hS d0 d1 d2 d3 y0 y1 y2 y3 v0 v1
         go_wp2_with fail
         refine⟨⟨i+1,by omega,by go_num,qh ⟨HI.out.1.trans HKe.out,(HI.out.2.1.keep HKe.out (fun h=>h)).congr (by omega) HN.out,(HI.out.2.2.keep HKe.out (fun _ h=>h.elim)).more HKe.out.size⟩⟩,?_⟩
         simp[intOf];try omega
        | true=>
         rw[htb] at hT1
         have HTb1:=qh hT1
         have HTr:=qh htb
         clear hT1 htb
         by_cases q0:b2=0
         ·have t2:(b2==0)=true:=by simpa using q0
          have t3:(b2==1)=false:=by simp[q0]
          have HIn:Hid (in64 (b1,false)):=qh (by have:=there_in HTr.out;constructor <;> simp only <;> omega)
          have HN:Hid (∀u,in64 u→((setQ t.2.1 ne (s1,s2) (2*k+i) u∨u=(b1,false))↔setQ t.2.1 ne (s1,s2) (2*k+(i+1)) u)):=qh (fun u _=>by
           rw[show 2*k+(i+1)=2*k+i+1 by omega,HQ.out u,inE_zero q0]
           constructor
           ·rintro(h | h)
            ·exact .inl h
            ·exact .inr ⟨HA.out,h,by rw[h];exact HTr.out⟩
           ·rintro(h | ⟨_,h,_⟩)
            ·exact .inl h
            ·exact .inr h)
          clear HQ q0
          refine wp_region_noPanic ?_
          refine wp_region_held_drew (S:=(fun w'=>Keep Never wr w'∧w'.cell? ⟨wr.heap.size,0,none⟩=some (.int .i64 a1)∧w'.cell? ⟨wr.heap.size,1,none⟩=some (.int .i64 a2)∧w'.cell? ⟨wr.heap.size,2,none⟩=some (.int .i64 b1)∧w'.cell? ⟨wr.heap.size,3,none⟩=some (.int .i64 b2)∧w'.cell? ⟨w.heap.size,0,none⟩=some (.slice Ae ne ce)∧w'.cell? ⟨w.heap.size,1,none⟩=some (.slice (some ad) nj cj)∧w'.cell? ⟨w.heap.size,2,none⟩=some (.slice Ab nb cb)∧w'.cell? ⟨w.heap.size,3,none⟩=some (.slice Ar nr cr)∧w'.cell? ⟨w.heap.size+1,0,none⟩=some (.int .i64 s1)∧w'.cell? ⟨w.heap.size+1,1,none⟩=some (.bool s2))) (by kernel_rfl) ?_ (fun hHeld=>?_)
          ·exact⟨HK5.out.drew,d0,d1,d2,d3,y0,y1,y2,y3,v0,v1⟩
          refine qT 0 ?_
          try simp only[qy]
          refine qT 1 ?_
          try simp only[qy]
          refine qT 2 ?_
          try simp only[qy]
          refine wpAnyH_ready (rs:=[3]) (by kernel_rfl) (by simp) ?_
          refine AllReadyH.cons (o:=?_) ?_ (fun K hK=>?_) AllReadyH.nil
          rotate_left 1
          ·(simp only[qz];rfl)
          go_simp
          first
           | (go_at_call 85; refine(HL.out _).mono ?_;rintro e w' ⟨rfl,hk'⟩)
           | (go_at_call 84; refine(HTb1.out _).mono ?_;rintro e w' ⟨rfl,hk'⟩)
          (try go_wp2_with fail)
          refine hK.out _ _ ?_ (fun hHeld=>?_)
          ·(try dsimp only);exact held10_next (by assumption) hk'
          clear hK K
          try simp only[qy]
          refine qT 4 ?_
          try simp only[qy]
          refine qT 5 ?_
          try simp only[qy]
          refine qT 6 ?_
          try simp only[qy]
          refine qT 7 ?_
          try simp only[qy]
          refine qT 8 ?_
          try simp only[qy]
          refine qT 9 ?_
          try simp only[qy]
          refine wpAnyH_ready (rs:=[10]) (by kernel_rfl) (by simp) ?_
          refine AllReadyH.cons (o:=?_) ?_ (fun K hK=>?_) AllReadyH.nil
          rotate_left 1
          ·(simp only[qz];rfl)
          go_simp
          first
           | (go_at_call 85; refine(HL.out _).mono ?_;rintro e w' ⟨rfl,hk'⟩)
           | (go_at_call 84; refine(HTb1.out _).mono ?_;rintro e w' ⟨rfl,hk'⟩)
          (try go_wp2_with fail)
          refine hK.out _ _ ?_ (fun hHeld=>?_)
          ·(try dsimp only);exact held10_next (by assumption) hk'
          clear hK K
          try simp only[qy]
          refine qT 11 ?_
          try simp only[qy]
          refine qT 12 ?_
          try simp only[qy]
          refine qT 13 ?_
          try simp only[qy]
          refine qT 14 ?_
          try simp only[qy]
          refine qT 15 ?_
          try simp only[qy]
          refine qT 16 ?_
          try simp only[qy]
          refine qT 17 ?_
          try simp only[qy]
          refine qU 18 ?_
          try simp only[qy]
          refine qU 19 ?_
          try simp only[qy]
          refine qU 20 ?_
          try simp only[qy]
          refine qU 21 ?_
          try simp only[qy]
          refine qT 22 ?_
          try simp only[qy]
          refine qT 23 ?_
          try simp only[qy]
          refine wpAnyH_done (by kernel_rfl) ?_ _
          refine NoPanic.normal ?_
          have hS:=hHeld
          have HKe:=qh (And.left hS)
          have p2:=hS.2.2.2.1
          have p3:=hS.2.2.2.2.1
          clear hS d0 d1 d2 d3 y0 y1 y2 y3 v0 v1
          have HSe:=qh (HI.out.2.1.keep HKe.out (fun h=>h))
          go_wp2_with (at_mapUpdate;refine wpList_put _ rfl _ _ _ rfl M (2*k+i) _ rfl HSe.out (by unfold maxLen;omega) (b1,false) rfl HIn.out rfl ?_;intro w7 hs7 hk7)
          refine⟨⟨i+1,by omega,by go_num,qh ⟨(HI.out.1.trans HKe.out).then_ hk7 (fun q hq h=>by have:=HM.out.1;omega),hs7.congr (by omega) HN.out,((HI.out.2.2.keep HKe.out (fun _ h=>h.elim)).keep_far hk7 (fun ad' h _ hq=>by have:=HAb.out;have:=HMg.out;injection h with h;subst h;omega)).more (Nat.le_trans HKe.out.size hk7.size)⟩⟩,?_⟩
          simp[intOf];try omega
         ·have t2:(b2==0)=false:=by simpa using q0
          by_cases q1:b2=1
          ·have t3:(b2==1)=true:=by simpa using q1
           have HIn:Hid (in64 (b1,true)):=qh (by have:=there_in HTr.out;constructor <;> simp only <;> omega)
           have HN:Hid (∀u,in64 u→((setQ t.2.1 ne (s1,s2) (2*k+i) u∨u=(b1,true))↔setQ t.2.1 ne (s1,s2) (2*k+(i+1)) u)):=qh (fun u _=>by
            rw[show 2*k+(i+1)=2*k+i+1 by omega,HQ.out u,inE_one q1]
            constructor
            ·rintro(h | h)
             ·exact .inl h
             ·exact .inr ⟨HA.out,h,by rw[h];exact HTr.out⟩
            ·rintro(h | ⟨_,h,_⟩)
             ·exact .inl h
             ·exact .inr h)
           clear HQ q0 q1
           first
            | (go_region_held3 (fun w'=>Keep Never wr w'∧w'.cell? ⟨wr.heap.size,0,none⟩=some (.int .i64 a1)∧w'.cell? ⟨wr.heap.size,1,none⟩=some (.int .i64 a2)∧w'.cell? ⟨wr.heap.size,2,none⟩=some (.int .i64 b1)∧w'.cell? ⟨wr.heap.size,3,none⟩=some (.int .i64 b2)∧w'.cell? ⟨w.heap.size,0,none⟩=some (.slice Ae ne ce)∧w'.cell? ⟨w.heap.size,1,none⟩=some (.slice (some ad) nj cj)∧w'.cell? ⟨w.heap.size,2,none⟩=some (.slice Ab nb cb)∧w'.cell? ⟨w.heap.size,3,none⟩=some (.slice Ar nr cr)∧w'.cell? ⟨w.heap.size+1,0,none⟩=some (.int .i64 s1)∧w'.cell? ⟨w.heap.size+1,1,none⟩=some (.bool s2))
                 (first| assumption | exact⟨HK5.out.drew,d0,d1,d2,d3,y0,y1,y2,y3,v0,v1⟩ | exact held10_next (by assumption) hk')
                 (first
                   | (go_at_call 85; refine(HL.out _).mono ?_;rintro e w' ⟨rfl,hk'⟩)
                   | (go_at_call 84; refine(HTb1.out _).mono ?_;rintro e w' ⟨rfl,hk'⟩)))
            | fail
           all_goals
            rename_i hS
            have HKe:=qh (And.left hS)
            have p2:=hS.2.2.2.1
            have p3:=hS.2.2.2.2.1
            clear hS d0 d1 d2 d3 y0 y1 y2 y3 v0 v1
            have HSe:=qh (HI.out.2.1.keep HKe.out (fun h=>h))
            go_wp2_with (at_mapUpdate;refine wpList_put _ rfl _ _ _ rfl M (2*k+i) _ rfl HSe.out (by unfold maxLen;omega) (b1,true) rfl HIn.out rfl ?_;intro w7 hs7 hk7)
            refine⟨⟨i+1,by omega,by go_num,qh ⟨(HI.out.1.trans HKe.out).then_ hk7 (fun q hq h=>by have:=HM.out.1;omega),hs7.congr (by omega) HN.out,((HI.out.2.2.keep HKe.out (fun _ h=>h.elim)).keep_far hk7 (fun ad' h _ hq=>by have:=HAb.out;have:=HMg.out;injection h with h;subst h;omega)).more (Nat.le_trans HKe.out.size hk7.size)⟩⟩,?_⟩
            simp[intOf];try omega
          ·have t3:(b2==1)=false:=by simpa using q1
           have HN:Hid (∀u,in64 u→(setQ t.2.1 ne (s1,s2) (2*k+i) u↔setQ t.2.1 ne (s1,s2) (2*k+(i+1)) u)):=qh (fun u _=>by
            rw[show 2*k+(i+1)=2*k+i+1 by omega,HQ.out u]
            constructor
            ·exact .inl
            ·rintro(h | ⟨_,h1,_⟩)
             ·exact h
             ·exact absurd h1 (inE_none q0 q1))
           clear HQ q0 q1
           first
            | (go_region_held3 (fun w'=>Keep Never wr w'∧w'.cell? ⟨wr.heap.size,0,none⟩=some (.int .i64 a1)∧w'.cell? ⟨wr.heap.size,1,none⟩=some (.int .i64 a2)∧w'.cell? ⟨wr.heap.size,2,none⟩=some (.int .i64 b1)∧w'.cell? ⟨wr.heap.size,3,none⟩=some (.int .i64 b2)∧w'.cell? ⟨w.heap.size,0,none⟩=some (.slice Ae ne ce)∧w'.cell? ⟨w.heap.size,1,none⟩=some (.slice (some ad) nj cj)∧w'.cell? ⟨w.heap.size,2,none⟩=some (.slice Ab nb cb)∧w'.cell? ⟨w.heap.size,3,none⟩=some (.slice Ar nr cr)∧w'.cell? ⟨w.heap.size+1,0,none⟩=some (.int .i64 s1)∧w'.cell? ⟨w.heap.size+1,1,none⟩=some (.bool s2))
                 (first| assumption | exact⟨HK5.out.drew,d0,d1,d2,d3,y0,y1,y2,y3,v0,v1⟩ | exact held10_next (by assumption) hk')
                 (first
                   | (go_at_call 85; refine(HL.out _).mono ?_;rintro e w' ⟨rfl,hk'⟩)
                   | (go_at_call 84; refine(HTb1.out _).mono ?_;rintro e w' ⟨rfl,hk'⟩)))
            | fail
           all_goals
            rename_i hS
            have HKe:=qh (And.left hS)
            clear hS d0 d1 d2 d3 y0 y1 y2 y3 v0 v1
            go_wp2_with fail
            refine⟨⟨i+1,by omega,by go_num,qh ⟨HI.out.1.trans HKe.out,(HI.out.2.1.keep HKe.out (fun h=>h)).congr (by omega) HN.out,(HI.out.2.2.keep HKe.out (fun _ h=>h.elim)).more HKe.out.size⟩⟩,?_⟩
            simp[intOf];try omega
       ·have HTb1:=qh hT1
        have HN:Hid (∀u,in64 u→(setQ t.2.1 ne (s1,s2) (2*k+i) u↔setQ t.2.1 ne (s1,s2) (2*k+(i+1)) u)):=qh (fun u _=>by
         rw[show 2*k+(i+1)=2*k+i+1 by omega,HQ.out u]
         constructor
         ·exact .inl
         ·rintro(h | ⟨h,_⟩)
          ·exact h
          ·rw[HOo.out] at h
           exact absurd h (of_decide_eq_false t1))
        clear HQ hT1
        refine wp_region_noPanic ?_
        refine wp_region_held_drew (S:=(fun w'=>Keep Never wr w'∧w'.cell? ⟨wr.heap.size,0,none⟩=some (.int .i64 a1)∧w'.cell? ⟨wr.heap.size,1,none⟩=some (.int .i64 a2)∧w'.cell? ⟨wr.heap.size,2,none⟩=some (.int .i64 b1)∧w'.cell? ⟨wr.heap.size,3,none⟩=some (.int .i64 b2)∧w'.cell? ⟨w.heap.size,0,none⟩=some (.slice Ae ne ce)∧w'.cell? ⟨w.heap.size,1,none⟩=some (.slice (some ad) nj cj)∧w'.cell? ⟨w.heap.size,2,none⟩=some (.slice Ab nb cb)∧w'.cell? ⟨w.heap.size,3,none⟩=some (.slice Ar nr cr)∧w'.cell? ⟨w.heap.size+1,0,none⟩=some (.int .i64 s1)∧w'.cell? ⟨w.heap.size+1,1,none⟩=some (.bool s2))) (by kernel_rfl) ?_ (fun hHeld=>?_)
        ·exact⟨HK5.out.drew,d0,d1,d2,d3,y0,y1,y2,y3,v0,v1⟩
        refine qT 0 ?_
        try simp only[qy]
        refine qT 1 ?_
        try simp only[qy]
        refine qT 2 ?_
        try simp only[qy]
        refine wpAnyH_ready (rs:=[3]) (by kernel_rfl) (by simp) ?_
        refine AllReadyH.cons (o:=?_) ?_ (fun K hK=>?_) AllReadyH.nil
        rotate_left 1
        ·(simp only[qz];rfl)
        go_simp
        first
         | (go_at_call 85; refine(HL.out _).mono ?_;rintro e w' ⟨rfl,hk'⟩)
         | (go_at_call 84; refine(HTb1.out _).mono ?_;rintro e w' ⟨rfl,hk'⟩)
        (try go_wp2_with fail)
        refine hK.out _ _ ?_ (fun hHeld=>?_)
        ·(try dsimp only);exact held10_next (by assumption) hk'
        clear hK K
        try simp only[qy]
        refine qT 4 ?_
        try simp only[qy]
        refine qT 5 ?_
        try simp only[qy]
        refine qU 6 ?_
        try simp only[qy]
        refine qU 7 ?_
        try simp only[qy]
        refine qU 8 ?_
        try simp only[qy]
        refine qU 9 ?_
        try simp only[qy]
        refine qU 10 ?_
        try simp only[qy]
        refine qT 11 ?_
        try simp only[qy]
        refine qT 12 ?_
        try simp only[qy]
        refine qU 13 ?_
        try simp only[qy]
        refine qU 14 ?_
        try simp only[qy]
        refine qU 15 ?_
        try simp only[qy]
        refine qU 16 ?_
        try simp only[qy]
        refine qU 17 ?_
        try simp only[qy]
        refine qU 18 ?_
        try simp only[qy]
        refine qU 19 ?_
        try simp only[qy]
        refine qU 20 ?_
        try simp only[qy]
        refine qU 21 ?_
        try simp only[qy]
        refine qU 22 ?_
        try simp only[qy]
        refine qT 23 ?_
        try simp only[qy]
        refine wpAnyH_done (by kernel_rfl) ?_ _
        refine NoPanic.normal ?_
        have hS:=hHeld
        have HKe:=qh (And.left hS)
        clear hS d0 d1 d2 d3 y0 y1 y2 y3 v0 v1
        go_wp2_with fail
        refine⟨⟨i+1,by omega,by go_num,qh ⟨HI.out.1.trans HKe.out,(HI.out.2.1.keep HKe.out (fun h=>h)).congr (by omega) HN.out,(HI.out.2.2.keep HKe.out (fun _ h=>h.elim)).more HKe.out.size⟩⟩,?_⟩
        simp[intOf];try omega
      ·obtain rfl:i=2:=by omega
       have hiz:¬((2:Nat):Int)<2:=by omega
       go_wp2_with fail
       refine⟨⟨k+1,by omega,by go_num,qh ⟨HI.out.1,HI.out.2.1.congr (by omega) (fun u _=>by rw[show 2*(k+1)=2*k+2 by omega]),HI.out.2.1.lt⟩⟩,?_⟩
       simp[intOf];try omega
    ·obtain rfl:k=nj:=by omega
     have hkz:¬(k:Int)<(k:Int):=by omega
     have HSr:Hid (SetAt wr M (2*k) (fun u=>thereB ne u.1=true∧mayJ t.2.1 (s1,s2) u=true)):=qh (HH.out.2.1.congr (Nat.le_refl _) (fun u _=>setQ_all (by rw[HJl.out];exact Nat.le_refl _) u))
     have HKr:=qh HH.out.1
     clear HJ HH hw1 hw2 HL HT
     go_wp2_with (at_range;refine wpList_rng _ rfl _ rfl M (2*k) _ rfl HSr.out ?_;intro w5 cnt hr5 hcn hk5 hs5)
     have HR5:=qh hr5
     have HK5:=qtr HKr hk5
     have HMR:Hid (M<wr.heap.size):=qh HSr.out.lt
     have HWR:Hid (wr.heap.size<w5.heap.size):=qh (by omega)
     have HW2:Hid (w2.heap.size≤wr.heap.size):=qh HKr.out.size
     have Hcn:=qh hcn
     generalize wr.heap.size=R at *
     clear hr5 hcn hk5 hs5 HSr HKr HB1 HB2 HM4 HK24
     go_loopw [10,11] (fun ov xv wz=>∃(left:Stp→Prop) (ct no co:Nat) (Ao:Option Addr) (L:List Stp),ov=.slice Ao no co∧no+ct≤2*k∧Hid (Keep Never w2 wz∧RngAt wz M R (2*k) (fun u=>thereB ne u.1=true∧mayJ t.2.1 (s1,s2) u=true) left ct∧Own wz w5.heap.size 30 2 Ao no co (stpCells L)∧no=L.length∧L.Nodup∧(∀u,in64 u→(thereB ne u.1=true∧mayJ t.2.1 (s1,s2) u=true)→(u∈L∨left u))∧(∀u,in64 u→left u→u∉L∧thereB ne u.1=true∧mayJ t.2.1 (s1,s2) u=true)∧(∀u∈L,in64 u∧thereB ne u.1=true∧mayJ t.2.1 (s1,s2) u=true)∧w5.heap.size≤wz.heap.size)) (fun _ _ wz=>wz.rangeLeft M R)
     case atStart=>exact⟨_,cnt,0,0,none,[],rfl,by have:=Hcn.out;omega,qh ⟨HK5.out,HR5.out,Own.nil _ _ _ _,rfl,by simp,fun u _ h=>.inr h,fun u _ h=>⟨by simp,h⟩,by simp,Nat.le_refl _⟩⟩
     case round=>
      obtain⟨left,ct,no,co,Ao,L,rfl,hno,HH⟩:=hrel
      have HRg:=qh HH.out.2.1
      go_wp2_with (first
        | (at_next;refine wpList_nxt _ rfl _ rfl M R (2*k) _ _ _ rfl HRg.out (fun _ hl0=>?_) (fun s c w6 ct' h64 hls hr6 hlt hk6 hsz6 hen=>?_))
        | (refine wpList_app _ rfl (.tmp 82) (.tmp 84) _ rfl elemStp w5.heap.size (A:=Ao) (n:=no) (c:=co) (by go_simp) (((HH.out.2.2.1.keep hk6 (fun q h e=>by have:=HH.out.2.2.1.row h;have:=HWR.out;omega)).alloc _).alloc _) _ (A':=some ⟨_,0,none⟩) (m:=1) (c':=1) (news:=[.int .i64 s.1,.bool s.2]) (by go_simp) (Rd.of_blk (n:=1) (cs:=[.int .i64 s.1,.bool s.2]) (Blk.new _ _ _) rfl) (by simp[Value.oneCell']) (by omega) (by unfold maxLen;omega) (by have:=HH.out.2.2.2.2.2.2.2.2;have:=hsz6.out;simp;omega) ?_;intro A10 c10 w10 hown10 hk10 hrow10))
      ·have ho:=HH.out.2.2.1
       have hnl:=HH.out.2.2.2.1
       have HSo:=qh (sortfT_any w5.heap.size Ao no co L wr ho HH.out.2.2.2.2.2.2.2.2 (by omega))
       have HF:Hid (∀l':List Stp,l'.Perm L→l'.Pairwise (fun a b=>¬ltT b a)→l'=afterM t (s1,s2)):=qh (fun l' hp hs=>by
        refine after_one HTb.out ((List.pairwise_and_iff.2 ⟨hs,hp.nodup_iff.2 HH.out.2.2.2.2.1⟩).imp (fun h=>ltT_total h.1 h.2)) fun u=>?_
        rw[hp.mem_iff,←HEl.out]
        constructor
        ·intro hu
         exact(HH.out.2.2.2.2.2.2.2.1 u hu).2
        ·intro hu
         have h64:in64 u:=by have:=there_in hu.1;constructor <;> omega
         rcases HH.out.2.2.2.2.2.1 u h64 hu with h | h
         ·exact h
         ·exact absurd h (hl0 u h64))
       have HKr:=qh (HK.out.trans HH.out.1)
       have Hnl:=qh hnl
       have HOw:=qh (fun q (h:InRow Ao q)=>(ho.row h).1)
       clear ho hnl HH hl0 HRg HR5
       refine HSo.out.mono ?_
       rintro e w7 ⟨rfl,l',hp,hs,ho7,hk7⟩
       have he:=HF.out l' hp hs
       have Hno:Hid (no=(afterM t (s1,s2)).length):=qh (by rw[Hnl.out,←he,hp.length_eq])
       rw[he] at ho7
       have HO7:=qh ho7
       have HK7:Hid (Keep Never w w7):=qh (HKr.out.then_ hk7 (fun q hq h=>by have h1:=HOw.out q h;have h2:=HWR.out;have h3:=HW2.out;have h4:=HK.out.size;omega))
       have HWL:Hid (w.heap.size≤w5.heap.size):=qh (by have h2:=HWR.out;have h3:=HW2.out;have h4:=HK.out.size;omega)
       clear he hp hs ho7 hk7 HSo
       go_wp2_with fail
       go_ret
       exact⟨Ao,no,co,rfl,Hno.out,Own.less HO7.out HWL.out,HK7.out⟩
      ·have hrow:∀q,InRow Ao q→w5.heap.size≤q:=fun q h=>(HH.out.2.2.1.row h).1
       have hka:Keep (InRow Ao) w6 w10:=(((Keep.refl (InRow Ao) w6).alloc _).alloc _).trans hk10
       have hrg:RngAt w10 M R (2*k) (fun u=>thereB ne u.1=true∧mayJ t.2.1 (s1,s2) u=true) (fun u=>left u∧u≠s) ct':=hr6.keep hka (fun h=>by have:=hrow _ h;have:=HMR.out;have:=HWR.out;omega) (fun h=>by have:=hrow _ h;have:=HWR.out;omega)
       have hs:=HH.out.2.2.2.2.2.2.1 s h64 hls
       refine⟨⟨fun u=>left u∧u≠s,ct',no+1,c10,A10,L++[s],rfl,by omega,qh ⟨?_,hrg,by simpa[stpCells,stpCell] using hown10,by rw[List.length_append,←HH.out.2.2.2.1];rfl,?_,fun u hu hk=>?_,fun u hu h=>?_,fun u hu=>?_,?_⟩⟩,?_⟩
       ·refine(HH.out.1.then_ hk6 (fun q hq h=>?_)).then_ hka (fun q hq h=>?_)
        ·have:=HW2.out;omega
        ·have:=hrow _ h;have:=HW2.out;have:=HWR.out;omega
       ·rw[List.nodup_append]
        exact⟨HH.out.2.2.2.2.1,by simp,fun a ha b hb e=>by simp at hb;subst hb;subst e;exact hs.1 ha⟩
       ·rcases HH.out.2.2.2.2.2.1 u hu hk with h | h
        ·exact .inl (by simp[h])
        ·by_cases e:u=s
         ·exact .inl (by simp[e])
         ·exact .inr ⟨h,e⟩
       ·have h1:=HH.out.2.2.2.2.2.2.1 u hu h.1
        exact⟨by simp[h1.1,h.2],h1.2⟩
       ·rcases List.mem_append.1 hu with hu | hu
        ·exact HH.out.2.2.2.2.2.2.2.1 u hu
        ·simp at hu;subst hu;exact⟨h64,hs.2⟩
       ·have h1:=hka.size;have h2:=HH.out.2.2.2.2.2.2.2.2;have h3:=hsz6.out;omega
       ·rw[hrg.left_eq,HRg.out.left_eq];exact hlt
end Go.Proofs.YtpapiojicbbheaaGreatDoor

namespace Go.Proofs.YtpapiojicbbheaaGreatDoor
open Go.RowKit
theorem bl_rd {w:World}{B n c:Nat}{A:Option Addr}{l:List Bl} (h:repBl.Sl w B A n c l):Rd w B 3 A n (spCells l):=(sps_rd (show repSp.Sl w B A n c l from h)).1
theorem rt_at2 {w:World}{B n c i:Nat}{A:Option Addr}{l:List Rt} (h:repRt.Sl w B A n c l) (hi:i<n):∃ad s A2 n2 c2,A=some ad∧ad.block<B∧l[i]?=some s∧w.cell? (ad.add (i*4))=some (.int .i64 s.1)∧w.cell? ⟨(ad.add (i*4)).block,(ad.add (i*4)).off+1,none⟩=some (.slice A2 n2 c2) ∧
    w.cell? ⟨(ad.add (i*4)).block,(ad.add (i*4)).off+2,none⟩=some (.int .i64 s.2.2.1)∧w.cell? ⟨(ad.add (i*4)).block,(ad.add (i*4)).off+3,none⟩=some (.int .i64 s.2.2.2)∧repStp.Sl w B A2 n2 c2 s.2.1:=by
  obtain⟨ad,s,cs,e,hb,hs,⟨c1,d1,rfl,⟨rfl,_⟩,⟨c2,d2,rfl,⟨A2,n2,cc,rfl,hsl⟩,⟨c3,d3,rfl,⟨rfl,_⟩,⟨rfl,_⟩⟩⟩⟩,hc⟩:=h.at_ hi
  have e0:=hc 0 (by decide)
  have e1:=hc 1 (by decide)
  have e2:=hc 2 (by decide)
  have e3:=hc 3 (by decide)
  have hsz:repRt.size=4:=rfl
  rw[hsz] at e0 e1 e2 e3
  rw[fld _ _ (by omega)] at e1 e2 e3
  exact⟨ad,s,A2,n2,cc,e,hb,hs,e0,e1,e2,e3,hsl⟩
def PredStp (g:Nat) (lb:Array Value) (p:Stp→Bool) (w:World):Prop:=
  ∀(W:World) (s:Stp),Keep Never w W→Calls Tryz.prog g (#[.agg #[.int .i64 s.1,.bool s.2]]++lb) W fun e w'=>e=.returned (.bool (p s))∧Keep Never W w'
def IdxRetS (p:Stp→Bool) (l:List Stp) (w:World) (e:Ending) (w':World):Prop:=
  ((∃(i:Nat) (s:Stp),e=.returned (.int .i64 i)∧l[i]?=some s∧p s=true∧∀x∈l.take i,p x=false)∨(e=.returned (.int .i64 (-1))∧∀x∈l,p x=false))∧Keep Never w w'
def PredRt (g:Nat) (lb:Array Value) (p:Int→Bool) (w:World):Prop:=
  ∀(W:World) (i x y:Int) (A:Option Addr) (n c:Nat),Keep Never w W→Calls Tryz.prog g (#[.agg #[.int .i64 i,.slice A n c,.int .i64 x,.int .i64 y]]++lb) W fun e w'=>e=.returned (.bool (p i))∧Keep Never W w'
def IdxRetR (p:Int→Bool) (l:List Rt) (w:World) (e:Ending) (w':World):Prop:=
  ((∃(i:Nat) (s:Rt),e=.returned (.int .i64 i)∧l[i]?=some s∧p s.1=true∧∀x∈l.take i,p x.1=false)∨(e=.returned (.int .i64 (-1))∧∀x∈l,p x.1=false))∧Keep Never w w'
set_option maxHeartbeats 1000000 in
set_option maxRecDepth 100000 in
theorem indexfb_any (g:Nat) (lb:Array Value) (p:Sp→Bool) (eg:∀args w,(callFunc g args).run Tryz.prog w=.ok (.enter g args) w) (A:Option Addr) (n c B:Nat) (l:List Sp) (w:World) (hr:Rd w B 3 A n (spCells l)) (hp:PredSp g lb p w) (hn:n≤100000000000) :
    Calls Tryz.prog 114 #[.slice A n c,.func (.func g) #[] lb] w (IdxRet p l w):=by
  have HL:=qh hr.sp_len
  have HR:=qh hr
  have HP:=qh hp
  clear hr hp
  go_enter Tryz.func114, Tryz.ntmps114
  go_wp2_with fail
  go_loopw [5,8] (fun _ s8 wr=>∃k:Nat,k≤n∧s8=.int .i64 k∧Hid (Keep Never w wr∧∀x∈l.take k,p x=false)) (fun _ i _=>n - (intOf i).toNat)
  case atStart=>exact⟨0,by omega,rfl,qh ⟨Keep.refl _ _,by simp⟩⟩
  case round=>
   obtain⟨k,hk,rfl,HH⟩:=hrel
   by_cases h0:k<n
   ·have hki:(k:Int)<(n:Int):=by omega
    obtain⟨ad,s,hA,_,hs,c0,c1,c2⟩:=(HR.out.keep HH.out.1 (fun _ h=>h.elim)).sp h0
    subst hA
    have hcall:=HP.out wr s HH.out.1
    have Hs:=qh hs
    have htk:Hid (l.take (k+1)=l.take k++[s]):=qh (by
     obtain⟨h2,h3⟩:=List.getElem?_eq_some_iff.1 hs
     rw[List.take_succ_eq_append_getElem h2,h3])
    clear hs
    obtain⟨s1,s2,s3⟩:=s
    simp only at c0 c1 c2 hcall
    cases hps:p (s1,s2,s3) with
    | true=>
     rw[hps] at hcall
     have Hps:=qh hps
     clear hps
     go_wp2_with (go_at_fn g;refine hcall.mono ?_;rintro e w' ⟨rfl,hk'⟩)
     go_ret
     exact⟨.inl ⟨k,_,rfl,Hs.out,Hps.out,HH.out.2⟩,HH.out.1.trans hk'⟩
    | false=>
     rw[hps] at hcall
     have Hps:=qh hps
     clear hps
     go_wp2_with (go_at_fn g;refine hcall.mono ?_;rintro e w' ⟨rfl,hk'⟩)
     go_roundw
     case measure=>simp[intOf];try omega
     case rel=>
      refine⟨k+1,by omega,by go_num,qh ⟨HH.out.1.trans hk',fun x hx=>?_⟩⟩
      rw[htk.out] at hx
      rcases List.mem_append.1 hx with hx | hx
      ·exact HH.out.2 x hx
      ·simp at hx;subst hx;exact Hps.out
   ·obtain rfl:k=n:=by omega
    have hki:¬(k:Int)<(k:Int):=by omega
    have HN:Hid (∀x∈l,p x=false):=qh (by have:=HH.out.2;rwa [List.take_of_length_le (by have:=HL.out;omega)] at this)
    go_wp2_with fail
    go_ret
    exact⟨.inr ⟨rfl,HN.out⟩,HH.out.1⟩
set_option maxHeartbeats 1000000 in
set_option maxRecDepth 100000 in
theorem containsfb_any (g:Nat) (lb:Array Value) (p:Sp→Bool) (eg:∀args w,(callFunc g args).run Tryz.prog w=.ok (.enter g args) w) (A:Option Addr) (n c B:Nat) (l:List Sp) (w:World) (hr:Rd w B 3 A n (spCells l)) (hp:PredSp g lb p w) (hn:n≤100000000000) :
    Calls Tryz.prog 156 #[.slice A n c,.func (.func g) #[] lb] w fun e w'=>e=.returned (.bool (l.any p))∧Keep Never w w':=by
  have HI:=qh (indexfb_any g lb p eg A n c B l w hr hp hn)
  clear hr hp
  go_enter Tryz.func156, Tryz.ntmps156
  go_wp2_with fail
  refine HI.out.mono ?_
  rintro e w' ⟨⟨i,s,rfl,h1,h2,h3⟩ | ⟨rfl,h1⟩,hk⟩
  ·have HA:Hid (l.any p=true):=qh (List.any_eq_true.2 ⟨s,List.mem_of_getElem? h1,h2⟩)
   have HK:=qh hk
   have hi:decide ((i:Int)≥0)=true:=by simp
   clear h1 h2 h3 hk
   go_wp2_with fail
   go_ret
   exact⟨by rw[HA.out];rfl,HK.out⟩
  ·have HA:Hid (l.any p=false):=qh (by rw[List.any_eq_false];intro x hx;rw[h1 x hx];simp)
   have HK:=qh hk
   clear h1 hk
   go_wp2_with fail
   go_ret
   exact⟨by rw[HA.out];rfl,HK.out⟩
set_option maxHeartbeats 1000000 in
set_option maxRecDepth 100000 in
theorem indexfs_any (g:Nat) (lb:Array Value) (p:Stp→Bool) (eg:∀args w,(callFunc g args).run Tryz.prog w=.ok (.enter g args) w) (A:Option Addr) (n c B:Nat) (l:List Stp) (w:World) (hr:Rd w B 2 A n (stpCells l)) (hp:PredStp g lb p w) (hn:n≤100000000000) :
    Calls Tryz.prog 106 #[.slice A n c,.func (.func g) #[] lb] w (IdxRetS p l w):=by
  have HL:=qh hr.stp_len
  have HR:=qh hr
  have HP:=qh hp
  clear hr hp
  go_enter Tryz.func106, Tryz.ntmps106
  go_wp2_with fail
  go_loopw [5,8] (fun _ s8 wr=>∃k:Nat,k≤n∧s8=.int .i64 k∧Hid (Keep Never w wr∧∀x∈l.take k,p x=false)) (fun _ i _=>n - (intOf i).toNat)
  case atStart=>exact⟨0,by omega,rfl,qh ⟨Keep.refl _ _,by simp⟩⟩
  case round=>
   obtain⟨k,hk,rfl,HH⟩:=hrel
   by_cases h0:k<n
   ·have hki:(k:Int)<(n:Int):=by omega
    obtain⟨ad,s,hA,_,hs,c0,c1⟩:=(HR.out.keep HH.out.1 (fun _ h=>h.elim)).stp h0
    subst hA
    have hcall:=HP.out wr s HH.out.1
    have Hs:=qh hs
    have htk:Hid (l.take (k+1)=l.take k++[s]):=qh (by
     obtain⟨h2,h3⟩:=List.getElem?_eq_some_iff.1 hs
     rw[List.take_succ_eq_append_getElem h2,h3])
    clear hs
    obtain⟨s1,s2⟩:=s
    simp only at c0 c1 hcall
    cases hps:p (s1,s2) with
    | true=>
     rw[hps] at hcall
     have Hps:=qh hps
     clear hps
     go_wp2_with (go_at_fn g;refine hcall.mono ?_;rintro e w' ⟨rfl,hk'⟩)
     go_ret
     exact⟨.inl ⟨k,_,rfl,Hs.out,Hps.out,HH.out.2⟩,HH.out.1.trans hk'⟩
    | false=>
     rw[hps] at hcall
     have Hps:=qh hps
     clear hps
     go_wp2_with (go_at_fn g;refine hcall.mono ?_;rintro e w' ⟨rfl,hk'⟩)
     go_roundw
     case measure=>simp[intOf];try omega
     case rel=>
      refine⟨k+1,by omega,by go_num,qh ⟨HH.out.1.trans hk',fun x hx=>?_⟩⟩
      rw[htk.out] at hx
      rcases List.mem_append.1 hx with hx | hx
      ·exact HH.out.2 x hx
      ·simp at hx;subst hx;exact Hps.out
   ·obtain rfl:k=n:=by omega
    have hki:¬(k:Int)<(k:Int):=by omega
    have HN:Hid (∀x∈l,p x=false):=qh (by have:=HH.out.2;rwa [List.take_of_length_le (by have:=HL.out;omega)] at this)
    go_wp2_with fail
    go_ret
    exact⟨.inr ⟨rfl,HN.out⟩,HH.out.1⟩
set_option maxHeartbeats 1000000 in
set_option maxRecDepth 100000 in
theorem containsfs_any (g:Nat) (lb:Array Value) (p:Stp→Bool) (eg:∀args w,(callFunc g args).run Tryz.prog w=.ok (.enter g args) w) (A:Option Addr) (n c B:Nat) (l:List Stp) (w:World) (hr:Rd w B 2 A n (stpCells l)) (hp:PredStp g lb p w) (hn:n≤100000000000) :
    Calls Tryz.prog 44 #[.slice A n c,.func (.func g) #[] lb] w fun e w'=>e=.returned (.bool (l.any p))∧Keep Never w w':=by
  have HI:=qh (indexfs_any g lb p eg A n c B l w hr hp hn)
  clear hr hp
  go_enter Tryz.func44, Tryz.ntmps44
  go_wp2_with fail
  refine HI.out.mono ?_
  rintro e w' ⟨⟨i,s,rfl,h1,h2,h3⟩ | ⟨rfl,h1⟩,hk⟩
  ·have HA:Hid (l.any p=true):=qh (List.any_eq_true.2 ⟨s,List.mem_of_getElem? h1,h2⟩)
   have HK:=qh hk
   have hi:decide ((i:Int)≥0)=true:=by simp
   clear h1 h2 h3 hk
   go_wp2_with fail
   go_ret
   exact⟨by rw[HA.out];rfl,HK.out⟩
  ·have HA:Hid (l.any p=false):=qh (by rw[List.any_eq_false];intro x hx;rw[h1 x hx];simp)
   have HK:=qh hk
   clear h1 hk
   go_wp2_with fail
   go_ret
   exact⟨by rw[HA.out];rfl,HK.out⟩
set_option maxHeartbeats 1000000 in
set_option maxRecDepth 100000 in
theorem indexfr_any (g:Nat) (lb:Array Value) (p:Int→Bool) (eg:∀args w,(callFunc g args).run Tryz.prog w=.ok (.enter g args) w) (A:Option Addr) (n c B:Nat) (l:List Rt) (w:World) (hr:repRt.Sl w B A n c l) (hp:PredRt g lb p w) (hn:n≤100000000000) :
    Calls Tryz.prog 81 #[.slice A n c,.func (.func g) #[] lb] w (IdxRetR p l w):=by
  have HL:=qh hr.len.symm
  have HR:=qh hr
  have HP:=qh hp
  clear hr hp
  go_enter Tryz.func81, Tryz.ntmps81
  go_wp2_with fail
  go_loopw [5,8] (fun _ s8 wr=>∃k:Nat,k≤n∧s8=.int .i64 k∧Hid (Keep Never w wr∧∀x∈l.take k,p x.1=false)) (fun _ i _=>n - (intOf i).toNat)
  case atStart=>exact⟨0,by omega,rfl,qh ⟨Keep.refl _ _,by simp⟩⟩
  case round=>
   obtain⟨k,hk,rfl,HH⟩:=hrel
   by_cases h0:k<n
   ·have hki:(k:Int)<(n:Int):=by omega
    obtain⟨ad,s,A2,n2,d2,hA,_,hs,c0,c1,c2,c3,_⟩:=rt_at2 (HR.out.keep HH.out.1 (fun _ h=>h.elim)) h0
    subst hA
    have hcall:=HP.out wr s.1 s.2.2.1 s.2.2.2 A2 n2 d2 HH.out.1
    have Hs:=qh hs
    have htk:Hid (l.take (k+1)=l.take k++[s]):=qh (by
     obtain⟨h2,h3⟩:=List.getElem?_eq_some_iff.1 hs
     rw[List.take_succ_eq_append_getElem h2,h3])
    clear hs
    obtain⟨s1,s4,s2,s3⟩:=s
    simp only at c0 c1 c2 c3 hcall
    cases hps:p s1 with
    | true=>
     rw[hps] at hcall
     have Hps:=qh hps
     clear hps
     go_wp2_with (go_at_fn g;refine hcall.mono ?_;rintro e w' ⟨rfl,hk'⟩)
     go_ret
     exact⟨.inl ⟨k,_,rfl,Hs.out,Hps.out,HH.out.2⟩,HH.out.1.trans hk'⟩
    | false=>
     rw[hps] at hcall
     have Hps:=qh hps
     clear hps
     go_wp2_with (go_at_fn g;refine hcall.mono ?_;rintro e w' ⟨rfl,hk'⟩)
     go_roundw
     case measure=>simp[intOf];try omega
     case rel=>
      refine⟨k+1,by omega,by go_num,qh ⟨HH.out.1.trans hk',fun x hx=>?_⟩⟩
      rw[htk.out] at hx
      rcases List.mem_append.1 hx with hx | hx
      ·exact HH.out.2 x hx
      ·simp at hx;subst hx;exact Hps.out
   ·obtain rfl:k=n:=by omega
    have hki:¬(k:Int)<(k:Int):=by omega
    have HN:Hid (∀x∈l,p x.1=false):=qh (by have:=HH.out.2;rwa [List.take_of_length_le (by have:=HL.out;omega)] at this)
    go_wp2_with fail
    go_ret
    exact⟨.inr ⟨rfl,HN.out⟩,HH.out.1⟩
set_option maxHeartbeats 1000000 in
set_option maxRecDepth 100000 in
theorem cloneT_any (A:Option Addr) (n c B:Nat) (l:List Stp) (w:World) (hr:Rd w B 2 A n (stpCells l)) (hA:A=none→c=0) (hnc:n≤c) (hn:n≤100000000000) (_hB:B≤w.heap.size) :
    Calls Tryz.prog 83 #[.slice A n c] w fun e w'=>∃A' c',e=.returned (.slice A' n c')∧Own w' w.heap.size 30 2 A' n c' (stpCells l)∧Keep Never w w':=by
  have HR:=qh hr
  have HL:=qh hr.stp_len
  clear hr
  have q22:∀(w:World) (a:Option Addr) (n c n' c':Nat),(binOp .eql 35 (.slice a n c) (.slice none n' c')).run Tryz.prog w=.ok (.bool a.isNone) w:=fun w a n c n' c'=>Lib.run_eql_slice_nil w _ _ a n c n' c' Tryz.underlying35
  cases A with
  | none=>
   obtain rfl:=hA rfl
   obtain rfl:n=0:=by omega
   have hl:l=[]:=List.eq_nil_of_length_eq_zero HL.out
   subst hl
   clear hA
   go_enter Tryz.func83, Tryz.ntmps83
   go_wp2_with fail
   go_ret
   exact⟨none,0,rfl,Own.nil _ _ _ _,Keep.refl _ _⟩
  | some ad=>
   clear hA
   have HO:Hid (Own (w.alloc (.cells #[] 30)) w.heap.size 30 2 (some ⟨w.heap.size,0,none⟩) 0 0 []):=qh (by
    have h:=Own.lit w 30 #[] 0 2 (by unfold maxLen;omega) rfl
    simpa using h)
   have HK:Hid (Keep Never w (w.alloc (.cells #[] 30))):=qh ((Keep.refl Never w).alloc _)
   have HR1:=qh (HR.out.keep HK.out (fun _ h=>h.elim))
   have hsz:w.heap.size≤(w.alloc (.cells #[] 30)).heap.size:=by simp
   go_enter Tryz.func83, Tryz.ntmps83
   go_wp2_with (at_builtin;refine wpList_app _ rfl (.tmp 5) (.tmp 6) _ rfl elemStp w.heap.size (n:=0) (c:=0) rfl HO.out B (m:=n) rfl HR1.out (stpCells_one _) (by omega) (by unfold maxLen;omega) hsz ?_;intro A5 c5 w5 hown hk5 hrow)
   go_ret
   refine⟨A5,c5,by simp,by simpa using hown,HK.out.then_ hk5 (fun i hi h=>?_)⟩
   have:=(HO.out.row h).1
   omega
set_option maxHeartbeats 1000000 in
set_option maxRecDepth 100000 in
theorem balF_any (a b c:Int) (id:Int) (g:Nat) (w:World) (h:w.cell? ⟨g,0,none⟩=some (.int .i64 id)):Calls Tryz.prog 115 #[.agg #[.int .i64 a,.int .i64 b,.int .i64 c],.pointer (some ⟨g,0,none⟩)] w fun e w'=>e=.returned (.bool (a==id))∧Keep Never w w':=by
 obtain⟨w1,hw1⟩:∃W:World,w.alloc (.cells #[.int .i64 a,.int .i64 b,.int .i64 c] 94)=W:=⟨_,rfl⟩
 have k1:Keep Never w w1:=by rw[←hw1];exact(Keep.refl _ _).alloc _
 have b1:=Blk.new w 94 #[.int .i64 a,.int .i64 b,.int .i64 c]
 rw[hw1] at b1
 have c0:=b1.cell 0
 have c1:=b1.cell 1
 have d0:=keepT k1 h
 have HK:=qh k1
 clear k1 b1 h
 by_cases e1:a=id
 ·have t1:(a==id)=true:=by simpa using e1
  have HF:=qh t1
  clear e1
  go_enter Tryz.func115, Tryz.ntmps115
  go_wp2_with fail
  go_ret
  exact⟨by rw[HF.out];rfl,HK.out⟩
 ·have t1:(a==id)=false:=by simpa using e1
  have HF:=qh t1
  clear e1
  go_enter Tryz.func115, Tryz.ntmps115
  go_wp2_with fail
  go_ret
  exact⟨by rw[HF.out];rfl,HK.out⟩
set_option maxHeartbeats 1000000 in
set_option maxRecDepth 100000 in
theorem rtF_any (a:Int) (A:Option Addr) (n m:Nat) (b c:Int) (id:Int) (g:Nat) (w:World) (h:w.cell? ⟨g,0,none⟩=some (.int .i64 id)):Calls Tryz.prog 82 #[.agg #[.int .i64 a,.slice A n m,.int .i64 b,.int .i64 c],.pointer (some ⟨g,0,none⟩)] w fun e w'=>e=.returned (.bool (a==id))∧Keep Never w w':=by
 obtain⟨w1,hw1⟩:∃W:World,w.alloc (.cells #[.int .i64 a,.slice A n m,.int .i64 b,.int .i64 c] 64)=W:=⟨_,rfl⟩
 have k1:Keep Never w w1:=by rw[←hw1];exact(Keep.refl _ _).alloc _
 have b1:=Blk.new w 64 #[.int .i64 a,.slice A n m,.int .i64 b,.int .i64 c]
 rw[hw1] at b1
 have c0:=b1.cell 0
 have c1:=b1.cell 1
 have d0:=keepT k1 h
 have HK:=qh k1
 clear k1 b1 h
 by_cases e1:a=id
 ·have t1:(a==id)=true:=by simpa using e1
  have HF:=qh t1
  clear e1
  go_enter Tryz.func82, Tryz.ntmps82
  go_wp2_with fail
  go_ret
  exact⟨by rw[HF.out];rfl,HK.out⟩
 ·have t1:(a==id)=false:=by simpa using e1
  have HF:=qh t1
  clear e1
  go_enter Tryz.func82, Tryz.ntmps82
  go_wp2_with fail
  go_ret
  exact⟨by rw[HF.out];rfl,HK.out⟩
set_option maxHeartbeats 1000000 in
set_option maxRecDepth 100000 in
theorem rdF1_any (a:Int) (r:Bool) (id:Int) (g:Nat) (w:World) (h:w.cell? ⟨g,0,none⟩=some (.int .i64 id)):Calls Tryz.prog 155 #[.agg #[.int .i64 a,.bool r],.pointer (some ⟨g,0,none⟩)] w fun e w'=>e=.returned (.bool (a==id))∧Keep Never w w':=by
 obtain⟨w1,hw1⟩:∃W:World,w.alloc (.cells #[.int .i64 a,.bool r] 30)=W:=⟨_,rfl⟩
 have k1:Keep Never w w1:=by rw[←hw1];exact(Keep.refl _ _).alloc _
 have b1:=Blk.new w 30 #[.int .i64 a,.bool r]
 rw[hw1] at b1
 have c0:=b1.cell 0
 have c1:=b1.cell 1
 have d0:=keepT k1 h
 have HK:=qh k1
 clear k1 b1 h
 by_cases e1:a=id
 ·have t1:(a==id)=true:=by simpa using e1
  have HF:=qh t1
  clear e1
  go_enter Tryz.func155, Tryz.ntmps155
  go_wp2_with fail
  go_ret
  exact⟨by rw[HF.out];rfl,HK.out⟩
 ·have t1:(a==id)=false:=by simpa using e1
  have HF:=qh t1
  clear e1
  go_enter Tryz.func155, Tryz.ntmps155
  go_wp2_with fail
  go_ret
  exact⟨by rw[HF.out];rfl,HK.out⟩
set_option maxHeartbeats 1000000 in
set_option maxRecDepth 100000 in
theorem rdF2_any (a b c:Int) (id:Int) (g:Nat) (w:World) (h:w.cell? ⟨g,0,none⟩=some (.int .i64 id)):Calls Tryz.prog 157 #[.agg #[.int .i64 a,.int .i64 b,.int .i64 c],.pointer (some ⟨g,0,none⟩)] w fun e w'=>e=.returned (.bool (b==id))∧Keep Never w w':=by
 obtain⟨w1,hw1⟩:∃W:World,w.alloc (.cells #[.int .i64 a,.int .i64 b,.int .i64 c] 94)=W:=⟨_,rfl⟩
 have k1:Keep Never w w1:=by rw[←hw1];exact(Keep.refl _ _).alloc _
 have b1:=Blk.new w 94 #[.int .i64 a,.int .i64 b,.int .i64 c]
 rw[hw1] at b1
 have c0:=b1.cell 0
 have c1:=b1.cell 1
 have d0:=keepT k1 h
 have HK:=qh k1
 clear k1 b1 h
 by_cases e1:b=id
 ·have t1:(b==id)=true:=by simpa using e1
  have HF:=qh t1
  clear e1
  go_enter Tryz.func157, Tryz.ntmps157
  go_wp2_with fail
  go_ret
  exact⟨by rw[HF.out];rfl,HK.out⟩
 ·have t1:(b==id)=false:=by simpa using e1
  have HF:=qh t1
  clear e1
  go_enter Tryz.func157, Tryz.ntmps157
  go_wp2_with fail
  go_ret
  exact⟨by rw[HF.out];rfl,HK.out⟩
end Go.Proofs.YtpapiojicbbheaaGreatDoor

namespace Go.Proofs.YtpapiojicbbheaaGreatDoor
open Go.RowKit
def balM (l:List Bl) (id:Int):Option Bl:=l.find? fun b=>b.1==id
def rtM (l:List Rt) (id:Int):Option Rt:=l.find? fun r=>r.1==id
theorem find_idx {α:Type}{p:α→Bool}:∀{l:List α}{i:Nat}{s:α},l[i]?=some s→p s=true→(∀x∈l.take i,p x=false)→l.find? p=some s
  | [],i,s,h,_,_=>by simp at h
  | y::l,0,s,h,hp,_=>by simp at h;subst h;simp[hp]
  | y::l,i+1,s,h,hp,ha=>by
   have h1:=ha y (by simp)
   rw[List.find?_cons,h1]
   exact find_idx (by simpa using h) hp (fun x hx=>ha x (by simp[hx]))
theorem find_no {α:Type}{p:α→Bool}{l:List α} (h:∀x∈l,p x=false):l.find? p=none:=by
 rw[List.find?_eq_none];intro x hx;rw[h x hx];simp
def BalRet (o:Option Bl) (w:World) (e:Ending) (w':World):Prop:=
  e=.returned (.tuple #[.agg #[.int .i64 (o.getD (0,0,0)).1,.int .i64 (o.getD (0,0,0)).2.1,.int .i64 (o.getD (0,0,0)).2.2],.bool o.isSome])∧Keep Never w w'
set_option maxRecDepth 100000 in
theorem bal_results {w:World}{b:Nat}{v0 v1 v2:Value} (hb:Blk w b 94 #[v0,v1,v2]) (tmps:Array Value) (ht:tmps.getD 4 undef=.pointer (some ⟨b,0,none⟩)) :
    (results Tryz.f55 tmps).run Tryz.prog w=.ok (.tuple #[.agg #[v0,v1,v2],tmps.getD 5 undef]) w:=by
  have q0:w.cell? ⟨b,0,none⟩=some v0:=hb.cell 0
  have q1:w.cell? ⟨b,1,none⟩=some v1:=hb.cell 1
  have q2:w.cell? ⟨b,2,none⟩=some v2:=hb.cell 2
  have ht':tmps[4]?.getD undef=.pointer (some ⟨b,0,none⟩):=by rw[←Array.getD_eq_getD_getElem?];exact ht
  simp[results,ht',go_sem,q0,q1,q2]
theorem put3_blk {w:World}{b t:Nat}{u0 u1 u2:Value} (h:Blk w b t #[u0,u1,u2]) (v0 v1 v2:Value):Blk (((w.setCell ⟨b,0,none⟩ v0).setCell ⟨b,1,none⟩ v1).setCell ⟨b,2,none⟩ v2) b t #[v0,v1,v2]:=by
 have:=((h.set_ 0 v0).set_ 1 v1).set_ 2 v2
 simpa using this
theorem put3_keep {w0 w:World}{b:Nat} (h:Keep Never w0 w) (hb:w0.heap.size≤b) (v0 v1 v2:Value):Keep Never w0 (((w.setCell ⟨b,0,none⟩ v0).setCell ⟨b,1,none⟩ v1).setCell ⟨b,2,none⟩ v2):=
  ((h.set_ (p:=⟨b,0,none⟩) (.inr hb) v0).set_ (p:=⟨b,1,none⟩) (.inr hb) v1).set_ (p:=⟨b,2,none⟩) (.inr hb) v2
set_option maxHeartbeats 4000000 in
set_option maxRecDepth 100000 in
theorem bal_any (x:TA) (t:Tp) (B:Nat) (id:Int) (w:World) (ht:TpAt w B x t) (hn:x.nb≤100000000) :
    Calls Tryz.prog 55 #[.agg x.cs,.int .i64 id] w (BalRet (balM t.2.2.1 id) w):=by
  have HR:=qh (bl_rd ht.b)
  obtain⟨Ae,ne,ce,Aj,nj,cj,Ab,nb,cb,Ar,nr,cr⟩:=x
  simp only[TA.cs] at HR hn ⊢
  obtain⟨w1,hw1⟩:∃W:World,w.alloc (.cells #[.slice Ae ne ce,.slice Aj nj cj,.slice Ab nb cb,.slice Ar nr cr] 27)=W:=⟨_,rfl⟩
  obtain⟨w2,hw2⟩:∃W:World,w1.alloc (.cells #[.int .i64 id] 3)=W:=⟨_,rfl⟩
  obtain⟨w3,hw3⟩:∃W:World,w2.alloc (.cells #[.int .i64 0,.int .i64 0,.int .i64 0] 94)=W:=⟨_,rfl⟩
  have z1:w1.heap.size=w.heap.size+1:=by rw[←hw1];simp
  have z2:w2.heap.size=w.heap.size+1+1:=by rw[←hw2,←z1];simp
  have k1:Keep Never w w1:=by rw[←hw1];exact(Keep.refl _ _).alloc _
  have k2:Keep Never w1 w2:=by rw[←hw2];exact(Keep.refl _ _).alloc _
  have k3:Keep Never w2 w3:=by rw[←hw3];exact(Keep.refl _ _).alloc _
  have b1:=Blk.new w 27 #[.slice Ae ne ce,.slice Aj nj cj,.slice Ab nb cb,.slice Ar nr cr]
  rw[hw1] at b1
  have b2:=Blk.new w1 3 #[.int .i64 id]
  rw[hw2,z1] at b2
  have b3:=Blk.new w2 94 #[.int .i64 0,.int .i64 0,.int .i64 0]
  rw[hw3,z2] at b3
  have HB1:=qh ((b1.keep k2 (fun h=>h)).keep k3 (fun h=>h))
  have HB3:=qh b3
  have HK:=qh ((k1.trans k2).trans k3)
  have y2:w3.cell? ⟨w.heap.size,2,none⟩=some (.slice Ab nb cb):=HB1.out.cell 2
  have v0:w3.cell? ⟨w.heap.size+1,0,none⟩=some (.int .i64 id):=(b2.keep k3 (fun h=>h)).cell 0
  have HC:=qh (indexfb_any 115 #[.pointer (some ⟨w.heap.size+1,0,none⟩)] (fun s=>s.1==id) (enters_of Tryz.func115 (by kernel_rfl) rfl) Ab nb cb B t.2.2.1 w3 (HR.out.keep HK.out (fun _ h=>h.elim)) (fun W s hk=>balF_any s.1 s.2.1 s.2.2 id _ W (keepT hk v0)) (by omega))
  clear k1 k2 k3 b1 b2 b3 ht v0
  go_enter Tryz.func55, Tryz.ntmps55
  go_wp2_with fail
  refine HC.out.mono ?_
  rintro e w4 ⟨⟨i,s,rfl,h1,h2,h3⟩ | ⟨rfl,h1⟩,hk4⟩
  ·have HM:Hid (balM t.2.2.1 id=some s):=qh (find_idx h1 h2 h3)
   have HK4:=qtr HK hk4
   have hin:i<nb:=by have:=HR.out.sp_len;have:=(List.getElem?_eq_some_iff.1 h1).1;omega
   have hiz:(i:Int)<(nb:Int):=by omega
   have hi0:¬(i:Int)<0:=by omega
   obtain⟨ad,s',hA,_,hs,c0,c1,c2⟩:=(HR.out.keep HK4.out (fun _ h=>h.elim)).sp hin
   subst hA
   rw[h1] at hs
   injection hs with hs
   subst hs
   have hb1:=HB1.out.keep hk4 (fun h=>h)
   have y2:w4.cell? ⟨w.heap.size,2,none⟩=some (.slice (some ad) nb cb):=hb1.cell 2
   have HB4:=qkb HB3 hk4
   have f0:=HB4.out.frozen 0
   have f1:=HB4.out.frozen 1
   have f2:=HB4.out.frozen 2
   obtain⟨g0,g1,g2⟩:=bc3 HB4.out
   obtain⟨s1,s2,s3⟩:=s
   simp only at c0 c1 c2
   have HBz:=qh (put3_blk HB4.out (.int .i64 s1) (.int .i64 s2) (.int .i64 s3))
   have HKz:=qh (put3_keep HK4.out (show w.heap.size≤w.heap.size+1+1 by omega) (.int .i64 s1) (.int .i64 s2) (.int .i64 s3))
   clear h1 h2 h3 hk4 hb1 HC
   go_wp2_with fail
   (try simp only[Exit.inBlock,Exit.then])
   refine bodyPost_ret (bal_results HBz.out _ rfl) rfl ⟨by rw[HM.out];rfl,HKz.out⟩
  ·have HM:Hid (balM t.2.2.1 id=none):=qh (find_no h1)
   have HK4:=qtr HK hk4
   have HB4:=qkb HB3 hk4
   have f0:=HB4.out.frozen 0
   have f1:=HB4.out.frozen 1
   have f2:=HB4.out.frozen 2
   obtain⟨g0,g1,g2⟩:=bc3 HB4.out
   have HBz:=qh (put3_blk HB4.out (.int .i64 0) (.int .i64 0) (.int .i64 0))
   have HKz:=qh (put3_keep HK4.out (show w.heap.size≤w.heap.size+1+1 by omega) (.int .i64 0) (.int .i64 0) (.int .i64 0))
   clear h1 hk4 HC y2
   go_wp2_with fail
   (try simp only[Exit.inBlock,Exit.then])
   refine bodyPost_ret (bal_results HBz.out _ rfl) rfl ⟨by rw[HM.out];rfl,HKz.out⟩
def RtRet (o:Option Rt) (w:World) (e:Ending) (w':World):Prop:=
  ∃A n c,e=.returned (.tuple #[.agg #[.int .i64 (o.getD (0,[],0,0)).1,.slice A n c,.int .i64 (o.getD (0,[],0,0)).2.2.1,.int .i64 (o.getD (0,[],0,0)).2.2.2],.bool o.isSome])∧repStp.Sl w' w'.heap.size A n c (o.getD (0,[],0,0)).2.1∧Keep Never w w'
set_option maxRecDepth 100000 in
theorem rt_results {w:World}{b:Nat}{v0 v1 v2 v3:Value} (hb:Blk w b 64 #[v0,v1,v2,v3]) (tmps:Array Value) (ht:tmps.getD 4 undef=.pointer (some ⟨b,0,none⟩)) :
    (results Tryz.f28 tmps).run Tryz.prog w=.ok (.tuple #[.agg #[v0,v1,v2,v3],tmps.getD 5 undef]) w:=by
  have q0:w.cell? ⟨b,0,none⟩=some v0:=hb.cell 0
  have q1:w.cell? ⟨b,1,none⟩=some v1:=hb.cell 1
  have q2:w.cell? ⟨b,2,none⟩=some v2:=hb.cell 2
  have q3:w.cell? ⟨b,3,none⟩=some v3:=hb.cell 3
  have ht':tmps[4]?.getD undef=.pointer (some ⟨b,0,none⟩):=by rw[←Array.getD_eq_getD_getElem?];exact ht
  simp[results,ht',go_sem,q0,q1,q2,q3]
theorem put4_blk {w:World}{b t:Nat}{u0 u1 u2 u3:Value} (h:Blk w b t #[u0,u1,u2,u3]) (v0 v1 v2 v3:Value):Blk ((((w.setCell ⟨b,0,none⟩ v0).setCell ⟨b,1,none⟩ v1).setCell ⟨b,2,none⟩ v2).setCell ⟨b,3,none⟩ v3) b t #[v0,v1,v2,v3]:=by
 have:=(((h.set_ 0 v0).set_ 1 v1).set_ 2 v2).set_ 3 v3
 simpa using this
theorem put4_keep {S:Nat→Prop}{w0 w:World}{b:Nat} (h:Keep S w0 w) (hb:S b∨w0.heap.size≤b) (v0 v1 v2 v3:Value):Keep S w0 ((((w.setCell ⟨b,0,none⟩ v0).setCell ⟨b,1,none⟩ v1).setCell ⟨b,2,none⟩ v2).setCell ⟨b,3,none⟩ v3):=
  (((h.set_ (p:=⟨b,0,none⟩) hb v0).set_ (p:=⟨b,1,none⟩) hb v1).set_ (p:=⟨b,2,none⟩) hb v2).set_ (p:=⟨b,3,none⟩) hb v3
set_option maxHeartbeats 4000000 in
set_option maxRecDepth 100000 in
theorem route_any (x:TA) (t:Tp) (B:Nat) (id:Int) (w:World) (ht:TpAt w B x t) (hn:x.nr≤100000000) (hp:∀r∈t.2.2.2,r.2.1.length≤100000000) (hB:B≤w.heap.size) :
    Calls Tryz.prog 28 #[.agg x.cs,.int .i64 id] w (RtRet (rtM t.2.2.2 id) w):=by
  have HR:=qh ht.r
  obtain⟨Ae,ne,ce,Aj,nj,cj,Ab,nb,cb,Ar,nr,cr⟩:=x
  simp only[TA.cs] at HR hn ⊢
  obtain⟨w1,hw1⟩:∃W:World,w.alloc (.cells #[.slice Ae ne ce,.slice Aj nj cj,.slice Ab nb cb,.slice Ar nr cr] 27)=W:=⟨_,rfl⟩
  obtain⟨w2,hw2⟩:∃W:World,w1.alloc (.cells #[.int .i64 id] 3)=W:=⟨_,rfl⟩
  obtain⟨w3,hw3⟩:∃W:World,w2.alloc (.cells #[.int .i64 0,.slice none 0 0,.int .i64 0,.int .i64 0] 64)=W:=⟨_,rfl⟩
  have z1:w1.heap.size=w.heap.size+1:=by rw[←hw1];simp
  have z2:w2.heap.size=w.heap.size+1+1:=by rw[←hw2,←z1];simp
  have k1:Keep Never w w1:=by rw[←hw1];exact(Keep.refl _ _).alloc _
  have k2:Keep Never w1 w2:=by rw[←hw2];exact(Keep.refl _ _).alloc _
  have k3:Keep Never w2 w3:=by rw[←hw3];exact(Keep.refl _ _).alloc _
  have b1:=Blk.new w 27 #[.slice Ae ne ce,.slice Aj nj cj,.slice Ab nb cb,.slice Ar nr cr]
  rw[hw1] at b1
  have b2:=Blk.new w1 3 #[.int .i64 id]
  rw[hw2,z1] at b2
  have b3:=Blk.new w2 64 #[.int .i64 0,.slice none 0 0,.int .i64 0,.int .i64 0]
  rw[hw3,z2] at b3
  have HB1:=qh ((b1.keep k2 (fun h=>h)).keep k3 (fun h=>h))
  have HB3:=qh b3
  have HK:=qh ((k1.trans k2).trans k3)
  have HZ:=qh b3.lt
  have y2:w3.cell? ⟨w.heap.size,3,none⟩=some (.slice Ar nr cr):=HB1.out.cell 3
  have v0:w3.cell? ⟨w.heap.size+1,0,none⟩=some (.int .i64 id):=(b2.keep k3 (fun h=>h)).cell 0
  have HC:=qh (indexfr_any 82 #[.pointer (some ⟨w.heap.size+1,0,none⟩)] (fun i=>i==id) (enters_of Tryz.func82 (by kernel_rfl) rfl) Ar nr cr B t.2.2.2 w3 (HR.out.keep HK.out (fun _ h=>h.elim)) (fun W i a b A n c hk=>rtF_any i A n c a b id _ W (keepT hk v0)) (by omega))
  clear k1 k2 k3 b1 b2 b3 ht v0
  go_enter Tryz.func28, Tryz.ntmps28
  go_wp2_with fail
  refine HC.out.mono ?_
  rintro e w4 ⟨⟨i,s,rfl,h1,h2,h3⟩ | ⟨rfl,h1⟩,hk4⟩
  ·have HM:Hid (rtM t.2.2.2 id=some s):=qh (find_idx h1 h2 h3)
   have HK4:=qtr HK hk4
   have hin:i<nr:=by have:=HR.out.len;have:=(List.getElem?_eq_some_iff.1 h1).1;omega
   have hiz:(i:Int)<(nr:Int):=by omega
   have hi0:¬(i:Int)<0:=by omega
   have hps:=hp s (List.mem_of_getElem? h1)
   obtain⟨ad,s',A2,n2,d2,hA,_,hs,c0,c1,c2,c3,hsl⟩:=rt_at2 (HR.out.keep HK4.out (fun _ h=>h.elim)) hin
   subst hA
   rw[h1] at hs
   injection hs with hs
   subst hs
   have hb1:=HB1.out.keep hk4 (fun h=>h)
   have y2:w4.cell? ⟨w.heap.size,3,none⟩=some (.slice (some ad) nr cr):=hb1.cell 3
   have HB4:=qkb HB3 hk4
   obtain⟨s1,p,s2,s3⟩:=s
   simp only at c0 c1 c2 c3 hsl hps
   obtain⟨W1,hW1⟩:∃W:World,w4.alloc (.cells #[.int .i64 s1,.slice A2 n2 d2,.int .i64 s2,.int .i64 s3] 64)=W:=⟨_,rfl⟩
   have K1:Keep Never w4 W1:=by rw[←hW1];exact(Keep.refl _ _).alloc _
   have B1:=Blk.new w4 64 #[.int .i64 s1,.slice A2 n2 d2,.int .i64 s2,.int .i64 s3]
   rw[hW1] at B1
   have HB5:=qh B1
   have d1:W1.cell? ⟨w4.heap.size,1,none⟩=some (.slice A2 n2 d2):=B1.cell 1
   obtain⟨r1,r2,r3,r4,r5,r6⟩:=stps_rd (hsl.keep K1 (fun _ h=>h.elim))
   have HCl:=qh (cloneT_any A2 n2 d2 B p W1 r1 r5 r3 (by omega) (Nat.le_trans (Nat.le_trans hB HK4.out.size) K1.size))
   have HI6:=qh r6
   have HKW:=qtr HK4 K1
   have HBW:=qkb HB4 K1
   have HZ4:Hid (w.heap.size+1+1<w4.heap.size):=qh (Nat.lt_of_lt_of_le HZ.out hk4.size)
   clear h1 h2 h3 hk4 hb1 HC K1 B1 hsl r1 r2 r3 r4 r5 r6 HB1 HB3
   go_wp2_with fail
   refine HCl.out.mono ?_
   rintro e w5 ⟨A3,d3,rfl,ho5,hk5⟩
   have hb5:=HB5.out.keep hk5 (fun h=>h)
   have HBr:=qkb HBW hk5
   obtain⟨e0,e1,e2,e3⟩:=bc4 hb5
   have f0:=hb5.frozen 0
   have f1:=hb5.frozen 1
   have f2:=hb5.frozen 2
   have f3:=hb5.frozen 3
   obtain⟨g0,g1,g2,g3⟩:=bc4 HBr.out
   have h0:=HBr.out.frozen 0
   have h1:=HBr.out.frozen 1
   have h2:=HBr.out.frozen 2
   have h3:=HBr.out.frozen 3
   have hne:w.heap.size+1+1≠w4.heap.size:=by have:=HZ4.out;omega
   have hset:Keep (fun k=>k=w4.heap.size) w5 (w5.setCell ⟨w4.heap.size,1,none⟩ (.slice A3 n2 d3)):=(Keep.refl (fun k=>k=w4.heap.size) w5).set_ (p:=⟨w4.heap.size,1,none⟩) (.inl rfl) _
   have HBs:=qh (HBr.out.keep hset hne)
   have HKs:Hid (Keep Never w (w5.setCell ⟨w4.heap.size,1,none⟩ (.slice A3 n2 d3))):=qh ((HKW.out.trans hk5).set_ (p:=⟨w4.heap.size,1,none⟩) (.inr HK4.out.size) _)
   have hrow:∀q,InRow A3 q→W1.heap.size≤q:=fun q h=>(ho5.row h).1
   have HW1:Hid (w4.heap.size<W1.heap.size):=qh HB5.out.lt
   have hos:=ho5.keep hset (fun q h e=>by have:=hrow q h;have:=HW1.out;omega)
   have hput:Keep (fun k=>k=w.heap.size+1+1) (w5.setCell ⟨w4.heap.size,1,none⟩ (.slice A3 n2 d3)) (((((w5.setCell ⟨w4.heap.size,1,none⟩ (.slice A3 n2 d3)).setCell ⟨w.heap.size+1+1,0,none⟩ (.int .i64 s1)).setCell ⟨w.heap.size+1+1,1,none⟩ (.slice A3 n2 d3)).setCell ⟨w.heap.size+1+1,2,none⟩ (.int .i64 s2)).setCell ⟨w.heap.size+1+1,3,none⟩ (.int .i64 s3)):=put4_keep (Keep.refl (fun k=>k=w.heap.size+1+1) _) (.inl rfl) _ _ _ _
   have HOz:=qh (stps_own (hos.keep hput (fun q h e=>by have:=hrow q h;have:=HZ4.out;have:=HW1.out;omega)) HI6.out)
   have HBz:=qh (put4_blk HBs.out (.int .i64 s1) (.slice A3 n2 d3) (.int .i64 s2) (.int .i64 s3))
   have HKz:=qh (put4_keep HKs.out (.inr (show w.heap.size≤w.heap.size+1+1 by omega)) (.int .i64 s1) (.slice A3 n2 d3) (.int .i64 s2) (.int .i64 s3))
   clear hb5 ho5 hk5 HCl hset hrow hos hput
   go_wp2_with fail
   (try simp only[Exit.inBlock,Exit.then])
   refine bodyPost_ret (rt_results HBz.out _ rfl) rfl ⟨A3,n2,d3,by rw[HM.out];rfl,by rw[HM.out];exact HOz.out,HKz.out⟩
  ·have HM:Hid (rtM t.2.2.2 id=none):=qh (find_no h1)
   have HK4:=qtr HK hk4
   have HB4:=qkb HB3 hk4
   have f0:=HB4.out.frozen 0
   have f1:=HB4.out.frozen 1
   have f2:=HB4.out.frozen 2
   have f3:=HB4.out.frozen 3
   obtain⟨g0,g1,g2,g3⟩:=bc4 HB4.out
   have HBz:=qh (put4_blk HB4.out (.int .i64 0) (.slice none 0 0) (.int .i64 0) (.int .i64 0))
   have HKz:=qh (put4_keep HK4.out (.inr (show w.heap.size≤w.heap.size+1+1 by omega)) (.int .i64 0) (.slice none 0 0) (.int .i64 0) (.int .i64 0))
   clear h1 hk4 HC y2
   go_wp2_with fail
   (try simp only[Exit.inBlock,Exit.then])
   refine bodyPost_ret (rt_results HBz.out _ rfl) rfl ⟨none,0,0,by rw[HM.out];rfl,by rw[HM.out];exact Rep.Sl.nil _ _ _,HKz.out⟩
end Go.Proofs.YtpapiojicbbheaaGreatDoor
