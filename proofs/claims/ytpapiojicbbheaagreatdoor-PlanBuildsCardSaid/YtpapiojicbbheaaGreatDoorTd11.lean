/- Texts of this claim, together: PmJ, PmBu. -/
import Derived.Test.YtpapiojicbbheaaGreatDoorTd08
import Derived.Test.YtpapiojicbbheaaGreatDoorTd10
import Derived.Test.YtpapiojicbbheaaGreatDoorTd09
import Derived.Test.YtpapiojicbbheaaGreatDoorTd07
import Derived.Test.YtpapiojicbbheaaGreatDoorTd04
import Derived.WalkMore
import Derived.Test.YtpapiojicbbheaaGreatDoorTd03
import Derived.Test.YtpapiojicbbheaaGreatDoorTd06
namespace Go.Proofs.YtpapiojicbbheaaGreatDoor
open Go.RowKit
set_option maxRecDepth 100000 in
theorem elemInt17:Elem Tryz.prog 22 3 1 8:=⟨Tryz.underlying22, _,_,rfl,rfl,rfl,rfl,rfl,by omega⟩
def intCells (v:List Int):List Value:=v.map (.int .i64)
theorem intCells_app (v w:List Int):intCells (v++w)=intCells v++intCells w:=by unfold intCells;simp
theorem and14 (x:Int) (h0:0≤x) (h1:x≤9223372036854775807):bits .and .i64 x 16383=x % 16384:=by
 have:=bits_mask .i64 63 (by decide) wraps_i64 14 (by decide) x h0 (by omega)
 simpa using this
def linkV (t:Tp) (u:Int) (n k:Nat) (begin at_:Int) (l:List Stp) (v:List Int):Except Int (List Int):=match linkN t u n k begin at_ l with
  | .error e=>.error e
  | .ok w=>.ok (v++w)
def midN (k:Nat) (n:Nat):List Int:=if k=2 then [(n:Int) - 2] else []
def grpN (q:Int) (b1:Int) (r:Bool):List Int:=[q,1,b1 / 16384,b1 % 16384,nomI r,2,12]
theorem linkV_none {t:Tp}{u:Int}{n k:Nat}{begin at_:Int}{s:Stp}{l:List Stp}{v:List Int} (h:firstB t s.1=none):linkV t u n k begin at_ (s::l) v=.error 1:=by
 unfold linkV linkN;rw[h]
theorem linkV_bad {t:Tp}{u:Int}{n k:Nat}{begin at_:Int}{s:Stp}{l:List Stp}{v:List Int}{b:Bl} (h:firstB t s.1=some b) (he:(scaledM (begin+alongP t (b.2.1,b.2.2,s.2) - at_) u false).2≠0):linkV t u n k begin at_ (s::l) v=.error (scaledM (begin+alongP t (b.2.1,b.2.2,s.2) - at_) u false).2:=by
 unfold linkV linkN;rw[h];simp only;rw[if_pos he]
theorem linkV_cons {t:Tp}{u:Int}{n k:Nat}{begin at_:Int}{s:Stp}{l:List Stp}{v:List Int}{b:Bl} (h:firstB t s.1=some b) (he:(scaledM (begin+alongP t (b.2.1,b.2.2,s.2) - at_) u false).2=0):linkV t u n k begin at_ (s::l) v=linkV t u n (k+1) (begin+edgeM t s.1) (begin+alongP t (b.2.1,b.2.2,s.2)) l (v++midN k n++grpN (scaledM (begin+alongP t (b.2.1,b.2.2,s.2) - at_) u false).1 b.1 s.2):=by
 conv=>lhs;unfold linkV linkN
 rw[h];simp only;rw[if_neg (by rw[he];simp)]
 unfold linkV midN grpN
 cases linkN t u n (k+1) (begin+edgeM t s.1) (begin+alongP t (b.2.1,b.2.2,s.2)) l with
 | error e=>rfl
 | ok w=>simp only[List.append_assoc]
structure LkJ (t:Tp) (u:Int) (path:List Stp) (at0:Int) (v0:List Int) (res:Except Int (List Int)) (k:Nat) (begin at_:Int) (v:List Int):Prop where
  fst:k=0→begin=0∧at_=at0∧v=v0
  nxt:1≤k→res=linkV t u path.length k begin at_ (path.drop k) v
  bnd:0≤begin∧begin≤k*1000000∧0≤at_∧at_≤k*1000000+1000000
  len:v.length≤2+8*k
theorem LkJ.step0 {t:Tp}{u:Int}{path:List Stp}{at0:Int}{v0:List Int}{begin at_:Int}{v:List Int}{s:Stp} (h:LkJ t u path at0 v0 (linkV t u path.length 1 (edgeM t (path.headD (0,false)).1) at0 (path.drop 1) v0) 0 begin at_ v) (hs:path[0]?=some s) (he:0≤edgeM t s.1∧edgeM t s.1≤1000000) :
    LkJ t u path at0 v0 (linkV t u path.length 1 (edgeM t (path.headD (0,false)).1) at0 (path.drop 1) v0) 1 (begin+edgeM t s.1) at_ v:=by
  obtain⟨rfl,rfl,rfl⟩:=h.fst rfl
  have hh:path.headD (0,false)=s:=by cases path with | nil=>cases hs | cons x l=>simpa using hs
  have hb:=h.bnd
  have hl:=h.len
  exact⟨fun h=>by omega,fun _=>by rw[hh];simp,by omega,by omega⟩
theorem LkJ.step {t:Tp}{u:Int}{path:List Stp}{at0:Int}{v0:List Int}{res:Except Int (List Int)}{k:Nat}{begin at_:Int}{v:List Int}{s:Stp}{b:Bl} (h:LkJ t u path at0 v0 res k begin at_ v) (h1:1≤k) (hs:path[k]?=some s) (he:0≤edgeM t s.1∧edgeM t s.1≤1000000) (hb:firstB t s.1=some b) (ha:0≤alongP t (b.2.1,b.2.2,s.2)∧alongP t (b.2.1,b.2.2,s.2)≤1000000)
    (h0:(scaledM (begin+alongP t (b.2.1,b.2.2,s.2) - at_) u false).2=0) :
    LkJ t u path at0 v0 res (k+1) (begin+edgeM t s.1) (begin+alongP t (b.2.1,b.2.2,s.2)) (v++midN k path.length++grpN (scaledM (begin+alongP t (b.2.1,b.2.2,s.2) - at_) u false).1 b.1 s.2):=by
  obtain⟨q1,q2⟩:=List.getElem?_eq_some_iff.1 hs
  have hd:path.drop k=s::path.drop (k+1):=by rw[List.drop_eq_getElem_cons q1,q2]
  have hbd:=h.bnd
  have hl:=h.len
  refine⟨fun h=>by omega,fun _=>by rw[h.nxt h1,hd,linkV_cons hb h0],by omega,?_⟩
  have:(midN k path.length).length≤1:=by unfold midN;split <;> simp
  simp only[List.length_append,grpN,List.length_cons,List.length_nil];omega
theorem LkJ.none {t:Tp}{u:Int}{path:List Stp}{at0:Int}{v0:List Int}{res:Except Int (List Int)}{k:Nat}{begin at_:Int}{v:List Int}{s:Stp} (h:LkJ t u path at0 v0 res k begin at_ v) (h1:1≤k) (hs:path[k]?=some s) (hb:firstB t s.1=none):res=.error 1:=by
 obtain⟨q1,q2⟩:=List.getElem?_eq_some_iff.1 hs
 have hd:path.drop k=s::path.drop (k+1):=by rw[List.drop_eq_getElem_cons q1,q2]
 rw[h.nxt h1,hd,linkV_none hb]
theorem LkJ.bad {t:Tp}{u:Int}{path:List Stp}{at0:Int}{v0:List Int}{res:Except Int (List Int)}{k:Nat}{begin at_:Int}{v:List Int}{s:Stp}{b:Bl} (h:LkJ t u path at0 v0 res k begin at_ v) (h1:1≤k) (hs:path[k]?=some s) (hb:firstB t s.1=some b) (h0:(scaledM (begin+alongP t (b.2.1,b.2.2,s.2) - at_) u false).2≠0):res=.error (scaledM (begin+alongP t (b.2.1,b.2.2,s.2) - at_) u false).2:=by
 obtain⟨q1,q2⟩:=List.getElem?_eq_some_iff.1 hs
 have hd:path.drop k=s::path.drop (k+1):=by rw[List.drop_eq_getElem_cons q1,q2]
 rw[h.nxt h1,hd,linkV_bad hb h0]
theorem LkJ.fin {t:Tp}{u:Int}{path:List Stp}{at0:Int}{v0:List Int}{res:Except Int (List Int)}{begin at_:Int}{v:List Int} (h:LkJ t u path at0 v0 res path.length begin at_ v) (hp:1≤path.length):res=.ok v:=by
 rw[h.nxt hp,List.drop_length]
 unfold linkV linkN;simp
def farP17 (t:Tp) (ref:Int) (rv:Bool):Int:=match balM t.2.2.1 ref with
  | none=>0
  | some b=>alongP t (b.2.1,b.2.2,rv)
def linkP (path:List Stp) (_rv:Bool) (_u:Int) (res:Except Int (List Int)):Except Int Pk:=match res with
  | .error e=>.error e
  | .ok v=>.ok (5,v++(if path.length=2 then [0] else []))
def linksM (t:Tp) (ref:Int) (rv:Bool) (path:List Stp) (u:Int):Except Int Pk:=linkP path rv u (linkV t u path.length 1 (edgeM t (path.headD (0,false)).1) (farP17 t ref rv) (path.drop 1) [nomI rv,u])
def PkRet (r:Except Int Pk) (w:World) (e:Ending) (w':World):Prop:=
  Keep Never w w'∧match r with
    | .ok q=>∃A n c,e=.returned (.tuple #[.agg #[.int .i64 q.1,.slice A n c],.int .i64 0])∧n=q.2.length∧Own w' w.heap.size 3 1 A n c (intCells q.2)
    | .error x=>x≠0∧e=.returned (.tuple #[.agg #[.int .i64 0,.slice none 0 0],.int .i64 x])
set_option maxRecDepth 100000 in
theorem pk_results {w:World}{b:Nat}{v0 v1:Value} (hb:Blk w b 105 #[v0,v1]) (tmps:Array Value) (ht:tmps.getD 6 undef=.pointer (some ⟨b,0,none⟩)) :
    (results Tryz.f79 tmps).run Tryz.prog w=.ok (.tuple #[.agg #[v0,v1],tmps.getD 7 undef]) w:=by
  have q0:w.cell? ⟨b,0,none⟩=some v0:=hb.cell 0
  have q1:w.cell? ⟨b,1,none⟩=some v1:=hb.cell 1
  have ht':tmps[6]?.getD undef=.pointer (some ⟨b,0,none⟩):=by rw[←Array.getD_eq_getD_getElem?];exact ht
  simp[results,ht',go_sem,q0,q1]
abbrev put2 (w:World) (b:Nat) (v0 v1:Value):World:=(w.setCell ⟨b,0,none⟩ v0).setCell ⟨b,1,none⟩ v1
theorem put2_blk17 {w:World}{b t:Nat}{u0 u1:Value} (h:Blk w b t #[u0,u1]) (v0 v1:Value):Blk (put2 w b v0 v1) b t #[v0,v1]:=by
 have:=(h.set_ 0 v0).set_ 1 v1
 simpa using this
theorem put2_own17 {S:Nat→Prop}{w0 w:World}{b:Nat} (h:Keep S w0 w) (hb:S b∨w0.heap.size≤b) (v0 v1:Value):Keep S w0 (put2 w b v0 v1):=
  (h.set_ (p:=⟨b,0,none⟩) hb v0).set_ (p:=⟨b,1,none⟩) hb v1
theorem there_edge {t:Tp} (h:checkM t=0) {e:Int} (ht:thereB t.1.length e=true):0≤e∧e<(t.1.length:Int)∧1≤edgeM t e∧edgeM t e≤1000000:=by
 unfold thereB at ht
 rw[Bool.and_eq_true,decide_eq_true_eq,decide_eq_true_eq] at ht
 refine⟨ht.1,ht.2,?_⟩
 unfold edgeM
 have h1:e.toNat<t.1.length:=by omega
 have h2:=check_edges h (t.1.getD e.toNat 0) (by rw[List.getD_eq_getElem?_getD,List.getElem?_eq_getElem h1];exact List.getElem_mem h1)
 exact h2
set_option maxHeartbeats 8000000 in
set_option maxRecDepth 100000 in
theorem links_any (x:TA) (t:Tp) (B:Nat) (ref:Int) (rv:Bool) (path:List Stp) (S:List Sc) (g u:Int) (z:Int×Int) (Ap:Option Addr) (np cp:Nat) (As:Option Addr) (ns cs:Nat) (w:World) (h:TpAt w B x t) (hs:TpSmall x t) (hB:B≤w.heap.size) (hp:repStp.Sl w B Ap np cp path) (hm:MayA t (ref,rv,path,S,g) z) :
    Calls Tryz.prog 79 #[.agg x.cs,.agg #[.int .i64 ref,.bool rv,.slice Ap np cp,.slice As ns cs,.int .i64 g],.int .i64 u] w (PkRet (linksM t ref rv path u) w):=by
  have HBa:=qh (fun (W:World) (hk:Keep Never w W)=>bal_any x t B ref W (h.keep hk) hs.b)
  have HFi:=qh (fun (W:World) (hk:Keep Never w W) (e:Int)=>first_any x t B e W (h.keep hk) hs.b)
  have HBh:=qh (fun (W:World) (hk:Keep Never w W) (bb:Bl) (r:Bool) (hb:bb∈t.2.2.1)=>(show Calls Tryz.prog 57 #[.agg x.cs,.agg #[.int .i64 bb.2.1,.int .i64 bb.2.2,.bool r]] W fun en w'=>en=.returned (.int .i64 (alongP t (bb.2.1,bb.2.2,r)))∧Keep Never W w' by
   obtain⟨_,_,c3,c4,c5⟩:=check_bal hm.chk hb
   have h1:=check_edges hm.chk
   obtain⟨d1,d2,d3⟩:=there_edge hm.chk c3
   exact behind_any x t B bb.2.1 bb.2.2 r W (h.keep hk) d1 (by have:=h.e.len;omega) (by omega) (by omega) c4 (by omega)))
  have HAl:=qh (fun (bb:Bl) (r:Bool) (hb:bb∈t.2.2.1)=>(show 0≤alongP t (bb.2.1,bb.2.2,r)∧alongP t (bb.2.1,bb.2.2,r)≤1000000 by
   obtain⟨_,_,c3,c4,c5⟩:=check_bal hm.chk hb
   obtain⟨d1,d2,d3⟩:=there_edge hm.chk c3
   have:=along_in (t:=t) (p:=(bb.2.1,bb.2.2,r)) c4 c5
   simp only at this;omega))
  have HEd:=qh (fun (W:World) (hk:Keep Never w W) (s:Stp) (hsm:s∈path)=>(show ∃ad k v,x.Ae=some ad∧s.1=((k:Nat):Int)∧k<x.ne∧W.cell? (ad.add k)=some (.int .i64 v)∧edgeM t s.1=v∧0≤v∧v≤1000000 by
   obtain⟨b0,_,_,_,hg,_⟩:=hm.place
   obtain⟨d1,d2,d3⟩:=there_edge hm.chk (hg.2.1 s hsm)
   obtain⟨ad,k,v,e1,e2,e3,e4,e5⟩:=edge_at (h.keep hk) d1 (by have:=h.e.len;omega)
   exact⟨ad,k,v,e1,e2,e3,e4,e5,by omega,by omega⟩))
  have HSl:=qh hp
  have HBw:=qh hB
  have H24:Hid (path.length≤24):=qh hm.few
  have HCB:=qh (fun (bb:Bl) (hb:bb∈t.2.2.1)=>(check_bal hm.chk hb).1)
  have HCB2:=qh (fun (bb:Bl) (hb:bb∈t.2.2.1)=>(check_bal hm.chk hb).2.1)
  obtain⟨b0,hb0,_⟩:=left_some hm.left
  have HB0:=qh hb0
  have HP1:Hid (1≤path.length):=qh (by
   obtain⟨b1,_,h2,_⟩:=left_some hm.left
   cases path with
   | nil=>cases h2
   | cons a l=>simp)
  have hnp0:np=path.length:=(stps_rd hp).2.1
  have HNp:=qh hnp0
  have hnp24:np≤24:=by rw[hnp0];exact hm.few
  clear hnp0 hb0
  obtain⟨Ae,ne,ce,Aj,nj,cj,Ab,nb,cb,Ar,nr,cr⟩:=x
  simp only[TA.cs] at HBa HFi HBh HEd ⊢
  clear h hs hp hB hm
  obtain⟨w1,hw1⟩:∃V:World,w.alloc (.cells #[.slice Ae ne ce,.slice Aj nj cj,.slice Ab nb cb,.slice Ar nr cr] 27)=V:=⟨_,rfl⟩
  have zw1:w1.heap.size=w.heap.size+1:=by rw[←hw1];simp
  have kw1:Keep Never w w1:=by rw[←hw1];exact(Keep.refl _ _).alloc _
  have bw1:=Blk.new w 27 #[.slice Ae ne ce,.slice Aj nj cj,.slice Ab nb cb,.slice Ar nr cr]
  rw[hw1] at bw1
  obtain⟨w2,hw2⟩:∃V:World,w1.alloc (.cells #[.int .i64 ref,.bool rv,.slice Ap np cp,.slice As ns cs,.int .i64 g] 38)=V:=⟨_,rfl⟩
  have zw2:w2.heap.size=w.heap.size+1+1:=by rw[←hw2];simp[zw1]
  have kw2:Keep Never w1 w2:=by rw[←hw2];exact(Keep.refl _ _).alloc _
  have bw2:=Blk.new w1 38 #[.int .i64 ref,.bool rv,.slice Ap np cp,.slice As ns cs,.int .i64 g]
  rw[hw2,zw1] at bw2
  obtain⟨w3,hw3⟩:∃V:World,w2.alloc (.cells #[.int .i64 0,.slice none 0 0] 105)=V:=⟨_,rfl⟩
  have kw3:Keep Never w2 w3:=by rw[←hw3];exact(Keep.refl _ _).alloc _
  have bw3:=Blk.new w2 105 #[.int .i64 0,.slice none 0 0]
  rw[hw3,zw2] at bw3
  have HB1:=qh ((bw1.keep kw2 (fun h=>h)).keep kw3 (fun h=>h))
  have HB2:=qh (bw2.keep kw3 (fun h=>h))
  have HB3:=qh bw3
  have HK:=qh ((kw1.trans kw2).trans kw3)
  clear kw1 kw2 kw3 bw1 bw2 bw3
  have HT3:=HB1
  have HM3:=HB2
  have HR3:=HB3
  have HK3:=HK
  obtain⟨b1,b2,b3⟩:=b0
  have hw:=HBa.out w3 HK.out
  unfold BalRet at hw
  rw[HB0.out] at hw
  simp only[Option.getD,Option.isSome] at hw
  have HC:=qh hw
  clear hw HBa HB1 HB2 HB3 HK
  obtain⟨y0,y1,y2,y3⟩:=bc4 HT3.out
  obtain⟨m0,m1,m2,m3,m4⟩:=bc5 HM3.out
  go_enter Tryz.func79, Tryz.ntmps79
  go_wp2_with fail
  refine HC.out.mono ?_
  rintro en w4 ⟨rfl,hk⟩
  have HK4:=qtr HK3 hk
  have HT4:=qkb HT3 hk
  have HM4:=qkb HM3 hk
  have HR4:=qkb HR3 hk
  clear hk HC HT3 HM3 HR3 HK3 y0 y1 y2 y3 m0 m1 m2 m3 m4 hw1 hw2 hw3 zw1 zw2
  obtain⟨w5,hw5⟩:∃V:World,w4.alloc (.cells #[.int .i64 b1,.int .i64 b2,.int .i64 b3] 94)=V:=⟨_,rfl⟩
  have hk:Keep Never w4 w5:=by rw[←hw5];exact(Keep.refl _ _).alloc _
  have B5:=Blk.new w4 94 #[.int .i64 b1,.int .i64 b2,.int .i64 b3]
  rw[hw5] at B5
  obtain⟨bb,hbb⟩:∃q,w4.heap.size=q:=⟨_,rfl⟩
  rw[hbb] at B5
  have HK5:=qtr HK4 hk
  have HT5:=qkb HT4 hk
  have HM5:=qkb HM4 hk
  have HR5:=qkb HR4 hk
  have d1:w5.cell? ⟨bb,1,none⟩=some (.int .i64 b2):=B5.cell 1
  have d2:w5.cell? ⟨bb,2,none⟩=some (.int .i64 b3):=B5.cell 2
  clear hk B5 HT4 HM4 HR4 HK4
  obtain⟨at0,hat0⟩:∃z,alongP t (b2,b3,rv)=z:=⟨_,rfl⟩
  have hw:=HBh.out w5 HK5.out (b1,b2,b3) rv (bal_mem HB0.out).1
  have hwa:=HAl.out (b1,b2,b3) rv (bal_mem HB0.out).1
  simp only at hw hwa
  rw[hat0] at hw hwa
  have HA0:=qh hwa
  have HC:=qh hw
  have HAt:=qh hat0
  clear hw hwa hat0
  obtain⟨y0,y1,y2,y3⟩:=bc4 HT5.out
  obtain⟨m0,m1,m2,m3,m4⟩:=bc5 HM5.out
  go_wp2_with fail
  refine HC.out.mono ?_
  rintro en w6 ⟨rfl,hk⟩
  have HK6:=qtr HK5 hk
  have HT6:=qkb HT5 hk
  have HM6:=qkb HM5 hk
  have HR6:=qkb HR5 hk
  clear hk HC HT5 HM5 HR5 HK5 y0 y1 y2 y3 m0 m1 m2 m3 m4 d1 d2 hw5 hbb
  obtain⟨m0,m1,m2,m3,m4⟩:=bc5 HM6.out
  have HC:=qh (nom_any rv w6)
  go_wp2_with fail
  refine HC.out.mono ?_
  rintro en w7 ⟨rfl,hk⟩
  have HK7:=qtr HK6 hk
  have HT7:=qkb HT6 hk
  have HM7:=qkb HM6 hk
  have HR7:=qkb HR6 hk
  clear hk HC HT6 HM6 HR6 HK6 m0 m1 m2 m3 m4
  obtain⟨m0,m1,m2,m3,m4⟩:=bc5 HM7.out
  go_upto_region 5 with(fail)
  obtain⟨nm,hnm⟩:∃z,nomI rv=z:=⟨_,rfl⟩
  rw[hnm]
  have HNm:=qh hnm
  clear hnm
  obtain⟨w8,hw8⟩:∃V:World,w7.alloc (.cells #[.int .i64 nm,.int .i64 u] 3)=V:=⟨_,rfl⟩
  have hk:Keep Never w7 w8:=by rw[←hw8];exact(Keep.refl _ _).alloc _
  have B8:=Blk.new w7 3 #[.int .i64 nm,.int .i64 u]
  rw[hw8] at B8
  obtain⟨br,hbr⟩:∃q,w7.heap.size=q:=⟨_,rfl⟩
  rw[hbr] at B8
  rw[hw8]
  rw[hbr]
  have HK8:=qtr HK7 hk
  have HT8:=qkb HT7 hk
  have HM8:=qkb HM7 hk
  have HR8:=qkb HR7 hk
  have HO8:Hid (Own w8 w.heap.size 3 1 (some ⟨br,0,none⟩) 2 2 (intCells [nm,u])):=qh (Own.of_blk2 (xs:=[.int .i64 nm,.int .i64 u]) B8 rfl (by unfold maxLen;omega) (by rw[←hbr];exact HK7.out.size))
  clear hk B8 HT7 HM7 HR7 HK7 hw8 hbr m0 m1 m2 m3 m4
  obtain⟨m0,m1,m2,m3,m4⟩:=bc5 HM8.out
  obtain⟨res,hres⟩:∃z,linkV t u path.length 1 (edgeM t (path.headD (0,false)).1) at0 (path.drop 1) [nm,u]=z:=⟨_,rfl⟩
  have HRe:Hid (linksM t ref rv path u=linkP path rv u res):=qh (by unfold linksM farP17;rw[HB0.out];simp only;rw[HAt.out,HNm.out,hres])
  have HJ0:Hid (LkJ t u path at0 [nm,u] res 0 0 at0 [nm,u]):=qh ⟨fun _=>⟨rfl,rfl,rfl⟩,fun h=>by omega,by have:=HA0.out;omega,by simp⟩
  have HRs:=qh hres
  clear hres
  go_wp2_with fail
  clear m0 m1 m2 m3 m4
  go_loopw [10,11,12,44] (fun s10 s11 s12 s44 wr=>∃(k:Nat) (be at_:Int) (v:List Int) (Ao:Option Addr) (no co:Nat),s10=.int .i64 at_∧s11=.int .i64 be∧s12=.slice Ao no co∧s44=.int .i64 k∧k≤np∧Hid (LkJ t u path at0 [nm,u] res k be at_ v∧no=v.length∧Own wr w.heap.size 3 1 Ao no co (intCells v)∧Blk wr w.heap.size 27 #[.slice Ae ne ce,.slice Aj nj cj,.slice Ab nb cb,.slice Ar nr cr]∧Blk wr (w.heap.size+1) 38 #[.int .i64 ref,.bool rv,.slice Ap np cp,.slice As ns cs,.int .i64 g]∧Blk wr (w.heap.size+1+1) 105 #[.int .i64 0,.slice none 0 0]∧Keep Never w wr)) (fun _ _ _ s44 _=>np - (intOf s44).toNat)
  case atStart=>exact⟨0,0,at0,[nm,u],_,2,2,rfl,rfl,rfl,rfl,by omega,qh ⟨HJ0.out,rfl,HO8.out,HT8.out,HM8.out,HR8.out,HK8.out⟩⟩
  case round=>
   clear HO8 HT8 HM8 HR8 HK8 HJ0
   obtain⟨k,be,at_,v,Ao,no,co,rfl,rfl,rfl,rfl,hk,HH⟩:=hrel
   have HJ:=qh HH.out.1
   have HNo:=qh HH.out.2.1
   have HOr:=qh HH.out.2.2.1
   have HTr:=qh HH.out.2.2.2.1
   have HMr:=qh HH.out.2.2.2.2.1
   have HRr:=qh HH.out.2.2.2.2.2.1
   have HKr:=qh HH.out.2.2.2.2.2.2
   have hno:no≤300:=by have h1:=HNo.out;have h2:=HJ.out.len;omega
   clear HH
   by_cases h0:k<np
   case neg=>
    obtain rfl:k=np:=by omega
    have hki:¬(k:Int)<(k:Int):=by omega
    have HF:Hid (res=.ok v):=qh (by have h1:=HJ.out;rw[HNp.out] at h1;exact h1.fin HP1.out)
    have hsz:=HKr.out.size
    have m2:wr.cell? ⟨w.heap.size+1,2,none⟩=some (.slice Ap k cp):=HMr.out.cell 2
    by_cases g2:k=2
    ·have t2:((k:Int)==2)=true:=by simp;omega
     have HIf:Hid (v++(if path.length=2 then [0] else [])=v++[0]):=qh (by rw[if_pos (by rw[←HNp.out];exact g2)])
     clear g2
     go_upto_region 24 with(at_builtin;refine wpList_app _ rfl (.tmp 120) (.tmp 121) _ rfl elemInt17 w.heap.size rfl (HOr.out.alloc _) _ rfl (Rd.of_blk (n:=1) (cs:=[.int .i64 0]) (Blk.new _ _ _) rfl) (by simp[Value.oneCell']) (by omega) (by unfold maxLen;omega) (by simp;omega) ?_;intro A14 c14 w14 hown hk hrow;have hk14:Keep (InRow Ao) wr w14:=((Keep.refl _ wr).alloc _).trans hk;have HO14:=qh hown;clear hown hk hrow;have HR14:=qh (HRr.out.keep hk14 (fun h=>HOr.out.ne_blk HRr.out (by decide) _ h rfl));have HK14:=qh (HKr.out.then_ hk14 (fun i hi h=>by have:=(HOr.out.row h).1;omega));have r0:w14.cell? ⟨w.heap.size+1+1,0,none⟩=some (.int .i64 0):=HR14.out.cell 0;have rf0:=HR14.out.frozen 0;have r1:w14.cell? ⟨w.heap.size+1+1,1,none⟩=some (.slice none 0 0):=HR14.out.cell 1;have rf1:=HR14.out.frozen 1)
     go_wp2_with fail
     (try simp only[Exit.inBlock,Exit.then])
     refine bodyPost_ret (pk_results (put2_blk17 HR14.out (.int .i64 5) (.slice A14 (no+1) c14)) _ rfl) rfl ?_
     refine⟨put2_own17 HK14.out (.inr (by omega)) _ _,?_⟩
     rw[HRe.out,HF.out]
     exact⟨A14,no+1,c14,rfl,by rw[HIf.out,HNo.out];simp,by rw[HIf.out,intCells_app];exact HO14.out.keep (put2_own17 (Keep.refl (fun q=>q=w.heap.size+1+1) w14) (.inl rfl) _ _) (HO14.out.ne_blk HR14.out (by decide))⟩
    ·have t2:((k:Int)==2)=false:=by simp;omega
     have HIf:Hid (v++(if path.length=2 then [0] else [])=v):=qh (by rw[if_neg (by rw[←HNp.out];exact g2)];simp)
     clear g2
     have r0:wr.cell? ⟨w.heap.size+1+1,0,none⟩=some (.int .i64 0):=HRr.out.cell 0
     have rf0:=HRr.out.frozen 0
     have r1:wr.cell? ⟨w.heap.size+1+1,1,none⟩=some (.slice none 0 0):=HRr.out.cell 1
     have rf1:=HRr.out.frozen 1
     go_wp2_with fail
     (try simp only[Exit.inBlock,Exit.then])
     refine bodyPost_ret (pk_results (put2_blk17 HRr.out (.int .i64 5) (.slice Ao no co)) _ rfl) rfl ?_
     refine⟨put2_own17 HKr.out (.inr (by omega)) _ _,?_⟩
     rw[HRe.out,HF.out]
     exact⟨Ao,no,co,rfl,by rw[HIf.out,HNo.out],by rw[HIf.out];exact HOr.out.keep (put2_own17 (Keep.refl (fun q=>q=w.heap.size+1+1) wr) (.inl rfl) _ _) (HOr.out.ne_blk HRr.out (by decide))⟩
   have hki:(k:Int)<(np:Int):=by omega
   obtain⟨ad,s,hA,_,hs,c0,c1⟩:=((stps_rd HSl.out).1.keep HKr.out (fun _ h=>h.elim)).stp h0
   subst hA
   have HS:=qh hs
   have HMm:=qh (List.mem_of_getElem? hs)
   have hin:=(stps_rd HSl.out).2.2.2.2.2 s HMm.out
   obtain⟨s1,s2⟩:=s
   simp only at c0 c1 hin
   clear hs
   go_upto_region 8 with(fail)
   obtain⟨w9,hw9⟩:∃V:World,wr.alloc (.cells #[.int .i64 s1,.bool s2] 30)=V:=⟨_,rfl⟩
   have hk:Keep Never wr w9:=by rw[←hw9];exact(Keep.refl _ _).alloc _
   have B9:=Blk.new wr 30 #[.int .i64 s1,.bool s2]
   rw[hw9] at B9
   obtain⟨bl,hbl⟩:∃q,wr.heap.size=q:=⟨_,rfl⟩
   rw[hbl] at B9
   have HK9:=qtr HKr hk
   have HT9:=qkb HTr hk
   have HM9:=qkb HMr hk
   have HR9:=qkb HRr hk
   have HO9:=qko HOr hk
   have HL9:=qh B9
   rw[hw9,hbl]
   clear hk B9 c0 c1 HTr HMr HRr HKr HOr hbl hw9
   by_cases g0:k=0
   ·subst g0
    have tg:decide (((0:Nat):Int)>0)=false:=by decide
    obtain⟨ae,ke,ve,hAe,hke,hkn,ed,hev,hv0,hv1⟩:=HEd.out w9 HK9.out _ HMm.out
    simp only at hAe hke hkn
    subst hAe
    have hkni:(ke:Int)<(ne:Int):=by omega
    have HEv:Hid (edgeM t (((s1,s2):Stp)).1=ve):=qh hev
    clear hev
    have l0:w9.cell? ⟨bl,0,none⟩=some (.int .i64 ke):=by rw[←hke];exact HL9.out.cell 0
    have hwb:wrap64 (be+ve)=be+ve:=by have h1:=HJ.out.bnd;have h2:IntKind.i64.wrap (be+ve)=be+ve:=IntWalk.i64_in _ (by omega);rwa [IntWalk.i64_left] at h2
    have hwb2:IntKind.i64.wrap (be+ve)=be+ve:=by have h1:=HJ.out.bnd;exact IntWalk.i64_in _ (by omega)
    obtain⟨y0,y1,y2,y3⟩:=bc4 HT9.out
    go_wp2_with fail
    refine⟨⟨0+1,be+ve,at_,v,Ao,no,co,rfl,by go_num,rfl,by go_num,by omega,qh ⟨by have h1:=HJ.out;rw[←HRs.out] at h1;have h2:=h1.step0 HS.out (by rw[HEv.out];exact⟨hv0,hv1⟩);rw[HEv.out,HRs.out] at h2;exact h2,HNo.out,HO9.out,HT9.out,HM9.out,HR9.out,HK9.out⟩⟩,?_⟩
    simp[intOf];try omega
   ·have tg:decide ((k:Int)>0)=true:=by simp;omega
    have l0:w9.cell? ⟨bl,0,none⟩=some (.int .i64 s1):=HL9.out.cell 0
    have hw:=HFi.out w9 HK9.out s1
    unfold BalRet at hw
    obtain⟨ob,hob⟩:∃z,firstB t s1=z:=⟨_,rfl⟩
    rw[hob] at hw
    have HC:=qh hw
    have HOb:=qh hob
    clear hw hob
    obtain⟨y0,y1,y2,y3⟩:=bc4 HT9.out
    go_wp2_with fail
    refine HC.out.mono ?_
    rintro en w10 ⟨rfl,hk⟩
    have HK10:=qtr HK9 hk
    have HT10:=qkb HT9 hk
    have HM10:=qkb HM9 hk
    have HR10:=qkb HR9 hk
    have HO10:=qko HO9 hk
    have HL10:=qkb HL9 hk
    clear hk HC HT9 HM9 HR9 HK9 HO9 HL9 y0 y1 y2 y3 l0
    have HK1:Hid (1≤k):=qh (by omega)
    cases ob with
    | none=>
     simp only[Option.getD,Option.isSome]
     have HF:Hid (res=.error 1):=qh (HJ.out.none HK1.out HS.out HOb.out)
     have HKz:=qh (HK10.out.alloc (.cells #[.int .i64 0,.int .i64 0,.int .i64 0] 94))
     have HRz:=qh (HR10.out.alloc (.cells #[.int .i64 0,.int .i64 0,.int .i64 0] 94))
     have r0:(w10.alloc (.cells #[.int .i64 0,.int .i64 0,.int .i64 0] 94)).cell? ⟨w.heap.size+1+1,0,none⟩=some (.int .i64 0):=HRz.out.cell 0
     have rf0:=HRz.out.frozen 0
     have r1:(w10.alloc (.cells #[.int .i64 0,.int .i64 0,.int .i64 0] 94)).cell? ⟨w.heap.size+1+1,1,none⟩=some (.slice none 0 0):=HRz.out.cell 1
     have rf1:=HRz.out.frozen 1
     go_wp2_with fail
     (try simp only[Exit.inBlock,Exit.then])
     refine bodyPost_ret (pk_results (put2_blk17 HRz.out (.int .i64 0) (.slice none 0 0)) _ rfl) rfl ?_
     refine⟨put2_own17 HKz.out (.inr (by omega)) _ _,?_⟩
     rw[HRe.out,HF.out]
     exact⟨by decide,rfl⟩
    | some q=>
    obtain⟨q1,q2,q3⟩:=q
    simp only[Option.getD,Option.isSome]
    obtain⟨w11,hw11⟩:∃V:World,w10.alloc (.cells #[.int .i64 q1,.int .i64 q2,.int .i64 q3] 94)=V:=⟨_,rfl⟩
    have hk:Keep Never w10 w11:=by rw[←hw11];exact(Keep.refl _ _).alloc _
    have B11:=Blk.new w10 94 #[.int .i64 q1,.int .i64 q2,.int .i64 q3]
    rw[hw11] at B11
    obtain⟨bq,hbq⟩:∃q,w10.heap.size=q:=⟨_,rfl⟩
    rw[hbq] at B11
    have HK11:=qtr HK10 hk
    have HT11:=qkb HT10 hk
    have HM11:=qkb HM10 hk
    have HR11:=qkb HR10 hk
    have HO11:=qko HO10 hk
    have HL11:=qkb HL10 hk
    have HQ11:=qh B11
    clear hk B11 HT10 HM10 HR10 HK10 HO10 HL10
    have HMq:Hid ((q1,q2,q3)∈t.2.2.1):=qh (by have:=HOb.out;unfold firstB at this;exact List.mem_of_find?_eq_some this)
    have hw:=HBh.out w11 HK11.out (q1,q2,q3) s2 HMq.out
    have ha:=HAl.out (q1,q2,q3) s2 HMq.out
    simp only at hw ha
    obtain⟨al,hal⟩:∃z,alongP t (q2,q3,s2)=z:=⟨_,rfl⟩
    rw[hal] at hw ha
    have HAlo:=qh hal
    have HAr:=qh ha
    have HC:=qh hw
    clear hal hw ha
    obtain⟨y0,y1,y2,y3⟩:=bc4 HT11.out
    have d1:w11.cell? ⟨bq,1,none⟩=some (.int .i64 q2):=HQ11.out.cell 1
    have d2:w11.cell? ⟨bq,2,none⟩=some (.int .i64 q3):=HQ11.out.cell 2
    have l1:w11.cell? ⟨bl,1,none⟩=some (.bool s2):=HL11.out.cell 1
    go_wp2_with fail
    refine HC.out.mono ?_
    rintro en w12 ⟨rfl,hk⟩
    have HK12:=qtr HK11 hk
    have HT12:=qkb HT11 hk
    have HM12:=qkb HM11 hk
    have HR12:=qkb HR11 hk
    have HO12:=qko HO11 hk
    have HL12:=qkb HL11 hk
    have HQ12:=qkb HQ11 hk
    clear hk HC HT11 HM11 HR11 HK11 HO11 HL11 HQ11 y0 y1 y2 y3 d1 d2 l1 hw11 hbq
    have hbd:=HJ.out.bnd
    have har:=HAr.out
    have hw1:wrap64 (be+al)=be+al:=by have h2:IntKind.i64.wrap (be+al)=be+al:=IntWalk.i64_in _ (by omega);rwa [IntWalk.i64_left] at h2
    have hw2:IntKind.i64.wrap (be+al)=be+al:=IntWalk.i64_in _ (by omega)
    have hw3:wrap64 (be+al - at_)=be+al - at_:=by have h2:IntKind.i64.wrap (be+al - at_)=be+al - at_:=IntWalk.i64_in _ (by omega);rwa [IntWalk.i64_left] at h2
    have hw4:IntKind.i64.wrap (be+al - at_)=be+al - at_:=IntWalk.i64_in _ (by omega)
    clear hbd har
    obtain⟨sc,hsc⟩:∃z,scaledM (be+al - at_) u false=z:=⟨_,rfl⟩
    have HSc:Hid (scaledM (be+alongP t (((q1,q2,q3):Bl).2.1,((q1,q2,q3):Bl).2.2,((s1,s2):Stp).2) - at_) u false=sc):=qh (by simp only;rw[HAlo.out,hsc])
    have hc:=scaled_any (be+al - at_) u false w12
    rw[hsc] at hc
    obtain⟨sv,se⟩:=sc
    simp only at hc
    have HC:=qh hc
    clear hc hsc
    go_wp2_with fail
    refine HC.out.mono ?_
    rintro en w13 ⟨rfl,hk⟩
    have HK13:=qtr HK12 hk
    have HT13:=qkb HT12 hk
    have HM13:=qkb HM12 hk
    have HR13:=qkb HR12 hk
    have HO13:=qko HO12 hk
    have HL13:=qkb HL12 hk
    have HQ13:=qkb HQ12 hk
    clear hk HC HT12 HM12 HR12 HK12 HO12 HL12 HQ12 hw3 hw4 hw1 hw2
    by_cases g1:se=0
    case neg=>
     have t1:(se != 0)=true:=by simpa using g1
     have HNz:=qh g1
     have HF:Hid (res=.error se):=qh (by have h1:=HJ.out.bad HK1.out HS.out HOb.out;rw[HSc.out] at h1;exact h1 g1)
     clear g1
     have r0:w13.cell? ⟨w.heap.size+1+1,0,none⟩=some (.int .i64 0):=HR13.out.cell 0
     have rf0:=HR13.out.frozen 0
     have r1:w13.cell? ⟨w.heap.size+1+1,1,none⟩=some (.slice none 0 0):=HR13.out.cell 1
     have rf1:=HR13.out.frozen 1
     go_wp2_with fail
     (try simp only[Exit.inBlock,Exit.then])
     refine bodyPost_ret (pk_results (put2_blk17 HR13.out (.int .i64 0) (.slice none 0 0)) _ rfl) rfl ?_
     refine⟨put2_own17 HK13.out (.inr (by omega)) _ _,?_⟩
     rw[HRe.out,HF.out]
     exact⟨HNz.out,rfl⟩
    have t1:(se != 0)=false:=by simpa using g1
    have HSe:=qh g1
    clear g1
    have hsz:=HK13.out.size
    by_cases g2:k=2
    ·have t2:((k:Int)==2)=true:=by simp;omega
     have m2:w13.cell? ⟨w.heap.size+1,2,none⟩=some (.slice (some ad) np cp):=HM13.out.cell 2
     have hwn:wrap64 ((np:Int) - 2)=(np:Int) - 2:=by have h2:IntKind.i64.wrap ((np:Int) - 2)=(np:Int) - 2:=IntWalk.i64_in _ (by omega);rwa [IntWalk.i64_left] at h2
     have hwn2:IntKind.i64.wrap ((np:Int) - 2)=(np:Int) - 2:=IntWalk.i64_in _ (by omega)
     have HMi:Hid ([(np:Int) - 2]=midN k path.length):=qh (by unfold midN;rw[if_pos g2,HNp.out])
     clear g2
     go_upto_region 18 with((at_builtin;refine wpList_app _ rfl (.tmp 86) (.tmp 91) _ rfl elemInt17 w.heap.size rfl (HO13.out.alloc _) _ rfl (Rd.of_blk (n:=1) (cs:=[.int .i64 ((np:Int) - 2)]) (Blk.new _ _ _) rfl) (by simp[Value.oneCell']) (by omega) (by unfold maxLen;omega) (by simp;omega) ?_;intro A14 c14 w14 hown hk hrow;have hk14:Keep (InRow Ao) w13 w14:=((Keep.refl _ w13).alloc _).trans hk;have HO14:Hid (Own w14 w.heap.size 3 1 A14 (no+1) c14 (intCells (v++[(np:Int) - 2]))):=qh (by rw[intCells_app];exact hown);clear hown hk hrow))
     have hk:=hk14
     have HT14:=qh (HT13.out.keep hk (fun h=>HO13.out.ne_blk HT13.out (by decide) _ h rfl))
     have HM14:=qh (HM13.out.keep hk (fun h=>HO13.out.ne_blk HM13.out (by decide) _ h rfl))
     have HR14:=qh (HR13.out.keep hk (fun h=>HO13.out.ne_blk HR13.out (by decide) _ h rfl))
     have HL14:=qh (HL13.out.keep hk (fun h=>HO13.out.ne_blk HL13.out (by decide) _ h rfl))
     have HQ14:=qh (HQ13.out.keep hk (fun h=>HO13.out.ne_blk HQ13.out (by decide) _ h rfl))
     have HK14:=qh (HK13.out.then_ hk (fun i hi h=>by have:=(HO13.out.row h).1;omega))
     clear hk hk14 hwn hwn2 m2 t2 hsz HT13 HM13 HR13 HL13 HQ13 HK13 HO13
     have hsz:=HK14.out.size
     have q0:w14.cell? ⟨bq,0,none⟩=some (.int .i64 q1):=HQ14.out.cell 0
     have l1:w14.cell? ⟨bl,1,none⟩=some (.bool s2):=HL14.out.cell 1
     obtain⟨ns2,hns2⟩:∃z,nomI s2=z:=⟨_,rfl⟩
     have HNs2:=qh hns2
     have HCn:=qh (fun (V:World)=>nom_any s2 V)
     rw[hns2] at HCn
     have ha14:bits .and .i64 q1 16383=q1 % 16384:=and14 q1 (HCB.out _ HMq.out) (by have:=HCB2.out _ HMq.out;simp only at this;omega)
     clear hns2
     go_cut [12] (fun s12 wc=>∃A16 c16,s12=.slice A16 ((no+1)+7) c16∧Hid (Own wc w.heap.size 3 1 A16 ((no+1)+7) c16 (intCells (v++[(np:Int) - 2])++intCells [sv,1,q1 / 16384,q1 % 16384,ns2,2,12])∧Keep (InRow A14) w14 wc))
     case first=>
      go_region_law (first
        | (go_simp;go_at_call 77; refine(HCn.out _).mono ?_;rintro en w15 ⟨rfl,hk⟩;have hk15:Keep Never w14 w15:=(by first | exact hk | exact hk.drewL);have q0x:=keepT hk15 q0;have HO15:=qko HO14 hk15;have HK15:=qh hk15;have hsz5:=hk15.size;clear hk15 hk)
        | (refine step_app _ rfl (.tmp 93) (.tmp 104) _ rfl elemInt17 (w.heap.size) (A:=A14) (n:=(no+1)) (c:=c14) (by go_simp) (HO15.out.alloc _) _ (A':=some ⟨_,0,none⟩) (m:=7) (c':=7) (news:=[.int .i64 sv,.int .i64 1,.int .i64 (q1 / 16384),.int .i64 (q1 % 16384),.int .i64 ns2,.int .i64 2,.int .i64 12]) (by go_simp;first | done | rw[ha14]) (Rd.of_blk (n:=7) (cs:=[.int .i64 sv,.int .i64 1,.int .i64 (q1 / 16384),.int .i64 (q1 % 16384),.int .i64 ns2,.int .i64 2,.int .i64 12]) (Blk.new _ _ _) rfl) (by simp[Value.oneCell']) (by omega) (by unfold maxLen;omega) (by simp;omega) ?_;intro A16 c16 w16 hown hk hrow;have hk16:Keep (InRow A14) w15 w16:=(by first | exact((Keep.refl (InRow A14) w15).alloc _).trans hk | exact(((Keep.refl (InRow A14) w15).alloc _).drew).trans hk);have HO16:=qh hown;clear hown hk hrow))
      all_goals
       go_wp2_with fail
       go_meet
       refine⟨_,_,rfl,qh ⟨HO16.out,(HK15.out.mono (fun _ _ h=>h.elim)).trans hk16⟩⟩
     case rest=>
      obtain⟨A16,c16,rfl,HH16⟩:=hcut
      rename World=>w16
      have hk:=HH16.out.2
      have HT16:=qh (HT14.out.keep hk (fun h=>HO14.out.ne_blk HT14.out (by decide) _ h rfl))
      have HM16:=qh (HM14.out.keep hk (fun h=>HO14.out.ne_blk HM14.out (by decide) _ h rfl))
      have HR16:=qh (HR14.out.keep hk (fun h=>HO14.out.ne_blk HR14.out (by decide) _ h rfl))
      have HL16:=qh (HL14.out.keep hk (fun h=>HO14.out.ne_blk HL14.out (by decide) _ h rfl))
      have HK16:=qh (HK14.out.then_ hk (fun i hi h=>by have:=(HO14.out.row h).1;omega))
      have HO16:=qh HH16.out.1
      clear hk HH16 hsz ha14 q0 l1 HT14 HM14 HR14 HL14 HK14 HO14 HQ14
      obtain⟨ae,ke,ve,hAe,hke,hkn,ed,hev,hv0,hv1⟩:=HEd.out w16 HK16.out _ HMm.out
      simp only at hAe hke hkn
      subst hAe
      have hkni:(ke:Int)<(ne:Int):=by omega
      have HEv:Hid (edgeM t (((s1,s2):Stp)).1=ve):=qh hev
      clear hev
      have l0:w16.cell? ⟨bl,0,none⟩=some (.int .i64 ke):=by rw[←hke];exact HL16.out.cell 0
      have hwb:wrap64 (be+ve)=be+ve:=by have h1:=HJ.out.bnd;have h2:IntKind.i64.wrap (be+ve)=be+ve:=IntWalk.i64_in _ (by omega);rwa [IntWalk.i64_left] at h2
      have hwb2:IntKind.i64.wrap (be+ve)=be+ve:=by have h1:=HJ.out.bnd;exact IntWalk.i64_in _ (by omega)
      obtain⟨y0,y1,y2,y3⟩:=bc4 HT16.out
      go_wp2_with fail
      have h2:=HJ.out.step HK1.out HS.out (by rw[HEv.out];exact⟨hv0,hv1⟩) HOb.out (by simp only;rw[HAlo.out];exact HAr.out) (by rw[HSc.out];exact HSe.out)
      rw[HSc.out,HEv.out] at h2
      simp only at h2
      rw[HAlo.out,←HMi.out] at h2
      unfold grpN at h2
      rw[HNs2.out] at h2
      refine⟨⟨k+1,be+ve,be+al,_,A16,(no+1)+7,c16,rfl,by go_num,rfl,by go_num,by omega,qh ⟨h2,by have h3:=HNo.out;simp;omega,by rw[intCells_app];exact HO16.out,HT16.out,HM16.out,HR16.out,HK16.out⟩⟩,?_⟩
      simp[intOf];try omega
    ·have t2:((k:Int)==2)=false:=by simp;omega
     have HMi:Hid (([]:List Int)=midN k path.length):=qh (by unfold midN;rw[if_neg g2])
     clear g2
     go_upto_region 18 with(fail)
     have hsz:=HK13.out.size
     have q0:w13.cell? ⟨bq,0,none⟩=some (.int .i64 q1):=HQ13.out.cell 0
     have l1:w13.cell? ⟨bl,1,none⟩=some (.bool s2):=HL13.out.cell 1
     obtain⟨ns2,hns2⟩:∃z,nomI s2=z:=⟨_,rfl⟩
     have HNs2:=qh hns2
     have HCn:=qh (fun (V:World)=>nom_any s2 V)
     rw[hns2] at HCn
     have ha14:bits .and .i64 q1 16383=q1 % 16384:=and14 q1 (HCB.out _ HMq.out) (by have:=HCB2.out _ HMq.out;simp only at this;omega)
     clear hns2
     go_cut [12] (fun s12 wc=>∃A16 c16,s12=.slice A16 (no+7) c16∧Hid (Own wc w.heap.size 3 1 A16 (no+7) c16 (intCells (v)++intCells [sv,1,q1 / 16384,q1 % 16384,ns2,2,12])∧Keep (InRow Ao) w13 wc))
     case first=>
      go_region_law (first
        | (go_simp;go_at_call 77; refine(HCn.out _).mono ?_;rintro en w15 ⟨rfl,hk⟩;have hk15:Keep Never w13 w15:=(by first | exact hk | exact hk.drewL);have q0x:=keepT hk15 q0;have HO15:=qko HO13 hk15;have HK15:=qh hk15;have hsz5:=hk15.size;clear hk15 hk)
        | (refine step_app _ rfl (.tmp 93) (.tmp 104) _ rfl elemInt17 (w.heap.size) (A:=Ao) (n:=no) (c:=co) (by go_simp) (HO15.out.alloc _) _ (A':=some ⟨_,0,none⟩) (m:=7) (c':=7) (news:=[.int .i64 sv,.int .i64 1,.int .i64 (q1 / 16384),.int .i64 (q1 % 16384),.int .i64 ns2,.int .i64 2,.int .i64 12]) (by go_simp;first | done | rw[ha14]) (Rd.of_blk (n:=7) (cs:=[.int .i64 sv,.int .i64 1,.int .i64 (q1 / 16384),.int .i64 (q1 % 16384),.int .i64 ns2,.int .i64 2,.int .i64 12]) (Blk.new _ _ _) rfl) (by simp[Value.oneCell']) (by omega) (by unfold maxLen;omega) (by simp;omega) ?_;intro A16 c16 w16 hown hk hrow;have hk16:Keep (InRow Ao) w15 w16:=(by first | exact((Keep.refl (InRow Ao) w15).alloc _).trans hk | exact(((Keep.refl (InRow Ao) w15).alloc _).drew).trans hk);have HO16:=qh hown;clear hown hk hrow))
      all_goals
       go_wp2_with fail
       go_meet
       refine⟨_,_,rfl,qh ⟨HO16.out,(HK15.out.mono (fun _ _ h=>h.elim)).trans hk16⟩⟩
     case rest=>
      obtain⟨A16,c16,rfl,HH16⟩:=hcut
      rename World=>w16
      have hk:=HH16.out.2
      have HT16:=qh (HT13.out.keep hk (fun h=>HO13.out.ne_blk HT13.out (by decide) _ h rfl))
      have HM16:=qh (HM13.out.keep hk (fun h=>HO13.out.ne_blk HM13.out (by decide) _ h rfl))
      have HR16:=qh (HR13.out.keep hk (fun h=>HO13.out.ne_blk HR13.out (by decide) _ h rfl))
      have HL16:=qh (HL13.out.keep hk (fun h=>HO13.out.ne_blk HL13.out (by decide) _ h rfl))
      have HK16:=qh (HK13.out.then_ hk (fun i hi h=>by have:=(HO13.out.row h).1;omega))
      have HO16:=qh HH16.out.1
      clear hk HH16 hsz ha14 q0 l1 HT13 HM13 HR13 HL13 HK13 HO13 HQ13
      obtain⟨ae,ke,ve,hAe,hke,hkn,ed,hev,hv0,hv1⟩:=HEd.out w16 HK16.out _ HMm.out
      simp only at hAe hke hkn
      subst hAe
      have hkni:(ke:Int)<(ne:Int):=by omega
      have HEv:Hid (edgeM t (((s1,s2):Stp)).1=ve):=qh hev
      clear hev
      have l0:w16.cell? ⟨bl,0,none⟩=some (.int .i64 ke):=by rw[←hke];exact HL16.out.cell 0
      have hwb:wrap64 (be+ve)=be+ve:=by have h1:=HJ.out.bnd;have h2:IntKind.i64.wrap (be+ve)=be+ve:=IntWalk.i64_in _ (by omega);rwa [IntWalk.i64_left] at h2
      have hwb2:IntKind.i64.wrap (be+ve)=be+ve:=by have h1:=HJ.out.bnd;exact IntWalk.i64_in _ (by omega)
      obtain⟨y0,y1,y2,y3⟩:=bc4 HT16.out
      go_wp2_with fail
      have h2:=HJ.out.step HK1.out HS.out (by rw[HEv.out];exact⟨hv0,hv1⟩) HOb.out (by simp only;rw[HAlo.out];exact HAr.out) (by rw[HSc.out];exact HSe.out)
      rw[HSc.out,HEv.out] at h2
      simp only at h2
      rw[HAlo.out,←HMi.out] at h2
      unfold grpN at h2
      rw[HNs2.out] at h2
      refine⟨⟨k+1,be+ve,be+al,_,A16,no+7,c16,rfl,by go_num,rfl,by go_num,by omega,qh ⟨h2,by have h3:=HNo.out;simp;omega,by rw[List.append_nil,intCells_app];exact HO16.out,HT16.out,HM16.out,HR16.out,HK16.out⟩⟩,?_⟩
      simp[intOf];try omega
end Go.Proofs.YtpapiojicbbheaaGreatDoor

namespace Go.Proofs.YtpapiojicbbheaaGreatDoor
open Go.RowKit
structure LocOk (t:Tp) (ref:Int) (rv:Bool) (n:Int) (b:Bl):Prop where
  chk:checkM t=0
  bal:balM t.2.2.1 ref=some b
  there:thereB t.1.length b.2.1=true
  a0:0≤b.2.2
  a1:b.2.2≤edgeM t b.2.1
  n0:0≤n
  n1:n≤1099511627776
  go:(goM t 40 (b.2.1,rv) (n+alongP t (b.2.1,b.2.2,rv))).2=0
theorem loc_ok {t:Tp}{ref:Int}{rv:Bool}{n:Int} (h:(locP t ref rv n).2=0):∃b,LocOk t ref rv n b:=by
 unfold locP at h
 split at h
 ·rename_i hc
  cases hb:balM t.2.2.1 ref with
  | none=>rw[hb] at h;exact absurd (show (4:Int)=0 from h) (by decide)
  | some b=>
   rw[hb] at h
   simp only at h
   obtain⟨c1,c2,c3,c4,c5⟩:=check_bal hc (bal_mem hb).1
   unfold walkP at h
   split at h
   ·rename_i hw
    exact⟨b,hc,hb,c3,c4,c5,hw.2.1,hw.2.2,h⟩
   ·exact absurd h (by decide)
 ·exact absurd h (by decide)
theorem build_far {t:Tp}{l:List Lk}{train ref:Int}{rv:Bool}{n:Int}{q:Ps}{er:Int} (h:locP t ref rv n=(q,er)) (h0:er≠0):buildM t l train ref rv n=(noMa,er):=by
 unfold buildM;rw[h,if_pos h0]
theorem build_none {t:Tp}{l:List Lk}{train ref:Int}{rv:Bool}{n l1 l2:Int}{l3:Bool}{er:Int}{b:Bl} (h:locP t ref rv n=((l1,l2,l3),er)) (hL:LocOk t ref rv n b) (hc:chainM t l train (l1,l3)=[]):buildM t l train ref rv n=(noMa,4):=by
 have h0:er=0:=by
  have h1:(locP t ref rv n).2=0:=by
   unfold locP;rw[if_pos hL.chk,hL.bal];simp only;unfold walkP
   rw[if_pos ⟨right_iff.2 ⟨hL.chk,hL.there,hL.a0,hL.a1⟩,hL.n0,hL.n1⟩];exact hL.go
  rw[h] at h1;exact h1
 subst h0
 unfold buildM;rw[h,if_neg (by simp),hL.bal];simp only;rw[if_pos hc]
theorem build_go {t:Tp}{l:List Lk}{train ref:Int}{rv:Bool}{n l1 l2:Int}{l3:Bool}{er:Int}{b1 b2 b3:Int} (h:locP t ref rv n=((l1,l2,l3),er)) (hL:LocOk t ref rv n (b1,b2,b3)) (hc:chainM t l train (l1,l3)≠[]) :
    buildM t l train ref rv n=endC ref rv n (wayC t (l1,l3) (goneM t 40 (b2,rv) (n+alongP t (b2,b3,rv))) (chainM t l train (l1,l3)) (chainM t l train (l1,l3)).length) (lessS (secC t (l1,l3) (goneM t 40 (b2,rv) (n+alongP t (b2,b3,rv))) (alongP t (b2,b3,rv)) (chainM t l train (l1,l3)) (chainM t l train (l1,l3)).length) (gapC t (chainM t l train (l1,l3)) (chainM t l train (l1,l3)).length)) (gapC t (chainM t l train (l1,l3)) (chainM t l train (l1,l3)).length):=by
  have h0:er=0:=by
   have h1:(locP t ref rv n).2=0:=by
    unfold locP;rw[if_pos hL.chk,hL.bal];simp only;unfold walkP
    rw[if_pos ⟨right_iff.2 ⟨hL.chk,hL.there,hL.a0,hL.a1⟩,hL.n0,hL.n1⟩];exact hL.go
   rw[h] at h1;exact h1
  subst h0
  unfold buildM;rw[h,if_neg (by simp),hL.bal];simp only;rw[if_neg hc]
structure ChG (t:Tp) (l:List Lk) (train:Int) (s:Stp) (c:List Lk):Prop where
  few:c.length≤8
  rt:∀i k,c[i]?=some k→∃r,rtM t.2.2.2 k.1=some r∧r∈t.2.2.2∧r.2.1≠[]∧r.2.1.length≤8∧(∀u∈r.2.1,thereB t.1.length u.1=true)∧(i=0→s∈r.2.1)∧0≤r.2.2.1∧r.2.2.1≤40000000
theorem stpCells_drop (l:List Stp):∀k,stpCells (l.drop k)=(stpCells l).drop (k*2):=by
 induction l with
 | nil=>intro k;simp[stpCells_nil]
 | cons s l ih=>
  intro k
  cases k with
  | zero=>simp
  | succ k=>rw[List.drop_succ_cons,ih k,stpCells_cons,show (k+1)*2=k*2+1+1 by omega];rfl
theorem route_gap {t:Tp} (hc:checkM t=0) {r:Rt} (hr:r∈t.2.2.2):0≤r.2.2.1∧r.2.2.1≤40000000∧∀u∈r.2.1,thereB t.1.length u.1=true:=by
 obtain⟨i,hi⟩:=List.mem_iff_getElem?.1 hr
 have hg:=check_good hc hi
 obtain⟨g1,g2,g3⟩:=good_of hc hg.err
 have h0:firstE (rErr t) t.2.2.2.length=0:=by
  have h:=hc
  unfold checkM at h
  split at h
  ·exact absurd h (by decide)
  split at h
  ·exact absurd h (by decide)
  split at h
  ·rename_i h3;exact absurd h h3
  split at h
  ·rename_i h3;exact absurd h h3
  exact h
 have h1:=firstE_all h0 i (List.getElem?_eq_some_iff.1 hi).1
 unfold rErr at h1
 rw[hi] at h1
 simp only at h1
 split at h1
 ·rename_i h2;exact absurd h1 h2
 rename_i h2
 have h3:routedM t r=0:=by simpa using h2
 unfold routedM at h3
 split at h3
 ·exact absurd h3 (by decide)
 split at h3
 ·exact absurd h3 (by decide)
 split at h3
 ·rename_i h4;exact absurd h3 h4
 split at h3
 ·exact absurd h3 (by decide)
 rename_i h5
 have h6:=sum_in hc hg.err (i:=r.2.1.length) (Nat.le_refl _)
 rw[List.take_length,←g3] at h6
 exact⟨by omega,by omega,g1.2.1⟩
theorem chg_of {t:Tp}{l:List Lk}{train:Int}{s:Stp}:ChG t l train s (chainM t l train s):=by
 obtain⟨gone,h,h8,hc⟩:=chain_good (t:=t) (l:=l) (train:=train) (s:=s)
 refine⟨h8,fun i k hk=>?_⟩
 have hc0:=hc (by intro e;rw[e] at hk;simp at hk)
 obtain⟨r,hr,_,_,_,h0,_⟩:=h.way i k hk
 have hm:r∈t.2.2.2:=List.mem_of_find?_eq_some hr
 obtain⟨a1,a2⟩:=chain_path hc0 hm
 obtain⟨b1,b2,b3⟩:=route_gap hc0 hm
 exact⟨r,hr,hm,a1,a2,b3,fun hi=>by have:=h0 hi;unfold hasB at this;simpa using this,b1,b2⟩
theorem plain_bnd {t:Tp} (hc:checkM t=0):∀l:List Stp,(∀u∈l,thereB t.1.length u.1=true)→0≤plainS t.1 l∧plainS t.1 l≤l.length*1000000
  | [],_=>by simp[plainS]
  | s::l,h=>by
   have h1:=there_edge hc (h s (by simp))
   have h2:=plain_bnd hc l (fun u hu=>h u (by simp[hu]))
   rw[plainS_cons]
   have e3:t.1.getD s.1.toNat 0=edgeM t s.1:=rfl
   rw[e3]
   simp only[List.length_cons]
   omega
theorem plainS_app (es:List Int) (a b:List Stp):plainS es (a++b)=plainS es a+plainS es b:=by unfold plainS;simp
theorem plainS_next {t:Tp}{l:List Stp}{k:Nat}{s:Stp} (h:l[k]?=some s):plainS t.1 (l.take (k+1))=plainS t.1 (l.take k)+edgeM t s.1:=by
 rw[List.take_add_one,h,plainS_app]
 simp[plainS];rfl
theorem way_next {t:Tp}{s:Stp}{g:List Stp}{c:List Lk}{i:Nat}{k:Lk} (h:c[i]?=some k):wayC t s g c (i+1)=wayC t s g c i++partC t s i k:=by
 conv=>lhs;unfold wayC
 rw[h]
theorem sec_next {t:Tp}{s:Stp}{g:List Stp}{back:Int}{c:List Lk}{i:Nat}{k:Lk} (h:c[i]?=some k):secC t s g back c (i+1)=secC t s g back c i++[(plainS t.1 (wayC t s g c (i+1)) - back,(routeOf t k).2.2.2)]:=by
 conv=>lhs;unfold secC
 rw[h]
theorem gap_next {t:Tp}{c:List Lk}{i:Nat}{k:Lk} (h:c[i]?=some k):gapC t c (i+1)=(routeOf t k).2.2.1:=by simp only[gapC,h]
theorem sec_len {t:Tp}{s:Stp}{g:List Stp}{back:Int}{c:List Lk}:∀i,i≤c.length→(secC t s g back c i).length=i
  | 0,_=>rfl
  | i+1,h=>by
   rw[sec_next (List.getElem?_eq_getElem (by omega:i<c.length)),List.length_append,sec_len i (by omega)];rfl
theorem part_in {t:Tp}{s:Stp}{i:Nat}{k:Lk}{u:Stp} (h:u∈partC t s i k):u∈(routeOf t k).2.1:=by
 unfold partC at h
 split at h
 ·exact List.mem_of_mem_drop h
 ·exact h
theorem part_len {t:Tp}{s:Stp}{i:Nat}{k:Lk}:(partC t s i k).length≤(routeOf t k).2.1.length:=by
 unfold partC
 split
 ·rw[List.length_drop];omega
 ·exact Nat.le_refl _
theorem ChG.at {t:Tp}{l:List Lk}{train:Int}{s:Stp}{c:List Lk} (h:ChG t l train s c) {i:Nat}{k:Lk} (hk:c[i]?=some k):rtM t.2.2.2 k.1=some (routeOf t k):=by
 obtain⟨r,hr,_⟩:=h.rt i k hk
 unfold routeOf;rw[hr];rfl
theorem way_good {t:Tp}{l:List Lk}{train:Int}{s:Stp}{g:List Stp}{c:List Lk} (h:ChG t l train s c) (h1:g.length≤41) (h2:∀u∈g,thereB t.1.length u.1=true):∀i,i≤c.length→(wayC t s g c i).length≤41+8*i∧∀u∈wayC t s g c i,thereB t.1.length u.1=true
  | 0,_=>⟨by simpa[wayC] using h1,by simpa[wayC] using h2⟩
  | i+1,hi=>by
   have hk:c[i]?=some c[i]:=List.getElem?_eq_getElem (by omega:i<c.length)
   obtain⟨a,b⟩:=way_good h h1 h2 i (by omega)
   obtain⟨r,hr,_,_,h8,hth,_⟩:=h.rt i _ hk
   have hro:routeOf t c[i]=r:=by unfold routeOf;rw[hr];rfl
   rw[way_next hk]
   have:=part_len (t:=t) (s:=s) (i:=i) (k:=c[i])
   rw[hro] at this
   refine⟨by rw[List.length_append];omega,fun u hu=>?_⟩
   rcases List.mem_append.1 hu with hu | hu
   ·exact b u hu
   ·have:=part_in hu
    rw[hro] at this
    exact hth u this
theorem sc_cell {w:World}{B n k:Nat}{ad:Addr}{l:List Sc} (h:Rd w B 2 (some ad) n (scCells l)) (hk:k<n):∃s,l[k]?=some s∧w.cell? (ad.add (k*2))=some (.int .i64 s.1)∧w.cell? ⟨(ad.add (k*2)).block,(ad.add (k*2)).off+1,none⟩=some (.int .i64 s.2):=by
 obtain⟨ad2,s,h1,_,h3,h4,h5⟩:=h.sc hk
 injection h1 with h1
 subst h1
 exact⟨s,h3,h4,h5⟩
theorem sc_set0 {S:List Sc}{m:Nat}{sl:Sc} (h:S[m]?=some sl) (v:Int):scCells (S.set m (v,sl.2))=(scCells S).set (m*2) (.int .i64 v):=by
 rw[scCells_set _ _ (List.getElem?_eq_some_iff.1 h).1]
 have h1:=(scCells_at S h).2
 apply List.ext_getElem?
 intro i
 by_cases hi:m*2+1=i
 ·subst hi
  rw[List.getElem?_set_self (by rw[List.length_set];exact(List.getElem?_eq_some_iff.1 h1).1),List.getElem?_set_ne (by omega),h1]
 ·rw[List.getElem?_set_ne hi]
theorem scCells_drop (l:List Sc):∀k,scCells (l.drop k)=(scCells l).drop (k*2):=by
 induction l with
 | nil=>intro k;simp[scCells_nil]
 | cons s l ih=>
  intro k
  cases k with
  | zero=>simp
  | succ k=>rw[List.drop_succ_cons,ih k,scCells_cons,show (k+1)*2=k*2+1+1 by omega];rfl
theorem last_at {S:List Sc}{m:Nat} (h:S.length=m+1):S.getLast?=S[m]?:=by rw[List.getLast?_eq_getElem?,h];rfl
theorem less_set {S:List Sc}{m:Nat}{sl:Sc} (h:S[m]?=some sl) (hl:S.length=m+1) (g:Int):lessS S g=S.set m (sl.1 - g,sl.2):=by
 unfold lessS
 rw[last_at hl,h]
 simp only
 apply List.ext_getElem?
 intro i
 by_cases hi:i<m
 ·rw[List.getElem?_append_left (by rw[List.length_dropLast];omega),List.getElem?_dropLast,if_pos (by rw[hl];omega),List.getElem?_set_ne (by omega)]
 ·by_cases hm:m=i
  ·subst hm
   rw[List.getElem?_append_right (by rw[List.length_dropLast];omega),List.length_dropLast,hl,List.getElem?_set_self (by omega)]
   simp
  ·rw[List.getElem?_eq_none (by rw[List.length_append,List.length_dropLast];simp;omega),List.getElem?_eq_none (by rw[List.length_set];omega)]
theorem end_set {S:List Sc}{m:Nat} (hl:S.length=m+1) (s:Sc):endS (S.set m s)=s.1:=by
 unfold endS
 rw[last_at (by rw[List.length_set];exact hl),List.getElem?_set_self (by omega)]
 rfl
theorem end_init {S:List Sc}{m:Nat}{s:Sc} (hl:S.length=m+1+1) (h:S[m]?=some s):endS S.dropLast=s.1:=by
 unfold endS
 rw[last_at (m:=m) (by rw[List.length_dropLast,hl];rfl),List.getElem?_dropLast,if_pos (by rw[hl];omega),h]
 rfl
theorem endC_long {ref:Int}{rv:Bool}{n:Int}{P:List Stp}{S:List Sc}{g:Int} (h:24<P.length∨twiceB P=true):endC ref rv n P S g=(noMa,2):=by unfold endC;rw[if_pos h]
theorem endC_end {ref:Int}{rv:Bool}{n:Int}{P:List Stp}{S:List Sc}{g:Int} (h1:¬24<P.length) (h2:twiceB P=false) (h:endS S≤n∨(1<S.length∧endS S≤endS S.dropLast)):endC ref rv n P S g=(noMa,141):=by
 unfold endC;rw[if_neg (by rintro(e | e);exact h1 e;rw[h2] at e;cases e),if_pos h]
theorem endC_ok {ref:Int}{rv:Bool}{n:Int}{P:List Stp}{S:List Sc}{g:Int}{x:Sc} (h1:¬24<P.length) (h2:twiceB P=false) (h:¬(endS S≤n∨(1<S.length∧endS S≤endS S.dropLast))) (hx:S[0]?=some x):endC ref rv n P S g=((ref,rv,P,if x.1=0 then S.drop 1 else S,g),0):=by
 unfold endC;rw[if_neg (by rintro(e | e);exact h1 e;rw[h2] at e;cases e),if_neg h]
 cases S with
 | nil=>cases hx
 | cons y S'=>
  simp only[List.getElem?_cons_zero,Option.some.injEq] at hx
  subst hx
  simp only[List.drop_succ_cons,List.drop_zero]
  split <;> rfl
end Go.Proofs.YtpapiojicbbheaaGreatDoor
