/- Texts of this claim, together: PmJ, PmBu, PmK. -/
import Derived.Test.YtpapiojicbbheaaGreatDoorTg13
namespace Go.Proofs.YtpapiojicbbheaaGreatDoor
open Go.RowKit
set_option maxRecDepth 100000 in
theorem elemInt17:Elem Tryz.prog 22 3 1 8:=⟨Tryz.underlying22, _,_,rfl,rfl,rfl,rfl,rfl,by omega⟩
def intCells (v:List Int):List Value:=v.map (.int .i64)
theorem intCells_app (v w:List Int):intCells (v++w)=intCells v++intCells w:=by unfold intCells;simp
theorem and14 (x:Int) (h0:0≤x) (h1:x≤9223372036854775807):bits .and .i64 x 16383=x % 16384:=by
 have:=bits_mask .i64 63 (by decide) wraps_i64 14 (by decide) x h0 (by omega)
 simpa using this
def linkV (t:Tp) (u:Int) (n k:Nat) (begin at_:Int) (l:List Stp) (v:List Int):Except Int (List Int):=match linkN t u n k begin at_ l with
  | .error e=>.error e
  | .ok w=>.ok (v++w)
def midN (k:Nat) (n:Nat):List Int:=if k=2 then [(n:Int) - 2] else []
def grpN (q:Int) (b1:Int) (r:Bool):List Int:=[q,1,b1 / 16384,b1 % 16384,nomI r,2,12]
theorem linkV_none {t:Tp}{u:Int}{n k:Nat}{begin at_:Int}{s:Stp}{l:List Stp}{v:List Int} (h:firstB t s.1=none):linkV t u n k begin at_ (s::l) v=.error 1:=by
 unfold linkV linkN;rw[h]
theorem linkV_bad {t:Tp}{u:Int}{n k:Nat}{begin at_:Int}{s:Stp}{l:List Stp}{v:List Int}{b:Bl} (h:firstB t s.1=some b) (he:(scaledM (begin+alongP t (b.2.1,b.2.2,s.2) - at_) u false).2≠0):linkV t u n k begin at_ (s::l) v=.error (scaledM (begin+alongP t (b.2.1,b.2.2,s.2) - at_) u false).2:=by
 unfold linkV linkN;rw[h];simp only;rw[if_pos he]
theorem linkV_cons {t:Tp}{u:Int}{n k:Nat}{begin at_:Int}{s:Stp}{l:List Stp}{v:List Int}{b:Bl} (h:firstB t s.1=some b) (he:(scaledM (begin+alongP t (b.2.1,b.2.2,s.2) - at_) u false).2=0):linkV t u n k begin at_ (s::l) v=linkV t u n (k+1) (begin+edgeM t s.1) (begin+alongP t (b.2.1,b.2.2,s.2)) l (v++midN k n++grpN (scaledM (begin+alongP t (b.2.1,b.2.2,s.2) - at_) u false).1 b.1 s.2):=by
 conv=>lhs;unfold linkV linkN
 rw[h];simp only;rw[if_neg (by rw[he];simp)]
 unfold linkV midN grpN
 cases linkN t u n (k+1) (begin+edgeM t s.1) (begin+alongP t (b.2.1,b.2.2,s.2)) l with
 | error e=>rfl
 | ok w=>simp only[List.append_assoc]
structure LkJ (t:Tp) (u:Int) (path:List Stp) (at0:Int) (v0:List Int) (res:Except Int (List Int)) (k:Nat) (begin at_:Int) (v:List Int):Prop where
  fst:k=0→begin=0∧at_=at0∧v=v0
  nxt:1≤k→res=linkV t u path.length k begin at_ (path.drop k) v
  bnd:0≤begin∧begin≤k*1000000∧0≤at_∧at_≤k*1000000+1000000
  len:v.length≤2+8*k
theorem LkJ.step0 {t:Tp}{u:Int}{path:List Stp}{at0:Int}{v0:List Int}{begin at_:Int}{v:List Int}{s:Stp} (h:LkJ t u path at0 v0 (linkV t u path.length 1 (edgeM t (path.headD (0,false)).1) at0 (path.drop 1) v0) 0 begin at_ v) (hs:path[0]?=some s) (he:0≤edgeM t s.1∧edgeM t s.1≤1000000) :
    LkJ t u path at0 v0 (linkV t u path.length 1 (edgeM t (path.headD (0,false)).1) at0 (path.drop 1) v0) 1 (begin+edgeM t s.1) at_ v:=by
  obtain⟨rfl,rfl,rfl⟩:=h.fst rfl
  have hh:path.headD (0,false)=s:=by cases path with | nil=>cases hs | cons x l=>simpa using hs
  have hb:=h.bnd
  have hl:=h.len
  exact⟨fun h=>by omega,fun _=>by rw[hh];simp,by omega,by omega⟩
theorem LkJ.step {t:Tp}{u:Int}{path:List Stp}{at0:Int}{v0:List Int}{res:Except Int (List Int)}{k:Nat}{begin at_:Int}{v:List Int}{s:Stp}{b:Bl} (h:LkJ t u path at0 v0 res k begin at_ v) (h1:1≤k) (hs:path[k]?=some s) (he:0≤edgeM t s.1∧edgeM t s.1≤1000000) (hb:firstB t s.1=some b) (ha:0≤alongP t (b.2.1,b.2.2,s.2)∧alongP t (b.2.1,b.2.2,s.2)≤1000000)
    (h0:(scaledM (begin+alongP t (b.2.1,b.2.2,s.2) - at_) u false).2=0) :
    LkJ t u path at0 v0 res (k+1) (begin+edgeM t s.1) (begin+alongP t (b.2.1,b.2.2,s.2)) (v++midN k path.length++grpN (scaledM (begin+alongP t (b.2.1,b.2.2,s.2) - at_) u false).1 b.1 s.2):=by
  obtain⟨q1,q2⟩:=List.getElem?_eq_some_iff.1 hs
  have hd:path.drop k=s::path.drop (k+1):=by rw[List.drop_eq_getElem_cons q1,q2]
  have hbd:=h.bnd
  have hl:=h.len
  refine⟨fun h=>by omega,fun _=>by rw[h.nxt h1,hd,linkV_cons hb h0],by omega,?_⟩
  have:(midN k path.length).length≤1:=by unfold midN;split <;> simp
  simp only[List.length_append,grpN,List.length_cons,List.length_nil];omega
theorem LkJ.none {t:Tp}{u:Int}{path:List Stp}{at0:Int}{v0:List Int}{res:Except Int (List Int)}{k:Nat}{begin at_:Int}{v:List Int}{s:Stp} (h:LkJ t u path at0 v0 res k begin at_ v) (h1:1≤k) (hs:path[k]?=some s) (hb:firstB t s.1=none):res=.error 1:=by
 obtain⟨q1,q2⟩:=List.getElem?_eq_some_iff.1 hs
 have hd:path.drop k=s::path.drop (k+1):=by rw[List.drop_eq_getElem_cons q1,q2]
 rw[h.nxt h1,hd,linkV_none hb]
theorem LkJ.bad {t:Tp}{u:Int}{path:List Stp}{at0:Int}{v0:List Int}{res:Except Int (List Int)}{k:Nat}{begin at_:Int}{v:List Int}{s:Stp}{b:Bl} (h:LkJ t u path at0 v0 res k begin at_ v) (h1:1≤k) (hs:path[k]?=some s) (hb:firstB t s.1=some b) (h0:(scaledM (begin+alongP t (b.2.1,b.2.2,s.2) - at_) u false).2≠0):res=.error (scaledM (begin+alongP t (b.2.1,b.2.2,s.2) - at_) u false).2:=by
 obtain⟨q1,q2⟩:=List.getElem?_eq_some_iff.1 hs
 have hd:path.drop k=s::path.drop (k+1):=by rw[List.drop_eq_getElem_cons q1,q2]
 rw[h.nxt h1,hd,linkV_bad hb h0]
theorem LkJ.fin {t:Tp}{u:Int}{path:List Stp}{at0:Int}{v0:List Int}{res:Except Int (List Int)}{begin at_:Int}{v:List Int} (h:LkJ t u path at0 v0 res path.length begin at_ v) (hp:1≤path.length):res=.ok v:=by
 rw[h.nxt hp,List.drop_length]
 unfold linkV linkN;simp
def farP17 (t:Tp) (ref:Int) (rv:Bool):Int:=match balM t.2.2.1 ref with
  | none=>0
  | some b=>alongP t (b.2.1,b.2.2,rv)
def linkP (path:List Stp) (_rv:Bool) (_u:Int) (res:Except Int (List Int)):Except Int Pk:=match res with
  | .error e=>.error e
  | .ok v=>.ok (5,v++(if path.length=2 then [0] else []))
def linksM (t:Tp) (ref:Int) (rv:Bool) (path:List Stp) (u:Int):Except Int Pk:=linkP path rv u (linkV t u path.length 1 (edgeM t (path.headD (0,false)).1) (farP17 t ref rv) (path.drop 1) [nomI rv,u])
def PkRet (r:Except Int Pk) (w:World) (e:Ending) (w':World):Prop:=
  Keep Never w w'∧match r with
    | .ok q=>∃A n c,e=.returned (.tuple #[.agg #[.int .i64 q.1,.slice A n c],.int .i64 0])∧n=q.2.length∧Own w' w.heap.size 3 1 A n c (intCells q.2)
    | .error x=>x≠0∧e=.returned (.tuple #[.agg #[.int .i64 0,.slice none 0 0],.int .i64 x])
set_option maxRecDepth 100000 in
theorem pk_results {w:World}{b:Nat}{v0 v1:Value} (hb:Blk w b 105 #[v0,v1]) (tmps:Array Value) (ht:tmps.getD 6 undef=.pointer (some ⟨b,0,none⟩)) :
    (results Tryz.f79 tmps).run Tryz.prog w=.ok (.tuple #[.agg #[v0,v1],tmps.getD 7 undef]) w:=by
  have q0:w.cell? ⟨b,0,none⟩=some v0:=hb.cell 0
  have q1:w.cell? ⟨b,1,none⟩=some v1:=hb.cell 1
  have ht':tmps[6]?.getD undef=.pointer (some ⟨b,0,none⟩):=by rw[←Array.getD_eq_getD_getElem?];exact ht
  simp[results,ht',go_sem,q0,q1]
abbrev put2 (w:World) (b:Nat) (v0 v1:Value):World:=(w.setCell ⟨b,0,none⟩ v0).setCell ⟨b,1,none⟩ v1
theorem put2_blk17 {w:World}{b t:Nat}{u0 u1:Value} (h:Blk w b t #[u0,u1]) (v0 v1:Value):Blk (put2 w b v0 v1) b t #[v0,v1]:=by
 have:=(h.set_ 0 v0).set_ 1 v1
 simpa using this
theorem put2_own17 {S:Nat→Prop}{w0 w:World}{b:Nat} (h:Keep S w0 w) (hb:S b∨w0.heap.size≤b) (v0 v1:Value):Keep S w0 (put2 w b v0 v1):=
  (h.set_ (p:=⟨b,0,none⟩) hb v0).set_ (p:=⟨b,1,none⟩) hb v1
theorem there_edge {t:Tp} (h:checkM t=0) {e:Int} (ht:thereB t.1.length e=true):0≤e∧e<(t.1.length:Int)∧1≤edgeM t e∧edgeM t e≤1000000:=by
 unfold thereB at ht
 rw[Bool.and_eq_true,decide_eq_true_eq,decide_eq_true_eq] at ht
 refine⟨ht.1,ht.2,?_⟩
 unfold edgeM
 have h1:e.toNat<t.1.length:=by omega
 have h2:=check_edges h (t.1.getD e.toNat 0) (by rw[List.getD_eq_getElem?_getD,List.getElem?_eq_getElem h1];exact List.getElem_mem h1)
 exact h2
set_option maxHeartbeats 8000000 in
set_option maxRecDepth 100000 in
theorem links_any (x:TA) (t:Tp) (B:Nat) (ref:Int) (rv:Bool) (path:List Stp) (S:List Sc) (g u:Int) (z:Int×Int) (Ap:Option Addr) (np cp:Nat) (As:Option Addr) (ns cs:Nat) (w:World) (h:TpAt w B x t) (hs:TpSmall x t) (hB:B≤w.heap.size) (hp:repStp.Sl w B Ap np cp path) (hm:MayA t (ref,rv,path,S,g) z) :
    Calls Tryz.prog 79 #[.agg x.cs,.agg #[.int .i64 ref,.bool rv,.slice Ap np cp,.slice As ns cs,.int .i64 g],.int .i64 u] w (PkRet (linksM t ref rv path u) w):=by
  have HBa:=qh (fun (W:World) (hk:Keep Never w W)=>bal_any x t B ref W (h.keep hk) hs.b)
  have HFi:=qh (fun (W:World) (hk:Keep Never w W) (e:Int)=>first_any x t B e W (h.keep hk) hs.b)
  have HBh:=qh (fun (W:World) (hk:Keep Never w W) (bb:Bl) (r:Bool) (hb:bb∈t.2.2.1)=>(show Calls Tryz.prog 57 #[.agg x.cs,.agg #[.int .i64 bb.2.1,.int .i64 bb.2.2,.bool r]] W fun en w'=>en=.returned (.int .i64 (alongP t (bb.2.1,bb.2.2,r)))∧Keep Never W w' by
   obtain⟨_,_,c3,c4,c5⟩:=check_bal hm.chk hb
   have h1:=check_edges hm.chk
   obtain⟨d1,d2,d3⟩:=there_edge hm.chk c3
   exact behind_any x t B bb.2.1 bb.2.2 r W (h.keep hk) d1 (by have:=h.e.len;omega) (by omega) (by omega) c4 (by omega)))
  have HAl:=qh (fun (bb:Bl) (r:Bool) (hb:bb∈t.2.2.1)=>(show 0≤alongP t (bb.2.1,bb.2.2,r)∧alongP t (bb.2.1,bb.2.2,r)≤1000000 by
   obtain⟨_,_,c3,c4,c5⟩:=check_bal hm.chk hb
   obtain⟨d1,d2,d3⟩:=there_edge hm.chk c3
   have:=along_in (t:=t) (p:=(bb.2.1,bb.2.2,r)) c4 c5
   simp only at this;omega))
  have HEd:=qh (fun (W:World) (hk:Keep Never w W) (s:Stp) (hsm:s∈path)=>(show ∃ad k v,x.Ae=some ad∧s.1=((k:Nat):Int)∧k<x.ne∧W.cell? (ad.add k)=some (.int .i64 v)∧edgeM t s.1=v∧0≤v∧v≤1000000 by
   obtain⟨b0,_,_,_,hg,_⟩:=hm.place
   obtain⟨d1,d2,d3⟩:=there_edge hm.chk (hg.2.1 s hsm)
   obtain⟨ad,k,v,e1,e2,e3,e4,e5⟩:=edge_at (h.keep hk) d1 (by have:=h.e.len;omega)
   exact⟨ad,k,v,e1,e2,e3,e4,e5,by omega,by omega⟩))
  have HSl:=qh hp
  have HBw:=qh hB
  have H24:Hid (path.length≤24):=qh hm.few
  have HCB:=qh (fun (bb:Bl) (hb:bb∈t.2.2.1)=>(check_bal hm.chk hb).1)
  have HCB2:=qh (fun (bb:Bl) (hb:bb∈t.2.2.1)=>(check_bal hm.chk hb).2.1)
  obtain⟨b0,hb0,_⟩:=left_some hm.left
  have HB0:=qh hb0
  have HP1:Hid (1≤path.length):=qh (by
   obtain⟨b1,_,h2,_⟩:=left_some hm.left
   cases path with
   | nil=>cases h2
   | cons a l=>simp)
  have hnp0:np=path.length:=(stps_rd hp).2.1
  have HNp:=qh hnp0
  have hnp24:np≤24:=by rw[hnp0];exact hm.few
  clear hnp0 hb0
  obtain⟨Ae,ne,ce,Aj,nj,cj,Ab,nb,cb,Ar,nr,cr⟩:=x
  simp only[TA.cs] at HBa HFi HBh HEd ⊢
  clear h hs hp hB hm
  obtain⟨w1,hw1⟩:∃V:World,w.alloc (.cells #[.slice Ae ne ce,.slice Aj nj cj,.slice Ab nb cb,.slice Ar nr cr] 27)=V:=⟨_,rfl⟩
  have zw1:w1.heap.size=w.heap.size+1:=by rw[←hw1];simp
  have kw1:Keep Never w w1:=by rw[←hw1];exact(Keep.refl _ _).alloc _
  have bw1:=Blk.new w 27 #[.slice Ae ne ce,.slice Aj nj cj,.slice Ab nb cb,.slice Ar nr cr]
  rw[hw1] at bw1
  obtain⟨w2,hw2⟩:∃V:World,w1.alloc (.cells #[.int .i64 ref,.bool rv,.slice Ap np cp,.slice As ns cs,.int .i64 g] 38)=V:=⟨_,rfl⟩
  have zw2:w2.heap.size=w.heap.size+1+1:=by rw[←hw2];simp[zw1]
  have kw2:Keep Never w1 w2:=by rw[←hw2];exact(Keep.refl _ _).alloc _
  have bw2:=Blk.new w1 38 #[.int .i64 ref,.bool rv,.slice Ap np cp,.slice As ns cs,.int .i64 g]
  rw[hw2,zw1] at bw2
  obtain⟨w3,hw3⟩:∃V:World,w2.alloc (.cells #[.int .i64 0,.slice none 0 0] 105)=V:=⟨_,rfl⟩
  have kw3:Keep Never w2 w3:=by rw[←hw3];exact(Keep.refl _ _).alloc _
  have bw3:=Blk.new w2 105 #[.int .i64 0,.slice none 0 0]
  rw[hw3,zw2] at bw3
  have HB1:=qh ((bw1.keep kw2 (fun h=>h)).keep kw3 (fun h=>h))
  have HB2:=qh (bw2.keep kw3 (fun h=>h))
  have HB3:=qh bw3
  have HK:=qh ((kw1.trans kw2).trans kw3)
  clear kw1 kw2 kw3 bw1 bw2 bw3
  have HT3:=HB1
  have HM3:=HB2
  have HR3:=HB3
  have HK3:=HK
  obtain⟨b1,b2,b3⟩:=b0
  have hw:=HBa.out w3 HK.out
  unfold BalRet at hw
  rw[HB0.out] at hw
  simp only[Option.getD,Option.isSome] at hw
  have HC:=qh hw
  clear hw HBa HB1 HB2 HB3 HK
  obtain⟨y0,y1,y2,y3⟩:=bc4 HT3.out
  obtain⟨m0,m1,m2,m3,m4⟩:=bc5 HM3.out
  go_enter Tryz.func79, Tryz.ntmps79
  go_wp2_with fail
  refine HC.out.mono ?_
  rintro en w4 ⟨rfl,hk⟩
  have HK4:=qtr HK3 hk
  have HT4:=qkb HT3 hk
  have HM4:=qkb HM3 hk
  have HR4:=qkb HR3 hk
  clear hk HC HT3 HM3 HR3 HK3 y0 y1 y2 y3 m0 m1 m2 m3 m4 hw1 hw2 hw3 zw1 zw2
  obtain⟨w5,hw5⟩:∃V:World,w4.alloc (.cells #[.int .i64 b1,.int .i64 b2,.int .i64 b3] 94)=V:=⟨_,rfl⟩
  have hk:Keep Never w4 w5:=by rw[←hw5];exact(Keep.refl _ _).alloc _
  have B5:=Blk.new w4 94 #[.int .i64 b1,.int .i64 b2,.int .i64 b3]
  rw[hw5] at B5
  obtain⟨bb,hbb⟩:∃q,w4.heap.size=q:=⟨_,rfl⟩
  rw[hbb] at B5
  have HK5:=qtr HK4 hk
  have HT5:=qkb HT4 hk
  have HM5:=qkb HM4 hk
  have HR5:=qkb HR4 hk
  have d1:w5.cell? ⟨bb,1,none⟩=some (.int .i64 b2):=B5.cell 1
  have d2:w5.cell? ⟨bb,2,none⟩=some (.int .i64 b3):=B5.cell 2
  clear hk B5 HT4 HM4 HR4 HK4
  obtain⟨at0,hat0⟩:∃z,alongP t (b2,b3,rv)=z:=⟨_,rfl⟩
  have hw:=HBh.out w5 HK5.out (b1,b2,b3) rv (bal_mem HB0.out).1
  have hwa:=HAl.out (b1,b2,b3) rv (bal_mem HB0.out).1
  simp only at hw hwa
  rw[hat0] at hw hwa
  have HA0:=qh hwa
  have HC:=qh hw
  have HAt:=qh hat0
  clear hw hwa hat0
  obtain⟨y0,y1,y2,y3⟩:=bc4 HT5.out
  obtain⟨m0,m1,m2,m3,m4⟩:=bc5 HM5.out
  go_wp2_with fail
  refine HC.out.mono ?_
  rintro en w6 ⟨rfl,hk⟩
  have HK6:=qtr HK5 hk
  have HT6:=qkb HT5 hk
  have HM6:=qkb HM5 hk
  have HR6:=qkb HR5 hk
  clear hk HC HT5 HM5 HR5 HK5 y0 y1 y2 y3 m0 m1 m2 m3 m4 d1 d2 hw5 hbb
  obtain⟨m0,m1,m2,m3,m4⟩:=bc5 HM6.out
  have HC:=qh (nom_any rv w6)
  go_wp2_with fail
  refine HC.out.mono ?_
  rintro en w7 ⟨rfl,hk⟩
  have HK7:=qtr HK6 hk
  have HT7:=qkb HT6 hk
  have HM7:=qkb HM6 hk
  have HR7:=qkb HR6 hk
  clear hk HC HT6 HM6 HR6 HK6 m0 m1 m2 m3 m4
  obtain⟨m0,m1,m2,m3,m4⟩:=bc5 HM7.out
  go_upto_region 5 with(fail)
  obtain⟨nm,hnm⟩:∃z,nomI rv=z:=⟨_,rfl⟩
  rw[hnm]
  have HNm:=qh hnm
  clear hnm
  obtain⟨w8,hw8⟩:∃V:World,w7.alloc (.cells #[.int .i64 nm,.int .i64 u] 3)=V:=⟨_,rfl⟩
  have hk:Keep Never w7 w8:=by rw[←hw8];exact(Keep.refl _ _).alloc _
  have B8:=Blk.new w7 3 #[.int .i64 nm,.int .i64 u]
  rw[hw8] at B8
  obtain⟨br,hbr⟩:∃q,w7.heap.size=q:=⟨_,rfl⟩
  rw[hbr] at B8
  rw[hw8]
  rw[hbr]
  have HK8:=qtr HK7 hk
  have HT8:=qkb HT7 hk
  have HM8:=qkb HM7 hk
  have HR8:=qkb HR7 hk
  have HO8:Hid (Own w8 w.heap.size 3 1 (some ⟨br,0,none⟩) 2 2 (intCells [nm,u])):=qh (Own.of_blk2 (xs:=[.int .i64 nm,.int .i64 u]) B8 rfl (by unfold maxLen;omega) (by rw[←hbr];exact HK7.out.size))
  clear hk B8 HT7 HM7 HR7 HK7 hw8 hbr m0 m1 m2 m3 m4
  obtain⟨m0,m1,m2,m3,m4⟩:=bc5 HM8.out
  obtain⟨res,hres⟩:∃z,linkV t u path.length 1 (edgeM t (path.headD (0,false)).1) at0 (path.drop 1) [nm,u]=z:=⟨_,rfl⟩
  have HRe:Hid (linksM t ref rv path u=linkP path rv u res):=qh (by unfold linksM farP17;rw[HB0.out];simp only;rw[HAt.out,HNm.out,hres])
  have HJ0:Hid (LkJ t u path at0 [nm,u] res 0 0 at0 [nm,u]):=qh ⟨fun _=>⟨rfl,rfl,rfl⟩,fun h=>by omega,by have:=HA0.out;omega,by simp⟩
  have HRs:=qh hres
  clear hres
  go_wp2_with fail
  clear m0 m1 m2 m3 m4
  go_loopw [10,11,12,44] (fun s10 s11 s12 s44 wr=>∃(k:Nat) (be at_:Int) (v:List Int) (Ao:Option Addr) (no co:Nat),s10=.int .i64 at_∧s11=.int .i64 be∧s12=.slice Ao no co∧s44=.int .i64 k∧k≤np∧Hid (LkJ t u path at0 [nm,u] res k be at_ v∧no=v.length∧Own wr w.heap.size 3 1 Ao no co (intCells v)∧Blk wr w.heap.size 27 #[.slice Ae ne ce,.slice Aj nj cj,.slice Ab nb cb,.slice Ar nr cr]∧Blk wr (w.heap.size+1) 38 #[.int .i64 ref,.bool rv,.slice Ap np cp,.slice As ns cs,.int .i64 g]∧Blk wr (w.heap.size+1+1) 105 #[.int .i64 0,.slice none 0 0]∧Keep Never w wr)) (fun _ _ _ s44 _=>np - (intOf s44).toNat)
  case atStart=>exact⟨0,0,at0,[nm,u],_,2,2,rfl,rfl,rfl,rfl,by omega,qh ⟨HJ0.out,rfl,HO8.out,HT8.out,HM8.out,HR8.out,HK8.out⟩⟩
  case round=>
   clear HO8 HT8 HM8 HR8 HK8 HJ0
   obtain⟨k,be,at_,v,Ao,no,co,rfl,rfl,rfl,rfl,hk,HH⟩:=hrel
   have HJ:=qh HH.out.1
   have HNo:=qh HH.out.2.1
   have HOr:=qh HH.out.2.2.1
   have HTr:=qh HH.out.2.2.2.1
   have HMr:=qh HH.out.2.2.2.2.1
   have HRr:=qh HH.out.2.2.2.2.2.1
   have HKr:=qh HH.out.2.2.2.2.2.2
   have hno:no≤300:=by have h1:=HNo.out;have h2:=HJ.out.len;omega
   clear HH
   by_cases h0:k<np
   case neg=>
    obtain rfl:k=np:=by omega
    have hki:¬(k:Int)<(k:Int):=by omega
    have HF:Hid (res=.ok v):=qh (by have h1:=HJ.out;rw[HNp.out] at h1;exact h1.fin HP1.out)
    have hsz:=HKr.out.size
    have m2:wr.cell? ⟨w.heap.size+1,2,none⟩=some (.slice Ap k cp):=HMr.out.cell 2
    by_cases g2:k=2
    ·have t2:((k:Int)==2)=true:=by simp;omega
     have HIf:Hid (v++(if path.length=2 then [0] else [])=v++[0]):=qh (by rw[if_pos (by rw[←HNp.out];exact g2)])
     clear g2
     go_upto_region 24 with(at_builtin;refine wpList_app _ rfl (.tmp 120) (.tmp 121) _ rfl elemInt17 w.heap.size rfl (HOr.out.alloc _) _ rfl (Rd.of_blk (n:=1) (cs:=[.int .i64 0]) (Blk.new _ _ _) rfl) (by simp[Value.oneCell']) (by omega) (by unfold maxLen;omega) (by simp;omega) ?_;intro A14 c14 w14 hown hk hrow;have hk14:Keep (InRow Ao) wr w14:=((Keep.refl _ wr).alloc _).trans hk;have HO14:=qh hown;clear hown hk hrow;have HR14:=qh (HRr.out.keep hk14 (fun h=>HOr.out.ne_blk HRr.out (by decide) _ h rfl));have HK14:=qh (HKr.out.then_ hk14 (fun i hi h=>by have:=(HOr.out.row h).1;omega));have r0:w14.cell? ⟨w.heap.size+1+1,0,none⟩=some (.int .i64 0):=HR14.out.cell 0;have rf0:=HR14.out.frozen 0;have r1:w14.cell? ⟨w.heap.size+1+1,1,none⟩=some (.slice none 0 0):=HR14.out.cell 1;have rf1:=HR14.out.frozen 1)
     go_wp2_with fail
     (try simp only[Exit.inBlock,Exit.then])
     refine bodyPost_ret (pk_results (put2_blk17 HR14.out (.int .i64 5) (.slice A14 (no+1) c14)) _ rfl) rfl ?_
     refine⟨put2_own17 HK14.out (.inr (by omega)) _ _,?_⟩
     rw[HRe.out,HF.out]
     exact⟨A14,no+1,c14,rfl,by rw[HIf.out,HNo.out];simp,by rw[HIf.out,intCells_app];exact HO14.out.keep (put2_own17 (Keep.refl (fun q=>q=w.heap.size+1+1) w14) (.inl rfl) _ _) (HO14.out.ne_blk HR14.out (by decide))⟩
    ·have t2:((k:Int)==2)=false:=by simp;omega
     have HIf:Hid (v++(if path.length=2 then [0] else [])=v):=qh (by rw[if_neg (by rw[←HNp.out];exact g2)];simp)
     clear g2
     obtain⟨r0,r1⟩:=bc2 HRr.out
     have rf0:=HRr.out.frozen 0
     have rf1:=HRr.out.frozen 1
     go_wp2_with fail
     (try simp only[Exit.inBlock,Exit.then])
     refine bodyPost_ret (pk_results (put2_blk17 HRr.out (.int .i64 5) (.slice Ao no co)) _ rfl) rfl ?_
     refine⟨put2_own17 HKr.out (.inr (by omega)) _ _,?_⟩
     rw[HRe.out,HF.out]
     exact⟨Ao,no,co,rfl,by rw[HIf.out,HNo.out],by rw[HIf.out];exact HOr.out.keep (put2_own17 (Keep.refl (fun q=>q=w.heap.size+1+1) wr) (.inl rfl) _ _) (HOr.out.ne_blk HRr.out (by decide))⟩
   have hki:(k:Int)<(np:Int):=by omega
   obtain⟨ad,s,hA,_,hs,c0,c1⟩:=((stps_rd HSl.out).1.keep HKr.out (fun _ h=>h.elim)).stp h0
   subst hA
   have HS:=qh hs
   have HMm:=qh (List.mem_of_getElem? hs)
   have hin:=(stps_rd HSl.out).2.2.2.2.2 s HMm.out
   obtain⟨s1,s2⟩:=s
   simp only at c0 c1 hin
   clear hs
   go_upto_region 8 with(fail)
   obtain⟨w9,hw9⟩:∃V:World,wr.alloc (.cells #[.int .i64 s1,.bool s2] 30)=V:=⟨_,rfl⟩
   have hk:Keep Never wr w9:=by rw[←hw9];exact(Keep.refl _ _).alloc _
   have B9:=Blk.new wr 30 #[.int .i64 s1,.bool s2]
   rw[hw9] at B9
   obtain⟨bl,hbl⟩:∃q,wr.heap.size=q:=⟨_,rfl⟩
   rw[hbl] at B9
   have HK9:=qtr HKr hk
   have HT9:=qkb HTr hk
   have HM9:=qkb HMr hk
   have HR9:=qkb HRr hk
   have HO9:=qko HOr hk
   have HL9:=qh B9
   rw[hw9,hbl]
   clear hk B9 c0 c1 HTr HMr HRr HKr HOr hbl hw9
   by_cases g0:k=0
   ·subst g0
    have tg:decide (((0:Nat):Int)>0)=false:=by decide
    obtain⟨ae,ke,ve,hAe,hke,hkn,ed,hev,hv0,hv1⟩:=HEd.out w9 HK9.out _ HMm.out
    simp only at hAe hke hkn
    subst hAe
    have hkni:(ke:Int)<(ne:Int):=by omega
    have HEv:Hid (edgeM t (((s1,s2):Stp)).1=ve):=qh hev
    clear hev
    have l0:w9.cell? ⟨bl,0,none⟩=some (.int .i64 ke):=by rw[←hke];exact HL9.out.cell 0
    have hwb:wrap64 (be+ve)=be+ve:=by have h1:=HJ.out.bnd;have h2:IntKind.i64.wrap (be+ve)=be+ve:=IntWalk.i64_in _ (by omega);rwa [IntWalk.i64_left] at h2
    have hwb2:IntKind.i64.wrap (be+ve)=be+ve:=by have h1:=HJ.out.bnd;exact IntWalk.i64_in _ (by omega)
    obtain⟨y0,y1,y2,y3⟩:=bc4 HT9.out
    go_wp2_with fail
    refine⟨⟨0+1,be+ve,at_,v,Ao,no,co,rfl,by go_num,rfl,by go_num,by omega,qh ⟨by have h1:=HJ.out;rw[←HRs.out] at h1;have h2:=h1.step0 HS.out (by rw[HEv.out];exact⟨hv0,hv1⟩);rw[HEv.out,HRs.out] at h2;exact h2,HNo.out,HO9.out,HT9.out,HM9.out,HR9.out,HK9.out⟩⟩,?_⟩
    simp[intOf];try omega
   ·have tg:decide ((k:Int)>0)=true:=by simp;omega
    have l0:w9.cell? ⟨bl,0,none⟩=some (.int .i64 s1):=HL9.out.cell 0
    have hw:=HFi.out w9 HK9.out s1
    unfold BalRet at hw
    obtain⟨ob,hob⟩:∃z,firstB t s1=z:=⟨_,rfl⟩
    rw[hob] at hw
    have HC:=qh hw
    have HOb:=qh hob
    clear hw hob
    obtain⟨y0,y1,y2,y3⟩:=bc4 HT9.out
    go_wp2_with fail
    refine HC.out.mono ?_
    rintro en w10 ⟨rfl,hk⟩
    have HK10:=qtr HK9 hk
    have HT10:=qkb HT9 hk
    have HM10:=qkb HM9 hk
    have HR10:=qkb HR9 hk
    have HO10:=qko HO9 hk
    have HL10:=qkb HL9 hk
    clear hk HC HT9 HM9 HR9 HK9 HO9 HL9 y0 y1 y2 y3 l0
    have HK1:Hid (1≤k):=qh (by omega)
    cases ob with
    | none=>
     simp only[Option.getD,Option.isSome]
     have HF:Hid (res=.error 1):=qh (HJ.out.none HK1.out HS.out HOb.out)
     have HKz:=qh (HK10.out.alloc (.cells #[.int .i64 0,.int .i64 0,.int .i64 0] 94))
     have HRz:=qh (HR10.out.alloc (.cells #[.int .i64 0,.int .i64 0,.int .i64 0] 94))
     obtain⟨r0,r1⟩:=bc2 HRz.out
     have rf0:=HRz.out.frozen 0
     have rf1:=HRz.out.frozen 1
     go_wp2_with fail
     (try simp only[Exit.inBlock,Exit.then])
     refine bodyPost_ret (pk_results (put2_blk17 HRz.out (.int .i64 0) (.slice none 0 0)) _ rfl) rfl ?_
     refine⟨put2_own17 HKz.out (.inr (by omega)) _ _,?_⟩
     rw[HRe.out,HF.out]
     exact⟨by decide,rfl⟩
    | some q=>
    obtain⟨q1,q2,q3⟩:=q
    simp only[Option.getD,Option.isSome]
    obtain⟨w11,hw11⟩:∃V:World,w10.alloc (.cells #[.int .i64 q1,.int .i64 q2,.int .i64 q3] 94)=V:=⟨_,rfl⟩
    have hk:Keep Never w10 w11:=by rw[←hw11];exact(Keep.refl _ _).alloc _
    have B11:=Blk.new w10 94 #[.int .i64 q1,.int .i64 q2,.int .i64 q3]
    rw[hw11] at B11
    obtain⟨bq,hbq⟩:∃q,w10.heap.size=q:=⟨_,rfl⟩
    rw[hbq] at B11
    have HK11:=qtr HK10 hk
    have HT11:=qkb HT10 hk
    have HM11:=qkb HM10 hk
    have HR11:=qkb HR10 hk
    have HO11:=qko HO10 hk
    have HL11:=qkb HL10 hk
    have HQ11:=qh B11
    clear hk B11 HT10 HM10 HR10 HK10 HO10 HL10
    have HMq:Hid ((q1,q2,q3)∈t.2.2.1):=qh (by have:=HOb.out;unfold firstB at this;exact List.mem_of_find?_eq_some this)
    have hw:=HBh.out w11 HK11.out (q1,q2,q3) s2 HMq.out
    have ha:=HAl.out (q1,q2,q3) s2 HMq.out
    simp only at hw ha
    obtain⟨al,hal⟩:∃z,alongP t (q2,q3,s2)=z:=⟨_,rfl⟩
    rw[hal] at hw ha
    have HAlo:=qh hal
    have HAr:=qh ha
    have HC:=qh hw
    clear hal hw ha
    obtain⟨y0,y1,y2,y3⟩:=bc4 HT11.out
    have d1:w11.cell? ⟨bq,1,none⟩=some (.int .i64 q2):=HQ11.out.cell 1
    have d2:w11.cell? ⟨bq,2,none⟩=some (.int .i64 q3):=HQ11.out.cell 2
    have l1:w11.cell? ⟨bl,1,none⟩=some (.bool s2):=HL11.out.cell 1
    go_wp2_with fail
    refine HC.out.mono ?_
    rintro en w12 ⟨rfl,hk⟩
    have HK12:=qtr HK11 hk
    have HT12:=qkb HT11 hk
    have HM12:=qkb HM11 hk
    have HR12:=qkb HR11 hk
    have HO12:=qko HO11 hk
    have HL12:=qkb HL11 hk
    have HQ12:=qkb HQ11 hk
    clear hk HC HT11 HM11 HR11 HK11 HO11 HL11 HQ11 y0 y1 y2 y3 d1 d2 l1 hw11 hbq
    have hbd:=HJ.out.bnd
    have har:=HAr.out
    have hw1:wrap64 (be+al)=be+al:=by have h2:IntKind.i64.wrap (be+al)=be+al:=IntWalk.i64_in _ (by omega);rwa [IntWalk.i64_left] at h2
    have hw2:IntKind.i64.wrap (be+al)=be+al:=IntWalk.i64_in _ (by omega)
    have hw3:wrap64 (be+al - at_)=be+al - at_:=by have h2:IntKind.i64.wrap (be+al - at_)=be+al - at_:=IntWalk.i64_in _ (by omega);rwa [IntWalk.i64_left] at h2
    have hw4:IntKind.i64.wrap (be+al - at_)=be+al - at_:=IntWalk.i64_in _ (by omega)
    clear hbd har
    obtain⟨sc,hsc⟩:∃z,scaledM (be+al - at_) u false=z:=⟨_,rfl⟩
    have HSc:Hid (scaledM (be+alongP t (((q1,q2,q3):Bl).2.1,((q1,q2,q3):Bl).2.2,((s1,s2):Stp).2) - at_) u false=sc):=qh (by simp only;rw[HAlo.out,hsc])
    have hc:=scaled_any (be+al - at_) u false w12
    rw[hsc] at hc
    obtain⟨sv,se⟩:=sc
    simp only at hc
    have HC:=qh hc
    clear hc hsc
    go_wp2_with fail
    refine HC.out.mono ?_
    rintro en w13 ⟨rfl,hk⟩
    have HK13:=qtr HK12 hk
    have HT13:=qkb HT12 hk
    have HM13:=qkb HM12 hk
    have HR13:=qkb HR12 hk
    have HO13:=qko HO12 hk
    have HL13:=qkb HL12 hk
    have HQ13:=qkb HQ12 hk
    clear hk HC HT12 HM12 HR12 HK12 HO12 HL12 HQ12 hw3 hw4 hw1 hw2
    by_cases g1:se=0
    case neg=>
     have t1:(se != 0)=true:=by simpa using g1
     have HNz:=qh g1
     have HF:Hid (res=.error se):=qh (by have h1:=HJ.out.bad HK1.out HS.out HOb.out;rw[HSc.out] at h1;exact h1 g1)
     clear g1
     obtain⟨r0,r1⟩:=bc2 HR13.out
     have rf0:=HR13.out.frozen 0
     have rf1:=HR13.out.frozen 1
     go_wp2_with fail
     (try simp only[Exit.inBlock,Exit.then])
     refine bodyPost_ret (pk_results (put2_blk17 HR13.out (.int .i64 0) (.slice none 0 0)) _ rfl) rfl ?_
     refine⟨put2_own17 HK13.out (.inr (by omega)) _ _,?_⟩
     rw[HRe.out,HF.out]
     exact⟨HNz.out,rfl⟩
    have t1:(se != 0)=false:=by simpa using g1
    have HSe:=qh g1
    clear g1
    have hsz:=HK13.out.size
    by_cases g2:k=2
    ·have t2:((k:Int)==2)=true:=by simp;omega
     have m2:w13.cell? ⟨w.heap.size+1,2,none⟩=some (.slice (some ad) np cp):=HM13.out.cell 2
     have hwn:wrap64 ((np:Int) - 2)=(np:Int) - 2:=by have h2:IntKind.i64.wrap ((np:Int) - 2)=(np:Int) - 2:=IntWalk.i64_in _ (by omega);rwa [IntWalk.i64_left] at h2
     have hwn2:IntKind.i64.wrap ((np:Int) - 2)=(np:Int) - 2:=IntWalk.i64_in _ (by omega)
     have HMi:Hid ([(np:Int) - 2]=midN k path.length):=qh (by unfold midN;rw[if_pos g2,HNp.out])
     clear g2
     go_upto_region 18 with((at_builtin;refine wpList_app _ rfl (.tmp 86) (.tmp 91) _ rfl elemInt17 w.heap.size rfl (HO13.out.alloc _) _ rfl (Rd.of_blk (n:=1) (cs:=[.int .i64 ((np:Int) - 2)]) (Blk.new _ _ _) rfl) (by simp[Value.oneCell']) (by omega) (by unfold maxLen;omega) (by simp;omega) ?_;intro A14 c14 w14 hown hk hrow;have hk14:Keep (InRow Ao) w13 w14:=((Keep.refl _ w13).alloc _).trans hk;have HO14:Hid (Own w14 w.heap.size 3 1 A14 (no+1) c14 (intCells (v++[(np:Int) - 2]))):=qh (by rw[intCells_app];exact hown);clear hown hk hrow))
     have hk:=hk14
     have HT14:=qh (HT13.out.keep hk (fun h=>HO13.out.ne_blk HT13.out (by decide) _ h rfl))
     have HM14:=qh (HM13.out.keep hk (fun h=>HO13.out.ne_blk HM13.out (by decide) _ h rfl))
     have HR14:=qh (HR13.out.keep hk (fun h=>HO13.out.ne_blk HR13.out (by decide) _ h rfl))
     have HL14:=qh (HL13.out.keep hk (fun h=>HO13.out.ne_blk HL13.out (by decide) _ h rfl))
     have HQ14:=qh (HQ13.out.keep hk (fun h=>HO13.out.ne_blk HQ13.out (by decide) _ h rfl))
     have HK14:=qh (HK13.out.then_ hk (fun i hi h=>by have:=(HO13.out.row h).1;omega))
     clear hk hk14 hwn hwn2 m2 t2 hsz HT13 HM13 HR13 HL13 HQ13 HK13 HO13
     have hsz:=HK14.out.size
     have q0:w14.cell? ⟨bq,0,none⟩=some (.int .i64 q1):=HQ14.out.cell 0
     have l1:w14.cell? ⟨bl,1,none⟩=some (.bool s2):=HL14.out.cell 1
     obtain⟨ns2,hns2⟩:∃z,nomI s2=z:=⟨_,rfl⟩
     have HNs2:=qh hns2
     have HCn:=qh (fun (V:World)=>nom_any s2 V)
     rw[hns2] at HCn
     have ha14:bits .and .i64 q1 16383=q1 % 16384:=and14 q1 (HCB.out _ HMq.out) (by have:=HCB2.out _ HMq.out;simp only at this;omega)
     clear hns2
     go_cut [12] (fun s12 wc=>∃A16 c16,s12=.slice A16 ((no+1)+7) c16∧Hid (Own wc w.heap.size 3 1 A16 ((no+1)+7) c16 (intCells (v++[(np:Int) - 2])++intCells [sv,1,q1 / 16384,q1 % 16384,ns2,2,12])∧Keep (InRow A14) w14 wc))
     case first=>
      go_region_law (first
        | (go_simp;go_at_call 77; refine(HCn.out _).mono ?_;rintro en w15 ⟨rfl,hk⟩;have hk15:Keep Never w14 w15:=(by first | exact hk | exact hk.drewL);have q0x:=keepT hk15 q0;have HO15:=qko HO14 hk15;have HK15:=qh hk15;have hsz5:=hk15.size;clear hk15 hk)
        | (refine step_app _ rfl (.tmp 93) (.tmp 104) _ rfl elemInt17 (w.heap.size) (A:=A14) (n:=(no+1)) (c:=c14) (by go_simp) (HO15.out.alloc _) _ (A':=some ⟨_,0,none⟩) (m:=7) (c':=7) (news:=[.int .i64 sv,.int .i64 1,.int .i64 (q1 / 16384),.int .i64 (q1 % 16384),.int .i64 ns2,.int .i64 2,.int .i64 12]) (by go_simp;first | done | rw[ha14]) (Rd.of_blk (n:=7) (cs:=[.int .i64 sv,.int .i64 1,.int .i64 (q1 / 16384),.int .i64 (q1 % 16384),.int .i64 ns2,.int .i64 2,.int .i64 12]) (Blk.new _ _ _) rfl) (by simp[Value.oneCell']) (by omega) (by unfold maxLen;omega) (by simp;omega) ?_;intro A16 c16 w16 hown hk hrow;have hk16:Keep (InRow A14) w15 w16:=(by first | exact((Keep.refl (InRow A14) w15).alloc _).trans hk | exact(((Keep.refl (InRow A14) w15).alloc _).drew).trans hk);have HO16:=qh hown;clear hown hk hrow))
      all_goals
       go_wp2_with fail
       go_meet
       refine⟨_,_,rfl,qh ⟨HO16.out,(HK15.out.mono (fun _ _ h=>h.elim)).trans hk16⟩⟩
     case rest=>
      obtain⟨A16,c16,rfl,HH16⟩:=hcut
      rename World=>w16
      have hk:=HH16.out.2
      have HT16:=qh (HT14.out.keep hk (fun h=>HO14.out.ne_blk HT14.out (by decide) _ h rfl))
      have HM16:=qh (HM14.out.keep hk (fun h=>HO14.out.ne_blk HM14.out (by decide) _ h rfl))
      have HR16:=qh (HR14.out.keep hk (fun h=>HO14.out.ne_blk HR14.out (by decide) _ h rfl))
      have HL16:=qh (HL14.out.keep hk (fun h=>HO14.out.ne_blk HL14.out (by decide) _ h rfl))
      have HK16:=qh (HK14.out.then_ hk (fun i hi h=>by have:=(HO14.out.row h).1;omega))
      have HO16:=qh HH16.out.1
      clear hk HH16 hsz ha14 q0 l1 HT14 HM14 HR14 HL14 HK14 HO14 HQ14
      obtain⟨ae,ke,ve,hAe,hke,hkn,ed,hev,hv0,hv1⟩:=HEd.out w16 HK16.out _ HMm.out
      simp only at hAe hke hkn
      subst hAe
      have hkni:(ke:Int)<(ne:Int):=by omega
      have HEv:Hid (edgeM t (((s1,s2):Stp)).1=ve):=qh hev
      clear hev
      have l0:w16.cell? ⟨bl,0,none⟩=some (.int .i64 ke):=by rw[←hke];exact HL16.out.cell 0
      have hwb:wrap64 (be+ve)=be+ve:=by have h1:=HJ.out.bnd;have h2:IntKind.i64.wrap (be+ve)=be+ve:=IntWalk.i64_in _ (by omega);rwa [IntWalk.i64_left] at h2
      have hwb2:IntKind.i64.wrap (be+ve)=be+ve:=by have h1:=HJ.out.bnd;exact IntWalk.i64_in _ (by omega)
      obtain⟨y0,y1,y2,y3⟩:=bc4 HT16.out
      go_wp2_with fail
      have h2:=HJ.out.step HK1.out HS.out (by rw[HEv.out];exact⟨hv0,hv1⟩) HOb.out (by simp only;rw[HAlo.out];exact HAr.out) (by rw[HSc.out];exact HSe.out)
      rw[HSc.out,HEv.out] at h2
      simp only at h2
      rw[HAlo.out,←HMi.out] at h2
      unfold grpN at h2
      rw[HNs2.out] at h2
      refine⟨⟨k+1,be+ve,be+al,_,A16,(no+1)+7,c16,rfl,by go_num,rfl,by go_num,by omega,qh ⟨h2,by have h3:=HNo.out;simp;omega,by rw[intCells_app];exact HO16.out,HT16.out,HM16.out,HR16.out,HK16.out⟩⟩,?_⟩
      simp[intOf];try omega
    ·have t2:((k:Int)==2)=false:=by simp;omega
     have HMi:Hid (([]:List Int)=midN k path.length):=qh (by unfold midN;rw[if_neg g2])
     clear g2
     go_upto_region 18 with(fail)
     have hsz:=HK13.out.size
     have q0:w13.cell? ⟨bq,0,none⟩=some (.int .i64 q1):=HQ13.out.cell 0
     have l1:w13.cell? ⟨bl,1,none⟩=some (.bool s2):=HL13.out.cell 1
     obtain⟨ns2,hns2⟩:∃z,nomI s2=z:=⟨_,rfl⟩
     have HNs2:=qh hns2
     have HCn:=qh (fun (V:World)=>nom_any s2 V)
     rw[hns2] at HCn
     have ha14:bits .and .i64 q1 16383=q1 % 16384:=and14 q1 (HCB.out _ HMq.out) (by have:=HCB2.out _ HMq.out;simp only at this;omega)
     clear hns2
     go_cut [12] (fun s12 wc=>∃A16 c16,s12=.slice A16 (no+7) c16∧Hid (Own wc w.heap.size 3 1 A16 (no+7) c16 (intCells (v)++intCells [sv,1,q1 / 16384,q1 % 16384,ns2,2,12])∧Keep (InRow Ao) w13 wc))
     case first=>
      go_region_law (first
        | (go_simp;go_at_call 77; refine(HCn.out _).mono ?_;rintro en w15 ⟨rfl,hk⟩;have hk15:Keep Never w13 w15:=(by first | exact hk | exact hk.drewL);have q0x:=keepT hk15 q0;have HO15:=qko HO13 hk15;have HK15:=qh hk15;have hsz5:=hk15.size;clear hk15 hk)
        | (refine step_app _ rfl (.tmp 93) (.tmp 104) _ rfl elemInt17 (w.heap.size) (A:=Ao) (n:=no) (c:=co) (by go_simp) (HO15.out.alloc _) _ (A':=some ⟨_,0,none⟩) (m:=7) (c':=7) (news:=[.int .i64 sv,.int .i64 1,.int .i64 (q1 / 16384),.int .i64 (q1 % 16384),.int .i64 ns2,.int .i64 2,.int .i64 12]) (by go_simp;first | done | rw[ha14]) (Rd.of_blk (n:=7) (cs:=[.int .i64 sv,.int .i64 1,.int .i64 (q1 / 16384),.int .i64 (q1 % 16384),.int .i64 ns2,.int .i64 2,.int .i64 12]) (Blk.new _ _ _) rfl) (by simp[Value.oneCell']) (by omega) (by unfold maxLen;omega) (by simp;omega) ?_;intro A16 c16 w16 hown hk hrow;have hk16:Keep (InRow Ao) w15 w16:=(by first | exact((Keep.refl (InRow Ao) w15).alloc _).trans hk | exact(((Keep.refl (InRow Ao) w15).alloc _).drew).trans hk);have HO16:=qh hown;clear hown hk hrow))
      all_goals
       go_wp2_with fail
       go_meet
       refine⟨_,_,rfl,qh ⟨HO16.out,(HK15.out.mono (fun _ _ h=>h.elim)).trans hk16⟩⟩
     case rest=>
      obtain⟨A16,c16,rfl,HH16⟩:=hcut
      rename World=>w16
      have hk:=HH16.out.2
      have HT16:=qh (HT13.out.keep hk (fun h=>HO13.out.ne_blk HT13.out (by decide) _ h rfl))
      have HM16:=qh (HM13.out.keep hk (fun h=>HO13.out.ne_blk HM13.out (by decide) _ h rfl))
      have HR16:=qh (HR13.out.keep hk (fun h=>HO13.out.ne_blk HR13.out (by decide) _ h rfl))
      have HL16:=qh (HL13.out.keep hk (fun h=>HO13.out.ne_blk HL13.out (by decide) _ h rfl))
      have HK16:=qh (HK13.out.then_ hk (fun i hi h=>by have:=(HO13.out.row h).1;omega))
      have HO16:=qh HH16.out.1
      clear hk HH16 hsz ha14 q0 l1 HT13 HM13 HR13 HL13 HK13 HO13 HQ13
      obtain⟨ae,ke,ve,hAe,hke,hkn,ed,hev,hv0,hv1⟩:=HEd.out w16 HK16.out _ HMm.out
      simp only at hAe hke hkn
      subst hAe
      have hkni:(ke:Int)<(ne:Int):=by omega
      have HEv:Hid (edgeM t (((s1,s2):Stp)).1=ve):=qh hev
      clear hev
      have l0:w16.cell? ⟨bl,0,none⟩=some (.int .i64 ke):=by rw[←hke];exact HL16.out.cell 0
      have hwb:wrap64 (be+ve)=be+ve:=by have h1:=HJ.out.bnd;have h2:IntKind.i64.wrap (be+ve)=be+ve:=IntWalk.i64_in _ (by omega);rwa [IntWalk.i64_left] at h2
      have hwb2:IntKind.i64.wrap (be+ve)=be+ve:=by have h1:=HJ.out.bnd;exact IntWalk.i64_in _ (by omega)
      obtain⟨y0,y1,y2,y3⟩:=bc4 HT16.out
      go_wp2_with fail
      have h2:=HJ.out.step HK1.out HS.out (by rw[HEv.out];exact⟨hv0,hv1⟩) HOb.out (by simp only;rw[HAlo.out];exact HAr.out) (by rw[HSc.out];exact HSe.out)
      rw[HSc.out,HEv.out] at h2
      simp only at h2
      rw[HAlo.out,←HMi.out] at h2
      unfold grpN at h2
      rw[HNs2.out] at h2
      refine⟨⟨k+1,be+ve,be+al,_,A16,no+7,c16,rfl,by go_num,rfl,by go_num,by omega,qh ⟨h2,by have h3:=HNo.out;simp;omega,by rw[List.append_nil,intCells_app];exact HO16.out,HT16.out,HM16.out,HR16.out,HK16.out⟩⟩,?_⟩
      simp[intOf];try omega
end Go.Proofs.YtpapiojicbbheaaGreatDoor

namespace Go.Proofs.YtpapiojicbbheaaGreatDoor
open Go.RowKit
structure LocOk (t:Tp) (ref:Int) (rv:Bool) (n:Int) (b:Bl):Prop where
  chk:checkM t=0
  bal:balM t.2.2.1 ref=some b
  there:thereB t.1.length b.2.1=true
  a0:0≤b.2.2
  a1:b.2.2≤edgeM t b.2.1
  n0:0≤n
  n1:n≤1099511627776
  go:(goM t 40 (b.2.1,rv) (n+alongP t (b.2.1,b.2.2,rv))).2=0
theorem loc_ok {t:Tp}{ref:Int}{rv:Bool}{n:Int} (h:(locP t ref rv n).2=0):∃b,LocOk t ref rv n b:=by
 unfold locP at h
 split at h
 ·rename_i hc
  cases hb:balM t.2.2.1 ref with
  | none=>rw[hb] at h;exact absurd (show (4:Int)=0 from h) (by decide)
  | some b=>
   rw[hb] at h
   simp only at h
   obtain⟨c1,c2,c3,c4,c5⟩:=check_bal hc (bal_mem hb).1
   unfold walkP at h
   split at h
   ·rename_i hw
    exact⟨b,hc,hb,c3,c4,c5,hw.2.1,hw.2.2,h⟩
   ·exact absurd h (by decide)
 ·exact absurd h (by decide)
theorem build_far {t:Tp}{l:List Lk}{train ref:Int}{rv:Bool}{n:Int}{q:Ps}{er:Int} (h:locP t ref rv n=(q,er)) (h0:er≠0):buildM t l train ref rv n=(noMa,er):=by
 unfold buildM;rw[h,if_pos h0]
theorem build_none {t:Tp}{l:List Lk}{train ref:Int}{rv:Bool}{n l1 l2:Int}{l3:Bool}{er:Int}{b:Bl} (h:locP t ref rv n=((l1,l2,l3),er)) (hL:LocOk t ref rv n b) (hc:chainM t l train (l1,l3)=[]):buildM t l train ref rv n=(noMa,4):=by
 have h0:er=0:=by
  have h1:(locP t ref rv n).2=0:=by
   unfold locP;rw[if_pos hL.chk,hL.bal];simp only;unfold walkP
   rw[if_pos ⟨right_iff.2 ⟨hL.chk,hL.there,hL.a0,hL.a1⟩,hL.n0,hL.n1⟩];exact hL.go
  rw[h] at h1;exact h1
 subst h0
 unfold buildM;rw[h,if_neg (by simp),hL.bal];simp only;rw[if_pos hc]
theorem build_go {t:Tp}{l:List Lk}{train ref:Int}{rv:Bool}{n l1 l2:Int}{l3:Bool}{er:Int}{b1 b2 b3:Int} (h:locP t ref rv n=((l1,l2,l3),er)) (hL:LocOk t ref rv n (b1,b2,b3)) (hc:chainM t l train (l1,l3)≠[]) :
    buildM t l train ref rv n=endC ref rv n (wayC t (l1,l3) (goneM t 40 (b2,rv) (n+alongP t (b2,b3,rv))) (chainM t l train (l1,l3)) (chainM t l train (l1,l3)).length) (lessS (secC t (l1,l3) (goneM t 40 (b2,rv) (n+alongP t (b2,b3,rv))) (alongP t (b2,b3,rv)) (chainM t l train (l1,l3)) (chainM t l train (l1,l3)).length) (gapC t (chainM t l train (l1,l3)) (chainM t l train (l1,l3)).length)) (gapC t (chainM t l train (l1,l3)) (chainM t l train (l1,l3)).length):=by
  have h0:er=0:=by
   have h1:(locP t ref rv n).2=0:=by
    unfold locP;rw[if_pos hL.chk,hL.bal];simp only;unfold walkP
    rw[if_pos ⟨right_iff.2 ⟨hL.chk,hL.there,hL.a0,hL.a1⟩,hL.n0,hL.n1⟩];exact hL.go
   rw[h] at h1;exact h1
  subst h0
  unfold buildM;rw[h,if_neg (by simp),hL.bal];simp only;rw[if_neg hc]
structure ChG (t:Tp) (l:List Lk) (train:Int) (s:Stp) (c:List Lk):Prop where
  few:c.length≤8
  rt:∀i k,c[i]?=some k→∃r,rtM t.2.2.2 k.1=some r∧r∈t.2.2.2∧r.2.1≠[]∧r.2.1.length≤8∧(∀u∈r.2.1,thereB t.1.length u.1=true)∧(i=0→s∈r.2.1)∧0≤r.2.2.1∧r.2.2.1≤40000000
theorem stpCells_drop (l:List Stp):∀k,stpCells (l.drop k)=(stpCells l).drop (k*2):=by
 induction l with
 | nil=>intro k;simp[stpCells_nil]
 | cons s l ih=>
  intro k
  cases k with
  | zero=>simp
  | succ k=>rw[List.drop_succ_cons,ih k,stpCells_cons,show (k+1)*2=k*2+1+1 by omega];rfl
theorem route_gap {t:Tp} (hc:checkM t=0) {r:Rt} (hr:r∈t.2.2.2):0≤r.2.2.1∧r.2.2.1≤40000000∧∀u∈r.2.1,thereB t.1.length u.1=true:=by
 obtain⟨i,hi⟩:=List.mem_iff_getElem?.1 hr
 have hg:=check_good hc hi
 obtain⟨g1,g2,g3⟩:=good_of hc hg.err
 have h0:firstE (rErr t) t.2.2.2.length=0:=by
  have h:=hc
  unfold checkM at h
  split at h
  ·exact absurd h (by decide)
  split at h
  ·exact absurd h (by decide)
  split at h
  ·rename_i h3;exact absurd h h3
  split at h
  ·rename_i h3;exact absurd h h3
  exact h
 have h1:=firstE_all h0 i (List.getElem?_eq_some_iff.1 hi).1
 unfold rErr at h1
 rw[hi] at h1
 simp only at h1
 split at h1
 ·rename_i h2;exact absurd h1 h2
 rename_i h2
 have h3:routedM t r=0:=by simpa using h2
 unfold routedM at h3
 split at h3
 ·exact absurd h3 (by decide)
 split at h3
 ·exact absurd h3 (by decide)
 split at h3
 ·rename_i h4;exact absurd h3 h4
 split at h3
 ·exact absurd h3 (by decide)
 rename_i h5
 have h6:=sum_in hc hg.err (i:=r.2.1.length) (Nat.le_refl _)
 rw[List.take_length,←g3] at h6
 exact⟨by omega,by omega,g1.2.1⟩
theorem chg_of {t:Tp}{l:List Lk}{train:Int}{s:Stp}:ChG t l train s (chainM t l train s):=by
 obtain⟨gone,h,h8,hc⟩:=chain_good (t:=t) (l:=l) (train:=train) (s:=s)
 refine⟨h8,fun i k hk=>?_⟩
 have hc0:=hc (by intro e;rw[e] at hk;simp at hk)
 obtain⟨r,hr,_,_,_,h0,_⟩:=h.way i k hk
 have hm:r∈t.2.2.2:=List.mem_of_find?_eq_some hr
 obtain⟨a1,a2⟩:=chain_path hc0 hm
 obtain⟨b1,b2,b3⟩:=route_gap hc0 hm
 exact⟨r,hr,hm,a1,a2,b3,fun hi=>by have:=h0 hi;unfold hasB at this;simpa using this,b1,b2⟩
theorem plain_bnd {t:Tp} (hc:checkM t=0):∀l:List Stp,(∀u∈l,thereB t.1.length u.1=true)→0≤plainS t.1 l∧plainS t.1 l≤l.length*1000000
  | [],_=>by simp[plainS]
  | s::l,h=>by
   have h1:=there_edge hc (h s (by simp))
   have h2:=plain_bnd hc l (fun u hu=>h u (by simp[hu]))
   rw[plainS_cons]
   have e3:t.1.getD s.1.toNat 0=edgeM t s.1:=rfl
   rw[e3]
   simp only[List.length_cons]
   omega
theorem plainS_app (es:List Int) (a b:List Stp):plainS es (a++b)=plainS es a+plainS es b:=by unfold plainS;simp
theorem plainS_next {t:Tp}{l:List Stp}{k:Nat}{s:Stp} (h:l[k]?=some s):plainS t.1 (l.take (k+1))=plainS t.1 (l.take k)+edgeM t s.1:=by
 rw[List.take_add_one,h,plainS_app]
 simp[plainS];rfl
theorem way_next {t:Tp}{s:Stp}{g:List Stp}{c:List Lk}{i:Nat}{k:Lk} (h:c[i]?=some k):wayC t s g c (i+1)=wayC t s g c i++partC t s i k:=by
 conv=>lhs;unfold wayC
 rw[h]
theorem sec_next {t:Tp}{s:Stp}{g:List Stp}{back:Int}{c:List Lk}{i:Nat}{k:Lk} (h:c[i]?=some k):secC t s g back c (i+1)=secC t s g back c i++[(plainS t.1 (wayC t s g c (i+1)) - back,(routeOf t k).2.2.2)]:=by
 conv=>lhs;unfold secC
 rw[h]
theorem gap_next {t:Tp}{c:List Lk}{i:Nat}{k:Lk} (h:c[i]?=some k):gapC t c (i+1)=(routeOf t k).2.2.1:=by simp only[gapC,h]
theorem sec_len {t:Tp}{s:Stp}{g:List Stp}{back:Int}{c:List Lk}:∀i,i≤c.length→(secC t s g back c i).length=i
  | 0,_=>rfl
  | i+1,h=>by
   rw[sec_next (List.getElem?_eq_getElem (by omega:i<c.length)),List.length_append,sec_len i (by omega)];rfl
theorem part_in {t:Tp}{s:Stp}{i:Nat}{k:Lk}{u:Stp} (h:u∈partC t s i k):u∈(routeOf t k).2.1:=by
 unfold partC at h
 split at h
 ·exact List.mem_of_mem_drop h
 ·exact h
theorem part_len {t:Tp}{s:Stp}{i:Nat}{k:Lk}:(partC t s i k).length≤(routeOf t k).2.1.length:=by
 unfold partC
 split
 ·rw[List.length_drop];omega
 ·exact Nat.le_refl _
theorem ChG.at {t:Tp}{l:List Lk}{train:Int}{s:Stp}{c:List Lk} (h:ChG t l train s c) {i:Nat}{k:Lk} (hk:c[i]?=some k):rtM t.2.2.2 k.1=some (routeOf t k):=by
 obtain⟨r,hr,_⟩:=h.rt i k hk
 unfold routeOf;rw[hr];rfl
theorem way_good {t:Tp}{l:List Lk}{train:Int}{s:Stp}{g:List Stp}{c:List Lk} (h:ChG t l train s c) (h1:g.length≤41) (h2:∀u∈g,thereB t.1.length u.1=true):∀i,i≤c.length→(wayC t s g c i).length≤41+8*i∧∀u∈wayC t s g c i,thereB t.1.length u.1=true
  | 0,_=>⟨by simpa[wayC] using h1,by simpa[wayC] using h2⟩
  | i+1,hi=>by
   have hk:c[i]?=some c[i]:=List.getElem?_eq_getElem (by omega:i<c.length)
   obtain⟨a,b⟩:=way_good h h1 h2 i (by omega)
   obtain⟨r,hr,_,_,h8,hth,_⟩:=h.rt i _ hk
   have hro:routeOf t c[i]=r:=by unfold routeOf;rw[hr];rfl
   rw[way_next hk]
   have:=part_len (t:=t) (s:=s) (i:=i) (k:=c[i])
   rw[hro] at this
   refine⟨by rw[List.length_append];omega,fun u hu=>?_⟩
   rcases List.mem_append.1 hu with hu | hu
   ·exact b u hu
   ·have:=part_in hu
    rw[hro] at this
    exact hth u this
theorem sc_cell {w:World}{B n k:Nat}{ad:Addr}{l:List Sc} (h:Rd w B 2 (some ad) n (scCells l)) (hk:k<n):∃s,l[k]?=some s∧w.cell? (ad.add (k*2))=some (.int .i64 s.1)∧w.cell? ⟨(ad.add (k*2)).block,(ad.add (k*2)).off+1,none⟩=some (.int .i64 s.2):=by
 obtain⟨ad2,s,h1,_,h3,h4,h5⟩:=h.sc hk
 injection h1 with h1
 subst h1
 exact⟨s,h3,h4,h5⟩
theorem sc_set0 {S:List Sc}{m:Nat}{sl:Sc} (h:S[m]?=some sl) (v:Int):scCells (S.set m (v,sl.2))=(scCells S).set (m*2) (.int .i64 v):=by
 rw[scCells_set _ _ (List.getElem?_eq_some_iff.1 h).1]
 have h1:=(scCells_at S h).2
 apply List.ext_getElem?
 intro i
 by_cases hi:m*2+1=i
 ·subst hi
  rw[List.getElem?_set_self (by rw[List.length_set];exact(List.getElem?_eq_some_iff.1 h1).1),List.getElem?_set_ne (by omega),h1]
 ·rw[List.getElem?_set_ne hi]
theorem scCells_drop (l:List Sc):∀k,scCells (l.drop k)=(scCells l).drop (k*2):=by
 induction l with
 | nil=>intro k;simp[scCells_nil]
 | cons s l ih=>
  intro k
  cases k with
  | zero=>simp
  | succ k=>rw[List.drop_succ_cons,ih k,scCells_cons,show (k+1)*2=k*2+1+1 by omega];rfl
theorem last_at {S:List Sc}{m:Nat} (h:S.length=m+1):S.getLast?=S[m]?:=by rw[List.getLast?_eq_getElem?,h];rfl
theorem less_set {S:List Sc}{m:Nat}{sl:Sc} (h:S[m]?=some sl) (hl:S.length=m+1) (g:Int):lessS S g=S.set m (sl.1 - g,sl.2):=by
 unfold lessS
 rw[last_at hl,h]
 simp only
 apply List.ext_getElem?
 intro i
 by_cases hi:i<m
 ·rw[List.getElem?_append_left (by rw[List.length_dropLast];omega),List.getElem?_dropLast,if_pos (by rw[hl];omega),List.getElem?_set_ne (by omega)]
 ·by_cases hm:m=i
  ·subst hm
   rw[List.getElem?_append_right (by rw[List.length_dropLast];omega),List.length_dropLast,hl,List.getElem?_set_self (by omega)]
   simp
  ·rw[List.getElem?_eq_none (by rw[List.length_append,List.length_dropLast];simp;omega),List.getElem?_eq_none (by rw[List.length_set];omega)]
theorem end_set {S:List Sc}{m:Nat} (hl:S.length=m+1) (s:Sc):endS (S.set m s)=s.1:=by
 unfold endS
 rw[last_at (by rw[List.length_set];exact hl),List.getElem?_set_self (by omega)]
 rfl
theorem end_init {S:List Sc}{m:Nat}{s:Sc} (hl:S.length=m+1+1) (h:S[m]?=some s):endS S.dropLast=s.1:=by
 unfold endS
 rw[last_at (m:=m) (by rw[List.length_dropLast,hl];rfl),List.getElem?_dropLast,if_pos (by rw[hl];omega),h]
 rfl
theorem endC_long {ref:Int}{rv:Bool}{n:Int}{P:List Stp}{S:List Sc}{g:Int} (h:24<P.length∨twiceB P=true):endC ref rv n P S g=(noMa,2):=by unfold endC;rw[if_pos h]
theorem endC_end {ref:Int}{rv:Bool}{n:Int}{P:List Stp}{S:List Sc}{g:Int} (h1:¬24<P.length) (h2:twiceB P=false) (h:endS S≤n∨(1<S.length∧endS S≤endS S.dropLast)):endC ref rv n P S g=(noMa,141):=by
 unfold endC;rw[if_neg (by rintro(e | e);exact h1 e;rw[h2] at e;cases e),if_pos h]
theorem endC_ok {ref:Int}{rv:Bool}{n:Int}{P:List Stp}{S:List Sc}{g:Int}{x:Sc} (h1:¬24<P.length) (h2:twiceB P=false) (h:¬(endS S≤n∨(1<S.length∧endS S≤endS S.dropLast))) (hx:S[0]?=some x):endC ref rv n P S g=((ref,rv,P,if x.1=0 then S.drop 1 else S,g),0):=by
 unfold endC;rw[if_neg (by rintro(e | e);exact h1 e;rw[h2] at e;cases e),if_neg h]
 cases S with
 | nil=>cases hx
 | cons y S'=>
  simp only[List.getElem?_cons_zero,Option.some.injEq] at hx
  subst hx
  simp only[List.drop_succ_cons,List.drop_zero]
  split <;> rfl
end Go.Proofs.YtpapiojicbbheaaGreatDoor

namespace Go.Proofs.YtpapiojicbbheaaGreatDoor
open Go.RowKit
set_option maxRecDepth 100000 in
theorem elemPk17:Elem Tryz.prog 44 105 2 32:=⟨Tryz.underlying44, _,_,rfl,rfl,rfl,rfl,rfl,by omega⟩
def PksRet (r:Except Int (List Pk)) (w:World) (e:Ending) (w':World):Prop:=
  Keep Never w w'∧match r with
    | .ok l=>∃A n c,e=.returned (.tuple #[.slice A n c,.int .i64 0])∧PksAt w' w'.heap.size A n c l
    | .error x=>x≠0∧e=.returned (.tuple #[.slice none 0 0,.int .i64 x])
structure SnI (u:Int) (S:List Sc) (res:Option (List Int)) (k:Nat) (last:Int) (v:List Int):Prop where
  eq:res=(secN u last (S.drop k)).map fun z=>v++z
  bnd:0≤last∧last≤32766
  len:v.length=4*k
theorem SnI.start {u:Int}{S:List Sc}:SnI u S (secN u 0 S) 0 0 []:=⟨by simp,by omega,rfl⟩
theorem SnI.bad {u:Int}{S:List Sc}{res:Option (List Int)}{k:Nat}{last:Int}{v:List Int}{s:Sc} (h:SnI u S res k last v) (hs:S[k]?=some s) (hb:(scaledM s.1 u false).2≠0∨(scaledM s.1 u false).1≤last):res=none:=by
 obtain⟨q1,q2⟩:=List.getElem?_eq_some_iff.1 hs
 rw[h.eq,List.drop_eq_getElem_cons q1,q2]
 unfold secN
 rw[if_pos hb];rfl
theorem SnI.next {u:Int}{S:List Sc}{res:Option (List Int)}{k:Nat}{last:Int}{v:List Int}{s:Sc} (h:SnI u S res k last v) (hs:S[k]?=some s) (h0:(scaledM s.1 u false).2=0) (h1:¬(scaledM s.1 u false).1≤last) :
    SnI u S res (k+1) (scaledM s.1 u false).1 (v++[(scaledM s.1 u false).1 - last,1,s.2,0]):=by
  obtain⟨q1,q2⟩:=List.getElem?_eq_some_iff.1 hs
  obtain⟨_,_,_,_,a5,a6⟩:=scaled_ok h0
  refine⟨?_,⟨a6,a5⟩,by rw[List.length_append,h.len];simp;omega⟩
  rw[h.eq,List.drop_eq_getElem_cons q1,q2]
  conv=>lhs;unfold secN
  rw[if_neg (by rintro(e | e);exact e h0;exact h1 e)]
  cases secN u (scaledM s.1 u false).1 (S.drop (k+1)) with
  | none=>rfl
  | some z=>simp
theorem SnI.fin {u:Int}{S:List Sc}{res:Option (List Int)}{last:Int}{v:List Int} (h:SnI u S res S.length last v):res=some v:=by
 rw[h.eq,List.drop_length]
 unfold secN;simp
def p15N (rv:Bool) (u:Int) (n:Nat) (v:List Int) (g:Int):List Int:=[nomI rv,u,0,0,(n:Int) - 1]++v++[0]++gapN u g
theorem packs_no {t:Tp}{m:Ma} (h:mayMA t m=false):packsM17 t m=.error 1:=by unfold packsM17;rw[if_pos h]
theorem packs_far {t:Tp}{m:Ma} (h:mayMA t m=true) (hu:bestM (endS m.2.2.2.1+m.2.2.2.2)<0):packsM17 t m=.error 7:=by
 unfold packsM17;rw[if_neg (by rw[h];decide)];simp only;rw[if_pos hu]
theorem packs_sec {t:Tp}{m:Ma} (h:mayMA t m=true) (hu:¬bestM (endS m.2.2.2.1+m.2.2.2.2)<0) (hv:secN (bestM (endS m.2.2.2.1+m.2.2.2.2)) 0 m.2.2.2.1=none):packsM17 t m=.error 7:=by
 unfold packsM17;rw[if_neg (by rw[h];decide)];simp only;rw[if_neg hu,hv]
theorem packs_go {t:Tp}{ref g:Int}{rv:Bool}{P:List Stp}{S:List Sc}{z:Int×Int}{u:Int}{v:List Int} (h:MayA t (ref,rv,P,S,g) z) (hue:bestM (endS S+g)=u) (hu:¬u<0) (hv:secN u 0 S=some v) :
    packsM17 t (ref,rv,P,S,g)=if P.length=1 then .ok [(15,p15N rv u S.length v g)] else
      (match linksM t ref rv P u with
        | .error e=>.error e
        | .ok q=>.ok [(15,p15N rv u S.length v g),q]):=by
  obtain⟨b,hb,_⟩:=left_some h.left
  obtain⟨b1,_,h2,_⟩:=left_some h.left
  simp only at hb h2
  have hp:P≠[]:=by rintro rfl;cases h2
  unfold packsM17
  rw[if_neg (by rw[may_iff.2 ⟨z,h⟩];decide)]
  simp only
  rw[hue,if_neg hu,hv]
  simp only
  rw[hb]
  match P,hp with
  | [s0],_=>simp[p15N]
  | s0::s1::l,_=>
   simp only[linksM,List.length_cons,List.headD_cons,List.drop_one,List.tail_cons,farP17,hb]
   rw[if_neg (show ¬(l.length+1+1=1) by omega)]
   unfold linkP linkV
   cases linkN t u (l.length+1+1) 1 (edgeM t s0.1) (alongP t (b.2.1,b.2.2,rv)) (s1::l) with
   | error e=>rfl
   | ok w=>
    simp only[p15N]
    by_cases hl:l=[]
    ·subst hl;simp
    ·have:¬(l.length+1+1=2):=by intro e;exact hl (List.eq_nil_of_length_eq_zero (by omega))
     simp[hl]
theorem linkP_len {P:List Stp}{rv:Bool}{u:Int}{q:Pk}{res:Except Int (List Int)} (h:linkP P rv u res=.ok q):∃v,res=.ok v∧q=(5,v++(if P.length=2 then [0] else [])):=by
 unfold linkP at h
 cases res with
 | error e=>cases h
 | ok v=>injection h with h;exact⟨v,rfl,h.symm⟩
theorem linkN_len {t:Tp}{u:Int}{n:Nat}:∀(l:List Stp) (i:Nat) (begin_ at_:Int) (w:List Int),linkN t u n i begin_ at_ l=.ok w→w.length≤8*l.length
  | [],i,begin_,at_,w,hw=>by
   unfold linkN at hw
   injection hw with hw
   subst hw
   simp
  | s::l,i,begin_,at_,w,hw=>by
   obtain⟨b,v,hb,hz,hv,rfl⟩:=linkN_cons hw
   have:=linkN_len l (i+1) _ _ v hv
   have h1:(if i=2 then [(n:Int) - 2] else []).length≤1:=by split <;> simp
   simp only[List.length_append,List.length_cons,List.length_nil]
   omega
theorem linksM_len {t:Tp}{ref:Int}{rv:Bool}{P:List Stp}{u:Int}{q:Pk} (h:linksM t ref rv P u=.ok q):q.2.length≤8*P.length+3:=by
 unfold linksM at h
 obtain⟨v,hv,rfl⟩:=linkP_len h
 unfold linkV at hv
 cases hl:linkN t u P.length 1 (edgeM t (P.headD (0,false)).1) (farP17 t ref rv) (P.drop 1) with
 | error e=>rw[hl] at hv;cases hv
 | ok w=>
  rw[hl] at hv
  injection hv with hv
  have h1:=linkN_len _ _ _ _ _ hl
  rw[List.length_drop] at h1
  have h2:(if P.length=2 then [(0:Int)] else []).length≤1:=by split <;> simp
  subst hv
  simp only[List.length_append,List.length_cons,List.length_nil]
  omega
theorem pks_one {w:World}{n c g:Nat}{A:Option Addr}{l:List Pk} (hl:l.length=n) (hc:n≤c) (hg:A=some ⟨g,0,none⟩) (hlt:g<w.heap.size)
    (h:∀i p,l[i]?=some p→∃A1 n1 c1,w.cell? ⟨g,i*2,none⟩=some (.int .i64 p.1)∧w.cell? ⟨g,i*2+1,none⟩=some (.slice A1 n1 c1)∧Rd w w.heap.size 1 A1 n1 (p.2.map (.int .i64))∧n1≤c1∧c1≤maxLen)
    (hb:l.any badP=false) (h8:∀p∈l,p.2.length≤8200):PksAt w w.heap.size A n c l:=by
  refine⟨hl,hc,fun i p hp=>?_⟩
  obtain⟨A1,n1,c1,h1,h2,h3,h4,h5⟩:=h i p hp
  obtain⟨⟨_,hi⟩,hv⟩:=items_num (id:=p.1) (V:=p.2) (any_not hb hp)
  refine⟨_,A1,n1,c1,hg,hlt,hlt,?_,?_,h3,h4,h5,fun x hx=>by have:=hv x hx;constructor <;> omega,h8 p (List.mem_of_getElem? hp)⟩
  ·have:(⟨g,0,none⟩:Addr).add (i*2)=⟨g,i*2,none⟩:=by unfold Addr.add;split <;> simp_all
   rw[this];exact h1
  ·have:(⟨g,0,none⟩:Addr).add (i*2)=⟨g,i*2,none⟩:=by unfold Addr.add;split <;> simp_all
   rw[this];exact h2
set_option maxHeartbeats 8000000 in
set_option maxRecDepth 100000 in
theorem packets_any (x:TA) (t:Tp) (B:Nat) (ref:Int) (rv:Bool) (P:List Stp) (S:List Sc) (g:Int) (Ap:Option Addr) (np cp:Nat) (As:Option Addr) (ns cs:Nat) (w:World) (h:TpAt w B x t) (hs:TpSmall x t) (hB:B≤w.heap.size) (hp:repStp.Sl w B Ap np cp P) (hS:ScAt w B As ns cs S) (hnp:np≤1000000) (hns:ns≤1000000) :
    Calls Tryz.prog 21 #[.agg x.cs,.agg #[.int .i64 ref,.bool rv,.slice Ap np cp,.slice As ns cs,.int .i64 g]] w (PksRet (packsM17 t (ref,rv,P,S,g)) w):=by
  have HMy:=qh (fun (W:World) (hk:Keep Never w W)=>may17_any x t B ref rv P S g Ap np cp As ns cs W (h.keep hk) hs (Nat.le_trans hB hk.size) (hp.keep hk (fun _ h=>h.elim)) (hS.keep hk) hnp hns)
  have HLk:=qh (fun (W:World) (hk:Keep Never w W) (u:Int) (z:Int×Int) (hm:MayA t (ref,rv,P,S,g) z)=>links_any x t B ref rv P S g u z Ap np cp As ns cs W (h.keep hk) hs (Nat.le_trans hB hk.size) (hp.keep hk (fun _ h=>h.elim)) hm)
  have HSt:=qh hS
  have HSl:Hid (S.length=ns):=qh hS.len
  have HPl:Hid (P.length=np):=qh (stps_rd hp).2.1.symm
  obtain⟨Ae,ne,ce,Aj,nj,cj,Ab,nb,cb,Ar,nr,cr⟩:=x
  simp only[TA.cs] at HMy HLk ⊢
  clear h hs hp hB hS
  obtain⟨w1,hw1⟩:∃V:World,w.alloc (.cells #[.slice Ae ne ce,.slice Aj nj cj,.slice Ab nb cb,.slice Ar nr cr] 27)=V:=⟨_,rfl⟩
  have zw1:w1.heap.size=w.heap.size+1:=by rw[←hw1];simp
  have kw1:Keep Never w w1:=by rw[←hw1];exact(Keep.refl _ _).alloc _
  have bw1:=Blk.new w 27 #[.slice Ae ne ce,.slice Aj nj cj,.slice Ab nb cb,.slice Ar nr cr]
  rw[hw1] at bw1
  obtain⟨w2,hw2⟩:∃V:World,w1.alloc (.cells #[.int .i64 ref,.bool rv,.slice Ap np cp,.slice As ns cs,.int .i64 g] 38)=V:=⟨_,rfl⟩
  have kw2:Keep Never w1 w2:=by rw[←hw2];exact(Keep.refl _ _).alloc _
  have bw2:=Blk.new w1 38 #[.int .i64 ref,.bool rv,.slice Ap np cp,.slice As ns cs,.int .i64 g]
  rw[hw2,zw1] at bw2
  have HB1:=qh (bw1.keep kw2 (fun h=>h))
  have HB2:=qh bw2
  have HK:=qh (kw1.trans kw2)
  clear kw1 kw2 bw1 bw2
  have HT2:=HB1
  have HM2:=HB2
  have HK2:=HK
  have hw:=HMy.out w2 HK.out
  obtain⟨mb,hmb⟩:∃z,mayMA t (ref,rv,P,S,g)=z:=⟨_,rfl⟩
  rw[hmb] at hw
  have HC:=qh hw
  have HMb:=qh hmb
  clear hw hmb HMy HB1 HB2 HK
  obtain⟨y0,y1,y2,y3⟩:=bc4 HT2.out
  obtain⟨m0,m1,m2,m3,m4⟩:=bc5 HM2.out
  go_enter Tryz.func21, Tryz.ntmps21
  go_wp2_with fail
  refine HC.out.mono ?_
  rintro en w3 ⟨rfl,hk⟩
  have HK3:=qtr HK2 hk
  have HT3:=qkb HT2 hk
  have HM3:=qkb HM2 hk
  clear hk HC HT2 HM2 HK2 y0 y1 y2 y3 m0 m1 m2 m3 m4 hw1 hw2 zw1
  cases mb with
  | false=>
   go_wp2_with fail
   go_ret2
   refine⟨HK3.out,?_⟩
   rw[packs_no HMb.out]
   exact⟨by decide,rfl⟩
  | true=>
  obtain⟨z,hmz⟩:=may_iff.1 HMb.out
  have HMz:=qh hmz
  have h1s:=hmz.some_
  have h8s:=hmz.eight
  simp only at h1s h8s
  rw[HSl.out] at h1s h8s
  obtain⟨m,rfl⟩:∃m,ns=m+1:=⟨ns - 1,by omega⟩
  obtain⟨sad,sl,hAs,_,hsl,c0,c1⟩:=(HSt.out.keep HK3.out).rd.sc (show m<m+1 by omega)
  subst hAs
  have HSL:Hid (endS S=sl.1):=qh (by have:=endS_take hsl;rwa [List.take_of_length_le (by rw[HSl.out];exact Nat.le_refl _)] at this)
  have hbig:=hmz.sects.big sl (List.mem_of_getElem? hsl)
  have hlo:=hmz.sects.up m sl hsl
  have hp0:=hmz.sects.pos (j:=m) (by rw[HSl.out];omega)
  have hg0:=hmz.gap0
  have hg1:=hmz.gap1
  simp only at hg0 hg1
  obtain⟨sl1,sl2⟩:=sl
  simp only at c0 c1 HSL hbig hlo hp0
  have hz0:(m:Int)<(m:Int)+1:=by omega
  have hz3:(0:Int)≤(m:Int)+1:=by omega
  have hz4:((m:Int)+1).toNat=m+1:=by omega
  have hz5:IntKind.i64.wrap ((m:Int)+1 - 1)=(m:Int):=by rw[show (m:Int)+1 - 1=m by omega];exact IntWalk.i64_in _ (by omega)
  have hz6:IntKind.i64.wrap (m:Int)=(m:Int):=IntWalk.i64_in _ (by omega)
  have hz7:IntKind.i64.wrap (sl1+g)=sl1+g:=IntWalk.i64_in _ (by omega)
  obtain⟨u,hu⟩:∃u,bestM (sl1+g)=u:=⟨_,rfl⟩
  have HU:Hid (bestM (endS S+g)=u):=qh (by rw[HSL.out,hu])
  have HBst:Hid (∀V,Calls Tryz.prog 25 #[.int .i64 (sl1+g)] V fun e w'=>e=.returned (.int .i64 u)∧Keep Never V w'):=qh (fun V=>by have h:=best_any (sl1+g) V;rw[hu] at h;exact h)
  have m3:w3.cell? ⟨w.heap.size+1,3,none⟩=some (.slice (some sad) (m+1) cs):=HM3.out.cell 3
  have m4:w3.cell? ⟨w.heap.size+1,4,none⟩=some (.int .i64 g):=HM3.out.cell 4
  have HS2:Hid (∀W',Keep Never w3 W'→Keep Never w3 W'∧W'.cell? ⟨w.heap.size+1,3,none⟩=some (.slice (some sad) (m+1) cs)∧W'.cell? ⟨w.heap.size+1,4,none⟩=some (.int .i64 g)∧W'.cell? (sad.add (m*2))=some (.int .i64 sl1)):=qh (fun W' h=>⟨h,keepT h m3,keepT h m4,keepT h c0⟩)
  have HRest:=qh (And.intro hmz (And.intro hbig hg1))
  clear hmz h1s hsl hbig hlo hp0 hg0 hg1 hu c1
  go_wp2_with fail
  clear m3 m4 c0
  go_region_held3 (fun W'=>Keep Never w3 W'∧W'.cell? ⟨w.heap.size+1,3,none⟩=some (.slice (some sad) (m+1) cs)∧W'.cell? ⟨w.heap.size+1,4,none⟩=some (.int .i64 g)∧W'.cell? (sad.add (m*2))=some (.int .i64 sl1))
    (first| assumption | exact HS2.out _ ((Keep.refl Never w3).drew) | exact HS2.out _ (Keep.trans (And.left (by assumption)) hk3) | exact HS2.out _ (Keep.trans ((Keep.refl Never w3).drew) hk3))
    (first
      | (go_at_call 25; refine(HBst.out _).mono ?_;rintro e w5 ⟨rfl,hk3⟩))
  rename_i hS
  have hk:=hS.1
  have HK5:=qtr HK3 hk
  have HT5:=qkb HT3 hk
  have HM5:=qkb HM3 hk
  clear hS hk HS2
  clear hz7
  by_cases hu0:u<0
  case pos=>
   have t0:decide (u<0)=true:=by simpa using hu0
   have HF:Hid (packsM17 t (ref,rv,P,S,g)=.error 7):=qh (packs_far HMb.out (by rw[HU.out];exact hu0))
   clear hu0
   go_wp2_with fail
   go_ret2
   refine⟨HK5.out,?_⟩
   rw[HF.out]
   exact⟨by decide,rfl⟩
  have t0:decide (u<0)=false:=by simpa using hu0
  have HUn:=qh hu0
  clear hu0
  obtain⟨nm,hnm⟩:∃q,nomI rv=q:=⟨_,rfl⟩
  have HNm:=qh hnm
  have HCn:Hid (∀V,Calls Tryz.prog 77 #[.bool rv] V fun e w'=>e=.returned (.int .i64 nm)∧Keep Never V w'):=qh (fun V=>by have h:=nom_any rv V;rw[hnm] at h;exact h)
  clear hnm
  have m1:w5.cell? ⟨w.heap.size+1,1,none⟩=some (.bool rv):=HM5.out.cell 1
  have m3:w5.cell? ⟨w.heap.size+1,3,none⟩=some (.slice (some sad) (m+1) cs):=HM5.out.cell 3
  have HS2:Hid (∀W',Keep Never w5 W'→Keep Never w5 W'∧W'.cell? ⟨w.heap.size+1,1,none⟩=some (.bool rv)∧W'.cell? ⟨w.heap.size+1,3,none⟩=some (.slice (some sad) (m+1) cs)):=qh (fun W' h=>⟨h,keepT h m1,keepT h m3⟩)
  go_wp2_with fail
  clear m1 m3
  go_region_held3 (fun W'=>Keep Never w5 W'∧W'.cell? ⟨w.heap.size+1,1,none⟩=some (.bool rv)∧W'.cell? ⟨w.heap.size+1,3,none⟩=some (.slice (some sad) (m+1) cs))
    (first| assumption | exact HS2.out _ ((Keep.refl Never w5).drew) | exact HS2.out _ (Keep.trans (And.left (by assumption)) hk3) | exact HS2.out _ (Keep.trans ((Keep.refl Never w5).drew) hk3) | exact HS2.out _ (Keep.alloc (And.left (by assumption)) _) | exact HS2.out _ (Keep.alloc (Keep.trans ((Keep.refl Never w5).drew) hk3) _) | exact HS2.out _ (Keep.alloc ((Keep.refl Never w5).drew) _))
    (first
      | (go_at_call 77; refine(HCn.out _).mono ?_;rintro e w6 ⟨rfl,hk3⟩))
  rename_i hS
  have hk:=hS.1
  have hk6:=hk3.size
  obtain⟨w7,hw7⟩:∃V:World,w6.alloc (.cells #[.int .i64 nm,.int .i64 u,.int .i64 0,.int .i64 0,.int .i64 m] 3)=V:=⟨_,rfl⟩
  have hk7:Keep Never w6 w7:=by rw[←hw7];exact(Keep.refl _ _).alloc _
  have B7:=Blk.new w6 3 #[.int .i64 nm,.int .i64 u,.int .i64 0,.int .i64 0,.int .i64 m]
  rw[hw7] at B7
  obtain⟨br,hbr⟩:∃q,w6.heap.size=q:=⟨_,rfl⟩
  rw[hbr] at B7
  rw[hw7,hbr]
  rw[hw7] at hk
  have HK7:=qtr HK5 hk
  have HT7:=qkb HT5 hk
  have HM7:=qkb HM5 hk
  have HO7:Hid (Own w7 w.heap.size 3 1 (some ⟨br,0,none⟩) 5 5 (intCells ([nm,u,0,0,(m:Int)]++[]))):=qh (Own.of_blk2 (xs:=[.int .i64 nm,.int .i64 u,.int .i64 0,.int .i64 0,.int .i64 m]) B7 rfl (by unfold maxLen;omega) (by rw[←hbr];have:=HK5.out.size;simp at hk6;omega))
  clear hS hk hk3 hk6 B7 hw7 hbr HS2 HT5 HM5 HK5 HCn HBst t0
  obtain⟨res,hres⟩:∃z,secN u 0 S=z:=⟨_,rfl⟩
  have HJ0:Hid (SnI u S res 0 0 []):=qh (by rw[←hres];exact SnI.start)
  have HRs:=qh hres
  have hm8:m+1≤8:=h8s
  clear hres h8s
  have m3:w7.cell? ⟨w.heap.size+1,3,none⟩=some (.slice (some sad) (m+1) cs):=HM7.out.cell 3
  go_wp2_with fail
  clear m3
  go_loopw [7,8,49] (fun s7 s8 s49 wr=>∃(k:Nat) (last:Int) (v:List Int) (Ao:Option Addr) (no co:Nat),s7=.slice Ao no co∧s8=.int .i64 last∧s49=.int .i64 k∧k≤m+1∧Hid (SnI u S res k last v∧no=5+v.length∧Own wr w.heap.size 3 1 Ao no co (intCells ([nm,u,0,0,(m:Int)]++v))∧Blk wr w.heap.size 27 #[.slice Ae ne ce,.slice Aj nj cj,.slice Ab nb cb,.slice Ar nr cr]∧Blk wr (w.heap.size+1) 38 #[.int .i64 ref,.bool rv,.slice Ap np cp,.slice (some sad) (m+1) cs,.int .i64 g]∧Keep Never w wr)) (fun _ _ s49 _=>m+1 - (intOf s49).toNat)
  case atStart=>exact⟨0,0,[],_,5,5,rfl,rfl,rfl,by omega,qh ⟨HJ0.out,rfl,HO7.out,HT7.out,HM7.out,HK7.out⟩⟩
  case round=>
   clear HO7 HT7 HM7 HK7 HJ0
   obtain⟨k,last,v,Ao,no,co,rfl,rfl,rfl,hk,HH⟩:=hrel
   have HJ:=qh HH.out.1
   have HNo:=qh HH.out.2.1
   have HOr:=qh HH.out.2.2.1
   have HTr:=qh HH.out.2.2.2.1
   have HMr:=qh HH.out.2.2.2.2.1
   have HKr:=qh HH.out.2.2.2.2.2
   have hno:no≤40:=by have h1:=HNo.out;have h2:=HJ.out.len;omega
   clear HH
   have hzr:=HKr.out.size
   by_cases h0:k<m+1
   case neg=>
    obtain rfl:k=m+1:=by omega
    have hki:¬(m:Int)+1<(m:Int)+1:=by omega
    have HF:Hid (secN u 0 S=some v):=qh (by rw[HRs.out];have h1:=HJ.out;rw[←HSl.out] at h1;exact h1.fin)
    have HVl:=qh HJ.out.len
    go_upto_region 18 with(at_builtin;refine wpList_app _ rfl (.tmp 77) (.tmp 78) _ rfl elemInt17 w.heap.size (A:=Ao) (n:=no) (c:=co) (by go_simp) (HOr.out.alloc _) _ (A':=some ⟨_,0,none⟩) (m:=1) (c':=1) (by go_simp) (Rd.of_blk (n:=1) (cs:=[.int .i64 0]) (Blk.new _ _ _) rfl) (by simp[Value.oneCell']) (by omega) (by unfold maxLen;omega) (by simp;omega) ?_;intro A20 c20 w20 hown hk hrow;have hk20:Keep (InRow Ao) wr w20:=((Keep.refl _ wr).alloc _).trans hk;have HO20:=qh hown;clear hown hk hrow)
    have hk:=hk20
    have HT20:=qh (HTr.out.keep hk (fun h=>HOr.out.ne_blk HTr.out (by decide) _ h rfl))
    have HM20:=qh (HMr.out.keep hk (fun h=>HOr.out.ne_blk HMr.out (by decide) _ h rfl))
    have HK20:=qh (HKr.out.then_ hk (fun i hi h=>by have:=(HOr.out.row h).1;omega))
    clear hk hk20 HTr HMr HOr HKr hzr HJ
    have m4:w20.cell? ⟨w.heap.size+1,4,none⟩=some (.int .i64 g):=HM20.out.cell 4
    obtain⟨sc,hsc⟩:∃z,scaledM g u false=z:=⟨_,rfl⟩
    have HSc:=qh hsc
    have hc:=scaled_any g u false w20
    rw[hsc] at hc
    obtain⟨gv,ge⟩:=sc
    simp only at hc
    have HC:=qh hc
    clear hc hsc
    go_wp2_with fail
    refine HC.out.mono ?_
    rintro en w21 ⟨rfl,hk⟩
    have HK21:=qtr HK20 hk
    have HT21:=qkb HT20 hk
    have HM21:=qkb HM20 hk
    have HO21:=qko HO20 hk
    clear hk HC m4 HT20 HM20 HK20 HO20
    have hzr:=HK21.out.size
    obtain⟨pv,hpv⟩:∃z,p15N rv u S.length v g=z:=⟨_,rfl⟩
    have HPv:=qh hpv
    have HPe:Hid (pv=[nm,u,0,0,(m:Int)]++v++[0]++gapN u g):=qh (by rw[←hpv];unfold p15N;rw[HNm.out,HSl.out,show ((m+1:Nat):Int) - 1=(m:Int) by omega])
    clear hpv
    by_cases g1:0<gv
    ·have t1:decide (gv>0)=true:=by simpa using g1
     have HGa:Hid (gapN u g=[1,gv,0,0]):=qh (by unfold gapN;rw[HSc.out];simp only;rw[if_pos g1])
     clear g1
     go_upto_region 22 with(at_builtin;refine wpList_app _ rfl (.tmp 89) (.tmp 91) _ rfl elemInt17 w.heap.size (A:=A20) (n:=(no+1)) (c:=c20) (by go_simp) (HO21.out.alloc _) _ (A':=some ⟨_,0,none⟩) (m:=4) (c':=4) (by go_simp) (Rd.of_blk (n:=4) (cs:=[.int .i64 1,.int .i64 gv,.int .i64 0,.int .i64 0]) (Blk.new _ _ _) rfl) (by simp[Value.oneCell']) (by omega) (by unfold maxLen;omega) (by simp;omega) ?_;intro A22 c22 w22 hown hk hrow;have hk22:Keep (InRow A20) w21 w22:=((Keep.refl _ w21).alloc _).trans hk;have HO22:=qh hown;clear hown hk hrow)
     have hk:=hk22
     have HT22:=qh (HT21.out.keep hk (fun h=>HO21.out.ne_blk HT21.out (by decide) _ h rfl))
     have HM22:=qh (HM21.out.keep hk (fun h=>HO21.out.ne_blk HM21.out (by decide) _ h rfl))
     have HK22:=qh (HK21.out.then_ hk (fun i hi h=>by have:=(HO21.out.row h).1;omega))
     have HP22:Hid (Own w22 w.heap.size 3 1 A22 (no+1+4) c22 (intCells pv)):=qh (by rw[HPe.out,HGa.out,intCells_app,intCells_app];exact HO22.out)
     have HPn:Hid (pv.length=no+1+4∧pv.length≤8200):=qh (by rw[HPe.out,HGa.out];have:=HNo.out;simp;omega)
     have HO22:=HP22
     clear hk hk22 hzr HT21 HM21 HK21 HO21 HP22
     have hz22:=HK22.out.size
     obtain⟨w23,hw23⟩:∃V:World,w22.alloc (.cells #[.int .i64 15,.slice A22 (no+1+4) c22] 105)=V:=⟨_,rfl⟩
     have hk:Keep Never w22 w23:=by rw[←hw23];exact(Keep.refl _ _).alloc _
     have B23:=Blk.new w22 105 #[.int .i64 15,.slice A22 (no+1+4) c22]
     rw[hw23] at B23
     obtain⟨bpk,hbpk⟩:∃q,w22.heap.size=q:=⟨_,rfl⟩
     rw[hbpk] at B23
     have HK23:=qtr HK22 hk
     have HT23:=qkb HT22 hk
     have HM23:=qkb HM22 hk
     have HO23:=qko HO22 hk
     have HB23:=qh B23
     have HBz:Hid (w.heap.size≤bpk):=qh (by rw[←hbpk];exact hz22)
     clear hk B23 hz22 HT22 HM22 HK22 HO22
     by_cases g3:np=1
     case pos=>
      have t3:((np:Int)==1)=true:=by simp;omega
      have t3b:(np==1)=true:=by simp;omega
      have HG:Hid (packsM17 t (ref,rv,P,S,g)=.ok [(15,pv)]):=qh (by rw[packs_go HMz.out HU.out (by have:=HUn.out;omega) HF.out,if_pos (by rw[HPl.out];exact g3),HPv.out])
      have m2:w23.cell? ⟨w.heap.size+1,2,none⟩=some (.slice Ap np cp):=HM23.out.cell 2
      clear g3
      go_wp2_with fail
      go_ret2
      refine⟨HK23.out,?_⟩
      rw[HG.out]
      refine⟨_,1,1,rfl,pks_one rfl (Nat.le_refl _) rfl HB23.out.lt (fun i p hp=>?_) (packs_good HG.out) (fun p hp=>?_)⟩
      ·match i,hp with
       | 0,hp=>
        simp only[List.getElem?_cons_zero,Option.some.injEq] at hp
        subst hp
        exact⟨_,_,_,HB23.out.cell 0,HB23.out.cell 1,HO23.out.rd,HO23.out.cap_le,by rcases HO23.out.form with⟨_,_,h,_⟩ | ⟨_,_,_,_,_,_,h,_⟩;unfold maxLen;omega;exact h⟩
       | i+1,hp=>simp at hp
      ·simp only[List.mem_singleton] at hp
       subst hp
       exact HPn.out.2
     have t3:((np:Int)==1)=false:=by simp;omega
     have t3b:(np==1)=false:=by simp;omega
     have HGo:Hid (packsM17 t (ref,rv,P,S,g)=(match linksM t ref rv P u with | .error e=>.error e | .ok q=>.ok [(15,pv),q])):=qh (by rw[packs_go HMz.out HU.out (by have:=HUn.out;omega) HF.out,if_neg (by rw[HPl.out];exact g3),HPv.out])
     have hw:=HLk.out w23 HK23.out u z HMz.out
     obtain⟨lr,hlr⟩:∃y,linksM t ref rv P u=y:=⟨_,rfl⟩
     rw[hlr] at hw
     have HLr:=qh hlr
     obtain⟨y0,y1,y2,y3⟩:=bc4 HT23.out
     obtain⟨m0,m1,m2,m3,m4⟩:=bc5 HM23.out
     unfold PkRet at hw
     clear g3 hlr
     cases lr with
     | error x=>
      simp only at hw
      have HC:=qh hw
      have HG:Hid (packsM17 t (ref,rv,P,S,g)=.error x):=qh (by rw[HGo.out,HLr.out])
      clear hw
      go_wp2_with fail
      refine HC.out.mono ?_
      rintro en w24 ⟨hk,hx,rfl⟩
      have HK24:=qtr HK23 hk
      have HT24:=qkb HT23 hk
      have HM24:=qkb HM23 hk
      have HO24:=qko HO23 hk
      have HB24:=qkb HB23 hk
      have t4:(x != 0)=true:=by simpa using hx
      have HX:=qh hx
      clear hk hx HC y0 y1 y2 y3 m0 m1 m2 m3 m4 hw23 hbpk HT23 HM23 HK23 HO23 HB23
      go_wp2_with fail
      go_ret2
      refine⟨HK24.out.alloc _,?_⟩
      rw[HG.out]
      exact⟨HX.out,rfl⟩
     | ok q=>
      obtain⟨q1,q2⟩:=q
      simp only at hw
      have HC:=qh hw
      have HG:Hid (packsM17 t (ref,rv,P,S,g)=.ok [(15,pv),(q1,q2)]):=qh (by rw[HGo.out,HLr.out])
      clear hw
      go_wp2_with fail
      refine HC.out.mono ?_
      rintro en w24 ⟨hk,A2,n2,c2,rfl,hn2,ho⟩
      have HK24:=qtr HK23 hk
      have HT24:=qkb HT23 hk
      have HM24:=qkb HM23 hk
      have HO24:=qko HO23 hk
      have HB24:=qkb HB23 hk
      have HOq24:=qh (ho.less HK23.out.size)
      have HN2:=qh hn2
      clear hk hn2 ho HC y0 y1 y2 y3 m0 m1 m2 m3 m4 hw23 hbpk HT23 HM23 HK23 HO23 HB23
      obtain⟨w25,hw25⟩:∃V:World,w24.alloc (.cells #[.int .i64 q1,.slice A2 n2 c2] 105)=V:=⟨_,rfl⟩
      have hk:Keep Never w24 w25:=by rw[←hw25];exact(Keep.refl _ _).alloc _
      have B25:=Blk.new w24 105 #[.int .i64 q1,.slice A2 n2 c2]
      rw[hw25] at B25
      obtain⟨bq,hbq⟩:∃q,w24.heap.size=q:=⟨_,rfl⟩
      rw[hbq] at B25
      have HK25:=qtr HK24 hk
      have HT25:=qkb HT24 hk
      have HM25:=qkb HM24 hk
      have HO25:=qko HO24 hk
      have HB25:=qkb HB24 hk
      have HOq25:=qko HOq24 hk
      have HD25:=qh B25
      have hz25:=HK25.out.size
      obtain⟨b0,b1⟩:=bc2 HD25.out
      have HOk25:Hid (Own w25 w.heap.size 105 2 (some ⟨bpk,0,none⟩) 1 1 [.int .i64 15,.slice A22 (no+1+4) c22]):=qh (Own.of_blk2 (xs:=[.int .i64 15,.slice A22 (no+1+4) c22]) HB25.out rfl (by unfold maxLen;omega) HBz.out)
      clear hk B25 HT24 HM24 HK24 HO24 HB24 HOq24
      go_wp2_with (at_builtin;refine wpList_app _ rfl (.tmp 114) (.tmp 116) _ rfl elemPk17 w.heap.size (A:=some ⟨bpk,0,none⟩) (n:=1) (c:=1) (by go_simp) (HOk25.out.alloc _) _ (A':=some ⟨_,0,none⟩) (m:=1) (c':=1) (by go_simp) (Rd.of_blk (n:=1) (cs:=[.int .i64 q1,.slice A2 n2 c2]) (Blk.new _ _ _) rfl) (by simp[Value.oneCell']) (by omega) (by unfold maxLen;omega) (by simp;omega) ?_;intro A26 c26 w26 hown hk hrow;have hk26:Keep (InRow (some ⟨bpk,0,none⟩)) w25 w26:=((Keep.refl _ w25).alloc _).trans hk;have HO26:=qh hown;have HK26:=qh hk26;clear hown hk hrow hk26)
      go_ret2
      refine⟨HK25.out.then_ HK26.out (fun i hi h=>by have:=(HOk25.out.row h).1;omega),?_⟩
      rw[HG.out]
      rcases HO26.out.form with⟨_,h9,_⟩ | ⟨gb,cur,h9,_,hblk,_⟩
      ·exact absurd h9 (by omega)
      ·subst h9
       refine⟨_,1+1,c26,rfl,pks_one rfl HO26.out.cap_le rfl hblk.lt (fun i p hp=>?_) (packs_good HG.out) (fun p hp=>?_)⟩
       ·match i,hp with
        | 0,hp=>
         simp only[List.getElem?_cons_zero,Option.some.injEq] at hp
         subst hp
         exact⟨_,_,_,HO26.out.cell0 (j:=0) rfl,HO26.out.cell0 (j:=1) rfl,(HO25.out.keep HK26.out (fun q h=>HO25.out.ne_own HOk25.out (by decide) q h)).rd,HO25.out.cap_le,by rcases HO25.out.form with⟨_,_,h,_⟩ | ⟨_,_,_,_,_,_,h,_⟩;unfold maxLen;omega;exact h⟩
        | 1,hp=>
         simp only[List.getElem?_cons_succ,List.getElem?_cons_zero,Option.some.injEq] at hp
         subst hp
         exact⟨_,_,_,HO26.out.cell0 (j:=2) rfl,HO26.out.cell0 (j:=3) rfl,(HOq25.out.keep HK26.out (fun q h=>HOq25.out.ne_own HOk25.out (by decide) q h)).rd,HOq25.out.cap_le,by rcases HOq25.out.form with⟨_,_,h,_⟩ | ⟨_,_,_,_,_,_,h,_⟩;unfold maxLen;omega;exact h⟩
        | i+2,hp=>simp at hp
       ·rcases List.mem_cons.1 hp with rfl | hp
        ·exact HPn.out.2
        ·simp only[List.mem_singleton] at hp
         subst hp
         have h1:=linksM_len HLr.out
         have h2:=HMz.out.few
         simp only at h1 h2
         show q2.length≤8200
         omega
    ·have t1:decide (gv>0)=false:=by simpa using g1
     have HGa:Hid (gapN u g=[0,0]):=qh (by unfold gapN;rw[HSc.out];simp only;rw[if_neg g1])
     clear g1
     go_upto_region 22 with(at_builtin;refine wpList_app _ rfl (.tmp 93) (.tmp 94) _ rfl elemInt17 w.heap.size (A:=A20) (n:=(no+1)) (c:=c20) (by go_simp) (HO21.out.alloc _) _ (A':=some ⟨_,0,none⟩) (m:=2) (c':=2) (by go_simp) (Rd.of_blk (n:=2) (cs:=[.int .i64 0,.int .i64 0]) (Blk.new _ _ _) rfl) (by simp[Value.oneCell']) (by omega) (by unfold maxLen;omega) (by simp;omega) ?_;intro A22 c22 w22 hown hk hrow;have hk22:Keep (InRow A20) w21 w22:=((Keep.refl _ w21).alloc _).trans hk;have HO22:=qh hown;clear hown hk hrow)
     have hk:=hk22
     have HT22:=qh (HT21.out.keep hk (fun h=>HO21.out.ne_blk HT21.out (by decide) _ h rfl))
     have HM22:=qh (HM21.out.keep hk (fun h=>HO21.out.ne_blk HM21.out (by decide) _ h rfl))
     have HK22:=qh (HK21.out.then_ hk (fun i hi h=>by have:=(HO21.out.row h).1;omega))
     have HP22:Hid (Own w22 w.heap.size 3 1 A22 (no+1+2) c22 (intCells pv)):=qh (by rw[HPe.out,HGa.out,intCells_app,intCells_app];exact HO22.out)
     have HPn:Hid (pv.length=no+1+2∧pv.length≤8200):=qh (by rw[HPe.out,HGa.out];have:=HNo.out;simp;omega)
     have HO22:=HP22
     clear hk hk22 hzr HT21 HM21 HK21 HO21 HP22
     have hz22:=HK22.out.size
     obtain⟨w23,hw23⟩:∃V:World,w22.alloc (.cells #[.int .i64 15,.slice A22 (no+1+2) c22] 105)=V:=⟨_,rfl⟩
     have hk:Keep Never w22 w23:=by rw[←hw23];exact(Keep.refl _ _).alloc _
     have B23:=Blk.new w22 105 #[.int .i64 15,.slice A22 (no+1+2) c22]
     rw[hw23] at B23
     obtain⟨bpk,hbpk⟩:∃q,w22.heap.size=q:=⟨_,rfl⟩
     rw[hbpk] at B23
     have HK23:=qtr HK22 hk
     have HT23:=qkb HT22 hk
     have HM23:=qkb HM22 hk
     have HO23:=qko HO22 hk
     have HB23:=qh B23
     have HBz:Hid (w.heap.size≤bpk):=qh (by rw[←hbpk];exact hz22)
     clear hk B23 hz22 HT22 HM22 HK22 HO22
     by_cases g3:np=1
     case pos=>
      have t3:((np:Int)==1)=true:=by simp;omega
      have t3b:(np==1)=true:=by simp;omega
      have HG:Hid (packsM17 t (ref,rv,P,S,g)=.ok [(15,pv)]):=qh (by rw[packs_go HMz.out HU.out (by have:=HUn.out;omega) HF.out,if_pos (by rw[HPl.out];exact g3),HPv.out])
      have m2:w23.cell? ⟨w.heap.size+1,2,none⟩=some (.slice Ap np cp):=HM23.out.cell 2
      clear g3
      go_wp2_with fail
      go_ret2
      refine⟨HK23.out,?_⟩
      rw[HG.out]
      refine⟨_,1,1,rfl,pks_one rfl (Nat.le_refl _) rfl HB23.out.lt (fun i p hp=>?_) (packs_good HG.out) (fun p hp=>?_)⟩
      ·match i,hp with
       | 0,hp=>
        simp only[List.getElem?_cons_zero,Option.some.injEq] at hp
        subst hp
        exact⟨_,_,_,HB23.out.cell 0,HB23.out.cell 1,HO23.out.rd,HO23.out.cap_le,by rcases HO23.out.form with⟨_,_,h,_⟩ | ⟨_,_,_,_,_,_,h,_⟩;unfold maxLen;omega;exact h⟩
       | i+1,hp=>simp at hp
      ·simp only[List.mem_singleton] at hp
       subst hp
       exact HPn.out.2
     have t3:((np:Int)==1)=false:=by simp;omega
     have t3b:(np==1)=false:=by simp;omega
     have HGo:Hid (packsM17 t (ref,rv,P,S,g)=(match linksM t ref rv P u with | .error e=>.error e | .ok q=>.ok [(15,pv),q])):=qh (by rw[packs_go HMz.out HU.out (by have:=HUn.out;omega) HF.out,if_neg (by rw[HPl.out];exact g3),HPv.out])
     have hw:=HLk.out w23 HK23.out u z HMz.out
     obtain⟨lr,hlr⟩:∃y,linksM t ref rv P u=y:=⟨_,rfl⟩
     rw[hlr] at hw
     have HLr:=qh hlr
     obtain⟨y0,y1,y2,y3⟩:=bc4 HT23.out
     obtain⟨m0,m1,m2,m3,m4⟩:=bc5 HM23.out
     unfold PkRet at hw
     clear g3 hlr
     cases lr with
     | error x=>
      simp only at hw
      have HC:=qh hw
      have HG:Hid (packsM17 t (ref,rv,P,S,g)=.error x):=qh (by rw[HGo.out,HLr.out])
      clear hw
      go_wp2_with fail
      refine HC.out.mono ?_
      rintro en w24 ⟨hk,hx,rfl⟩
      have HK24:=qtr HK23 hk
      have HT24:=qkb HT23 hk
      have HM24:=qkb HM23 hk
      have HO24:=qko HO23 hk
      have HB24:=qkb HB23 hk
      have t4:(x != 0)=true:=by simpa using hx
      have HX:=qh hx
      clear hk hx HC y0 y1 y2 y3 m0 m1 m2 m3 m4 hw23 hbpk HT23 HM23 HK23 HO23 HB23
      go_wp2_with fail
      go_ret2
      refine⟨HK24.out.alloc _,?_⟩
      rw[HG.out]
      exact⟨HX.out,rfl⟩
     | ok q=>
      obtain⟨q1,q2⟩:=q
      simp only at hw
      have HC:=qh hw
      have HG:Hid (packsM17 t (ref,rv,P,S,g)=.ok [(15,pv),(q1,q2)]):=qh (by rw[HGo.out,HLr.out])
      clear hw
      go_wp2_with fail
      refine HC.out.mono ?_
      rintro en w24 ⟨hk,A2,n2,c2,rfl,hn2,ho⟩
      have HK24:=qtr HK23 hk
      have HT24:=qkb HT23 hk
      have HM24:=qkb HM23 hk
      have HO24:=qko HO23 hk
      have HB24:=qkb HB23 hk
      have HOq24:=qh (ho.less HK23.out.size)
      have HN2:=qh hn2
      clear hk hn2 ho HC y0 y1 y2 y3 m0 m1 m2 m3 m4 hw23 hbpk HT23 HM23 HK23 HO23 HB23
      obtain⟨w25,hw25⟩:∃V:World,w24.alloc (.cells #[.int .i64 q1,.slice A2 n2 c2] 105)=V:=⟨_,rfl⟩
      have hk:Keep Never w24 w25:=by rw[←hw25];exact(Keep.refl _ _).alloc _
      have B25:=Blk.new w24 105 #[.int .i64 q1,.slice A2 n2 c2]
      rw[hw25] at B25
      obtain⟨bq,hbq⟩:∃q,w24.heap.size=q:=⟨_,rfl⟩
      rw[hbq] at B25
      have HK25:=qtr HK24 hk
      have HT25:=qkb HT24 hk
      have HM25:=qkb HM24 hk
      have HO25:=qko HO24 hk
      have HB25:=qkb HB24 hk
      have HOq25:=qko HOq24 hk
      have HD25:=qh B25
      have hz25:=HK25.out.size
      obtain⟨b0,b1⟩:=bc2 HD25.out
      have HOk25:Hid (Own w25 w.heap.size 105 2 (some ⟨bpk,0,none⟩) 1 1 [.int .i64 15,.slice A22 (no+1+2) c22]):=qh (Own.of_blk2 (xs:=[.int .i64 15,.slice A22 (no+1+2) c22]) HB25.out rfl (by unfold maxLen;omega) HBz.out)
      clear hk B25 HT24 HM24 HK24 HO24 HB24 HOq24
      go_wp2_with (at_builtin;refine wpList_app _ rfl (.tmp 114) (.tmp 116) _ rfl elemPk17 w.heap.size (A:=some ⟨bpk,0,none⟩) (n:=1) (c:=1) (by go_simp) (HOk25.out.alloc _) _ (A':=some ⟨_,0,none⟩) (m:=1) (c':=1) (by go_simp) (Rd.of_blk (n:=1) (cs:=[.int .i64 q1,.slice A2 n2 c2]) (Blk.new _ _ _) rfl) (by simp[Value.oneCell']) (by omega) (by unfold maxLen;omega) (by simp;omega) ?_;intro A26 c26 w26 hown hk hrow;have hk26:Keep (InRow (some ⟨bpk,0,none⟩)) w25 w26:=((Keep.refl _ w25).alloc _).trans hk;have HO26:=qh hown;have HK26:=qh hk26;clear hown hk hrow hk26)
      go_ret2
      refine⟨HK25.out.then_ HK26.out (fun i hi h=>by have:=(HOk25.out.row h).1;omega),?_⟩
      rw[HG.out]
      rcases HO26.out.form with⟨_,h9,_⟩ | ⟨gb,cur,h9,_,hblk,_⟩
      ·exact absurd h9 (by omega)
      ·subst h9
       refine⟨_,1+1,c26,rfl,pks_one rfl HO26.out.cap_le rfl hblk.lt (fun i p hp=>?_) (packs_good HG.out) (fun p hp=>?_)⟩
       ·match i,hp with
        | 0,hp=>
         simp only[List.getElem?_cons_zero,Option.some.injEq] at hp
         subst hp
         exact⟨_,_,_,HO26.out.cell0 (j:=0) rfl,HO26.out.cell0 (j:=1) rfl,(HO25.out.keep HK26.out (fun q h=>HO25.out.ne_own HOk25.out (by decide) q h)).rd,HO25.out.cap_le,by rcases HO25.out.form with⟨_,_,h,_⟩ | ⟨_,_,_,_,_,_,h,_⟩;unfold maxLen;omega;exact h⟩
        | 1,hp=>
         simp only[List.getElem?_cons_succ,List.getElem?_cons_zero,Option.some.injEq] at hp
         subst hp
         exact⟨_,_,_,HO26.out.cell0 (j:=2) rfl,HO26.out.cell0 (j:=3) rfl,(HOq25.out.keep HK26.out (fun q h=>HOq25.out.ne_own HOk25.out (by decide) q h)).rd,HOq25.out.cap_le,by rcases HOq25.out.form with⟨_,_,h,_⟩ | ⟨_,_,_,_,_,_,h,_⟩;unfold maxLen;omega;exact h⟩
        | i+2,hp=>simp at hp
       ·rcases List.mem_cons.1 hp with rfl | hp
        ·exact HPn.out.2
        ·simp only[List.mem_singleton] at hp
         subst hp
         have h1:=linksM_len HLr.out
         have h2:=HMz.out.few
         simp only at h1 h2
         show q2.length≤8200
         omega
   have hki:(k:Int)<(m:Int)+1:=by omega
   obtain⟨s,hs,c0,c1⟩:=sc_cell ((HSt.out.keep HKr.out).rd) h0
   have HS:=qh hs
   obtain⟨s1,s2⟩:=s
   simp only at c0 c1
   clear hs
   go_upto_region 11 with(fail)
   obtain⟨w9,hw9⟩:∃V:World,wr.alloc (.cells #[.int .i64 s1,.int .i64 s2] 58)=V:=⟨_,rfl⟩
   have hk:Keep Never wr w9:=by rw[←hw9];exact(Keep.refl _ _).alloc _
   have B9:=Blk.new wr 58 #[.int .i64 s1,.int .i64 s2]
   rw[hw9] at B9
   obtain⟨bl,hbl⟩:∃q,wr.heap.size=q:=⟨_,rfl⟩
   rw[hbl] at B9
   rw[hw9,hbl]
   have HK9:=qtr HKr hk
   have HT9:=qkb HTr hk
   have HM9:=qkb HMr hk
   have HO9:=qko HOr hk
   have HL9:=qh B9
   have l0:w9.cell? ⟨bl,0,none⟩=some (.int .i64 s1):=HL9.out.cell 0
   obtain⟨sc,hsc⟩:∃z,scaledM s1 u false=z:=⟨_,rfl⟩
   have HSc:Hid (scaledM ((s1,s2):Sc).1 u false=sc):=qh hsc
   have hc:=scaled_any s1 u false w9
   rw[hsc] at hc
   obtain⟨sv,se⟩:=sc
   simp only at hc
   have HC:=qh hc
   clear hk hc hsc B9 c0 c1 hw9 hbl HTr HMr HKr HOr hzr
   go_wp2_with fail
   refine HC.out.mono ?_
   rintro en w10 ⟨rfl,hk⟩
   have HK10:=qtr HK9 hk
   have HT10:=qkb HT9 hk
   have HM10:=qkb HM9 hk
   have HO10:=qko HO9 hk
   have HL10:=qkb HL9 hk
   clear hk HC HT9 HM9 HK9 HO9 HL9 l0
   by_cases g1:se=0
   case neg=>
    have t1:(se != 0)=true:=by simpa using g1
    have HF:Hid (res=none):=qh (HJ.out.bad HS.out (.inl (by rw[HSc.out];exact g1)))
    have HG:Hid (packsM17 t (ref,rv,P,S,g)=.error 7):=qh (packs_sec HMb.out (by rw[HU.out];have:=HUn.out;omega) (by rw[HU.out,HRs.out,HF.out]))
    clear g1
    go_wp2_with fail
    go_ret2
    refine⟨HK10.out,?_⟩
    rw[HG.out]
    exact⟨by decide,rfl⟩
   have t1:(se != 0)=false:=by simpa using g1
   by_cases g2:sv≤last
   case pos=>
    have t2:decide (sv≤last)=true:=by simpa using g2
    have HF:Hid (res=none):=qh (HJ.out.bad HS.out (.inr (by rw[HSc.out];exact g2)))
    have HG:Hid (packsM17 t (ref,rv,P,S,g)=.error 7):=qh (packs_sec HMb.out (by rw[HU.out];have:=HUn.out;omega) (by rw[HU.out,HRs.out,HF.out]))
    clear g1 g2
    go_wp2_with fail
    go_ret2
    refine⟨HK10.out,?_⟩
    rw[HG.out]
    exact⟨by decide,rfl⟩
   have t2:decide (sv≤last)=false:=by simpa using g2
   have hnx:=HJ.out.next HS.out (by rw[HSc.out];exact g1) (by rw[HSc.out];exact g2)
   rw[HSc.out] at hnx
   simp only at hnx
   have hlb:=HJ.out.bnd
   have hsb:=hnx.bnd
   have HNx:=qh hnx
   have hws:IntKind.i64.wrap (sv - last)=sv - last:=IntWalk.i64_in _ (by omega)
   have hws2:wrap64 (sv - last)=sv - last:=by have:=hws;rwa [IntWalk.i64_left] at this
   have l1:w10.cell? ⟨bl,1,none⟩=some (.int .i64 s2):=HL10.out.cell 1
   have hzr:=HK10.out.size
   clear g1 g2 hnx hlb hsb
   go_upto_region 15 with(at_builtin;refine wpList_app _ rfl (.tmp 67) (.tmp 73) _ rfl elemInt17 w.heap.size (A:=Ao) (n:=no) (c:=co) (by go_simp) (HO10.out.alloc _) _ (A':=some ⟨_,0,none⟩) (m:=4) (c':=4) (by go_simp) (Rd.of_blk (n:=4) (cs:=[.int .i64 (sv - last),.int .i64 1,.int .i64 s2,.int .i64 0]) (Blk.new _ _ _) rfl) (by simp[Value.oneCell']) (by omega) (by unfold maxLen;omega) (by simp;omega) ?_;intro A14 c14 w14 hown hk hrow;have hk14:Keep (InRow Ao) w10 w14:=((Keep.refl _ w10).alloc _).trans hk;have HO14:=qh hown;clear hown hk hrow)
   have hk:=hk14
   have HT14:=qh (HT10.out.keep hk (fun h=>HO10.out.ne_blk HT10.out (by decide) _ h rfl))
   have HM14:=qh (HM10.out.keep hk (fun h=>HO10.out.ne_blk HM10.out (by decide) _ h rfl))
   have HK14:=qh (HK10.out.then_ hk (fun i hi h=>by have:=(HO10.out.row h).1;omega))
   clear hk hk14 l1 hws hws2 t1 t2 hzr HT10 HM10 HK10 HO10 HL10
   go_wp2_with fail
   refine⟨⟨k+1,sv,v++[sv - last,1,s2,0],A14,no+4,c14,rfl,rfl,by go_num,by omega,qh ⟨HNx.out,by have:=HNo.out;simp;omega,by rw[←List.append_assoc,intCells_app];exact HO14.out,HT14.out,HM14.out,HK14.out⟩⟩,?_⟩
   simp[intOf];try omega
end Go.Proofs.YtpapiojicbbheaaGreatDoor
