/- Texts of this claim, together: PlnT, PmJ, PmC, PmD, PlcF, PmBu, PlnV, PackJ. -/
import Derived.Test.YtpapiojicbbheaaGreatDoorTc05
import Derived.Test.YtpapiojicbbheaaGreatDoorTc07
import Derived.Test.YtpapiojicbbheaaGreatDoorTc08
import Derived.Test.YtpapiojicbbheaaGreatDoorTc06
import Derived.WalkMore
import Derived.Test.YtpapiojicbbheaaGreatDoorTc03
import Derived.Deep.LoopGhost
import Derived.Test.YtpapiojicbbheaaGreatDoorTc04
namespace Go.Proofs.YtpapiojicbbheaaGreatDoor
open Go.RowKit
theorem scaled_dn {d u:Int} (h:(scaledM d u false).2=0):0<unitM u∧0≤d∧(scaledM d u false).1=d / unitM u∧0≤d / unitM u∧d / unitM u≤32766:=by
 obtain⟨h1,h2,_,h4,h5,h6⟩:=scaled_ok h
 have:raiseM d u false=d:=rfl
 rw[this] at h4
 rw[h4] at h5 h6
 exact⟨h1,h2,h4,h6,h5⟩
theorem secN_cons {u last:Int}{s:Sc}{l:List Sc}{v:List Int} (h:secN u last (s::l)=some v):(scaledM s.1 u false).2=0∧last<s.1 / unitM u∧∃w,secN u (s.1 / unitM u) l=some w∧v=(s.1 / unitM u - last)::1::s.2::0::w:=by
 unfold secN at h
 split at h
 ·cases h
 rename_i hc
 have h0:(scaledM s.1 u false).2=0:=by omega
 obtain⟨a1,a2,a3,a4,a5⟩:=scaled_dn h0
 rw[a3] at h hc
 rw[Option.map_eq_some_iff] at h
 obtain⟨w,hw,rfl⟩:=h
 exact⟨h0,by omega,w,hw,rfl⟩
theorem firstB_some {t:Tp}{e:Int}{b:Bl} (h:firstB t e=some b):b∈t.2.2.1∧b.2.1=e:=by
 unfold firstB at h
 exact⟨List.mem_of_find?_eq_some h,by simpa using List.find?_some h⟩
theorem linkN_cons {t:Tp}{u:Int}{n i:Nat}{begin_ at_:Int}{s:Stp}{l:List Stp}{w:List Int} (h:linkN t u n i begin_ at_ (s::l)=.ok w):∃b v,firstB t s.1=some b∧(scaledM (begin_+alongP t (b.2.1,b.2.2,s.2) - at_) u false).2=0 ∧
    linkN t u n (i+1) (begin_+edgeM t s.1) (begin_+alongP t (b.2.1,b.2.2,s.2)) l=.ok v ∧
    w=(if i=2 then [(n:Int) - 2] else [])++[(scaledM (begin_+alongP t (b.2.1,b.2.2,s.2) - at_) u false).1,1,b.1 / 16384,b.1 % 16384,nomI s.2,2,12]++v:=by
  unfold linkN at h
  cases hb:firstB t s.1 with
  | none=>rw[hb] at h;cases h
  | some b=>
   rw[hb] at h
   simp only at h
   split at h
   ·cases h
   rename_i hz
   cases hv:linkN t u n (i+1) (begin_+edgeM t s.1) (begin_+alongP t (b.2.1,b.2.2,s.2)) l with
   | error e=>rw[hv] at h;cases h
   | ok v=>
    rw[hv] at h
    injection h with h
    exact⟨b,v,rfl,by simpa using hz,hv,h.symm⟩
theorem packs_ok {t:Tp}{m:Ma}{l:List Pk} (h:packsM17 t m=.ok l):∃z v,MayA t m z∧0≤bestM (endS m.2.2.2.1+m.2.2.2.2)∧secN (bestM (endS m.2.2.2.1+m.2.2.2.2)) 0 m.2.2.2.1=some v ∧
    ((∃s0,m.2.2.1=[s0]∧l=[(15,[nomI m.2.1,bestM (endS m.2.2.2.1+m.2.2.2.2),0,0,(m.2.2.2.1.length:Int) - 1]++v++[0]++gapN (bestM (endS m.2.2.2.1+m.2.2.2.2)) m.2.2.2.2)]) ∨
     ∃(s0 s1:Stp) (r:List Stp) (b:Bl) (w:List Int),m.2.2.1=s0::s1::r∧linkN t (bestM (endS m.2.2.2.1+m.2.2.2.2)) m.2.2.1.length 1 (edgeM t s0.1) (alongP t (b.2.1,b.2.2,m.2.1)) (s1::r)=.ok w ∧
      l=[(15,[nomI m.2.1,bestM (endS m.2.2.2.1+m.2.2.2.2),0,0,(m.2.2.2.1.length:Int) - 1]++v++[0]++gapN (bestM (endS m.2.2.2.1+m.2.2.2.2)) m.2.2.2.2),(5,[nomI m.2.1,bestM (endS m.2.2.2.1+m.2.2.2.2)]++w++(if r=[] then [0] else []))]):=by
  unfold packsM17 at h
  by_cases hm:mayMA t m=false
  ·rw[if_pos hm] at h;cases h
  rw[if_neg hm] at h
  obtain⟨z,hz⟩:=may_iff.1 (by simpa using hm)
  dsimp only at h
  by_cases hu:bestM (endS m.2.2.2.1+m.2.2.2.2)<0
  ·rw[if_pos hu] at h;cases h
  rw[if_neg hu] at h
  cases hv:secN (bestM (endS m.2.2.2.1+m.2.2.2.2)) 0 m.2.2.2.1 with
  | none=>simp only[hv] at h;cases h
  | some v=>
   simp only[hv] at h
   refine⟨z,v,hz,by omega,rfl,?_⟩
   obtain⟨b,h1,h2,h3,h4⟩:=left_some hz.left
   rw[h1] at h
   cases hp:m.2.2.1 with
   | nil=>rw[hp] at h2;cases h2
   | cons s0 p=>
    cases p with
    | nil=>
     rw[hp] at h
     injection h with h
     exact .inl ⟨s0,rfl,h.symm⟩
    | cons s1 r=>
     rw[hp] at h
     simp only at h
     cases hw:linkN t (bestM (endS m.2.2.2.1+m.2.2.2.2)) (s0::s1::r).length 1 (edgeM t s0.1) (alongP t (b.2.1,b.2.2,m.2.1)) (s1::r) with
     | error e=>rw[hw] at h;cases h
     | ok w=>
      rw[hw] at h
      injection h with h
      exact .inr ⟨s0,s1,r,b,w,rfl,hw,h.symm⟩
end Go.Proofs.YtpapiojicbbheaaGreatDoor

namespace Go.Proofs.YtpapiojicbbheaaGreatDoor
open Go.RowKit
set_option maxRecDepth 100000 in
theorem elemInt17:Elem Tryz.prog 22 3 1 8:=⟨Tryz.underlying22, _,_,rfl,rfl,rfl,rfl,rfl,by omega⟩
def intCells (v:List Int):List Value:=v.map (.int .i64)
theorem intCells_app (v w:List Int):intCells (v++w)=intCells v++intCells w:=by unfold intCells;simp
theorem and14 (x:Int) (h0:0≤x) (h1:x≤9223372036854775807):bits .and .i64 x 16383=x % 16384:=by
 have:=bits_mask .i64 63 (by decide) wraps_i64 14 (by decide) x h0 (by omega)
 simpa using this
def linkV (t:Tp) (u:Int) (n k:Nat) (begin at_:Int) (l:List Stp) (v:List Int):Except Int (List Int):=match linkN t u n k begin at_ l with
  | .error e=>.error e
  | .ok w=>.ok (v++w)
def midN (k:Nat) (n:Nat):List Int:=if k=2 then [(n:Int) - 2] else []
def grpN (q:Int) (b1:Int) (r:Bool):List Int:=[q,1,b1 / 16384,b1 % 16384,nomI r,2,12]
theorem linkV_none {t:Tp}{u:Int}{n k:Nat}{begin at_:Int}{s:Stp}{l:List Stp}{v:List Int} (h:firstB t s.1=none):linkV t u n k begin at_ (s::l) v=.error 1:=by
 unfold linkV linkN;rw[h]
theorem linkV_bad {t:Tp}{u:Int}{n k:Nat}{begin at_:Int}{s:Stp}{l:List Stp}{v:List Int}{b:Bl} (h:firstB t s.1=some b) (he:(scaledM (begin+alongP t (b.2.1,b.2.2,s.2) - at_) u false).2≠0):linkV t u n k begin at_ (s::l) v=.error (scaledM (begin+alongP t (b.2.1,b.2.2,s.2) - at_) u false).2:=by
 unfold linkV linkN;rw[h];simp only;rw[if_pos he]
theorem linkV_cons {t:Tp}{u:Int}{n k:Nat}{begin at_:Int}{s:Stp}{l:List Stp}{v:List Int}{b:Bl} (h:firstB t s.1=some b) (he:(scaledM (begin+alongP t (b.2.1,b.2.2,s.2) - at_) u false).2=0):linkV t u n k begin at_ (s::l) v=linkV t u n (k+1) (begin+edgeM t s.1) (begin+alongP t (b.2.1,b.2.2,s.2)) l (v++midN k n++grpN (scaledM (begin+alongP t (b.2.1,b.2.2,s.2) - at_) u false).1 b.1 s.2):=by
 conv=>lhs;unfold linkV linkN
 rw[h];simp only;rw[if_neg (by rw[he];simp)]
 unfold linkV midN grpN
 cases linkN t u n (k+1) (begin+edgeM t s.1) (begin+alongP t (b.2.1,b.2.2,s.2)) l with
 | error e=>rfl
 | ok w=>simp only[List.append_assoc]
structure LkJ (t:Tp) (u:Int) (path:List Stp) (at0:Int) (v0:List Int) (res:Except Int (List Int)) (k:Nat) (begin at_:Int) (v:List Int):Prop where
  fst:k=0→begin=0∧at_=at0∧v=v0
  nxt:1≤k→res=linkV t u path.length k begin at_ (path.drop k) v
  bnd:0≤begin∧begin≤k*1000000∧0≤at_∧at_≤k*1000000+1000000
  len:v.length≤2+8*k
theorem LkJ.step0 {t:Tp}{u:Int}{path:List Stp}{at0:Int}{v0:List Int}{begin at_:Int}{v:List Int}{s:Stp} (h:LkJ t u path at0 v0 (linkV t u path.length 1 (edgeM t (path.headD (0,false)).1) at0 (path.drop 1) v0) 0 begin at_ v) (hs:path[0]?=some s) (he:0≤edgeM t s.1∧edgeM t s.1≤1000000) :
    LkJ t u path at0 v0 (linkV t u path.length 1 (edgeM t (path.headD (0,false)).1) at0 (path.drop 1) v0) 1 (begin+edgeM t s.1) at_ v:=by
  obtain⟨rfl,rfl,rfl⟩:=h.fst rfl
  have hh:path.headD (0,false)=s:=by cases path with | nil=>cases hs | cons x l=>simpa using hs
  have hb:=h.bnd
  have hl:=h.len
  exact⟨fun h=>by omega,fun _=>by rw[hh];simp,by omega,by omega⟩
theorem LkJ.step {t:Tp}{u:Int}{path:List Stp}{at0:Int}{v0:List Int}{res:Except Int (List Int)}{k:Nat}{begin at_:Int}{v:List Int}{s:Stp}{b:Bl} (h:LkJ t u path at0 v0 res k begin at_ v) (h1:1≤k) (hs:path[k]?=some s) (he:0≤edgeM t s.1∧edgeM t s.1≤1000000) (hb:firstB t s.1=some b) (ha:0≤alongP t (b.2.1,b.2.2,s.2)∧alongP t (b.2.1,b.2.2,s.2)≤1000000)
    (h0:(scaledM (begin+alongP t (b.2.1,b.2.2,s.2) - at_) u false).2=0) :
    LkJ t u path at0 v0 res (k+1) (begin+edgeM t s.1) (begin+alongP t (b.2.1,b.2.2,s.2)) (v++midN k path.length++grpN (scaledM (begin+alongP t (b.2.1,b.2.2,s.2) - at_) u false).1 b.1 s.2):=by
  obtain⟨q1,q2⟩:=List.getElem?_eq_some_iff.1 hs
  have hd:path.drop k=s::path.drop (k+1):=by rw[List.drop_eq_getElem_cons q1,q2]
  have hbd:=h.bnd
  have hl:=h.len
  refine⟨fun h=>by omega,fun _=>by rw[h.nxt h1,hd,linkV_cons hb h0],by omega,?_⟩
  have:(midN k path.length).length≤1:=by unfold midN;split <;> simp
  simp only[List.length_append,grpN,List.length_cons,List.length_nil];omega
theorem LkJ.none {t:Tp}{u:Int}{path:List Stp}{at0:Int}{v0:List Int}{res:Except Int (List Int)}{k:Nat}{begin at_:Int}{v:List Int}{s:Stp} (h:LkJ t u path at0 v0 res k begin at_ v) (h1:1≤k) (hs:path[k]?=some s) (hb:firstB t s.1=none):res=.error 1:=by
 obtain⟨q1,q2⟩:=List.getElem?_eq_some_iff.1 hs
 have hd:path.drop k=s::path.drop (k+1):=by rw[List.drop_eq_getElem_cons q1,q2]
 rw[h.nxt h1,hd,linkV_none hb]
theorem LkJ.bad {t:Tp}{u:Int}{path:List Stp}{at0:Int}{v0:List Int}{res:Except Int (List Int)}{k:Nat}{begin at_:Int}{v:List Int}{s:Stp}{b:Bl} (h:LkJ t u path at0 v0 res k begin at_ v) (h1:1≤k) (hs:path[k]?=some s) (hb:firstB t s.1=some b) (h0:(scaledM (begin+alongP t (b.2.1,b.2.2,s.2) - at_) u false).2≠0):res=.error (scaledM (begin+alongP t (b.2.1,b.2.2,s.2) - at_) u false).2:=by
 obtain⟨q1,q2⟩:=List.getElem?_eq_some_iff.1 hs
 have hd:path.drop k=s::path.drop (k+1):=by rw[List.drop_eq_getElem_cons q1,q2]
 rw[h.nxt h1,hd,linkV_bad hb h0]
theorem LkJ.fin {t:Tp}{u:Int}{path:List Stp}{at0:Int}{v0:List Int}{res:Except Int (List Int)}{begin at_:Int}{v:List Int} (h:LkJ t u path at0 v0 res path.length begin at_ v) (hp:1≤path.length):res=.ok v:=by
 rw[h.nxt hp,List.drop_length]
 unfold linkV linkN;simp
def farP17 (t:Tp) (ref:Int) (rv:Bool):Int:=match balM t.2.2.1 ref with
  | none=>0
  | some b=>alongP t (b.2.1,b.2.2,rv)
def linkP (path:List Stp) (_rv:Bool) (_u:Int) (res:Except Int (List Int)):Except Int Pk:=match res with
  | .error e=>.error e
  | .ok v=>.ok (5,v++(if path.length=2 then [0] else []))
def linksM (t:Tp) (ref:Int) (rv:Bool) (path:List Stp) (u:Int):Except Int Pk:=linkP path rv u (linkV t u path.length 1 (edgeM t (path.headD (0,false)).1) (farP17 t ref rv) (path.drop 1) [nomI rv,u])
def PkRet (r:Except Int Pk) (w:World) (e:Ending) (w':World):Prop:=
  Keep Never w w'∧match r with
    | .ok q=>∃A n c,e=.returned (.tuple #[.agg #[.int .i64 q.1,.slice A n c],.int .i64 0])∧n=q.2.length∧Own w' w.heap.size 3 1 A n c (intCells q.2)
    | .error x=>x≠0∧e=.returned (.tuple #[.agg #[.int .i64 0,.slice none 0 0],.int .i64 x])
set_option maxRecDepth 100000 in
theorem pk_results {w:World}{b:Nat}{v0 v1:Value} (hb:Blk w b 105 #[v0,v1]) (tmps:Array Value) (ht:tmps.getD 6 undef=.pointer (some ⟨b,0,none⟩)) :
    (results Tryz.f79 tmps).run Tryz.prog w=.ok (.tuple #[.agg #[v0,v1],tmps.getD 7 undef]) w:=by
  have q0:w.cell? ⟨b,0,none⟩=some v0:=hb.cell 0
  have q1:w.cell? ⟨b,1,none⟩=some v1:=hb.cell 1
  have ht':tmps[6]?.getD undef=.pointer (some ⟨b,0,none⟩):=by rw[←Array.getD_eq_getD_getElem?];exact ht
  simp[results,ht',go_sem,q0,q1]
abbrev put2 (w:World) (b:Nat) (v0 v1:Value):World:=(w.setCell ⟨b,0,none⟩ v0).setCell ⟨b,1,none⟩ v1
theorem put2_blk17 {w:World}{b t:Nat}{u0 u1:Value} (h:Blk w b t #[u0,u1]) (v0 v1:Value):Blk (put2 w b v0 v1) b t #[v0,v1]:=by
 have:=(h.set_ 0 v0).set_ 1 v1
 simpa using this
theorem put2_own17 {S:Nat→Prop}{w0 w:World}{b:Nat} (h:Keep S w0 w) (hb:S b∨w0.heap.size≤b) (v0 v1:Value):Keep S w0 (put2 w b v0 v1):=
  (h.set_ (p:=⟨b,0,none⟩) hb v0).set_ (p:=⟨b,1,none⟩) hb v1
theorem there_edge {t:Tp} (h:checkM t=0) {e:Int} (ht:thereB t.1.length e=true):0≤e∧e<(t.1.length:Int)∧1≤edgeM t e∧edgeM t e≤1000000:=by
 unfold thereB at ht
 rw[Bool.and_eq_true,decide_eq_true_eq,decide_eq_true_eq] at ht
 refine⟨ht.1,ht.2,?_⟩
 unfold edgeM
 have h1:e.toNat<t.1.length:=by omega
 have h2:=check_edges h (t.1.getD e.toNat 0) (by rw[List.getD_eq_getElem?_getD,List.getElem?_eq_getElem h1];exact List.getElem_mem h1)
 exact h2
set_option maxHeartbeats 8000000 in
set_option maxRecDepth 100000 in
theorem links_any (x:TA) (t:Tp) (B:Nat) (ref:Int) (rv:Bool) (path:List Stp) (S:List Sc) (g u:Int) (z:Int×Int) (Ap:Option Addr) (np cp:Nat) (As:Option Addr) (ns cs:Nat) (w:World) (h:TpAt w B x t) (hs:TpSmall x t) (hB:B≤w.heap.size) (hp:repStp.Sl w B Ap np cp path) (hm:MayA t (ref,rv,path,S,g) z) :
    Calls Tryz.prog 79 #[.agg x.cs,.agg #[.int .i64 ref,.bool rv,.slice Ap np cp,.slice As ns cs,.int .i64 g],.int .i64 u] w (PkRet (linksM t ref rv path u) w):=by
  have HBa:=qh (fun (W:World) (hk:Keep Never w W)=>bal_any x t B ref W (h.keep hk) hs.b)
  have HFi:=qh (fun (W:World) (hk:Keep Never w W) (e:Int)=>first_any x t B e W (h.keep hk) hs.b)
  have HBh:=qh (fun (W:World) (hk:Keep Never w W) (bb:Bl) (r:Bool) (hb:bb∈t.2.2.1)=>(show Calls Tryz.prog 57 #[.agg x.cs,.agg #[.int .i64 bb.2.1,.int .i64 bb.2.2,.bool r]] W fun en w'=>en=.returned (.int .i64 (alongP t (bb.2.1,bb.2.2,r)))∧Keep Never W w' by
   obtain⟨_,_,c3,c4,c5⟩:=check_bal hm.chk hb
   have h1:=check_edges hm.chk
   obtain⟨d1,d2,d3⟩:=there_edge hm.chk c3
   exact behind_any x t B bb.2.1 bb.2.2 r W (h.keep hk) d1 (by have:=h.e.len;omega) (by omega) (by omega) c4 (by omega)))
  have HAl:=qh (fun (bb:Bl) (r:Bool) (hb:bb∈t.2.2.1)=>(show 0≤alongP t (bb.2.1,bb.2.2,r)∧alongP t (bb.2.1,bb.2.2,r)≤1000000 by
   obtain⟨_,_,c3,c4,c5⟩:=check_bal hm.chk hb
   obtain⟨d1,d2,d3⟩:=there_edge hm.chk c3
   have:=along_in (t:=t) (p:=(bb.2.1,bb.2.2,r)) c4 c5
   simp only at this;omega))
  have HEd:=qh (fun (W:World) (hk:Keep Never w W) (s:Stp) (hsm:s∈path)=>(show ∃ad k v,x.Ae=some ad∧s.1=((k:Nat):Int)∧k<x.ne∧W.cell? (ad.add k)=some (.int .i64 v)∧edgeM t s.1=v∧0≤v∧v≤1000000 by
   obtain⟨b0,_,_,_,hg,_⟩:=hm.place
   obtain⟨d1,d2,d3⟩:=there_edge hm.chk (hg.2.1 s hsm)
   obtain⟨ad,k,v,e1,e2,e3,e4,e5⟩:=edge_at (h.keep hk) d1 (by have:=h.e.len;omega)
   exact⟨ad,k,v,e1,e2,e3,e4,e5,by omega,by omega⟩))
  have HSl:=qh hp
  have HBw:=qh hB
  have H24:Hid (path.length≤24):=qh hm.few
  have HCB:=qh (fun (bb:Bl) (hb:bb∈t.2.2.1)=>(check_bal hm.chk hb).1)
  have HCB2:=qh (fun (bb:Bl) (hb:bb∈t.2.2.1)=>(check_bal hm.chk hb).2.1)
  obtain⟨b0,hb0,_⟩:=left_some hm.left
  have HB0:=qh hb0
  have HP1:Hid (1≤path.length):=qh (by
   obtain⟨b1,_,h2,_⟩:=left_some hm.left
   cases path with
   | nil=>cases h2
   | cons a l=>simp)
  have hnp0:np=path.length:=(stps_rd hp).2.1
  have HNp:=qh hnp0
  have hnp24:np≤24:=by rw[hnp0];exact hm.few
  clear hnp0 hb0
  obtain⟨Ae,ne,ce,Aj,nj,cj,Ab,nb,cb,Ar,nr,cr⟩:=x
  simp only[TA.cs] at HBa HFi HBh HEd ⊢
  clear h hs hp hB hm
  obtain⟨w1,hw1⟩:∃V:World,w.alloc (.cells #[.slice Ae ne ce,.slice Aj nj cj,.slice Ab nb cb,.slice Ar nr cr] 27)=V:=⟨_,rfl⟩
  have zw1:w1.heap.size=w.heap.size+1:=by rw[←hw1];simp
  have kw1:Keep Never w w1:=by rw[←hw1];exact(Keep.refl _ _).alloc _
  have bw1:=Blk.new w 27 #[.slice Ae ne ce,.slice Aj nj cj,.slice Ab nb cb,.slice Ar nr cr]
  rw[hw1] at bw1
  obtain⟨w2,hw2⟩:∃V:World,w1.alloc (.cells #[.int .i64 ref,.bool rv,.slice Ap np cp,.slice As ns cs,.int .i64 g] 38)=V:=⟨_,rfl⟩
  have zw2:w2.heap.size=w.heap.size+1+1:=by rw[←hw2];simp[zw1]
  have kw2:Keep Never w1 w2:=by rw[←hw2];exact(Keep.refl _ _).alloc _
  have bw2:=Blk.new w1 38 #[.int .i64 ref,.bool rv,.slice Ap np cp,.slice As ns cs,.int .i64 g]
  rw[hw2,zw1] at bw2
  obtain⟨w3,hw3⟩:∃V:World,w2.alloc (.cells #[.int .i64 0,.slice none 0 0] 105)=V:=⟨_,rfl⟩
  have kw3:Keep Never w2 w3:=by rw[←hw3];exact(Keep.refl _ _).alloc _
  have bw3:=Blk.new w2 105 #[.int .i64 0,.slice none 0 0]
  rw[hw3,zw2] at bw3
  have HB1:=qh ((bw1.keep kw2 (fun h=>h)).keep kw3 (fun h=>h))
  have HB2:=qh (bw2.keep kw3 (fun h=>h))
  have HB3:=qh bw3
  have HK:=qh ((kw1.trans kw2).trans kw3)
  clear kw1 kw2 kw3 bw1 bw2 bw3
  have HT3:=HB1
  have HM3:=HB2
  have HR3:=HB3
  have HK3:=HK
  obtain⟨b1,b2,b3⟩:=b0
  have hw:=HBa.out w3 HK.out
  unfold BalRet at hw
  rw[HB0.out] at hw
  simp only[Option.getD,Option.isSome] at hw
  have HC:=qh hw
  clear hw HBa HB1 HB2 HB3 HK
  obtain⟨y0,y1,y2,y3⟩:=bc4 HT3.out
  obtain⟨m0,m1,m2,m3,m4⟩:=bc5 HM3.out
  go_enter Tryz.func79, Tryz.ntmps79
  go_wp2_with fail
  refine HC.out.mono ?_
  rintro en w4 ⟨rfl,hk⟩
  have HK4:=qtr HK3 hk
  have HT4:=qkb HT3 hk
  have HM4:=qkb HM3 hk
  have HR4:=qkb HR3 hk
  clear hk HC HT3 HM3 HR3 HK3 y0 y1 y2 y3 m0 m1 m2 m3 m4 hw1 hw2 hw3 zw1 zw2
  obtain⟨w5,hw5⟩:∃V:World,w4.alloc (.cells #[.int .i64 b1,.int .i64 b2,.int .i64 b3] 94)=V:=⟨_,rfl⟩
  have hk:Keep Never w4 w5:=by rw[←hw5];exact(Keep.refl _ _).alloc _
  have B5:=Blk.new w4 94 #[.int .i64 b1,.int .i64 b2,.int .i64 b3]
  rw[hw5] at B5
  obtain⟨bb,hbb⟩:∃q,w4.heap.size=q:=⟨_,rfl⟩
  rw[hbb] at B5
  have HK5:=qtr HK4 hk
  have HT5:=qkb HT4 hk
  have HM5:=qkb HM4 hk
  have HR5:=qkb HR4 hk
  have d1:w5.cell? ⟨bb,1,none⟩=some (.int .i64 b2):=B5.cell 1
  have d2:w5.cell? ⟨bb,2,none⟩=some (.int .i64 b3):=B5.cell 2
  clear hk B5 HT4 HM4 HR4 HK4
  obtain⟨at0,hat0⟩:∃z,alongP t (b2,b3,rv)=z:=⟨_,rfl⟩
  have hw:=HBh.out w5 HK5.out (b1,b2,b3) rv (bal_mem HB0.out).1
  have hwa:=HAl.out (b1,b2,b3) rv (bal_mem HB0.out).1
  simp only at hw hwa
  rw[hat0] at hw hwa
  have HA0:=qh hwa
  have HC:=qh hw
  have HAt:=qh hat0
  clear hw hwa hat0
  obtain⟨y0,y1,y2,y3⟩:=bc4 HT5.out
  obtain⟨m0,m1,m2,m3,m4⟩:=bc5 HM5.out
  go_wp2_with fail
  refine HC.out.mono ?_
  rintro en w6 ⟨rfl,hk⟩
  have HK6:=qtr HK5 hk
  have HT6:=qkb HT5 hk
  have HM6:=qkb HM5 hk
  have HR6:=qkb HR5 hk
  clear hk HC HT5 HM5 HR5 HK5 y0 y1 y2 y3 m0 m1 m2 m3 m4 d1 d2 hw5 hbb
  obtain⟨m0,m1,m2,m3,m4⟩:=bc5 HM6.out
  have HC:=qh (nom_any rv w6)
  go_wp2_with fail
  refine HC.out.mono ?_
  rintro en w7 ⟨rfl,hk⟩
  have HK7:=qtr HK6 hk
  have HT7:=qkb HT6 hk
  have HM7:=qkb HM6 hk
  have HR7:=qkb HR6 hk
  clear hk HC HT6 HM6 HR6 HK6 m0 m1 m2 m3 m4
  obtain⟨m0,m1,m2,m3,m4⟩:=bc5 HM7.out
  go_upto_region 5 with(fail)
  obtain⟨nm,hnm⟩:∃z,nomI rv=z:=⟨_,rfl⟩
  rw[hnm]
  have HNm:=qh hnm
  clear hnm
  obtain⟨w8,hw8⟩:∃V:World,w7.alloc (.cells #[.int .i64 nm,.int .i64 u] 3)=V:=⟨_,rfl⟩
  have hk:Keep Never w7 w8:=by rw[←hw8];exact(Keep.refl _ _).alloc _
  have B8:=Blk.new w7 3 #[.int .i64 nm,.int .i64 u]
  rw[hw8] at B8
  obtain⟨br,hbr⟩:∃q,w7.heap.size=q:=⟨_,rfl⟩
  rw[hbr] at B8
  rw[hw8]
  rw[hbr]
  have HK8:=qtr HK7 hk
  have HT8:=qkb HT7 hk
  have HM8:=qkb HM7 hk
  have HR8:=qkb HR7 hk
  have HO8:Hid (Own w8 w.heap.size 3 1 (some ⟨br,0,none⟩) 2 2 (intCells [nm,u])):=qh (Own.of_blk2 (xs:=[.int .i64 nm,.int .i64 u]) B8 rfl (by unfold maxLen;omega) (by rw[←hbr];exact HK7.out.size))
  clear hk B8 HT7 HM7 HR7 HK7 hw8 hbr m0 m1 m2 m3 m4
  obtain⟨m0,m1,m2,m3,m4⟩:=bc5 HM8.out
  obtain⟨res,hres⟩:∃z,linkV t u path.length 1 (edgeM t (path.headD (0,false)).1) at0 (path.drop 1) [nm,u]=z:=⟨_,rfl⟩
  have HRe:Hid (linksM t ref rv path u=linkP path rv u res):=qh (by unfold linksM farP17;rw[HB0.out];simp only;rw[HAt.out,HNm.out,hres])
  have HJ0:Hid (LkJ t u path at0 [nm,u] res 0 0 at0 [nm,u]):=qh ⟨fun _=>⟨rfl,rfl,rfl⟩,fun h=>by omega,by have:=HA0.out;omega,by simp⟩
  have HRs:=qh hres
  clear hres
  go_wp2_with fail
  clear m0 m1 m2 m3 m4
  go_loopw [10,11,12,44] (fun s10 s11 s12 s44 wr=>∃(k:Nat) (be at_:Int) (v:List Int) (Ao:Option Addr) (no co:Nat),s10=.int .i64 at_∧s11=.int .i64 be∧s12=.slice Ao no co∧s44=.int .i64 k∧k≤np∧Hid (LkJ t u path at0 [nm,u] res k be at_ v∧no=v.length∧Own wr w.heap.size 3 1 Ao no co (intCells v)∧Blk wr w.heap.size 27 #[.slice Ae ne ce,.slice Aj nj cj,.slice Ab nb cb,.slice Ar nr cr]∧Blk wr (w.heap.size+1) 38 #[.int .i64 ref,.bool rv,.slice Ap np cp,.slice As ns cs,.int .i64 g]∧Blk wr (w.heap.size+1+1) 105 #[.int .i64 0,.slice none 0 0]∧Keep Never w wr)) (fun _ _ _ s44 _=>np - (intOf s44).toNat)
  case atStart=>exact⟨0,0,at0,[nm,u],_,2,2,rfl,rfl,rfl,rfl,by omega,qh ⟨HJ0.out,rfl,HO8.out,HT8.out,HM8.out,HR8.out,HK8.out⟩⟩
  case round=>
   clear HO8 HT8 HM8 HR8 HK8 HJ0
   obtain⟨k,be,at_,v,Ao,no,co,rfl,rfl,rfl,rfl,hk,HH⟩:=hrel
   have HJ:=qh HH.out.1
   have HNo:=qh HH.out.2.1
   have HOr:=qh HH.out.2.2.1
   have HTr:=qh HH.out.2.2.2.1
   have HMr:=qh HH.out.2.2.2.2.1
   have HRr:=qh HH.out.2.2.2.2.2.1
   have HKr:=qh HH.out.2.2.2.2.2.2
   have hno:no≤300:=by have h1:=HNo.out;have h2:=HJ.out.len;omega
   clear HH
   by_cases h0:k<np
   case neg=>
    obtain rfl:k=np:=by omega
    have hki:¬(k:Int)<(k:Int):=by omega
    have HF:Hid (res=.ok v):=qh (by have h1:=HJ.out;rw[HNp.out] at h1;exact h1.fin HP1.out)
    have hsz:=HKr.out.size
    have m2:wr.cell? ⟨w.heap.size+1,2,none⟩=some (.slice Ap k cp):=HMr.out.cell 2
    by_cases g2:k=2
    ·have t2:((k:Int)==2)=true:=by simp;omega
     have HIf:Hid (v++(if path.length=2 then [0] else [])=v++[0]):=qh (by rw[if_pos (by rw[←HNp.out];exact g2)])
     clear g2
     go_upto_region 24 with(at_builtin;refine wpList_app _ rfl (.tmp 120) (.tmp 121) _ rfl elemInt17 w.heap.size rfl (HOr.out.alloc _) _ rfl (Rd.of_blk (n:=1) (cs:=[.int .i64 0]) (Blk.new _ _ _) rfl) (by simp[Value.oneCell']) (by omega) (by unfold maxLen;omega) (by simp;omega) ?_;intro A14 c14 w14 hown hk hrow;have hk14:Keep (InRow Ao) wr w14:=((Keep.refl _ wr).alloc _).trans hk;have HO14:=qh hown;clear hown hk hrow;have HR14:=qh (HRr.out.keep hk14 (fun h=>HOr.out.ne_blk HRr.out (by decide) _ h rfl));have HK14:=qh (HKr.out.then_ hk14 (fun i hi h=>by have:=(HOr.out.row h).1;omega));have r0:w14.cell? ⟨w.heap.size+1+1,0,none⟩=some (.int .i64 0):=HR14.out.cell 0;have rf0:=HR14.out.frozen 0;have r1:w14.cell? ⟨w.heap.size+1+1,1,none⟩=some (.slice none 0 0):=HR14.out.cell 1;have rf1:=HR14.out.frozen 1)
     go_wp2_with fail
     (try simp only[Exit.inBlock,Exit.then])
     refine bodyPost_ret (pk_results (put2_blk17 HR14.out (.int .i64 5) (.slice A14 (no+1) c14)) _ rfl) rfl ?_
     refine⟨put2_own17 HK14.out (.inr (by omega)) _ _,?_⟩
     rw[HRe.out,HF.out]
     exact⟨A14,no+1,c14,rfl,by rw[HIf.out,HNo.out];simp,by rw[HIf.out,intCells_app];exact HO14.out.keep (put2_own17 (Keep.refl (fun q=>q=w.heap.size+1+1) w14) (.inl rfl) _ _) (HO14.out.ne_blk HR14.out (by decide))⟩
    ·have t2:((k:Int)==2)=false:=by simp;omega
     have HIf:Hid (v++(if path.length=2 then [0] else [])=v):=qh (by rw[if_neg (by rw[←HNp.out];exact g2)];simp)
     clear g2
     have r0:wr.cell? ⟨w.heap.size+1+1,0,none⟩=some (.int .i64 0):=HRr.out.cell 0
     have rf0:=HRr.out.frozen 0
     have r1:wr.cell? ⟨w.heap.size+1+1,1,none⟩=some (.slice none 0 0):=HRr.out.cell 1
     have rf1:=HRr.out.frozen 1
     go_wp2_with fail
     (try simp only[Exit.inBlock,Exit.then])
     refine bodyPost_ret (pk_results (put2_blk17 HRr.out (.int .i64 5) (.slice Ao no co)) _ rfl) rfl ?_
     refine⟨put2_own17 HKr.out (.inr (by omega)) _ _,?_⟩
     rw[HRe.out,HF.out]
     exact⟨Ao,no,co,rfl,by rw[HIf.out,HNo.out],by rw[HIf.out];exact HOr.out.keep (put2_own17 (Keep.refl (fun q=>q=w.heap.size+1+1) wr) (.inl rfl) _ _) (HOr.out.ne_blk HRr.out (by decide))⟩
   have hki:(k:Int)<(np:Int):=by omega
   obtain⟨ad,s,hA,_,hs,c0,c1⟩:=((stps_rd HSl.out).1.keep HKr.out (fun _ h=>h.elim)).stp h0
   subst hA
   have HS:=qh hs
   have HMm:=qh (List.mem_of_getElem? hs)
   have hin:=(stps_rd HSl.out).2.2.2.2.2 s HMm.out
   obtain⟨s1,s2⟩:=s
   simp only at c0 c1 hin
   clear hs
   go_upto_region 8 with(fail)
   obtain⟨w9,hw9⟩:∃V:World,wr.alloc (.cells #[.int .i64 s1,.bool s2] 30)=V:=⟨_,rfl⟩
   have hk:Keep Never wr w9:=by rw[←hw9];exact(Keep.refl _ _).alloc _
   have B9:=Blk.new wr 30 #[.int .i64 s1,.bool s2]
   rw[hw9] at B9
   obtain⟨bl,hbl⟩:∃q,wr.heap.size=q:=⟨_,rfl⟩
   rw[hbl] at B9
   have HK9:=qtr HKr hk
   have HT9:=qkb HTr hk
   have HM9:=qkb HMr hk
   have HR9:=qkb HRr hk
   have HO9:=qko HOr hk
   have HL9:=qh B9
   rw[hw9,hbl]
   clear hk B9 c0 c1 HTr HMr HRr HKr HOr hbl hw9
   by_cases g0:k=0
   ·subst g0
    have tg:decide (((0:Nat):Int)>0)=false:=by decide
    obtain⟨ae,ke,ve,hAe,hke,hkn,ed,hev,hv0,hv1⟩:=HEd.out w9 HK9.out _ HMm.out
    simp only at hAe hke hkn
    subst hAe
    have hkni:(ke:Int)<(ne:Int):=by omega
    have HEv:Hid (edgeM t (((s1,s2):Stp)).1=ve):=qh hev
    clear hev
    have l0:w9.cell? ⟨bl,0,none⟩=some (.int .i64 ke):=by rw[←hke];exact HL9.out.cell 0
    have hwb:wrap64 (be+ve)=be+ve:=by have h1:=HJ.out.bnd;have h2:IntKind.i64.wrap (be+ve)=be+ve:=IntWalk.i64_in _ (by omega);rwa [IntWalk.i64_left] at h2
    have hwb2:IntKind.i64.wrap (be+ve)=be+ve:=by have h1:=HJ.out.bnd;exact IntWalk.i64_in _ (by omega)
    obtain⟨y0,y1,y2,y3⟩:=bc4 HT9.out
    go_wp2_with fail
    refine⟨⟨0+1,be+ve,at_,v,Ao,no,co,rfl,by go_num,rfl,by go_num,by omega,qh ⟨by have h1:=HJ.out;rw[←HRs.out] at h1;have h2:=h1.step0 HS.out (by rw[HEv.out];exact⟨hv0,hv1⟩);rw[HEv.out,HRs.out] at h2;exact h2,HNo.out,HO9.out,HT9.out,HM9.out,HR9.out,HK9.out⟩⟩,?_⟩
    simp[intOf];try omega
   ·have tg:decide ((k:Int)>0)=true:=by simp;omega
    have l0:w9.cell? ⟨bl,0,none⟩=some (.int .i64 s1):=HL9.out.cell 0
    have hw:=HFi.out w9 HK9.out s1
    unfold BalRet at hw
    obtain⟨ob,hob⟩:∃z,firstB t s1=z:=⟨_,rfl⟩
    rw[hob] at hw
    have HC:=qh hw
    have HOb:=qh hob
    clear hw hob
    obtain⟨y0,y1,y2,y3⟩:=bc4 HT9.out
    go_wp2_with fail
    refine HC.out.mono ?_
    rintro en w10 ⟨rfl,hk⟩
    have HK10:=qtr HK9 hk
    have HT10:=qkb HT9 hk
    have HM10:=qkb HM9 hk
    have HR10:=qkb HR9 hk
    have HO10:=qko HO9 hk
    have HL10:=qkb HL9 hk
    clear hk HC HT9 HM9 HR9 HK9 HO9 HL9 y0 y1 y2 y3 l0
    have HK1:Hid (1≤k):=qh (by omega)
    cases ob with
    | none=>
     simp only[Option.getD,Option.isSome]
     have HF:Hid (res=.error 1):=qh (HJ.out.none HK1.out HS.out HOb.out)
     have HKz:=qh (HK10.out.alloc (.cells #[.int .i64 0,.int .i64 0,.int .i64 0] 94))
     have HRz:=qh (HR10.out.alloc (.cells #[.int .i64 0,.int .i64 0,.int .i64 0] 94))
     have r0:(w10.alloc (.cells #[.int .i64 0,.int .i64 0,.int .i64 0] 94)).cell? ⟨w.heap.size+1+1,0,none⟩=some (.int .i64 0):=HRz.out.cell 0
     have rf0:=HRz.out.frozen 0
     have r1:(w10.alloc (.cells #[.int .i64 0,.int .i64 0,.int .i64 0] 94)).cell? ⟨w.heap.size+1+1,1,none⟩=some (.slice none 0 0):=HRz.out.cell 1
     have rf1:=HRz.out.frozen 1
     go_wp2_with fail
     (try simp only[Exit.inBlock,Exit.then])
     refine bodyPost_ret (pk_results (put2_blk17 HRz.out (.int .i64 0) (.slice none 0 0)) _ rfl) rfl ?_
     refine⟨put2_own17 HKz.out (.inr (by omega)) _ _,?_⟩
     rw[HRe.out,HF.out]
     exact⟨by decide,rfl⟩
    | some q=>
    obtain⟨q1,q2,q3⟩:=q
    simp only[Option.getD,Option.isSome]
    obtain⟨w11,hw11⟩:∃V:World,w10.alloc (.cells #[.int .i64 q1,.int .i64 q2,.int .i64 q3] 94)=V:=⟨_,rfl⟩
    have hk:Keep Never w10 w11:=by rw[←hw11];exact(Keep.refl _ _).alloc _
    have B11:=Blk.new w10 94 #[.int .i64 q1,.int .i64 q2,.int .i64 q3]
    rw[hw11] at B11
    obtain⟨bq,hbq⟩:∃q,w10.heap.size=q:=⟨_,rfl⟩
    rw[hbq] at B11
    have HK11:=qtr HK10 hk
    have HT11:=qkb HT10 hk
    have HM11:=qkb HM10 hk
    have HR11:=qkb HR10 hk
    have HO11:=qko HO10 hk
    have HL11:=qkb HL10 hk
    have HQ11:=qh B11
    clear hk B11 HT10 HM10 HR10 HK10 HO10 HL10
    have HMq:Hid ((q1,q2,q3)∈t.2.2.1):=qh (by have:=HOb.out;unfold firstB at this;exact List.mem_of_find?_eq_some this)
    have hw:=HBh.out w11 HK11.out (q1,q2,q3) s2 HMq.out
    have ha:=HAl.out (q1,q2,q3) s2 HMq.out
    simp only at hw ha
    obtain⟨al,hal⟩:∃z,alongP t (q2,q3,s2)=z:=⟨_,rfl⟩
    rw[hal] at hw ha
    have HAlo:=qh hal
    have HAr:=qh ha
    have HC:=qh hw
    clear hal hw ha
    obtain⟨y0,y1,y2,y3⟩:=bc4 HT11.out
    have d1:w11.cell? ⟨bq,1,none⟩=some (.int .i64 q2):=HQ11.out.cell 1
    have d2:w11.cell? ⟨bq,2,none⟩=some (.int .i64 q3):=HQ11.out.cell 2
    have l1:w11.cell? ⟨bl,1,none⟩=some (.bool s2):=HL11.out.cell 1
    go_wp2_with fail
    refine HC.out.mono ?_
    rintro en w12 ⟨rfl,hk⟩
    have HK12:=qtr HK11 hk
    have HT12:=qkb HT11 hk
    have HM12:=qkb HM11 hk
    have HR12:=qkb HR11 hk
    have HO12:=qko HO11 hk
    have HL12:=qkb HL11 hk
    have HQ12:=qkb HQ11 hk
    clear hk HC HT11 HM11 HR11 HK11 HO11 HL11 HQ11 y0 y1 y2 y3 d1 d2 l1 hw11 hbq
    have hbd:=HJ.out.bnd
    have har:=HAr.out
    have hw1:wrap64 (be+al)=be+al:=by have h2:IntKind.i64.wrap (be+al)=be+al:=IntWalk.i64_in _ (by omega);rwa [IntWalk.i64_left] at h2
    have hw2:IntKind.i64.wrap (be+al)=be+al:=IntWalk.i64_in _ (by omega)
    have hw3:wrap64 (be+al - at_)=be+al - at_:=by have h2:IntKind.i64.wrap (be+al - at_)=be+al - at_:=IntWalk.i64_in _ (by omega);rwa [IntWalk.i64_left] at h2
    have hw4:IntKind.i64.wrap (be+al - at_)=be+al - at_:=IntWalk.i64_in _ (by omega)
    clear hbd har
    obtain⟨sc,hsc⟩:∃z,scaledM (be+al - at_) u false=z:=⟨_,rfl⟩
    have HSc:Hid (scaledM (be+alongP t (((q1,q2,q3):Bl).2.1,((q1,q2,q3):Bl).2.2,((s1,s2):Stp).2) - at_) u false=sc):=qh (by simp only;rw[HAlo.out,hsc])
    have hc:=scaled_any (be+al - at_) u false w12
    rw[hsc] at hc
    obtain⟨sv,se⟩:=sc
    simp only at hc
    have HC:=qh hc
    clear hc hsc
    go_wp2_with fail
    refine HC.out.mono ?_
    rintro en w13 ⟨rfl,hk⟩
    have HK13:=qtr HK12 hk
    have HT13:=qkb HT12 hk
    have HM13:=qkb HM12 hk
    have HR13:=qkb HR12 hk
    have HO13:=qko HO12 hk
    have HL13:=qkb HL12 hk
    have HQ13:=qkb HQ12 hk
    clear hk HC HT12 HM12 HR12 HK12 HO12 HL12 HQ12 hw3 hw4 hw1 hw2
    by_cases g1:se=0
    case neg=>
     have t1:(se != 0)=true:=by simpa using g1
     have HNz:=qh g1
     have HF:Hid (res=.error se):=qh (by have h1:=HJ.out.bad HK1.out HS.out HOb.out;rw[HSc.out] at h1;exact h1 g1)
     clear g1
     have r0:w13.cell? ⟨w.heap.size+1+1,0,none⟩=some (.int .i64 0):=HR13.out.cell 0
     have rf0:=HR13.out.frozen 0
     have r1:w13.cell? ⟨w.heap.size+1+1,1,none⟩=some (.slice none 0 0):=HR13.out.cell 1
     have rf1:=HR13.out.frozen 1
     go_wp2_with fail
     (try simp only[Exit.inBlock,Exit.then])
     refine bodyPost_ret (pk_results (put2_blk17 HR13.out (.int .i64 0) (.slice none 0 0)) _ rfl) rfl ?_
     refine⟨put2_own17 HK13.out (.inr (by omega)) _ _,?_⟩
     rw[HRe.out,HF.out]
     exact⟨HNz.out,rfl⟩
    have t1:(se != 0)=false:=by simpa using g1
    have HSe:=qh g1
    clear g1
    have hsz:=HK13.out.size
    by_cases g2:k=2
    ·have t2:((k:Int)==2)=true:=by simp;omega
     have m2:w13.cell? ⟨w.heap.size+1,2,none⟩=some (.slice (some ad) np cp):=HM13.out.cell 2
     have hwn:wrap64 ((np:Int) - 2)=(np:Int) - 2:=by have h2:IntKind.i64.wrap ((np:Int) - 2)=(np:Int) - 2:=IntWalk.i64_in _ (by omega);rwa [IntWalk.i64_left] at h2
     have hwn2:IntKind.i64.wrap ((np:Int) - 2)=(np:Int) - 2:=IntWalk.i64_in _ (by omega)
     have HMi:Hid ([(np:Int) - 2]=midN k path.length):=qh (by unfold midN;rw[if_pos g2,HNp.out])
     clear g2
     go_upto_region 18 with((at_builtin;refine wpList_app _ rfl (.tmp 86) (.tmp 91) _ rfl elemInt17 w.heap.size rfl (HO13.out.alloc _) _ rfl (Rd.of_blk (n:=1) (cs:=[.int .i64 ((np:Int) - 2)]) (Blk.new _ _ _) rfl) (by simp[Value.oneCell']) (by omega) (by unfold maxLen;omega) (by simp;omega) ?_;intro A14 c14 w14 hown hk hrow;have hk14:Keep (InRow Ao) w13 w14:=((Keep.refl _ w13).alloc _).trans hk;have HO14:Hid (Own w14 w.heap.size 3 1 A14 (no+1) c14 (intCells (v++[(np:Int) - 2]))):=qh (by rw[intCells_app];exact hown);clear hown hk hrow))
     have hk:=hk14
     have HT14:=qh (HT13.out.keep hk (fun h=>HO13.out.ne_blk HT13.out (by decide) _ h rfl))
     have HM14:=qh (HM13.out.keep hk (fun h=>HO13.out.ne_blk HM13.out (by decide) _ h rfl))
     have HR14:=qh (HR13.out.keep hk (fun h=>HO13.out.ne_blk HR13.out (by decide) _ h rfl))
     have HL14:=qh (HL13.out.keep hk (fun h=>HO13.out.ne_blk HL13.out (by decide) _ h rfl))
     have HQ14:=qh (HQ13.out.keep hk (fun h=>HO13.out.ne_blk HQ13.out (by decide) _ h rfl))
     have HK14:=qh (HK13.out.then_ hk (fun i hi h=>by have:=(HO13.out.row h).1;omega))
     clear hk hk14 hwn hwn2 m2 t2 hsz HT13 HM13 HR13 HL13 HQ13 HK13 HO13
     have hsz:=HK14.out.size
     have q0:w14.cell? ⟨bq,0,none⟩=some (.int .i64 q1):=HQ14.out.cell 0
     have l1:w14.cell? ⟨bl,1,none⟩=some (.bool s2):=HL14.out.cell 1
     obtain⟨ns2,hns2⟩:∃z,nomI s2=z:=⟨_,rfl⟩
     have HNs2:=qh hns2
     have HCn:=qh (fun (V:World)=>nom_any s2 V)
     rw[hns2] at HCn
     have ha14:bits .and .i64 q1 16383=q1 % 16384:=and14 q1 (HCB.out _ HMq.out) (by have:=HCB2.out _ HMq.out;simp only at this;omega)
     clear hns2
     go_cut [12] (fun s12 wc=>∃A16 c16,s12=.slice A16 ((no+1)+7) c16∧Hid (Own wc w.heap.size 3 1 A16 ((no+1)+7) c16 (intCells (v++[(np:Int) - 2])++intCells [sv,1,q1 / 16384,q1 % 16384,ns2,2,12])∧Keep (InRow A14) w14 wc))
     case first=>
      go_region_law (first
        | (go_simp;go_at_call 77; refine(HCn.out _).mono ?_;rintro en w15 ⟨rfl,hk⟩;have hk15:Keep Never w14 w15:=(by first | exact hk | exact hk.drewL);have q0x:=keepT hk15 q0;have HO15:=qko HO14 hk15;have HK15:=qh hk15;have hsz5:=hk15.size;clear hk15 hk)
        | (refine step_app _ rfl (.tmp 93) (.tmp 104) _ rfl elemInt17 (w.heap.size) (A:=A14) (n:=(no+1)) (c:=c14) (by go_simp) (HO15.out.alloc _) _ (A':=some ⟨_,0,none⟩) (m:=7) (c':=7) (news:=[.int .i64 sv,.int .i64 1,.int .i64 (q1 / 16384),.int .i64 (q1 % 16384),.int .i64 ns2,.int .i64 2,.int .i64 12]) (by go_simp;first | done | rw[ha14]) (Rd.of_blk (n:=7) (cs:=[.int .i64 sv,.int .i64 1,.int .i64 (q1 / 16384),.int .i64 (q1 % 16384),.int .i64 ns2,.int .i64 2,.int .i64 12]) (Blk.new _ _ _) rfl) (by simp[Value.oneCell']) (by omega) (by unfold maxLen;omega) (by simp;omega) ?_;intro A16 c16 w16 hown hk hrow;have hk16:Keep (InRow A14) w15 w16:=(by first | exact((Keep.refl (InRow A14) w15).alloc _).trans hk | exact(((Keep.refl (InRow A14) w15).alloc _).drew).trans hk);have HO16:=qh hown;clear hown hk hrow))
      all_goals
       go_wp2_with fail
       go_meet
       refine⟨_,_,rfl,qh ⟨HO16.out,(HK15.out.mono (fun _ _ h=>h.elim)).trans hk16⟩⟩
     case rest=>
      obtain⟨A16,c16,rfl,HH16⟩:=hcut
      rename World=>w16
      have hk:=HH16.out.2
      have HT16:=qh (HT14.out.keep hk (fun h=>HO14.out.ne_blk HT14.out (by decide) _ h rfl))
      have HM16:=qh (HM14.out.keep hk (fun h=>HO14.out.ne_blk HM14.out (by decide) _ h rfl))
      have HR16:=qh (HR14.out.keep hk (fun h=>HO14.out.ne_blk HR14.out (by decide) _ h rfl))
      have HL16:=qh (HL14.out.keep hk (fun h=>HO14.out.ne_blk HL14.out (by decide) _ h rfl))
      have HK16:=qh (HK14.out.then_ hk (fun i hi h=>by have:=(HO14.out.row h).1;omega))
      have HO16:=qh HH16.out.1
      clear hk HH16 hsz ha14 q0 l1 HT14 HM14 HR14 HL14 HK14 HO14 HQ14
      obtain⟨ae,ke,ve,hAe,hke,hkn,ed,hev,hv0,hv1⟩:=HEd.out w16 HK16.out _ HMm.out
      simp only at hAe hke hkn
      subst hAe
      have hkni:(ke:Int)<(ne:Int):=by omega
      have HEv:Hid (edgeM t (((s1,s2):Stp)).1=ve):=qh hev
      clear hev
      have l0:w16.cell? ⟨bl,0,none⟩=some (.int .i64 ke):=by rw[←hke];exact HL16.out.cell 0
      have hwb:wrap64 (be+ve)=be+ve:=by have h1:=HJ.out.bnd;have h2:IntKind.i64.wrap (be+ve)=be+ve:=IntWalk.i64_in _ (by omega);rwa [IntWalk.i64_left] at h2
      have hwb2:IntKind.i64.wrap (be+ve)=be+ve:=by have h1:=HJ.out.bnd;exact IntWalk.i64_in _ (by omega)
      obtain⟨y0,y1,y2,y3⟩:=bc4 HT16.out
      go_wp2_with fail
      have h2:=HJ.out.step HK1.out HS.out (by rw[HEv.out];exact⟨hv0,hv1⟩) HOb.out (by simp only;rw[HAlo.out];exact HAr.out) (by rw[HSc.out];exact HSe.out)
      rw[HSc.out,HEv.out] at h2
      simp only at h2
      rw[HAlo.out,←HMi.out] at h2
      unfold grpN at h2
      rw[HNs2.out] at h2
      refine⟨⟨k+1,be+ve,be+al,_,A16,(no+1)+7,c16,rfl,by go_num,rfl,by go_num,by omega,qh ⟨h2,by have h3:=HNo.out;simp;omega,by rw[intCells_app];exact HO16.out,HT16.out,HM16.out,HR16.out,HK16.out⟩⟩,?_⟩
      simp[intOf];try omega
    ·have t2:((k:Int)==2)=false:=by simp;omega
     have HMi:Hid (([]:List Int)=midN k path.length):=qh (by unfold midN;rw[if_neg g2])
     clear g2
     go_upto_region 18 with(fail)
     have hsz:=HK13.out.size
     have q0:w13.cell? ⟨bq,0,none⟩=some (.int .i64 q1):=HQ13.out.cell 0
     have l1:w13.cell? ⟨bl,1,none⟩=some (.bool s2):=HL13.out.cell 1
     obtain⟨ns2,hns2⟩:∃z,nomI s2=z:=⟨_,rfl⟩
     have HNs2:=qh hns2
     have HCn:=qh (fun (V:World)=>nom_any s2 V)
     rw[hns2] at HCn
     have ha14:bits .and .i64 q1 16383=q1 % 16384:=and14 q1 (HCB.out _ HMq.out) (by have:=HCB2.out _ HMq.out;simp only at this;omega)
     clear hns2
     go_cut [12] (fun s12 wc=>∃A16 c16,s12=.slice A16 (no+7) c16∧Hid (Own wc w.heap.size 3 1 A16 (no+7) c16 (intCells (v)++intCells [sv,1,q1 / 16384,q1 % 16384,ns2,2,12])∧Keep (InRow Ao) w13 wc))
     case first=>
      go_region_law (first
        | (go_simp;go_at_call 77; refine(HCn.out _).mono ?_;rintro en w15 ⟨rfl,hk⟩;have hk15:Keep Never w13 w15:=(by first | exact hk | exact hk.drewL);have q0x:=keepT hk15 q0;have HO15:=qko HO13 hk15;have HK15:=qh hk15;have hsz5:=hk15.size;clear hk15 hk)
        | (refine step_app _ rfl (.tmp 93) (.tmp 104) _ rfl elemInt17 (w.heap.size) (A:=Ao) (n:=no) (c:=co) (by go_simp) (HO15.out.alloc _) _ (A':=some ⟨_,0,none⟩) (m:=7) (c':=7) (news:=[.int .i64 sv,.int .i64 1,.int .i64 (q1 / 16384),.int .i64 (q1 % 16384),.int .i64 ns2,.int .i64 2,.int .i64 12]) (by go_simp;first | done | rw[ha14]) (Rd.of_blk (n:=7) (cs:=[.int .i64 sv,.int .i64 1,.int .i64 (q1 / 16384),.int .i64 (q1 % 16384),.int .i64 ns2,.int .i64 2,.int .i64 12]) (Blk.new _ _ _) rfl) (by simp[Value.oneCell']) (by omega) (by unfold maxLen;omega) (by simp;omega) ?_;intro A16 c16 w16 hown hk hrow;have hk16:Keep (InRow Ao) w15 w16:=(by first | exact((Keep.refl (InRow Ao) w15).alloc _).trans hk | exact(((Keep.refl (InRow Ao) w15).alloc _).drew).trans hk);have HO16:=qh hown;clear hown hk hrow))
      all_goals
       go_wp2_with fail
       go_meet
       refine⟨_,_,rfl,qh ⟨HO16.out,(HK15.out.mono (fun _ _ h=>h.elim)).trans hk16⟩⟩
     case rest=>
      obtain⟨A16,c16,rfl,HH16⟩:=hcut
      rename World=>w16
      have hk:=HH16.out.2
      have HT16:=qh (HT13.out.keep hk (fun h=>HO13.out.ne_blk HT13.out (by decide) _ h rfl))
      have HM16:=qh (HM13.out.keep hk (fun h=>HO13.out.ne_blk HM13.out (by decide) _ h rfl))
      have HR16:=qh (HR13.out.keep hk (fun h=>HO13.out.ne_blk HR13.out (by decide) _ h rfl))
      have HL16:=qh (HL13.out.keep hk (fun h=>HO13.out.ne_blk HL13.out (by decide) _ h rfl))
      have HK16:=qh (HK13.out.then_ hk (fun i hi h=>by have:=(HO13.out.row h).1;omega))
      have HO16:=qh HH16.out.1
      clear hk HH16 hsz ha14 q0 l1 HT13 HM13 HR13 HL13 HK13 HO13 HQ13
      obtain⟨ae,ke,ve,hAe,hke,hkn,ed,hev,hv0,hv1⟩:=HEd.out w16 HK16.out _ HMm.out
      simp only at hAe hke hkn
      subst hAe
      have hkni:(ke:Int)<(ne:Int):=by omega
      have HEv:Hid (edgeM t (((s1,s2):Stp)).1=ve):=qh hev
      clear hev
      have l0:w16.cell? ⟨bl,0,none⟩=some (.int .i64 ke):=by rw[←hke];exact HL16.out.cell 0
      have hwb:wrap64 (be+ve)=be+ve:=by have h1:=HJ.out.bnd;have h2:IntKind.i64.wrap (be+ve)=be+ve:=IntWalk.i64_in _ (by omega);rwa [IntWalk.i64_left] at h2
      have hwb2:IntKind.i64.wrap (be+ve)=be+ve:=by have h1:=HJ.out.bnd;exact IntWalk.i64_in _ (by omega)
      obtain⟨y0,y1,y2,y3⟩:=bc4 HT16.out
      go_wp2_with fail
      have h2:=HJ.out.step HK1.out HS.out (by rw[HEv.out];exact⟨hv0,hv1⟩) HOb.out (by simp only;rw[HAlo.out];exact HAr.out) (by rw[HSc.out];exact HSe.out)
      rw[HSc.out,HEv.out] at h2
      simp only at h2
      rw[HAlo.out,←HMi.out] at h2
      unfold grpN at h2
      rw[HNs2.out] at h2
      refine⟨⟨k+1,be+ve,be+al,_,A16,no+7,c16,rfl,by go_num,rfl,by go_num,by omega,qh ⟨h2,by have h3:=HNo.out;simp;omega,by rw[List.append_nil,intCells_app];exact HO16.out,HT16.out,HM16.out,HR16.out,HK16.out⟩⟩,?_⟩
      simp[intOf];try omega
end Go.Proofs.YtpapiojicbbheaaGreatDoor

namespace Go.Proofs.YtpapiojicbbheaaGreatDoor
open Go.RowKit
structure ChS (w0 W:World) (x:TA) (bt bl br bo bg:Nat) (Al:Option Addr) (nl cl:Nat) (train:Int) (Ao:Option Addr) (no co:Nat) (Ag:Option Addr) (ng cg:Nat) (out:List Lk) (gone:List Stp):Prop where
  kp:Keep Never w0 W
  ft:Blk W bt 27 x.cs
  fl:Blk W bl 28 #[.slice Al nl cl]
  fr:Blk W br 3 #[.int .i64 train]
  fo:Blk W bo 28 #[.slice Ao no co]
  fg:Blk W bg 35 #[.slice Ag ng cg]
  oo:Own W w0.heap.size 62 3 Ao no co (spCells out)
  og:Own W w0.heap.size 30 2 Ag ng cg (stpCells gone)
  lo:w0.heap.size≤bo∧w0.heap.size≤bg
  ne:bl≠bo
theorem ChS.never {w0 W W':World}{x:TA}{bt bl br bo bg:Nat}{Al:Option Addr}{nl cl:Nat}{train:Int}{Ao:Option Addr}{no co:Nat}{Ag:Option Addr}{ng cg:Nat}{out:List Lk}{gone:List Stp}
    (h:ChS w0 W x bt bl br bo bg Al nl cl train Ao no co Ag ng cg out gone) (hk:Keep Never W W'):ChS w0 W' x bt bl br bo bg Al nl cl train Ao no co Ag ng cg out gone:=
  ⟨h.kp.trans hk,h.ft.keep hk (fun h=>h),h.fl.keep hk (fun h=>h),h.fr.keep hk (fun h=>h),h.fo.keep hk (fun h=>h),h.fg.keep hk (fun h=>h),h.oo.keep hk (fun _ _ h=>h),h.og.keep hk (fun _ _ h=>h),h.lo,h.ne⟩
theorem ChS.out_ {w0 W W2:World}{x:TA}{bt bl br bo bg:Nat}{Al:Option Addr}{nl cl:Nat}{train:Int}{Ao:Option Addr}{no co:Nat}{Ag:Option Addr}{ng cg:Nat}{out:List Lk}{gone:List Stp}{A2:Option Addr}{c2:Nat}{k:Lk}
    (h:ChS w0 W x bt bl br bo bg Al nl cl train Ao no co Ag ng cg out gone) (ho:Own W2 w0.heap.size 62 3 A2 (no+1) c2 (spCells out++[.int .i64 k.1,.int .i64 k.2.1,.int .i64 k.2.2])) (hk:Keep (InRow Ao) W W2) :
    ChS w0 (W2.setCell ⟨bo,0,none⟩ (.slice A2 (no+1) c2)) x bt bl br bo bg Al nl cl train A2 (no+1) c2 Ag ng cg (out++[k]) gone:=by
  have hft:=h.ft.keep hk (fun hi=>h.oo.ne_blk h.ft (by decide) _ hi rfl)
  have hfl:=h.fl.keep hk (fun hi=>h.oo.ne_blk h.fl (by decide) _ hi rfl)
  have hfr:=h.fr.keep hk (fun hi=>h.oo.ne_blk h.fr (by decide) _ hi rfl)
  have hfo:=h.fo.keep hk (fun hi=>h.oo.ne_blk h.fo (by decide) _ hi rfl)
  have hfg:=h.fg.keep hk (fun hi=>h.oo.ne_blk h.fg (by decide) _ hi rfl)
  have hog:=h.og.keep hk (fun q h1 h2=>h.og.ne_own h.oo (by decide) q h1 h2)
  refine⟨(h.kp.then_ hk (fun i hi h1=>by have:=(h.oo.row h1).1;omega)).set_ (p:=⟨bo,0,none⟩) (.inr h.lo.1) _,hft.far (hft.ne_ hfo (by decide)) _,hfl.far h.ne _,hfr.far (hfr.ne_ hfo (by decide)) _,?_,hfg.far (hfg.ne_ hfo (by decide)) _,?_,hog.far (hog.ne_blk hfo (by decide)) _,h.lo,h.ne⟩
  ·have:=hfo.set_ 0 (.slice A2 (no+1) c2)
   simpa using this
  ·rw[spCells_app]
   exact ho.far (ho.ne_blk hfo (by decide)) _
theorem ChS.gone_ {w0 W W2:World}{x:TA}{bt bl br bo bg:Nat}{Al:Option Addr}{nl cl:Nat}{train:Int}{Ao:Option Addr}{no co:Nat}{Ag:Option Addr}{ng cg:Nat}{out:List Lk}{gone:List Stp}{A2:Option Addr}{n2 c2:Nat}{l:List Stp}
    (h:ChS w0 W x bt bl br bo bg Al nl cl train Ao no co Ag ng cg out gone) (ho:Own W2 w0.heap.size 30 2 A2 n2 c2 (stpCells gone++stpCells l)) (hk:Keep (InRow Ag) W W2) :
    ChS w0 (W2.setCell ⟨bg,0,none⟩ (.slice A2 n2 c2)) x bt bl br bo bg Al nl cl train Ao no co A2 n2 c2 out (gone++l):=by
  have hft:=h.ft.keep hk (fun hi=>h.og.ne_blk h.ft (by decide) _ hi rfl)
  have hfl:=h.fl.keep hk (fun hi=>h.og.ne_blk h.fl (by decide) _ hi rfl)
  have hfr:=h.fr.keep hk (fun hi=>h.og.ne_blk h.fr (by decide) _ hi rfl)
  have hfo:=h.fo.keep hk (fun hi=>h.og.ne_blk h.fo (by decide) _ hi rfl)
  have hfg:=h.fg.keep hk (fun hi=>h.og.ne_blk h.fg (by decide) _ hi rfl)
  have hoo:=h.oo.keep hk (fun q h1 h2=>h.og.ne_own h.oo (by decide) q h2 h1)
  refine⟨(h.kp.then_ hk (fun i hi h1=>by have:=(h.og.row h1).1;omega)).set_ (p:=⟨bg,0,none⟩) (.inr h.lo.2) _,hft.far (hft.ne_ hfg (by decide)) _,hfl.far (hfl.ne_ hfg (by decide)) _,hfr.far (hfr.ne_ hfg (by decide)) _,hfo.far (hfo.ne_ hfg (by decide)) _,?_,hoo.far (hoo.ne_blk hfg (by decide)) _,?_,h.lo,h.ne⟩
  ·have:=hfg.set_ 0 (.slice A2 n2 c2)
   simpa using this
  ·rw[stpCells_app]
   exact ho.far (ho.ne_blk hfg (by decide)) _
def ChX (w0 W:World) (x:TA) (bt bl br bo bg:Nat) (Al:Option Addr) (nl cl:Nat) (train:Int) (out:List Lk) (gone:List Stp):Prop:=
  ∃Ao no co Ag ng cg,no=out.length∧ng=gone.length∧ChS w0 W x bt bl br bo bg Al nl cl train Ao no co Ag ng cg out gone
def NextRet (w0:World) (x:TA) (bt bl br bo bg:Nat) (Al:Option Addr) (nl cl:Nat) (train:Int) (out:List Lk) (gone:List Stp) (o:Option (Lk×Rt)) (e:Ending) (w':World):Prop:=
  e=.returned (.bool o.isSome)∧match o with
   | none=>ChX w0 w' x bt bl br bo bg Al nl cl train out gone
   | some z=>ChX w0 w' x bt bl br bo bg Al nl cl train (out++[z.1]) (gone++z.2.2.1)
def PredRo (g:Nat) (lb:Array Value) (t:Tp) (p:Rt→Bool) (w:World):Prop:=
  ∀(W:World) (r:Rt) (A:Option Addr) (n c:Nat),Keep Never w W→r∈t.2.2.2→Rd W W.heap.size 2 A n (stpCells r.2.1)→Calls Tryz.prog g (#[rtA r A n c]++lb) W fun e w'=>e=.returned (.bool (p r))∧Keep Never W w'
theorem find_at17 {α β:Type}{f:α→Option β}{l:List α}{k:Nat}{s:α}{z:β} (h0:∀x∈l.take k,f x=none) (h1:l[k]?=some s) (h2:f s=some z):l.findSome? f=some z:=by
 have e:l=l.take k++s::l.drop (k+1):=by
  obtain⟨hk,hs⟩:=List.getElem?_eq_some_iff.1 h1
  rw[←hs,List.getElem_cons_drop,List.take_append_drop]
 rw[e,List.findSome?_append,List.findSome?_eq_none_iff.2 h0,List.findSome?_cons,h2]
 rfl
theorem find_no17 {α β:Type}{f:α→Option β}{l:List α} (h:∀x∈l,f x=none):l.findSome? f=none:=List.findSome?_eq_none_iff.2 h
theorem take_next {α:Type}{l:List α}{k:Nat}{s:α} (h:l[k]?=some s) {P:α→Prop} (h0:∀x∈l.take k,P x) (hs:P s):∀x∈l.take (k+1),P x:=by
 intro x hx
 rw[List.take_add_one,h] at hx
 rcases List.mem_append.1 hx with hx | hx
 ·exact h0 x hx
 ·simp at hx;subst hx;exact hs
theorem next_none {t:Tp}{train:Int}{out:List Lk}{may:Rt→Bool}{k:Lk} (h:rtM t.2.2.2 k.1=none):nextK t train out may k=none:=by unfold nextK;rw[h]
theorem next_eq {t:Tp}{train:Int}{out:List Lk}{may:Rt→Bool}{k:Lk}{r:Rt} (h:rtM t.2.2.2 k.1=some r):nextK t train out may k=if (k.2.1==train&&!(out.contains k)&&may r)=true then some (k,r) else none:=by unfold nextK;rw[h]
set_option maxHeartbeats 8000000 in
set_option maxRecDepth 100000 in
theorem ch1_any (g:Nat) (lb:Array Value) (p:Rt→Bool) (eg:∀args w,(callFunc g args).run Tryz.prog w=.ok (.enter g args) w) (x:TA) (t:Tp) (B:Nat) (Al:Option Addr) (nl cl:Nat) (l:List Lk) (train:Int) (w0 w:World) (bt bl br bo bg:Nat) (out:List Lk) (gone:List Stp) (h:TpAt w B x t) (hs:TpSmall x t) (hB:B≤w.heap.size) (hl:SpAt w0 B Al nl cl l) (hnl:nl≤1000000) (h8:out.length≤100) (hg9:gone.length≤10000) (hX:ChX w0 w x bt bl br bo bg Al nl cl train out gone) (hm:PredRo g lb t p w) :
    Calls Tryz.prog 40 #[.func (.func g) #[] lb,.pointer (some ⟨bl,0,none⟩),.pointer (some ⟨bt,0,none⟩),.pointer (some ⟨br,0,none⟩),.pointer (some ⟨bo,0,none⟩),.pointer (some ⟨bg,0,none⟩)] w (NextRet w0 x bt bl br bo bg Al nl cl train out gone (l.findSome? (nextK t train out p))):=by
  obtain⟨Ao,no,co,Ag,ng,cg,hno,hng,hS⟩:=hX
  have HRt:=qh (fun (W:World) (hk:Keep Never w W) (id:Int)=>route_own x t B id W (h.keep hk) hs.r hs.p (Nat.le_trans hB hk.size))
  have HCo:=qh (fun (W:World) (k:Lk) (hr:Rd W W.heap.size 3 Ao no (spCells out))=>kcontains_any Ao no co W.heap.size out k W hr (by omega))
  have HL:=qh hl
  have HLn:Hid (l.length=nl):=qh hl.len
  have HM:=qh hm
  have HS0:=qh hS
  have HNo:=qh hno
  have HNg:=qh hng
  have HSp:=qh hs.p
  obtain⟨Ae,ne,ce,Aj,nj,cj,Ab,nb,cb,Ar,nr,cr⟩:=x
  simp only[TA.cs] at HRt
  have hno8:no≤100:=by omega
  have hng9:ng≤10000:=by omega
  clear h hs hl hm hS hno hng
  have xl:w.cell? ⟨bl,0,none⟩=some (.slice Al nl cl):=HS0.out.fl.cell 0
  go_enter Tryz.func40, Tryz.ntmps40
  go_wp2_with fail
  clear xl
  go_loopw [14] (fun si wr=>∃k:Nat,k≤nl∧si=.int .i64 k∧Hid (Keep Never w wr∧∀s∈l.take k,nextK t train out p s=none)) (fun si _=>nl - (intOf si).toNat)
  case atStart=>exact⟨0,by omega,rfl,qh ⟨Keep.refl _ _,by simp⟩⟩
  case round=>
   obtain⟨k,hk,rfl,HH⟩:=hrel
   by_cases h0:k<nl
   ·have hkz:(k:Int)<(nl:Int):=by omega
    have HSr:=qh (HS0.out.never HH.out.1)
    obtain⟨ad,s,hA,_,hs,c0,c1,c2⟩:=(HL.out.keep (HS0.out.kp.trans HH.out.1)).rd.sp h0
    subst hA
    have Hs:=qh hs
    obtain⟨k1,k2,k3⟩:=s
    simp only at c0 c1 c2
    clear hs
    obtain⟨w4,hw4⟩:∃V:World,wr.alloc (.cells #[.int .i64 k1,.int .i64 k2,.int .i64 k3] 62)=V:=⟨_,rfl⟩
    have k4:Keep Never wr w4:=by rw[←hw4];exact(Keep.refl _ _).alloc _
    have B4:=Blk.new wr 62 #[.int .i64 k1,.int .i64 k2,.int .i64 k3]
    rw[hw4] at B4
    obtain⟨bk,hbk⟩:∃q,wr.heap.size=q:=⟨_,rfl⟩
    rw[hbk] at B4
    have HB4:=qh B4
    have HS4:=qh (HSr.out.never k4)
    have HK4:=qh (HH.out.1.trans k4)
    obtain⟨b0,b1,b2⟩:=bc3 HB4.out
    have hw:=HRt.out w4 HK4.out k1
    obtain⟨o,ho⟩:∃z,rtM t.2.2.2 k1=z:=⟨_,rfl⟩
    rw[ho] at hw
    have HC:=qh hw
    have HO:=qh ho
    clear B4 k4 hw ho
    obtain⟨y0,y1,y2,y3⟩:=bc4 HS4.out.ft
    go_wp2_with fail
    refine HC.out.mono ?_
    rintro en w5 ⟨A5,n5,c5,rfl,hz5,ho5,hin5,hk5⟩
    have HS5:=qh (HS4.out.never hk5)
    have HK5:=qtr HK4 hk5
    have HB5:=qkb HB4 hk5
    have HO5:=qh ho5
    clear hk5 HC y0 y1 y2 y3 b0 b1 b2 c0 c1 c2 ho5 hin5
    cases o with
    | none=>
     have HF:Hid (nextK t train out p (k1,k2,k3)=none):=qh (next_none HO.out)
     simp only[Option.getD,Option.isSome] at HO5 ⊢
     obtain⟨e1,e2,e3⟩:=hz5 rfl
     subst e1 e2 e3
     have HK6:=qh (HK5.out.trans ((Keep.refl Never w5).alloc (.cells #[.int .i64 0,.slice none 0 0,.int .i64 0,.int .i64 0] 64)))
     have b1:(w5.alloc (.cells #[.int .i64 0,.slice none 0 0,.int .i64 0,.int .i64 0] 64)).cell? ⟨bk,1,none⟩=some (.int .i64 k2):=(HB5.out.alloc (.cells #[.int .i64 0,.slice none 0 0,.int .i64 0,.int .i64 0] 64)).cell 1
     have xr:(w5.alloc (.cells #[.int .i64 0,.slice none 0 0,.int .i64 0,.int .i64 0] 64)).cell? ⟨br,0,none⟩=some (.int .i64 train):=(HS5.out.fr.alloc (.cells #[.int .i64 0,.slice none 0 0,.int .i64 0,.int .i64 0] 64)).cell 0
     clear hz5
     by_cases g0:k2=train
     ·have t0:(k2 != train)=false:=by simpa using g0
      clear g0
      go_wp2_with fail
      refine⟨⟨k+1,by omega,by go_num,qh ⟨HK6.out,take_next Hs.out HH.out.2 HF.out⟩⟩,?_⟩
      simp[intOf];try omega
     ·have t0:(k2 != train)=true:=by simpa using g0
      clear g0
      go_wp2_with fail
      refine⟨⟨k+1,by omega,by go_num,qh ⟨HK6.out,take_next Hs.out HH.out.2 HF.out⟩⟩,?_⟩
      simp[intOf];try omega
    | some r=>
     obtain⟨r1,rp,r3,r4⟩:=r
     clear hz5
     have HNx:=qh (next_eq (train:=train) (out:=out) (may:=p) (k:=(k1,k2,k3)) HO.out)
     have HRm:Hid (((r1,rp,r3,r4):Rt)∈t.2.2.2):=qh (List.mem_of_find?_eq_some HO.out)
     simp only[Option.getD,Option.isSome] at HO5 ⊢
     have hn5:n5≤100000000:=by have h1:=HSp.out _ HRm.out;have h2:=HO5.out.len;rw[len_stpCells] at h2;simp only at h1;omega
     have HN5:Hid (n5=rp.length):=qh (by have h2:=HO5.out.len;rw[len_stpCells] at h2;omega)
     obtain⟨w6,hw6⟩:∃V:World,w5.alloc (.cells #[.int .i64 r1,.slice A5 n5 c5,.int .i64 r3,.int .i64 r4] 64)=V:=⟨_,rfl⟩
     have k6:Keep Never w5 w6:=by rw[←hw6];exact(Keep.refl _ _).alloc _
     have B6:=Blk.new w5 64 #[.int .i64 r1,.slice A5 n5 c5,.int .i64 r3,.int .i64 r4]
     rw[hw6] at B6
     obtain⟨bq,hbq⟩:∃q,w5.heap.size=q:=⟨_,rfl⟩
     rw[hbq] at B6
     have HB6:=qkb HB5 k6
     have HR6:=qh B6
     have HS6:=qh (HS5.out.never k6)
     have HK6:=qtr HK5 k6
     have HO6:=qko HO5 k6
     obtain⟨b0,b1,b2⟩:=bc3 HB6.out
     have xr:w6.cell? ⟨br,0,none⟩=some (.int .i64 train):=HS6.out.fr.cell 0
     have xo:w6.cell? ⟨bo,0,none⟩=some (.slice Ao no co):=HS6.out.fo.cell 0
     clear k6 B6
     by_cases g0:k2=train
     case neg=>
      have t0:(k2 != train)=true:=by simpa using g0
      have HF:Hid (nextK t train out p (k1,k2,k3)=none):=qh (by rw[HNx.out,if_neg (by simp[g0])])
      clear g0
      go_wp2_with fail
      refine⟨⟨k+1,by omega,by go_num,qh ⟨HK6.out,take_next Hs.out HH.out.2 HF.out⟩⟩,?_⟩
      simp[intOf];try omega
     have t0:(k2 != train)=false:=by simpa using g0
     have HC:=qh (HCo.out w6 (k1,k2,k3) HS6.out.oo.rd)
     dsimp only at HC
     rw[show decide (((k1,k2,k3):Lk)∈out)=out.contains (k1,k2,k3) from by rw[List.contains_eq_mem]] at HC
     obtain⟨cb,hcb⟩:∃z,out.contains ((k1,k2,k3):Lk)=z:=⟨_,rfl⟩
     rw[hcb] at HC HNx
     have HG0:=qh g0
     clear hcb g0
     go_wp2_with fail
     refine HC.out.mono ?_
     rintro en w7 ⟨rfl,hk7⟩
     have HB7:=qkb HB6 hk7
     have HR7:=qkb HR6 hk7
     have HS7:=qh (HS6.out.never hk7)
     have HK7:=qtr HK6 hk7
     have HO7:=qko HO6 hk7
     clear hk7 HC b0 b1 b2 xr xo t0
     cases cb with
     | true=>
      have HF:Hid (nextK t train out p (k1,k2,k3)=none):=qh (by rw[HNx.out,if_neg (by simp)])
      go_wp2_with fail
      refine⟨⟨k+1,by omega,by go_num,qh ⟨HK7.out,take_next Hs.out HH.out.2 HF.out⟩⟩,?_⟩
      simp[intOf];try omega
     | false=>
     have HC:=qh (HM.out w7 (r1,rp,r3,r4) A5 n5 c5 HK7.out HRm.out HO7.out.rd)
     unfold rtA at HC
     dsimp only at HC
     obtain⟨pb,hpb⟩:∃z,p (r1,rp,r3,r4)=z:=⟨_,rfl⟩
     rw[hpb] at HC HNx
     clear hpb
     cases pb with
     | false=>
      have HF:Hid (nextK t train out p (k1,k2,k3)=none):=qh (by rw[HNx.out,if_neg (by simp)])
      obtain⟨q0,q1,q2,q3⟩:=bc4 HR7.out
      go_wp2_with (go_at_fn g;refine HC.out.mono ?_;rintro e w8 ⟨rfl,hk8⟩;have HB8:=qkb HB7 hk8;have HR8:=qkb HR7 hk8;have HS8:=qh (HS7.out.never hk8);have HK8:=qtr HK7 hk8;have HO8:=qko HO7 hk8;clear hk8 q0 q1 q2 q3)
      clear HC
      go_wp2_with fail
      refine⟨⟨k+1,by omega,by go_num,qh ⟨HK8.out,take_next Hs.out HH.out.2 HF.out⟩⟩,?_⟩
      simp[intOf];try omega
     | true=>
      have HF:Hid (nextK t train out p (k1,k2,k3)=some ((k1,k2,k3),(r1,rp,r3,r4))):=qh (by rw[HNx.out,if_pos (by simp[HG0.out])])
      have HFF:Hid (l.findSome? (nextK t train out p)=some ((k1,k2,k3),(r1,rp,r3,r4))):=qh (find_at17 HH.out.2 Hs.out HF.out)
      obtain⟨q0,q1,q2,q3⟩:=bc4 HR7.out
      go_upto_region 6 with(go_at_fn g;refine HC.out.mono ?_;rintro e w8 ⟨rfl,hk8⟩;have HB8:=qkb HB7 hk8;have HR8:=qkb HR7 hk8;have HS8:=qh (HS7.out.never hk8);have HK8:=qtr HK7 hk8;have HO8:=qko HO7 hk8;clear hk8 q0 q1 q2 q3)
      clear HC
      have xo:w8.cell? ⟨bo,0,none⟩=some (.slice Ao no co):=HS8.out.fo.cell 0
      obtain⟨b0,b1,b2⟩:=bc3 HB8.out
      have hz8:w0.heap.size≤w8.heap.size:=HS8.out.kp.size
      go_upto_region 7 with(at_builtin;refine wpList_app _ rfl (.tmp 44) (.tmp 46) _ rfl elemLk w0.heap.size (A:=Ao) (n:=no) (c:=co) (by go_simp) (HS8.out.oo.alloc _) _ (A':=some ⟨_,0,none⟩) (m:=1) (c':=1) (news:=[.int .i64 k1,.int .i64 k2,.int .i64 k3]) (by go_simp) (Rd.of_blk (n:=1) (cs:=[.int .i64 k1,.int .i64 k2,.int .i64 k3]) (Blk.new _ _ _) rfl) (by simp[Value.oneCell']) (by omega) (by unfold maxLen;omega) (by simp;omega) ?_;intro A9 c9 w9 hown hk9 hrow9;have HO9:=qh hown;have HK9:=qh (((Keep.refl (InRow Ao) w8).alloc _).trans hk9);have HF9:=qh (HS8.out.fo.keep HK9.out (fun hi=>HS8.out.oo.ne_blk HS8.out.fo (by decide) _ hi rfl));have xo9:w9.cell? ⟨bo,0,none⟩=some (.slice Ao no co):=HF9.out.cell 0;have xf9:=HF9.out.frozen 0;clear hown hk9 hrow9 xo b0 b1 b2)
      obtain⟨w10,hw10⟩:∃V:World,w9.setCell ⟨bo,0,none⟩ (.slice A9 (no+1) c9)=V:=⟨_,rfl⟩
      rw[hw10]
      have HS10:=qh (HS8.out.out_ (k:=(k1,k2,k3)) HO9.out HK9.out)
      rw[hw10] at HS10
      have kb:Keep (fun q=>q=bo) w9 w10:=by rw[←hw10];exact(Keep.refl (fun q=>q=bo) w9).set_ (p:=⟨bo,0,none⟩) (.inl rfl) _
      have HO9b:=qh (HO8.out.keep HK9.out (fun q h1 h2=>HO8.out.ne_own HS8.out.oo (by decide) q h1 h2))
      have HO10:=qh (HO9b.out.keep kb (fun q h1 h2=>HO9b.out.ne_blk HF9.out (by decide) q h1 h2))
      have HR9:=qh (HR8.out.keep HK9.out (fun hi=>HS8.out.oo.ne_blk HR8.out (by decide) _ hi rfl))
      have HR10:=qh (HR9.out.keep kb (HR9.out.ne_ HF9.out (by decide)))
      have xg:w10.cell? ⟨bg,0,none⟩=some (.slice Ag ng cg):=HS10.out.fg.cell 0
      have q1:w10.cell? ⟨bq,1,none⟩=some (.slice A5 n5 c5):=HR10.out.cell 1
      have hz10:w0.heap.size≤w10.heap.size:=HS10.out.kp.size
      have HRp:=qh HO10.out.rd
      clear hw10 kb xo9 xf9 hz8
      go_wp2_with (at_builtin;refine wpList_app _ rfl (.tmp 48) (.tmp 50) _ rfl elemStp w0.heap.size (A:=Ag) (n:=ng) (c:=cg) (by go_simp) HS10.out.og _ (A':=A5) (m:=n5) (c':=c5) (by go_simp) HRp.out (stpCells_one _) (by omega) (by unfold maxLen;omega) hz10 ?_;intro A11 c11 w11 hown hk11 hrow11;have HO11:=qh hown;have HK11:=qh hk11;have HG11:=qh (HS10.out.fg.keep hk11 (fun hi=>HS10.out.og.ne_blk HS10.out.fg (by decide) _ hi rfl));have xg11:w11.cell? ⟨bg,0,none⟩=some (.slice Ag ng cg):=HG11.out.cell 0;have xf11:=HG11.out.frozen 0;clear hown hk11 hrow11 xg q1)
      go_ret
      refine⟨by rw[HFF.out];rfl,?_⟩
      rw[HFF.out]
      refine⟨A9,no+1,c9,A11,ng+n5,c11,by rw[HNo.out];simp,by rw[HNg.out,HN5.out];simp,?_⟩
      exact HS10.out.gone_ HO11.out HK11.out
   ·obtain rfl:k=nl:=by omega
    have hkz:¬(k:Int)<(k:Int):=by omega
    have HF:Hid (l.findSome? (nextK t train out p)=none):=qh (find_no17 (fun s hs=>HH.out.2 s (by rw[List.take_of_length_le (by rw[HLn.out];exact Nat.le_refl _)];exact hs)))
    go_wp2_with fail
    go_ret
    refine⟨by rw[HF.out];rfl,?_⟩
    rw[HF.out]
    exact⟨Ao,no,co,Ag,ng,cg,HNo.out,HNg.out,HS0.out.never HH.out.1⟩
end Go.Proofs.YtpapiojicbbheaaGreatDoor

namespace Go.Proofs.YtpapiojicbbheaaGreatDoor
open Go.RowKit
theorem chain_path {t:Tp} (hc:checkM t=0) {r:Rt} (hr:r∈t.2.2.2):r.2.1≠[]∧r.2.1.length≤8:=by
 obtain⟨i,hi⟩:=List.mem_iff_getElem?.1 hr
 have hg:=check_good hc hi
 exact⟨(good_of hc hg.err).2.1,hg.few⟩
theorem nextK_mem {t:Tp}{train:Int}{out:List Lk}{may:Rt→Bool}{l:List Lk}{z:Lk×Rt} (h:l.findSome? (nextK t train out may)=some z):z.2∈t.2.2.2:=by
 obtain⟨k,_,hz⟩:=List.exists_of_findSome?_eq_some h
 exact List.mem_of_find?_eq_some (nextK_some hz).2.1
structure ChR (t:Tp) (l:List Lk) (train:Int) (res:List Lk) (k:Nat) (ok:Bool) (out:List Lk) (gone:List Stp):Prop where
  go:ok=true→out≠[]∧gone≠[]∧out.length+k=8∧(chainK t l train k out gone).1=res
  stop:ok=false→out=res
  few:out.length≤8
  len:gone.length≤8*out.length
theorem ChR.start {t:Tp}{l:List Lk}{train:Int}{s:Stp} (hc:checkM t=0):ChR t l train (chainM t l train s) 7 (l.findSome? (nextK t train [] (hasB s))).isSome (match l.findSome? (nextK t train [] (hasB s)) with | none=>[] | some z=>[z.1]) (match l.findSome? (nextK t train [] (hasB s)) with | none=>[] | some z=>z.2.2.1):=by
 unfold chainM
 rw[if_pos hc]
 cases h:l.findSome? (nextK t train [] (hasB s)) with
 | none=>exact⟨fun h=>by simp at h,fun _=>rfl,by simp,by simp⟩
 | some z=>
  obtain⟨h1,h2⟩:=chain_path hc (nextK_mem h)
  exact⟨fun _=>⟨by simp,h1,rfl,rfl⟩,fun h=>by simp at h,by simp,by simpa using h2⟩
theorem ChR.next {t:Tp}{l:List Lk}{train:Int}{res:List Lk}{k:Nat}{out:List Lk}{gone:List Stp} (hc:checkM t=0) (h:ChR t l train res (k+1) true out gone) :
    ChR t l train res k (l.findSome? (nextK t train out (followsB t gone))).isSome (match l.findSome? (nextK t train out (followsB t gone)) with | none=>out | some z=>out++[z.1]) (match l.findSome? (nextK t train out (followsB t gone)) with | none=>gone | some z=>gone++z.2.2.1):=by
  obtain⟨g1,g2,g3,g4⟩:=h.go rfl
  unfold chainK at g4
  have hl:=h.len
  cases hz:l.findSome? (nextK t train out (followsB t gone)) with
  | none=>
   rw[hz] at g4
   exact⟨fun h=>by simp at h,fun _=>g4,h.few,h.len⟩
  | some z=>
   rw[hz] at g4
   obtain⟨h1,h2⟩:=chain_path hc (nextK_mem hz)
   exact⟨fun _=>⟨by simp,by simp[g2],by simp;omega,g4⟩,fun h=>by simp at h,by simp;omega,by simp;omega⟩
theorem ChR.fin {t:Tp}{l:List Lk}{train:Int}{res:List Lk}{k:Nat}{out:List Lk}{gone:List Stp} (h:ChR t l train res k true out gone) (h8:¬out.length<8):out=res:=by
 obtain⟨g1,g2,g3,g4⟩:=h.go rfl
 obtain rfl:k=0:=by omega
 exact g4
set_option maxHeartbeats 8000000 in
set_option maxRecDepth 100000 in
theorem chain_any (x:TA) (t:Tp) (B:Nat) (Al:Option Addr) (nl cl:Nat) (l:List Lk) (train:Int) (s:Stp) (w:World) (h:TpAt w B x t) (hs:TpSmall x t) (hB:B≤w.heap.size) (hl:SpAt w B Al nl cl l) (hnl:nl≤1000000) :
    Calls Tryz.prog 12 #[.agg x.cs,.slice Al nl cl,.int .i64 train,.agg #[.int .i64 s.1,.bool s.2]] w (LksRet (chainM t l train s) w):=by
  have HCh:=qh (fun (W:World) (hk:Keep Never w W)=>check_any x t B W (h.keep hk) hs (Nat.le_trans hB hk.size))
  have HN1:=qh (fun (g:Nat) (lb:Array Value) (p:Rt→Bool) (eg:∀args w,(callFunc g args).run Tryz.prog w=.ok (.enter g args) w) (W:World) (bt bl br bo bg:Nat) (out:List Lk) (gone:List Stp) (hk:Keep Never w W) (h8:out.length≤100) (hg9:gone.length≤10000) (hX:ChX w W x bt bl br bo bg Al nl cl train out gone) (hm:PredRo g lb t p W)=>ch1_any g lb p eg x t B Al nl cl l train w W bt bl br bo bg out gone (h.keep hk) hs (Nat.le_trans hB hk.size) hl hnl h8 hg9 hX hm)
  have HP2:Hid (∀(W:World) (bt bl br bo bg:Nat) (out:List Lk) (gone:List Stp),Keep Never w W→ChX w W x bt bl br bo bg Al nl cl train out gone→gone≠[]→gone.length≤10000→checkM t=0→PredRo 42 #[.pointer (some ⟨bt,0,none⟩),.pointer (some ⟨bg,0,none⟩)] t (followsB t gone) W):=qh (fun W bt bl br bo bg out gone hk hX hg0 hg9 hc V r A n c hV hr hp=>by
   obtain⟨Ao,no,co,Ag,ng,cg,_,hng,hS⟩:=hX
   have hS2:=hS.never hV
   have hpl:=hs.p r hr
   obtain⟨c1,c2⟩:=chain_path hc hr
   exact ch2_any r A n c V.heap.size x t B V.heap.size gone Ag ng cg bt bg V hp c1 (by have:=hp.stp_len;omega) (h.keep (hk.trans hV)) hs (hS2.og.rd) hg0 (by omega) hS2.ft hS2.fg)
  have HSp:=qh hs.p
  have eg1:=enters_of Tryz.func40 (by kernel_rfl) rfl
  have eg3:=enters_of Tryz.func47 (by kernel_rfl) rfl
  have HE2:=qh (enters_of Tryz.func42 (by kernel_rfl) rfl)
  have HE3:=qh eg3
  clear eg3
  obtain⟨s1,s2⟩:=s
  obtain⟨X,hX⟩:∃X,x=X:=⟨_,rfl⟩
  obtain⟨Ae,ne,ce,Aj,nj,cj,Ab,nb,cb,Ar,nr,cr⟩:=x
  simp only[TA.cs] at HCh ⊢
  rw[hX] at HN1 HP2
  have HX:=qh hX
  clear h hs hl hX
  obtain⟨w1,hw1⟩:∃V:World,w.alloc (.cells #[.slice Ae ne ce,.slice Aj nj cj,.slice Ab nb cb,.slice Ar nr cr] 27)=V:=⟨_,rfl⟩
  have zw1:w1.heap.size=w.heap.size+1:=by rw[←hw1];simp
  have kw1:Keep Never w w1:=by rw[←hw1];exact(Keep.refl _ _).alloc _
  have bw1:=Blk.new w 27 #[.slice Ae ne ce,.slice Aj nj cj,.slice Ab nb cb,.slice Ar nr cr]
  rw[hw1] at bw1
  obtain⟨w2,hw2⟩:∃V:World,w1.alloc (.cells #[.slice Al nl cl] 28)=V:=⟨_,rfl⟩
  have zw2:w2.heap.size=w.heap.size+1+1:=by rw[←hw2];simp[zw1]
  have kw2:Keep Never w1 w2:=by rw[←hw2];exact(Keep.refl _ _).alloc _
  have bw2:=Blk.new w1 28 #[.slice Al nl cl]
  rw[hw2,zw1] at bw2
  obtain⟨w3,hw3⟩:∃V:World,w2.alloc (.cells #[.int .i64 train] 3)=V:=⟨_,rfl⟩
  have zw3:w3.heap.size=w.heap.size+1+1+1:=by rw[←hw3];simp[zw2]
  have kw3:Keep Never w2 w3:=by rw[←hw3];exact(Keep.refl _ _).alloc _
  have bw3:=Blk.new w2 3 #[.int .i64 train]
  rw[hw3,zw2] at bw3
  obtain⟨w4,hw4⟩:∃V:World,w3.alloc (.cells #[.int .i64 s1,.bool s2] 30)=V:=⟨_,rfl⟩
  have kw4:Keep Never w3 w4:=by rw[←hw4];exact(Keep.refl _ _).alloc _
  have bw4:=Blk.new w3 30 #[.int .i64 s1,.bool s2]
  rw[hw4,zw3] at bw4
  have HB1:=qh (((bw1.keep kw2 (fun h=>h)).keep kw3 (fun h=>h)).keep kw4 (fun h=>h))
  have HB2:=qh ((bw2.keep kw3 (fun h=>h)).keep kw4 (fun h=>h))
  have HB3:=qh (bw3.keep kw4 (fun h=>h))
  have HB4:=qh bw4
  have HK:=qh (((kw1.trans kw2).trans kw3).trans kw4)
  clear kw1 kw2 kw3 kw4 bw1 bw2 bw3 bw4
  obtain⟨ck,hck⟩:∃z,checkM t=z:=⟨_,rfl⟩
  have HC:=qh (HCh.out w4 HK.out)
  rw[hck] at HC
  have HCk:=qh hck
  clear hck HCh
  obtain⟨y0,y1,y2,y3⟩:=bc4 HB1.out
  go_enter Tryz.func12, Tryz.ntmps12
  go_wp2_with fail
  refine HC.out.mono ?_
  rintro en w5 ⟨rfl,hk5⟩
  have HK5:=qtr HK hk5
  have HT5:=qkb HB1 hk5
  have HL5:=qkb HB2 hk5
  have HR5:=qkb HB3 hk5
  have HS5:=qkb HB4 hk5
  clear hk5 HC y0 y1 y2 y3 HB1 HB2 HB3 HB4 hw1 hw2 hw3 hw4 zw1 zw2 zw3
  by_cases g0:ck=0
  case neg=>
   have t0:(ck != 0)=true:=by simpa using g0
   have HF:Hid (chainM t l train (s1,s2)=[]):=qh (by unfold chainM;rw[if_neg (by rw[HCk.out];exact g0)])
   clear g0
   go_wp2_with fail
   go_ret
   exact⟨none,0,0,rfl,qh (by rw[HF.out];rfl),by rw[HF.out];exact Own.nil _ _ _ _,HK5.out⟩
  have t0:(ck != 0)=false:=by simpa using g0
  have HC0:Hid (checkM t=0):=qh (HCk.out.trans g0)
  clear g0 HCk
  obtain⟨w6,hw6⟩:∃V:World,w5.alloc (.cells #[.slice none 0 0] 28)=V:=⟨_,rfl⟩
  have k6:Keep Never w5 w6:=by rw[←hw6];exact(Keep.refl _ _).alloc _
  have B6:=Blk.new w5 28 #[.slice none 0 0]
  rw[hw6] at B6
  obtain⟨bo,hbo⟩:∃q,w5.heap.size=q:=⟨_,rfl⟩
  rw[hbo] at B6
  have HK6:=qtr HK5 k6
  have HL6:=qkb HL5 k6
  have HT6:=qkb HT5 k6
  have HR6:=qkb HR5 k6
  have HS6:=qkb HS5 k6
  have HO6:=qh B6
  clear k6 B6
  obtain⟨w7,hw7⟩:∃V:World,w6.alloc (.cells #[.slice none 0 0] 35)=V:=⟨_,rfl⟩
  have k7:Keep Never w6 w7:=by rw[←hw7];exact(Keep.refl _ _).alloc _
  have B7:=Blk.new w6 35 #[.slice none 0 0]
  rw[hw7] at B7
  obtain⟨bg,hbg⟩:∃q,w6.heap.size=q:=⟨_,rfl⟩
  rw[hbg] at B7
  have HK7:=qtr HK6 k7
  have HS7:=qkb HS6 k7
  have HX7:Hid (ChX w w7 X w.heap.size (w.heap.size+1) (w.heap.size+1+1) bo bg Al nl cl train [] []):=qh ⟨none,0,0,none,0,0,rfl,rfl,⟨HK7.out,by rw[←HX.out];exact HT6.out.keep k7 (fun h=>h),HL6.out.keep k7 (fun h=>h),HR6.out.keep k7 (fun h=>h),HO6.out.keep k7 (fun h=>h),B7,by simpa[spCells_nil] using Own.nil _ _ _ _,by simpa[stpCells_nil] using Own.nil _ _ _ _,⟨by have:=HK5.out.size;omega,by have:=HK6.out.size;omega⟩,by have:=HL5.out.lt;omega⟩⟩
  clear k7 B7
  have HC:=qh (HN1.out 47 #[.pointer (some ⟨w.heap.size+1+1+1,0,none⟩)] (hasB (s1,s2)) HE3.out w7 w.heap.size (w.heap.size+1) (w.heap.size+1+1) bo bg [] [] HK7.out (by simp) (by simp) HX7.out (fun V r A n c hV hr hp=>ch3_any r A n c V.heap.size (s1,s2) _ V hp (by have h1:=HSp.out r hr;have h2:=hp.stp_len;omega) ((HS7.out.keep hV (fun h=>h)).cell 0) ((HS7.out.keep hV (fun h=>h)).cell 1)))
  have HI0:=qh (ChR.start (l:=l) (train:=train) (s:=(s1,s2)) HC0.out)
  unfold NextRet at HC
  obtain⟨o,ho⟩:∃z,l.findSome? (nextK t train [] (hasB (s1,s2)))=z:=⟨_,rfl⟩
  rw[ho] at HC HI0
  clear ho
  obtain⟨res,hres⟩:∃z,chainM t l train (s1,s2)=z:=⟨_,rfl⟩
  rw[hres] at HI0
  have HRes:=qh hres
  clear hres
  go_wp2_with fail
  refine HC.out.mono ?_
  rintro en w8 ⟨rfl,hx8⟩
  have HI8:Hid (∃out gone,ChR t l train res 7 o.isSome out gone∧ChX w w8 X w.heap.size (w.heap.size+1) (w.heap.size+1+1) bo bg Al nl cl train out gone):=qh (by
   cases o with
   | none=>exact⟨_,_,HI0.out,hx8⟩
   | some z=>exact⟨_,_,HI0.out,hx8⟩)
  clear hx8 HC HI0 hw6 hw7 hbo hbg
  obtain⟨ok,hok⟩:∃z,o.isSome=z:=⟨_,rfl⟩
  rw[hok] at HI8
  (try rw[hok])
  clear hok
  go_wp2_with fail
  go_loopg [13] 7 (fun k okv wr=>∃(ok:Bool) (out:List Lk) (gone:List Stp),okv=.bool ok∧Hid (ChR t l train res k ok out gone∧ChX w wr X w.heap.size (w.heap.size+1) (w.heap.size+1+1) bo bg Al nl cl train out gone))
  case atStart=>
   obtain⟨out,gone,h1,h2⟩:=HI8.out
   exact⟨ok,out,gone,rfl,qh ⟨h1,h2⟩⟩
  case round=>
   obtain⟨ok,out,gone,rfl,HH⟩:=hrel
   obtain⟨Ao,no,co,Ag,ng,cg,hno,hng,hS⟩:=HH.out.2
   have HSr:=qh hS
   have HNo:=qh hno
   have xo:wr.cell? ⟨bo,0,none⟩=some (.slice Ao no co):=hS.fo.cell 0
   clear hS hno hng
   cases ok with
   | false=>
    have HF:Hid (out=res):=qh (HH.out.1.stop rfl)
    go_wp2_with fail
    go_ret
    exact⟨Ao,no,co,rfl,qh (by rw[HRes.out,←HF.out];exact HNo.out),by rw[HRes.out,←HF.out];exact HSr.out.oo,HSr.out.kp⟩
   | true=>
    by_cases g8:no<8
    ·have t8:decide ((no:Int)<8)=true:=by simp;omega
     have t8b:decide (no<8)=true:=by simpa using g8
     have HG:Hid (∃k',gk=k'+1):=qh (by have h1:=(HH.out.1.go rfl).2.2.1;have h2:=HNo.out;exact⟨gk - 1,by omega⟩)
     obtain⟨k',hk'⟩:=HG.out
     subst hk'
     have HI:=qh (HH.out.1.next HC0.out)
     have hgn:=(HH.out.1.go rfl).2.1
     have hfew:=HH.out.1.few
     have hln:=HH.out.1.len
     have HC:=qh (HN1.out 42 #[.pointer (some ⟨w.heap.size,0,none⟩),.pointer (some ⟨bg,0,none⟩)] (followsB t gone) HE2.out wr w.heap.size (w.heap.size+1) (w.heap.size+1+1) bo bg out gone HSr.out.kp (by omega) (by omega) HH.out.2 (HP2.out wr w.heap.size (w.heap.size+1) (w.heap.size+1+1) bo bg out gone HSr.out.kp HH.out.2 hgn (by omega) HC0.out))
     unfold NextRet at HC
     obtain⟨o,ho⟩:∃z,l.findSome? (nextK t train out (followsB t gone))=z:=⟨_,rfl⟩
     rw[ho] at HC HI
     clear ho hgn hfew hln HG g8
     go_wp2_with fail
     refine HC.out.mono ?_
     rintro en w9 ⟨rfl,hx9⟩
     have HI9:Hid (∃out gone,ChR t l train res k' o.isSome out gone∧ChX w w9 X w.heap.size (w.heap.size+1) (w.heap.size+1+1) bo bg Al nl cl train out gone):=qh (by
      cases o with
      | none=>exact⟨_,_,HI.out,hx9⟩
      | some z=>exact⟨_,_,HI.out,hx9⟩)
     obtain⟨ok,hok⟩:∃z,o.isSome=z:=⟨_,rfl⟩
     rw[hok] at HI9
     (try rw[hok])
     clear hok hx9 HC HI xo
     go_wp2_with fail
     go_roundg k'
     case measure=>omega
     case rel=>
      obtain⟨out',gone',h1,h2⟩:=HI9.out
      exact⟨ok,out',gone',rfl,qh ⟨h1,h2⟩⟩
    ·have t8:decide ((no:Int)<8)=false:=by simp;omega
     have t8b:decide (no<8)=false:=by simpa using g8
     have HF:Hid (out=res):=qh (HH.out.1.fin (by rw[←HNo.out];exact g8))
     clear g8
     go_wp2_with fail
     go_ret
     exact⟨Ao,no,co,rfl,qh (by rw[HRes.out,←HF.out];exact HNo.out),by rw[HRes.out,←HF.out];exact HSr.out.oo,HSr.out.kp⟩
end Go.Proofs.YtpapiojicbbheaaGreatDoor

namespace Go.Proofs.YtpapiojicbbheaaGreatDoor
open Go.RowKit
theorem sum_in {t:Tp}{path:List Stp} (hc:checkM t=0) (hl:(lenM t path).2=0) {i:Nat} (hi:i≤path.length):0≤sumM t.1 (path.take i)∧sumM t.1 (path.take i)≤40000000:=by
 obtain⟨hg,_,_⟩:=good_of hc hl
 rw[sum_plain hg i hi]
 have key:∀(l:List Stp),(∀s∈l,s∈path)→0≤plainS t.1 l∧plainS t.1 l≤1000000*(l.length:Int):=by
  intro l
  induction l with
  | nil=>intro _;exact⟨Int.le_refl _,by simp[plainS]⟩
  | cons s l ih=>
   intro hs
   obtain⟨a,b⟩:=ih (fun u hu=>hs u (List.mem_cons_of_mem _ hu))
   obtain⟨k,hk⟩:=List.getElem?_of_mem (hs s (by simp))
   obtain⟨_,c,d⟩:=good_pos hg hk
   rw[plainS_cons,List.length_cons]
   constructor <;> omega
 obtain⟨a,b⟩:=key (path.take i) (fun s hs=>List.mem_of_mem_take hs)
 have h2:=hg.2.2
 have h3:(path.take i).length≤path.length:=by rw[List.length_take];omega
 constructor <;> omega
end Go.Proofs.YtpapiojicbbheaaGreatDoor

namespace Go.Proofs.YtpapiojicbbheaaGreatDoor
open Go.RowKit
structure LocOk (t:Tp) (ref:Int) (rv:Bool) (n:Int) (b:Bl):Prop where
  chk:checkM t=0
  bal:balM t.2.2.1 ref=some b
  there:thereB t.1.length b.2.1=true
  a0:0≤b.2.2
  a1:b.2.2≤edgeM t b.2.1
  n0:0≤n
  n1:n≤1099511627776
  go:(goM t 40 (b.2.1,rv) (n+alongP t (b.2.1,b.2.2,rv))).2=0
theorem loc_ok {t:Tp}{ref:Int}{rv:Bool}{n:Int} (h:(locP t ref rv n).2=0):∃b,LocOk t ref rv n b:=by
 unfold locP at h
 split at h
 ·rename_i hc
  cases hb:balM t.2.2.1 ref with
  | none=>rw[hb] at h;exact absurd (show (4:Int)=0 from h) (by decide)
  | some b=>
   rw[hb] at h
   simp only at h
   obtain⟨c1,c2,c3,c4,c5⟩:=check_bal hc (bal_mem hb).1
   unfold walkP at h
   split at h
   ·rename_i hw
    exact⟨b,hc,hb,c3,c4,c5,hw.2.1,hw.2.2,h⟩
   ·exact absurd h (by decide)
 ·exact absurd h (by decide)
theorem build_far {t:Tp}{l:List Lk}{train ref:Int}{rv:Bool}{n:Int}{q:Ps}{er:Int} (h:locP t ref rv n=(q,er)) (h0:er≠0):buildM t l train ref rv n=(noMa,er):=by
 unfold buildM;rw[h,if_pos h0]
theorem build_none {t:Tp}{l:List Lk}{train ref:Int}{rv:Bool}{n l1 l2:Int}{l3:Bool}{er:Int}{b:Bl} (h:locP t ref rv n=((l1,l2,l3),er)) (hL:LocOk t ref rv n b) (hc:chainM t l train (l1,l3)=[]):buildM t l train ref rv n=(noMa,4):=by
 have h0:er=0:=by
  have h1:(locP t ref rv n).2=0:=by
   unfold locP;rw[if_pos hL.chk,hL.bal];simp only;unfold walkP
   rw[if_pos ⟨right_iff.2 ⟨hL.chk,hL.there,hL.a0,hL.a1⟩,hL.n0,hL.n1⟩];exact hL.go
  rw[h] at h1;exact h1
 subst h0
 unfold buildM;rw[h,if_neg (by simp),hL.bal];simp only;rw[if_pos hc]
theorem build_go {t:Tp}{l:List Lk}{train ref:Int}{rv:Bool}{n l1 l2:Int}{l3:Bool}{er:Int}{b1 b2 b3:Int} (h:locP t ref rv n=((l1,l2,l3),er)) (hL:LocOk t ref rv n (b1,b2,b3)) (hc:chainM t l train (l1,l3)≠[]) :
    buildM t l train ref rv n=endC ref rv n (wayC t (l1,l3) (goneM t 40 (b2,rv) (n+alongP t (b2,b3,rv))) (chainM t l train (l1,l3)) (chainM t l train (l1,l3)).length) (lessS (secC t (l1,l3) (goneM t 40 (b2,rv) (n+alongP t (b2,b3,rv))) (alongP t (b2,b3,rv)) (chainM t l train (l1,l3)) (chainM t l train (l1,l3)).length) (gapC t (chainM t l train (l1,l3)) (chainM t l train (l1,l3)).length)) (gapC t (chainM t l train (l1,l3)) (chainM t l train (l1,l3)).length):=by
  have h0:er=0:=by
   have h1:(locP t ref rv n).2=0:=by
    unfold locP;rw[if_pos hL.chk,hL.bal];simp only;unfold walkP
    rw[if_pos ⟨right_iff.2 ⟨hL.chk,hL.there,hL.a0,hL.a1⟩,hL.n0,hL.n1⟩];exact hL.go
   rw[h] at h1;exact h1
  subst h0
  unfold buildM;rw[h,if_neg (by simp),hL.bal];simp only;rw[if_neg hc]
structure ChG (t:Tp) (l:List Lk) (train:Int) (s:Stp) (c:List Lk):Prop where
  few:c.length≤8
  rt:∀i k,c[i]?=some k→∃r,rtM t.2.2.2 k.1=some r∧r∈t.2.2.2∧r.2.1≠[]∧r.2.1.length≤8∧(∀u∈r.2.1,thereB t.1.length u.1=true)∧(i=0→s∈r.2.1)∧0≤r.2.2.1∧r.2.2.1≤40000000
theorem stpCells_drop (l:List Stp):∀k,stpCells (l.drop k)=(stpCells l).drop (k*2):=by
 induction l with
 | nil=>intro k;simp[stpCells_nil]
 | cons s l ih=>
  intro k
  cases k with
  | zero=>simp
  | succ k=>rw[List.drop_succ_cons,ih k,stpCells_cons,show (k+1)*2=k*2+1+1 by omega];rfl
theorem route_gap {t:Tp} (hc:checkM t=0) {r:Rt} (hr:r∈t.2.2.2):0≤r.2.2.1∧r.2.2.1≤40000000∧∀u∈r.2.1,thereB t.1.length u.1=true:=by
 obtain⟨i,hi⟩:=List.mem_iff_getElem?.1 hr
 have hg:=check_good hc hi
 obtain⟨g1,g2,g3⟩:=good_of hc hg.err
 have h0:firstE (rErr t) t.2.2.2.length=0:=by
  have h:=hc
  unfold checkM at h
  split at h
  ·exact absurd h (by decide)
  split at h
  ·exact absurd h (by decide)
  split at h
  ·rename_i h3;exact absurd h h3
  split at h
  ·rename_i h3;exact absurd h h3
  exact h
 have h1:=firstE_all h0 i (List.getElem?_eq_some_iff.1 hi).1
 unfold rErr at h1
 rw[hi] at h1
 simp only at h1
 split at h1
 ·rename_i h2;exact absurd h1 h2
 rename_i h2
 have h3:routedM t r=0:=by simpa using h2
 unfold routedM at h3
 split at h3
 ·exact absurd h3 (by decide)
 split at h3
 ·exact absurd h3 (by decide)
 split at h3
 ·rename_i h4;exact absurd h3 h4
 split at h3
 ·exact absurd h3 (by decide)
 rename_i h5
 have h6:=sum_in hc hg.err (i:=r.2.1.length) (Nat.le_refl _)
 rw[List.take_length,←g3] at h6
 exact⟨by omega,by omega,g1.2.1⟩
theorem chg_of {t:Tp}{l:List Lk}{train:Int}{s:Stp}:ChG t l train s (chainM t l train s):=by
 obtain⟨gone,h,h8,hc⟩:=chain_good (t:=t) (l:=l) (train:=train) (s:=s)
 refine⟨h8,fun i k hk=>?_⟩
 have hc0:=hc (by intro e;rw[e] at hk;simp at hk)
 obtain⟨r,hr,_,_,_,h0,_⟩:=h.way i k hk
 have hm:r∈t.2.2.2:=List.mem_of_find?_eq_some hr
 obtain⟨a1,a2⟩:=chain_path hc0 hm
 obtain⟨b1,b2,b3⟩:=route_gap hc0 hm
 exact⟨r,hr,hm,a1,a2,b3,fun hi=>by have:=h0 hi;unfold hasB at this;simpa using this,b1,b2⟩
theorem plain_bnd {t:Tp} (hc:checkM t=0):∀l:List Stp,(∀u∈l,thereB t.1.length u.1=true)→0≤plainS t.1 l∧plainS t.1 l≤l.length*1000000
  | [],_=>by simp[plainS]
  | s::l,h=>by
   have h1:=there_edge hc (h s (by simp))
   have h2:=plain_bnd hc l (fun u hu=>h u (by simp[hu]))
   rw[plainS_cons]
   have e3:t.1.getD s.1.toNat 0=edgeM t s.1:=rfl
   rw[e3]
   simp only[List.length_cons]
   omega
theorem plainS_app (es:List Int) (a b:List Stp):plainS es (a++b)=plainS es a+plainS es b:=by unfold plainS;simp
theorem plainS_next {t:Tp}{l:List Stp}{k:Nat}{s:Stp} (h:l[k]?=some s):plainS t.1 (l.take (k+1))=plainS t.1 (l.take k)+edgeM t s.1:=by
 rw[List.take_add_one,h,plainS_app]
 simp[plainS];rfl
theorem way_next {t:Tp}{s:Stp}{g:List Stp}{c:List Lk}{i:Nat}{k:Lk} (h:c[i]?=some k):wayC t s g c (i+1)=wayC t s g c i++partC t s i k:=by
 conv=>lhs;unfold wayC
 rw[h]
theorem sec_next {t:Tp}{s:Stp}{g:List Stp}{back:Int}{c:List Lk}{i:Nat}{k:Lk} (h:c[i]?=some k):secC t s g back c (i+1)=secC t s g back c i++[(plainS t.1 (wayC t s g c (i+1)) - back,(routeOf t k).2.2.2)]:=by
 conv=>lhs;unfold secC
 rw[h]
theorem gap_next {t:Tp}{c:List Lk}{i:Nat}{k:Lk} (h:c[i]?=some k):gapC t c (i+1)=(routeOf t k).2.2.1:=by simp only[gapC,h]
theorem sec_len {t:Tp}{s:Stp}{g:List Stp}{back:Int}{c:List Lk}:∀i,i≤c.length→(secC t s g back c i).length=i
  | 0,_=>rfl
  | i+1,h=>by
   rw[sec_next (List.getElem?_eq_getElem (by omega:i<c.length)),List.length_append,sec_len i (by omega)];rfl
theorem part_in {t:Tp}{s:Stp}{i:Nat}{k:Lk}{u:Stp} (h:u∈partC t s i k):u∈(routeOf t k).2.1:=by
 unfold partC at h
 split at h
 ·exact List.mem_of_mem_drop h
 ·exact h
theorem part_len {t:Tp}{s:Stp}{i:Nat}{k:Lk}:(partC t s i k).length≤(routeOf t k).2.1.length:=by
 unfold partC
 split
 ·rw[List.length_drop];omega
 ·exact Nat.le_refl _
theorem ChG.at {t:Tp}{l:List Lk}{train:Int}{s:Stp}{c:List Lk} (h:ChG t l train s c) {i:Nat}{k:Lk} (hk:c[i]?=some k):rtM t.2.2.2 k.1=some (routeOf t k):=by
 obtain⟨r,hr,_⟩:=h.rt i k hk
 unfold routeOf;rw[hr];rfl
theorem way_good {t:Tp}{l:List Lk}{train:Int}{s:Stp}{g:List Stp}{c:List Lk} (h:ChG t l train s c) (h1:g.length≤41) (h2:∀u∈g,thereB t.1.length u.1=true):∀i,i≤c.length→(wayC t s g c i).length≤41+8*i∧∀u∈wayC t s g c i,thereB t.1.length u.1=true
  | 0,_=>⟨by simpa[wayC] using h1,by simpa[wayC] using h2⟩
  | i+1,hi=>by
   have hk:c[i]?=some c[i]:=List.getElem?_eq_getElem (by omega:i<c.length)
   obtain⟨a,b⟩:=way_good h h1 h2 i (by omega)
   obtain⟨r,hr,_,_,h8,hth,_⟩:=h.rt i _ hk
   have hro:routeOf t c[i]=r:=by unfold routeOf;rw[hr];rfl
   rw[way_next hk]
   have:=part_len (t:=t) (s:=s) (i:=i) (k:=c[i])
   rw[hro] at this
   refine⟨by rw[List.length_append];omega,fun u hu=>?_⟩
   rcases List.mem_append.1 hu with hu | hu
   ·exact b u hu
   ·have:=part_in hu
    rw[hro] at this
    exact hth u this
theorem sc_cell {w:World}{B n k:Nat}{ad:Addr}{l:List Sc} (h:Rd w B 2 (some ad) n (scCells l)) (hk:k<n):∃s,l[k]?=some s∧w.cell? (ad.add (k*2))=some (.int .i64 s.1)∧w.cell? ⟨(ad.add (k*2)).block,(ad.add (k*2)).off+1,none⟩=some (.int .i64 s.2):=by
 obtain⟨ad2,s,h1,_,h3,h4,h5⟩:=h.sc hk
 injection h1 with h1
 subst h1
 exact⟨s,h3,h4,h5⟩
theorem sc_set0 {S:List Sc}{m:Nat}{sl:Sc} (h:S[m]?=some sl) (v:Int):scCells (S.set m (v,sl.2))=(scCells S).set (m*2) (.int .i64 v):=by
 rw[scCells_set _ _ (List.getElem?_eq_some_iff.1 h).1]
 have h1:=(scCells_at S h).2
 apply List.ext_getElem?
 intro i
 by_cases hi:m*2+1=i
 ·subst hi
  rw[List.getElem?_set_self (by rw[List.length_set];exact(List.getElem?_eq_some_iff.1 h1).1),List.getElem?_set_ne (by omega),h1]
 ·rw[List.getElem?_set_ne hi]
theorem scCells_drop (l:List Sc):∀k,scCells (l.drop k)=(scCells l).drop (k*2):=by
 induction l with
 | nil=>intro k;simp[scCells_nil]
 | cons s l ih=>
  intro k
  cases k with
  | zero=>simp
  | succ k=>rw[List.drop_succ_cons,ih k,scCells_cons,show (k+1)*2=k*2+1+1 by omega];rfl
theorem last_at {S:List Sc}{m:Nat} (h:S.length=m+1):S.getLast?=S[m]?:=by rw[List.getLast?_eq_getElem?,h];rfl
theorem less_set {S:List Sc}{m:Nat}{sl:Sc} (h:S[m]?=some sl) (hl:S.length=m+1) (g:Int):lessS S g=S.set m (sl.1 - g,sl.2):=by
 unfold lessS
 rw[last_at hl,h]
 simp only
 apply List.ext_getElem?
 intro i
 by_cases hi:i<m
 ·rw[List.getElem?_append_left (by rw[List.length_dropLast];omega),List.getElem?_dropLast,if_pos (by rw[hl];omega),List.getElem?_set_ne (by omega)]
 ·by_cases hm:m=i
  ·subst hm
   rw[List.getElem?_append_right (by rw[List.length_dropLast];omega),List.length_dropLast,hl,List.getElem?_set_self (by omega)]
   simp
  ·rw[List.getElem?_eq_none (by rw[List.length_append,List.length_dropLast];simp;omega),List.getElem?_eq_none (by rw[List.length_set];omega)]
theorem end_set {S:List Sc}{m:Nat} (hl:S.length=m+1) (s:Sc):endS (S.set m s)=s.1:=by
 unfold endS
 rw[last_at (by rw[List.length_set];exact hl),List.getElem?_set_self (by omega)]
 rfl
theorem end_init {S:List Sc}{m:Nat}{s:Sc} (hl:S.length=m+1+1) (h:S[m]?=some s):endS S.dropLast=s.1:=by
 unfold endS
 rw[last_at (m:=m) (by rw[List.length_dropLast,hl];rfl),List.getElem?_dropLast,if_pos (by rw[hl];omega),h]
 rfl
theorem endC_long {ref:Int}{rv:Bool}{n:Int}{P:List Stp}{S:List Sc}{g:Int} (h:24<P.length∨twiceB P=true):endC ref rv n P S g=(noMa,2):=by unfold endC;rw[if_pos h]
theorem endC_end {ref:Int}{rv:Bool}{n:Int}{P:List Stp}{S:List Sc}{g:Int} (h1:¬24<P.length) (h2:twiceB P=false) (h:endS S≤n∨(1<S.length∧endS S≤endS S.dropLast)):endC ref rv n P S g=(noMa,141):=by
 unfold endC;rw[if_neg (by rintro(e | e);exact h1 e;rw[h2] at e;cases e),if_pos h]
theorem endC_ok {ref:Int}{rv:Bool}{n:Int}{P:List Stp}{S:List Sc}{g:Int}{x:Sc} (h1:¬24<P.length) (h2:twiceB P=false) (h:¬(endS S≤n∨(1<S.length∧endS S≤endS S.dropLast))) (hx:S[0]?=some x):endC ref rv n P S g=((ref,rv,P,if x.1=0 then S.drop 1 else S,g),0):=by
 unfold endC;rw[if_neg (by rintro(e | e);exact h1 e;rw[h2] at e;cases e),if_neg h]
 cases S with
 | nil=>cases hx
 | cons y S'=>
  simp only[List.getElem?_cons_zero,Option.some.injEq] at hx
  subst hx
  simp only[List.drop_succ_cons,List.drop_zero]
  split <;> rfl
end Go.Proofs.YtpapiojicbbheaaGreatDoor

namespace Go.Proofs.YtpapiojicbbheaaGreatDoor
open Go.RowKit
def ReadsI (T:Parts) (last:Int) (V W:List Int):Prop:=∃a b,walkL valI T last ⟨V,a⟩=.ok ⟨W,b⟩
def GoesI (T:Parts) (last:Int) (V W:List Int):Prop:=∀a,∃b,walkL valI T last ⟨V,a⟩=.ok ⟨W,b⟩
def ReadsN (T:Parts):Nat→List Int→List Int→Prop
  | 0,V,W=>V=W
  | k+1,V,W=>∃U,ReadsI T 0 V U∧ReadsN T k U W
def GoesN (T:Parts):Nat→List Int→List Int→Prop
  | 0,V,W=>V=W
  | k+1,V,W=>∃U,GoesI T 0 V U∧GoesN T k U W
theorem goesI_nil {last:Int}{V:List Int}:GoesI .nil last V V:=fun a=>⟨a,rfl⟩
theorem goesI_var {v:Int}{l r:Parts}{last n:Int}{t W:List Int} (hv:v≠7) (hm:vMay v n=true) (h:GoesI r n t W):GoesI (.cons v 0 l r) last (n::t) W:=by
 intro a
 obtain⟨b,h⟩:=h (a++[(v,n)])
 refine⟨b,?_⟩
 simp only[walkL,if_true,valI,if_neg hv,hm]
 exact h
theorem goesI_last {v:Int}{l r:Parts}{a b:Int}{V W:List Int} (h:GoesI (.cons v 0 l r) a V W):GoesI (.cons v 0 l r) b V W:=by
 intro s
 obtain⟨x,h⟩:=h s
 refine⟨x,?_⟩
 simp only[walkL,if_true] at h ⊢
 exact h
theorem goesI_7 {l r:Parts}{last:Int}{V W:List Int} (h:GoesI r 0 V W):GoesI (.cons 7 0 l r) last V W:=by
 intro a
 obtain⟨b,h⟩:=h (a++[(7,0)])
 refine⟨b,?_⟩
 simp only[walkL,if_true,valI]
 exact h
theorem goesI_yes {v:Int}{l r:Parts}{V U W:List Int} (h:GoesI l 0 V U) (h2:GoesI r 1 U W):GoesI (.cons v 2 l r) 1 V W:=by
 intro a
 obtain⟨b,h⟩:=h a
 obtain⟨c,h2⟩:=h2 b
 refine⟨c,?_⟩
 simp only[walkL,show ¬(2:Int)=0 by decide,show ¬(2:Int)=1 by decide,show ¬(2:Int)=3 by decide,if_false,false_and,or_false,if_true]
 rw[h]
 exact h2
theorem goesI_no {v:Int}{l r:Parts}{last:Int}{V W:List Int} (hl:last≠1) (h:GoesI r last V W):GoesI (.cons v 2 l r) last V W:=by
 intro a
 obtain⟨b,h⟩:=h a
 refine⟨b,?_⟩
 simp only[walkL,show ¬(2:Int)=0 by decide,show ¬(2:Int)=1 by decide,show ¬(2:Int)=3 by decide,if_false,false_and,or_false,if_neg hl]
 exact h
theorem goesI_iter {T:Parts}:∀(k:Nat) (V W:List Int),GoesN T k V W→∀a,∃b,iterE (walkL valI T 0) k ⟨V,a⟩=.ok ⟨W,b⟩
  | 0,V,W,h,a=>by cases h;exact⟨a,rfl⟩
  | k+1,V,W,h,a=>by
   obtain⟨U,h1,h2⟩:=h
   obtain⟨b,h1⟩:=h1 a
   obtain⟨c,h2⟩:=goesI_iter k U W h2 b
   refine⟨c,?_⟩
   unfold iterE
   rw[h1]
   exact h2
theorem goesI_many {v:Int}{l r:Parts}{last:Int}{V U W:List Int} (h:GoesN l last.toNat V U) (h2:GoesI r last U W):GoesI (.cons v 1 l r) last V W:=by
 intro a
 obtain⟨b,h⟩:=goesI_iter _ _ _ h a
 obtain⟨c,h2⟩:=h2 b
 refine⟨c,?_⟩
 simp only[walkL,show ¬(1:Int)=0 by decide,if_false,if_true]
 rw[h]
 exact h2
theorem pAuthority_eq:pAuthority=.cons 6 0 .nil (.cons 7 0 .nil (.cons 8 0 .nil (.cons 25 0 .nil (.cons 26 0 .nil (.cons 27 0 .nil (.cons 0 1 pSection (.cons 32 0 .nil (.cons 29 0 .nil (.cons 0 2 (row [30,31]) (.cons 33 0 .nil (.cons 0 2 (row [34,35])
    (.cons 36 0 .nil (.cons 0 2 (row [37,38]) (.cons 39 0 .nil (.cons 0 2 (row [40,41,42,43]) .nil))))))))))))))):=rfl
theorem pSection_eq:pSection=.cons 28 0 .nil (.cons 29 0 .nil (.cons 0 2 (row [30,31]) .nil)):=rfl
theorem pLink_eq:pLink=.cons 44 0 .nil (.cons 12 0 .nil (.cons 0 2 (row [10]) (.cons 11 0 .nil (.cons 45 0 .nil (.cons 46 0 .nil (.cons 47 0 .nil .nil)))))):=rfl
theorem pFive_eq:andP [pHead,pRepeated pLink]=.cons 6 0 .nil (.cons 7 0 .nil (.cons 8 0 .nil (.cons 44 0 .nil (.cons 12 0 .nil (.cons 0 2 (row [10]) (.cons 11 0 .nil (.cons 45 0 .nil (.cons 46 0 .nil (.cons 47 0 .nil (.cons 27 0 .nil (.cons 0 1 pLink .nil))))))))))):=rfl
def badP (p:Pk):Bool:=match ItemsM p.1 p.2 with | .ok _=>false | .error _=>true
theorem goes_ok {id:Int}{T:Parts}{V:List Int} (hT:ptree id=some T) (h:GoesI T 0 V []) (hl:V.length≤250):badP (id,V)=false:=by
 obtain⟨b,hb⟩:=h [(5,id)]
 have hi:itemsM id V=.ok b:=by
  unfold itemsM
  rw[hT]
  simp only
  rw[hb]
  simp
 have h1:=(itemsM_len hi).1
 have h2:=(sumW_items b).2
 have hI:∃l,ItemsM id V=.ok l:=by
  unfold ItemsM
  rw[hi]
  simp only
  rw[if_neg (by omega)]
  exact⟨_,rfl⟩
 obtain⟨l,hI⟩:=hI
 unfold badP
 simp only[hI]
theorem may_lt {v n:Int} (m:Int) (h:vWidth v≠0∧m<((2 ^ (vWidth v).toNat:Nat):Int)∧m≤vMost v) (h0:0≤n) (h1:n≤m):vMay v n=true:=by
 unfold vMay
 rw[decide_eq_true_iff]
 exact⟨h.1,h0,by omega,.inl (by omega)⟩
theorem secN_len {u:Int}:∀(l:List Sc) (last:Int) (v:List Int),secN u last l=some v→v.length=4*l.length
  | [],last,v,h=>by
   unfold secN at h
   injection h with h
   subst h
   rfl
  | s::l,last,v,h=>by
   obtain⟨e0,h1,w,hw,rfl⟩:=secN_cons h
   have:=secN_len l _ w hw
   simp only[List.length_cons]
   omega
theorem secs_goes {u:Int} (R:List Int):∀(l:List Sc) (last:Int) (v:List Int),secN u last l=some v→0≤last→l≠[]→(∀s∈l,1≤s.2∧s.2≤1000)→∃a b,GoesN pSection (l.length - 1) (v++R) (a::1::b::0::R)∧(0≤a∧a≤32766)∧(1≤b∧b≤1000)
  | [],_,_,_,_,h,_=>absurd rfl h
  | [s],last,v,h,h0,_,ht=>by
   obtain⟨e0,h1,w,hw,rfl⟩:=secN_cons h
   obtain⟨a1,a2,a3,a4,a5⟩:=scaled_dn e0
   unfold secN at hw
   injection hw with hw
   subst hw
   exact⟨_,_,rfl,⟨by omega,by omega⟩,ht s (by simp)⟩
  | s::s'::l,last,v,h,h0,_,ht=>by
   obtain⟨e0,h1,w,hw,rfl⟩:=secN_cons h
   obtain⟨a1,a2,a3,a4,a5⟩:=scaled_dn e0
   obtain⟨a,b,g1,g2,g3⟩:=secs_goes R (s'::l) _ w hw a4 (by simp) (fun x hx=>ht x (by simp[hx]))
   have hts:=ht s (by simp)
   refine⟨a,b,⟨w++R,?_,g1⟩,g2,g3⟩
   rw[pSection_eq]
   refine goesI_var (by decide) (may_lt 32767 (by decide +kernel) (by omega) (by omega)) (goesI_var (by decide) (may_lt 1 (by decide +kernel) (by decide) (by decide)) (goesI_yes (U:=w++R) ?_ goesI_nil))
   exact goesI_var (by decide) (may_lt 1023 (by decide +kernel) (by omega) (by omega)) (goesI_var (by decide) (may_lt 32767 (by decide +kernel) (by decide) (by decide)) goesI_nil)
theorem gapN_goes {u g:Int} (hg:(scaledM g u false).2=0):GoesI (.cons 36 0 .nil (.cons 0 2 (row [37,38]) (.cons 39 0 .nil (.cons 0 2 (row [40,41,42,43]) .nil)))) 0 (gapN u g) []:=by
 obtain⟨a1,a2,a3,a4,a5⟩:=scaled_dn hg
 unfold gapN
 split
 ·refine goesI_var (by decide) (may_lt 1 (by decide +kernel) (by decide) (by decide)) (goesI_yes (U:=[0]) ?_ ?_)
  ·exact goesI_var (by decide) (may_lt 32767 (by decide +kernel) (by omega) (by omega)) (goesI_var (by decide) (may_lt 120 (by decide +kernel) (by decide) (by decide)) goesI_nil)
  ·exact goesI_var (by decide) (may_lt 1 (by decide +kernel) (by decide) (by decide)) (goesI_no (by decide) goesI_nil)
 ·exact goesI_var (by decide) (may_lt 1 (by decide +kernel) (by decide) (by decide)) (goesI_no (by decide) (goesI_var (by decide) (may_lt 1 (by decide +kernel) (by decide) (by decide)) (goesI_no (by decide) goesI_nil)))
theorem nom_range (r:Bool):0≤nomI r∧nomI r≤1:=by cases r <;> simp[nomI]
theorem bad15 {u:Int}{rev:Bool}{S:List Sc}{g:Int} (h1:1≤S.length) (h8:S.length≤8) (ht:∀s∈S,1≤s.2∧s.2≤1000) (hu0:0≤u) (hu2:u≤2) {v:List Int} (hv:secN u 0 S=some v) (hg:(scaledM g u false).2=0):badP (15,[nomI rev,u,0,0,(S.length:Int) - 1]++v++[0]++gapN u g)=false:=by
 have hl:=secN_len S 0 v hv
 have hn:=nom_range rev
 refine goes_ok (T:=pAuthority) rfl ?_ ?_
 ·rw[pAuthority_eq]
  obtain⟨a,b,g1,g2,g3⟩:=secs_goes ([0]++gapN u g) S 0 v hv (Int.le_refl _) (fun e=>by rw[e] at h1;simp at h1) ht
  simp only[List.cons_append,List.nil_append,List.append_assoc] at g1 ⊢
  refine goesI_var (by decide) (may_lt 2 (by decide +kernel) (by omega) (by omega)) (goesI_7 (goesI_var (by decide) (may_lt 2 (by decide +kernel) hu0 hu2) (goesI_var (by decide) (may_lt 0 (by decide +kernel) (by decide) (by decide)) (goesI_var (by decide) (may_lt 0 (by decide +kernel) (by decide) (by decide))
    (goesI_var (by decide) (may_lt 31 (by decide +kernel) (by omega) (by omega)) (goesI_many (U:=a::1::b::0::0::gapN u g) ?_ ?_))))))
  ·rw[show ((S.length:Int) - 1).toNat=S.length - 1 by omega];exact g1
  ·refine goesI_var (by decide) (may_lt 32767 (by decide +kernel) (by omega) (by omega)) (goesI_var (by decide) (may_lt 1 (by decide +kernel) (by decide) (by decide)) (goesI_yes (U:=0::gapN u g) ?_ ?_))
   ·exact goesI_var (by decide) (may_lt 1023 (by decide +kernel) (by omega) (by omega)) (goesI_var (by decide) (may_lt 32767 (by decide +kernel) (by decide) (by decide)) goesI_nil)
   ·exact goesI_var (by decide) (may_lt 1 (by decide +kernel) (by decide) (by decide)) (goesI_no (by decide) (gapN_goes hg))
 ·have:(gapN u g).length≤4:=by unfold gapN;split <;> simp
  simp only[List.length_append,List.length_cons,List.length_nil,hl]
  omega
theorem link_goes {x:Int}{b:Bl}{r:Bool} (hx0:0≤x) (hx:x≤32766) (hb0:0≤b.1) (hb:b.1≤16777214) {T:Parts}{R W:List Int} (h:GoesI T 12 R W) :
    GoesI (.cons 44 0 .nil (.cons 12 0 .nil (.cons 0 2 (row [10]) (.cons 11 0 .nil (.cons 45 0 .nil (.cons 46 0 .nil (.cons 47 0 .nil T))))))) 0 ([x,1,b.1 / 16384,b.1 % 16384,nomI r,2,12]++R) W:=by
  have hn:=nom_range r
  refine goesI_var (by decide) (may_lt 32767 (by decide +kernel) (by omega) (by omega)) (goesI_var (by decide) (may_lt 1 (by decide +kernel) (by decide) (by decide)) (goesI_yes (U:=[b.1 % 16384,nomI r,2,12]++R) ?_ ?_))
  ·exact goesI_var (by decide) (may_lt 1023 (by decide +kernel) (by omega) (by omega)) goesI_nil
  ·exact goesI_var (by decide) (may_lt 16383 (by decide +kernel) (by omega) (by omega)) (goesI_var (by decide) (may_lt 1 (by decide +kernel) (by omega) (by omega)) (goesI_var (by decide) (may_lt 2 (by decide +kernel) (by decide) (by decide)) (goesI_var (by decide) (may_lt 63 (by decide +kernel) (by decide) (by decide)) h)))
theorem links_goes {t:Tp} (hc:checkM t=0) {u:Int}{n:Nat}:∀(l:List Stp) (i:Nat) (begin_ at_:Int) (w:List Int),2≤i→linkN t u n i begin_ at_ l=.ok w→∃w',w=(if i=2∧l≠[] then [(n:Int) - 2] else [])++w'∧GoesN pLink l.length w' []∧w'.length=7*l.length
  | [],i,begin_,at_,w,hi,hw=>by
   unfold linkN at hw
   injection hw with hw
   subst hw
   exact⟨[],by simp,rfl,rfl⟩
  | s::l,i,begin_,at_,w,hi,hw=>by
   obtain⟨b,v,hb,hz,hv,rfl⟩:=linkN_cons hw
   obtain⟨v',e,hr,hl⟩:=links_goes hc l (i+1) _ _ v (by omega) hv
   rw[if_neg (by omega)] at e
   simp only[List.nil_append] at e
   subst e
   obtain⟨c1,c2,_⟩:=check_bal hc (firstB_some hb).1
   obtain⟨a1,a2,a3,a4,a5⟩:=scaled_dn hz
   refine⟨_,by rw[List.append_assoc];congr 1;by_cases h2:i=2 <;> simp[h2],⟨v,?_,hr⟩,?_⟩
   ·rw[pLink_eq]
    exact link_goes (by omega) (by omega) c1 c2 goesI_nil
   ·simp only[List.length_append,List.length_cons,List.length_nil,hl]
    omega
theorem bad5 {t:Tp} (hc:checkM t=0) {u:Int} (hu0:0≤u) (hu2:u≤2) {rev:Bool}{s0 s1:Stp}{l:List Stp}{begin_ at_:Int}{w:List Int} (h24:(s0::s1::l).length≤24) (hw:linkN t u (s0::s1::l).length 1 begin_ at_ (s1::l)=.ok w) :
    badP (5,[nomI rev,u]++w++(if l=[] then [0] else []))=false:=by
  obtain⟨b,v,hb,hz,hv,rfl⟩:=linkN_cons hw
  obtain⟨v',e,hr,hl⟩:=links_goes hc l 2 _ _ v (Nat.le_refl _) hv
  subst e
  obtain⟨c1,c2,_⟩:=check_bal hc (firstB_some hb).1
  obtain⟨a1,a2,a3,a4,a5⟩:=scaled_dn hz
  have hn:=nom_range rev
  generalize (scaledM (begin_+alongP t (b.2.1,b.2.2,s1.2) - at_) u false).1=x at *
  have e0:[nomI rev,u]++((if 1=2 then [((s0::s1::l).length:Int) - 2] else [])++[x,1,b.1 / 16384,b.1 % 16384,nomI s1.2,2,12]++((if 2=2∧l≠[] then [((s0::s1::l).length:Int) - 2] else [])++v'))++(if l=[] then [0] else []) =
      nomI rev::u::([x,1,b.1 / 16384,b.1 % 16384,nomI s1.2,2,12]++((l.length:Int)::v')):=by
    cases l with
    | nil=>
     have:v'=[]:=List.length_eq_zero_iff.1 (by rw[hl];rfl)
     subst this
     simp
    | cons s2 l=>simp;omega
  rw[e0]
  refine goes_ok (T:=andP [pHead,pRepeated pLink]) rfl ?_ ?_
  ·rw[pFive_eq]
   simp only[List.length_cons] at h24
   refine goesI_var (by decide) (may_lt 2 (by decide +kernel) (by omega) (by omega)) (goesI_7 (goesI_var (by decide) (may_lt 2 (by decide +kernel) hu0 hu2) ?_))
   have hrest:GoesI (.cons 27 0 .nil (.cons 0 1 pLink .nil)) 12 ((l.length:Int)::v') []:=goesI_var (by decide) (may_lt 31 (by decide +kernel) (by omega) (by omega)) (goesI_many (U:=[]) (by rw[Int.toNat_natCast];exact hr) goesI_nil)
   exact goesI_last (link_goes (x:=x) (b:=b) (r:=s1.2) (by omega) (by omega) c1 c2 hrest)
  ·simp only[List.length_cons] at h24
   simp only[List.length_append,List.length_cons,List.length_nil,hl]
   omega
theorem packs_good {t:Tp}{m:Ma}{l:List Pk} (h:packsM17 t m=.ok l):l.any badP=false:=by
 obtain⟨z,v,hz,hu0,hv,hl⟩:=packs_ok h
 have hbest:=best_ok hu0
 have hg:=scaled_less (e:=m.2.2.2.2) hbest.1 hz.gap0 (by have:=hz.sects.pos (j:=m.2.2.2.1.length) (Nat.le_refl _);rw[List.take_length] at this;omega)
 have h15:=bad15 (rev:=m.2.1) hz.some_ hz.eight hz.sects.time hu0 hbest.2 hv hg.1
 rcases hl with⟨s0,e1,rfl⟩ | ⟨s0,s1,r,b,w,e1,hw,rfl⟩
 ·simp only[List.any_cons,List.any_nil,h15,Bool.or_false]
 ·have h24:=hz.few
  rw[e1] at hw h24
  have h5:=bad5 hz.chk hu0 hbest.2 (rev:=m.2.1) h24 hw
  simp only[List.any_cons,List.any_nil,h15,h5,Bool.or_false]
end Go.Proofs.YtpapiojicbbheaaGreatDoor

namespace Go.Proofs.YtpapiojicbbheaaGreatDoor
open Go.RowKit
set_option maxHeartbeats 400000 in
theorem up_any (id:Int) (w:World):Calls Tryz.prog 119 #[.int .i64 id] w fun e w'=>e=.returned (.bool (upP id))∧w=w':=by
 by_cases h0:id=0
 ·subst h0
  go_enter Tryz.func119, Tryz.ntmps119
  go_wp2
  go_ret
  exact⟨rfl,rfl⟩
 ·have e0:(id==0)=false:=by simpa using h0
  by_cases h1:id=1
  ·subst h1
   go_enter Tryz.func119, Tryz.ntmps119
   go_wp2
   go_ret
   exact⟨rfl,rfl⟩
  ·have e1:(id==1)=false:=by simpa using h1
   have hu:upP id=(id==11):=by
    unfold upP
    rw[Bool.eq_iff_iff,decide_eq_true_iff,beq_iff_eq]
    omega
   have HU:=qh hu
   clear hu h0 h1
   go_enter Tryz.func119, Tryz.ntmps119
   go_wp2
   go_ret
   exact⟨by rw[HU.out];rfl,rfl⟩
theorem bitCells_at:∀(l:List (Int×Int)) {i:Nat}{x:Int×Int},l[i]?=some x→(bitCells l)[i*2]?=some (.int .i64 x.1)∧(bitCells l)[i*2+1]?=some (.int .i64 x.2):=by
 intro l
 induction l with
 | nil=>intro i x h;simp at h
 | cons y l ih=>
  intro i x h
  have e:bitCells (y::l)=.int .i64 y.1::.int .i64 y.2::bitCells l:=rfl
  rw[e]
  cases i with
  | zero=>simp only[List.getElem?_cons_zero,Option.some.injEq] at h;subst h;exact⟨rfl,rfl⟩
  | succ i=>
   simp only[List.getElem?_cons_succ] at h
   rw[show (i+1)*2=i*2+1+1 by omega,List.getElem?_cons_succ,List.getElem?_cons_succ,List.getElem?_cons_succ,List.getElem?_cons_succ]
   exact ih h
theorem sumW_take {l:List (Int×Int)}{i:Nat}{x:Int×Int} (h:l[i]?=some x):sumW (l.take (i+1))=sumW (l.take i)+x.2:=by
 obtain⟨h2,h3⟩:=List.getElem?_eq_some_iff.1 h
 rw[List.take_succ_eq_append_getElem h2,h3,sumW_app]
 simp[sumW]
theorem sumW_take_range (tr:List (Int×Int)) (k:Nat):0≤sumW ((itemsOf tr).take k)∧sumW ((itemsOf tr).take k)≤32*tr.length:=by
 have:=sumW_items (tr.take k)
 have e:(itemsOf tr).take k=itemsOf (tr.take k):=by simp[itemsOf,List.map_take]
 rw[e]
 have:(tr.take k).length≤tr.length:=by simp;omega
 omega
theorem bitCells_set:∀(l:List (Int×Int)) {i:Nat}{a b:Int},l[i]?=some (a,b)→∀m,bitCells (l.set i (m,b))=(bitCells l).set (i*2) (.int .i64 m):=by
 intro l
 induction l with
 | nil=>intro i a b h;simp at h
 | cons y l ih=>
  intro i a b h m
  have e:∀(z:Int×Int) l,bitCells (z::l)=.int .i64 z.1::.int .i64 z.2::bitCells l:=fun _ _=>rfl
  cases i with
  | zero=>
   simp only[List.getElem?_cons_zero,Option.some.injEq] at h
   subst h
   rfl
  | succ i=>
   simp only[List.getElem?_cons_succ] at h
   rw[List.set_cons_succ,e,e,ih h m,show (i+1)*2=i*2+1+1 by omega,List.set_cons_succ,List.set_cons_succ]
def ItRet (w:World) (r:Except Int (List (Int×Int))) (e:Ending) (w':World):Prop:=
  ∃(A:Option Addr) (n c:Nat) (x:Int),e=.returned (.tuple #[.slice A n c,.int .i64 x])∧Keep Never w w' ∧
   ((∃l,r=.ok l∧x=0∧n=l.length∧Own w' w.heap.size 162 2 A n c (bitCells l))∨(r=.error x∧x≠0∧A=none∧n=0∧c=0))
set_option maxHeartbeats 4000000 in
set_option maxRecDepth 100000 in
theorem Items_any (B:Nat) (id:Int) (V:List Int) (A:Option Addr) (n c:Nat) (w:World) (hV:Rd w B 1 A n (V.map (.int .i64))) (hn:V.length=n) (hc:n≤c) (hcm:c≤maxLen) (hb:∀x∈V,i64 x) (h3:V.length≤8200) (hW:Widths w) (hg : 0 < B) (hB:B≤w.heap.size) :
    Calls Tryz.prog 65 #[.agg (packCells id A n c)] w (ItRet w (ItemsM id V)):=by
  have hit:Hid (∀W,Keep Never w W→Calls Tryz.prog 118 #[.agg (packCells id A n c)] W (IRet W (itemsM id V))):=fun W hk=>
   items_any B id V A n c W (hV.keep hk (fun _ h=>h.elim)) hn hc hcm hb h3 (hW.keep hk (fun h=>h)) hg (Nat.le_trans hB hk.size)
  have h3000:V.length≤8200:=h3
  unfold packCells at *
  clear hV hn hb h3 hW
  go_enter Tryz.func65, Tryz.ntmps65
  go_wp2_with fail
  refine(hit.out _ ((Keep.refl Never w).alloc _)).mono ?_
  rintro e w1 ⟨A1,n1,c1,x,rfl,hk1,hpo⟩
  have HK1:=qh hk1
  clear hk1
  rcases hpo with⟨tr,hr,rfl,hn1,ho⟩ | ⟨hr,hx,_,_⟩
  ·have hlen:=itemsM_len hr
   have hn1':n1≤8300:=by omega
   have Hlen:=qh hlen
   have Hr:=qh hr
   have hb1:w.heap.size≤(w.alloc (.cells #[.int .i64 id,.slice A n c] 105)).heap.size:=by simp
   have HO:=qh (ho.less hb1)
   have Hn1:=qh hn1
   have hp1:Blk w1 w.heap.size 105 #[.int .i64 id,.slice A n c]:=(Blk.new w 105 #[.int .i64 id,.slice A n c]).keep HK1.out (fun h=>h)
   have Hp1:=qh hp1
   obtain⟨g,cur,hA,hgb,hgblk,hc1,hc2,hc3,hc4⟩:∃g cur,A1=some ⟨g,0,none⟩∧w.heap.size≤g∧Blk w1 g 162 cur∧n1≤c1∧c1≤maxLen∧cur.size=c1*2∧cur.toList.take (n1*2)=bitCells (itemsOf tr):=by
    rcases HO.out.form with⟨_,h0,_⟩ | h
    ·exfalso
     have h1:=hlen.2
     split at h1 <;> omega
    ·exact h
   subst hA
   have Hgb:=qh hgb
   have Hgblk:=qh hgblk
   have Hc4:=qh hc4
   have hc1':n1≤c1:=hc1
   have hc9:c1≤9223372036854775807:=by unfold maxLen at hc2;omega
   clear hr ho hn1 hlen hb1 hp1 hgb hgblk hc2 hc4
   go_wp2_with fail
   go_loopw [6,8,20] (fun sz _ i wr=>∃k:Nat,k≤n1∧i=.int .i64 k∧sz=.int .i64 (sumW ((itemsOf tr).take k))∧Hid (Keep Never w1 wr)) (fun _ _ i _=>n1 - (intOf i).toNat)
   case atStart=>exact⟨0,by omega,rfl,rfl,Keep.refl _ _⟩
   case round=>
    obtain⟨k,hk,rfl,rfl,HKr⟩:=hrel
    have hs1:=sumW_take_range tr k
    have hs2:sumW ((itemsOf tr).take k)≤1000000:=by have:=Hn1.out;omega
    by_cases h0:k<n1
    ·have hx:(itemsOf tr)[k]?=some ((itemsOf tr)[k]'(by simp[itemsOf];have:=Hn1.out;omega)):=List.getElem?_eq_getElem _
     generalize (itemsOf tr)[k]'(by simp[itemsOf];have:=Hn1.out;omega)=y at hx
     obtain⟨y1,y2⟩:=y
     have hy2:0≤y2∧y2≤32:=by
      simp only[itemsOf,List.getElem?_map] at hx
      cases ht:tr[k]? with
      | none=>rw[ht] at hx;cases hx
      | some z=>
       rw[ht] at hx
       injection hx with hx
       injection hx with _ hx
       have:=vWidth_range z.1
       omega
     obtain⟨hat1,hat2⟩:=bitCells_at _ hx
     have hcells:=(HO.out.rd.keep HKr.out (fun _ h=>h.elim)).2 (by omega)
     obtain⟨ad,hA,_,hcc⟩:=hcells
     injection hA with hA
     subst hA
     have d0:=hcc _ _ hat1
     have d1:=hcc _ _ hat2
     have e0:∀j,(⟨g,0,none⟩:Addr).add j=⟨g,j,none⟩:=fun j=>by unfold Addr.add;split <;> simp_all
     rw[e0] at d0 d1
     have HS:Hid (sumW ((itemsOf tr).take (k+1))=sumW ((itemsOf tr).take k)+y2):=sumW_take hx
     obtain⟨S,hS⟩:∃S,sumW ((itemsOf tr).take k)=S:=⟨_,rfl⟩
     rw[hS] at hs1 hs2
     rw[hS]
     have HS0:=qh hS
     clear hx hat1 hat2 hcc e0 hS
     go_wp2_with fail
     go_roundw
     case rel=>exact⟨k+1,by omega,by go_num,by rw[HS.out,HS0.out],HKr.out.alloc _⟩
     case measure=>simp[intOf];omega
    ·obtain rfl:k=n1:=by omega
     have htk:(itemsOf tr).take k=itemsOf tr:=List.take_of_length_le (by simp[itemsOf];have:=Hn1.out;omega)
     obtain⟨S,hS⟩:∃S,sumW (itemsOf tr)=S:=⟨_,rfl⟩
     rw[htk,hS] at hs1 hs2
     rw[htk,hS]
     have HS:=qh hS
     have HKw:Hid (Keep Never w wr):=(((Keep.refl Never w).alloc _).trans HK1.out).trans HKr.out
     clear htk hS
     by_cases h8:8184<S
     ·have HF:Hid (ItemsM id V=.error 2):=by show _=_;unfold ItemsM;rw[Hr.out];simp only;rw[HS.out,if_pos h8]
      go_wp2_with fail
      go_ret2
      exact⟨none,0,0,2,rfl,HKw.out,.inr ⟨HF.out,by decide,rfl,rfl,rfl⟩⟩
     ·have HF:Hid (ItemsM id V=.ok ((itemsOf tr).set (atP id) (S,13))):=by show _=_;unfold ItemsM;rw[Hr.out];simp only;rw[HS.out,if_neg h8]
      have hpr:=Hp1.out.keep HKr.out (fun h=>h)
      have q0:wr.cell? ⟨w.heap.size,0,none⟩=some (.int .i64 id):=hpr.cell 0
      have hgr:=Hgblk.out.keep HKr.out (fun h=>h)
      have hlen:=Hlen.out
      have hat:=itemsM_at Hr.out
      have hj:atP id<k:=by
       have h1:=(List.getElem?_eq_some_iff.1 hat).1
       have:=Hn1.out
       omega
      have hcur:cur[atP id*2]?=some (.int .i64 0):=by
       have h1:(itemsOf tr)[atP id]?=some (0,13):=by rw[itemsOf,List.getElem?_map,hat];rfl
       have h2:=(bitCells_at _ h1).1
       rw[←Hc4.out,List.getElem?_take] at h2
       rw[if_pos (by omega)] at h2
       simpa using h2
      have q1:wr.cell? ⟨g,atP id*2,none⟩=some (.int .i64 0):=by rw[hgr.cell];exact hcur
      have q2:wr.frozen? ⟨g,atP id*2,none⟩=false:=hgr.frozen _
      have HOr:Hid (Own wr w.heap.size 162 2 (some ⟨g,0,none⟩) k c1 (bitCells (itemsOf tr))):=HO.out.keep HKr.out (fun _ _ h=>h)
      have hfin:Hid (∀wf,wf=wr.setCell ⟨g,atP id*2,none⟩ (.int .i64 S)→ItRet w (ItemsM id V) (.returned (.tuple #[.slice (some ⟨g,0,none⟩) k c1,.int .i64 0])) wf):=by
       rintro wf rfl
       have ho:=HOr.out.stored rfl (atP id*2) (.int .i64 S)
       have e0:(⟨g,0,none⟩:Addr).add (atP id*2)=⟨g,atP id*2,none⟩:=by unfold Addr.add;split <;> simp_all
       rw[e0] at ho
       refine⟨_,_,_,_,rfl,HKw.out.set_ (.inr Hgb.out) _,.inl ⟨_,HF.out,rfl,by simp[itemsOf];exact Hn1.out,?_⟩⟩
       have e1:bitCells ((itemsOf tr).set (atP id) (S,13))=(bitCells (itemsOf tr)).set (atP id*2) (.int .i64 S):=by
        have h1:(itemsOf tr)[atP id]?=some (0,13):=by rw[itemsOf,List.getElem?_map,hat];rfl
        exact bitCells_set _ h1 S
       rw[e1]
       exact ho
      clear hpr hgr hlen hat hcur
      have hju:atP id=if upP id then 1 else 2:=rfl
      cases hu:upP id
      ·rw[hu] at hju
       simp only[Bool.false_eq_true,if_false] at hju
       rw[hju] at q1 q2 hfin hj
       have HU:Hid (∀W,Calls Tryz.prog 119 #[.int .i64 id] W fun e w'=>e=.returned (.bool false)∧W=w'):=fun W=>by have:=up_any id W;rwa [hu] at this
       clear hju hu
       go_wp2_with (go_at_call 119; refine(HU.out _).mono ?_;rintro e w' ⟨rfl,rfl⟩)
       go_ret2
       exact hfin.out _ rfl
      ·rw[hu] at hju
       simp only[if_true] at hju
       rw[hju] at q1 q2 hfin hj
       have HU:Hid (∀W,Calls Tryz.prog 119 #[.int .i64 id] W fun e w'=>e=.returned (.bool true)∧W=w'):=fun W=>by have:=up_any id W;rwa [hu] at this
       clear hju hu
       go_wp2_with (go_at_call 119; refine(HU.out _).mono ?_;rintro e w' ⟨rfl,rfl⟩)
       go_ret2
       exact hfin.out _ rfl
  ·have hx0:(x==0)=false:=by simpa using hx
   have HF:Hid (ItemsM id V=.error x):=by show _=_;unfold ItemsM;rw[hr]
   have Hx:=qh hx
   clear hr hx
   go_wp2_with fail
   go_ret2
   exact⟨none,0,0,x,rfl,((Keep.refl Never w).alloc _).trans HK1.out,.inr ⟨HF.out,Hx.out,rfl,rfl,rfl⟩⟩
end Go.Proofs.YtpapiojicbbheaaGreatDoor
