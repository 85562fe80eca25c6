/- Texts of this claim, together: TopS, TopT, TopU, TopI, SlgA, PlcA, PlcB, LckA, PlnA, PlnB, PlnS, PlnC, SclA, PlnE, BitsM, PlnT, VarsD, VarsW, VarsT, VarsG, Pow, VarsS, VarsF, VarsP, PackD. -/
import Derived.Test.YtpapiojicbbheaaGreatDoorTf02
import Derived.Test.YtpapiojicbbheaaGreatDoorTf00
import Derived.IntWalk
import Derived.Great.Walk
import Derived.Lib.Walk
import Derived.Lib.Bytealg
import Derived.Lib.IndexBytes
import Derived.Lib.CutLaws
import Derived.Deep.Draws
namespace Go.Proofs.YtpapiojicbbheaaGreatDoor
open Go.RowKit
theorem run_neq_stp (w:World) (x1:Int) (x2:Bool) (y1:Int) (y2:Bool):(binOp .neq 30 (.agg #[.int .i64 x1,.bool x2]) (.agg #[.int .i64 y1,.bool y2])).run Tryz.prog w=.ok (.bool (!sameS x1 x2 y1 y2)) w:=by
 by_cases h1:x1=y1
 ·have t1:(x1==y1)=true:=by simpa using h1
  by_cases h2:x2=y2
  ·have t2:(x2==y2)=true:=by simpa using h2
   have hd:sameS x1 x2 y1 y2=true:=decide_eq_true (by rw[h1,h2])
   rw[hd]
   clear h1 h2 hd
   go_simp
  ·have t2:(x2==y2)=false:=by simpa using h2
   have hd:sameS x1 x2 y1 y2=false:=decide_eq_false (by simp[h2])
   rw[hd]
   clear h1 h2 hd
   go_simp
 ·have t1:(x1==y1)=false:=by simpa using h1
  have hd:sameS x1 x2 y1 y2=false:=decide_eq_false (by simp[h1])
  rw[hd]
  clear h1 hd
  go_simp
set_option maxHeartbeats 1000000 in
set_option maxRecDepth 100000 in
theorem steps_any (A A':Option Addr) (n n' c c' B B':Nat) (l m:List Stp) (w:World) (hr:Rd w B 2 A n (stpCells l)) (hr':Rd w B' 2 A' n' (stpCells m)) (hn:n≤100000000) (hn':n'≤100000000) :
    Calls Tryz.prog 26 #[.slice A n c,.slice A' n' c'] w fun e w'=>e=.returned (.bool (decide (l=m)))∧Keep Never w w':=by
  have qe:∀(w:World) (x1:Int) (x2:Bool) (y1:Int) (y2:Bool),(binOp .neq 30 (.agg #[.int .i64 x1,.bool x2]) (.agg #[.int .i64 y1,.bool y2])).run Tryz.prog w=.ok (.bool (!sameS x1 x2 y1 y2)) w:=run_neq_stp
  have HL:Hid (l.length=n∧m.length=n'):=qh ⟨hr.stp_len,hr'.stp_len⟩
  have HR:=qh hr
  have HR':=qh hr'
  clear hr hr'
  by_cases h0:n=n'
  case neg=>
   have t0:((n:Int) != (n':Int))=true:=by simp;omega
   have HF:Hid (decide (l=m)=false):=qh (decide_eq_false (fun e=>h0 (by rw[←HL.out.1,←HL.out.2,e])))
   clear h0
   go_enter Tryz.func26, Tryz.ntmps26
   go_wp2_with fail
   go_ret
   exact⟨by rw[HF.out];rfl,Keep.refl _ _⟩
  subst h0
  have t0:((n:Int) != (n:Int))=false:=by simp
  go_enter Tryz.func26, Tryz.ntmps26
  go_wp2_with fail
  clear t0
  go_loopw [5] (fun i wr=>∃k:Nat,k≤n∧i=.int .i64 k∧Hid (Keep Never w wr∧l.take k=m.take k)) (fun i _=>n - (intOf i).toNat)
  case atStart=>exact⟨0,by omega,rfl,qh ⟨Keep.refl _ _,by simp⟩⟩
  case round=>
   obtain⟨k,hk,rfl,HH⟩:=hrel
   by_cases h0:k<n
   ·have hkz:(k:Int)<(n:Int):=by omega
    obtain⟨ad,u,hA,_,hu,c0,c1⟩:=(HR.out.keep HH.out.1 (fun _ h=>h.elim)).stp h0
    obtain⟨ae,v,hA',_,hv,d0,d1⟩:=(HR'.out.keep HH.out.1 (fun _ h=>h.elim)).stp h0
    subst hA hA'
    obtain⟨u1,u2⟩:=u
    obtain⟨v1,v2⟩:=v
    simp only at c0 c1 d0 d1
    have Hu:=qh hu
    have Hv:=qh hv
    have HT:Hid (l.take (k+1)=l.take k++[(u1,u2)]∧m.take (k+1)=m.take k++[(v1,v2)]):=qh (by
     obtain⟨h2,h3⟩:=List.getElem?_eq_some_iff.1 hu
     obtain⟨h4,h5⟩:=List.getElem?_eq_some_iff.1 hv
     exact⟨by rw[List.take_succ_eq_append_getElem h2,h3],by rw[List.take_succ_eq_append_getElem h4,h5]⟩)
    clear hu hv
    go_wp2_with fail
    rcases Bool.eq_false_or_eq_true (sameS u1 u2 v1 v2) with t1 | t1
    ·have HN:Hid (l.take (k+1)=m.take (k+1)):=qh (by rw[HT.out.1,HT.out.2,HH.out.2,of_decide_eq_true t1])
     have t2:(!sameS u1 u2 v1 v2)=false:=by rw[t1];rfl
     go_quiet (fail)
     go_wp2_with fail
     refine⟨⟨k+1,by omega,by go_num,qh ⟨HH.out.1.drewN _,HN.out⟩⟩,?_⟩
     simp[intOf];try omega
    ·have HF:Hid (decide (l=m)=false):=qh (decide_eq_false (fun e=>by
      have h1:=Hu.out
      rw[e,Hv.out] at h1
      injection h1 with h1
      exact(of_decide_eq_false t1) h1.symm))
     have t2:(!sameS u1 u2 v1 v2)=true:=by rw[t1];rfl
     go_quiet (fail)
     go_wp2_with fail
     go_ret
     exact⟨by rw[HF.out];rfl,HH.out.1.drewN _⟩
   ·obtain rfl:k=n:=by omega
    have hkz:¬(k:Int)<(k:Int):=by omega
    have HF:Hid (decide (l=m)=true):=qh (decide_eq_true (by
     have:=HH.out.2
     rwa [List.take_of_length_le (by rw[HL.out.1];exact Nat.le_refl _),List.take_of_length_le (by rw[HL.out.2];exact Nat.le_refl _)] at this))
    go_wp2_with fail
    go_ret
    exact⟨by rw[HF.out];rfl,HH.out.1⟩
end Go.Proofs.YtpapiojicbbheaaGreatDoor

namespace Go.Proofs.YtpapiojicbbheaaGreatDoor
open Go.RowKit
theorem bal_hit {l:List Bl}{id:Int}{k:Nat}{b:Bl} (h:l[k]?=some b) (hb:b.1=id) (ha:∀x∈l.take k,x.1≠id):balM l id=some b:=find_idx h (by simpa using hb) (fun x hx=>by simpa using ha x hx)
theorem bal_miss {l:List Bl}{id:Int} (ha:∀x∈l,x.1≠id):balM l id=none:=find_no (fun x hx=>by simpa using ha x hx)
theorem rt_hit {l:List Rt}{id:Int}{k:Nat}{b:Rt} (h:l[k]?=some b) (hb:b.1=id) (ha:∀x∈l.take k,x.1≠id):rtM l id=some b:=find_idx h (by simpa using hb) (fun x hx=>by simpa using ha x hx)
theorem all_take {α:Type}{l:List α}{k:Nat}{b:α}{p:α→Prop} (h:l[k]?=some b) (ha:∀x∈l.take k,p x) (hb:p b):∀x∈l.take (k+1),p x:=by
 obtain⟨h2,h3⟩:=List.getElem?_eq_some_iff.1 h
 rw[List.take_succ_eq_append_getElem h2,h3]
 intro x hx
 rcases List.mem_append.1 hx with hx | hx
 ·exact ha x hx
 ·simp at hx;subst hx;exact hb
end Go.Proofs.YtpapiojicbbheaaGreatDoor

namespace Go.Proofs.YtpapiojicbbheaaGreatDoor
open Go.RowKit
theorem firstE_all {f:Nat→Int}:∀{n:Nat},firstE f n=0→∀j,j<n→f j=0
  | 0,_,j,hj=>by omega
  | n+1,h,j,hj=>by
   unfold firstE at h
   by_cases h1:firstE f n=0
   ·rw[if_neg (by simpa using h1)] at h
    by_cases e:j=n
    ·rw[e];exact h
    ·exact firstE_all h1 j (by omega)
   ·rw[if_pos h1] at h
    exact absurd h h1
structure RtGood (t:Tp) (r:Rt):Prop where
  fnd:rtM t.2.2.2 r.1=some r
  err:(lenM t r.2.1).2=0
  gap:r.2.2.1<(lenM t r.2.1).1
  few:r.2.1.length≤8
  bal:∀(k:Nat) (s:Stp),r.2.1[k]?=some s→t.2.2.1.any (fun b=>b.2.1==s.1)=true
  aft:∀(k:Nat) (s u:Stp),r.2.1[k]?=some s→r.2.1[k+1]?=some u→u∈afterM t s
  dis:∀(j k:Nat) (s u:Stp),j<k→r.2.1[j]?=some s→r.2.1[k]?=some u→s.1≠u.1
theorem routed_good {t:Tp}{r:Rt} (h:routedM t r=0):(lenM t r.2.1).2=0∧r.2.2.1<(lenM t r.2.1).1∧r.2.1.length≤8∧pathBad t.1.length r.2.1=false∧r.2.1.any (noBal t.2.2.1)=false:=by
 unfold routedM at h
 split at h
 ·exact absurd h (by decide)
 rename_i h1
 split at h
 ·exact absurd h (by decide)
 rename_i h2
 split at h
 ·rename_i h3
  exact absurd h h3
 rename_i h3
 split at h
 ·exact absurd h (by decide)
 rename_i h4
 split at h
 ·exact absurd h (by decide)
 rename_i h5
 refine⟨by omega,by omega,by omega,by simpa using h2,by simpa using h5⟩
theorem len_way {t:Tp}{p:List Stp} (h:(lenM t p).2=0):p.all (fun s=>thereB t.1.length s.1)=true∧wayM t.2.1 p=true:=by
 unfold lenM at h
 split at h
 ·exact absurd h (by simp)
 split at h
 ·rename_i h2
  split at h
  ·rename_i h3
   exact⟨h2,h3⟩
  ·exact absurd h (by simp)
 ·exact absurd h (by simp)
theorem check_good {t:Tp} (h:checkM t=0) {i:Nat}{r:Rt} (hr:t.2.2.2[i]?=some r):RtGood t r:=by
 have h0:firstE (rErr t) t.2.2.2.length=0:=by
  unfold checkM at h
  split at h
  ·exact absurd h (by decide)
  split at h
  ·exact absurd h (by decide)
  split at h
  ·rename_i h3;exact absurd h h3
  split at h
  ·rename_i h3;exact absurd h h3
  exact h
 have hi:i<t.2.2.2.length:=(List.getElem?_eq_some_iff.1 hr).1
 have h1:=firstE_all h0 i hi
 unfold rErr at h1
 rw[hr] at h1
 simp only at h1
 split at h1
 ·rename_i h2;exact absurd h1 h2
 rename_i h2
 have h2:routedM t r=0:=by simpa using h2
 split at h1
 ·exact absurd h1 (by decide)
 rename_i h3
 have h3:rtM (t.2.2.2.take i) r.1=none:=by simpa using h3
 obtain⟨e1,e2,e3,e4,e5⟩:=routed_good h2
 obtain⟨e6,e7⟩:=len_way e1
 have hth:∀(k:Nat) (s:Stp),r.2.1[k]?=some s→thereB t.1.length s.1=true:=fun k s hs=>List.all_eq_true.1 e6 s (List.mem_of_getElem? hs)
 refine⟨?_,e1,e2,e3,?_,?_,?_⟩
 ·refine rt_hit hr rfl (fun x hx=>?_)
  unfold rtM at h3
  rw[List.find?_eq_none] at h3
  have:=h3 x hx
  simpa using this
 ·intro k s hs
  rw[List.any_eq_false] at e5
  have:=e5 s (List.mem_of_getElem? hs)
  unfold noBal at this
  simpa using this
 ·intro k s u hs hu
  rw[afterM_mem]
  refine⟨hth k s hs,hth _ u hu,?_⟩
  rw[←okAt_eq hs hu]
  unfold wayM at e7
  rw[List.all_eq_true] at e7
  exact e7 k (List.mem_range.2 (by have:=(List.getElem?_eq_some_iff.1 hu).1;omega))
 ·intro j k s u hjk hs hu he
  unfold pathBad at e4
  rw[List.any_eq_false] at e4
  have h5:=e4 k (List.mem_range.2 (List.getElem?_eq_some_iff.1 hu).1)
  apply h5
  unfold badAt
  rw[hu]
  simp only[Bool.or_eq_true]
  right
  rw[List.any_eq_true]
  refine⟨s,?_,by simpa using he⟩
  rw[List.mem_iff_getElem?]
  exact⟨j,by rw[List.getElem?_take];rw[if_pos hjk];exact hs⟩
end Go.Proofs.YtpapiojicbbheaaGreatDoor

namespace Go.Proofs.YtpapiojicbbheaaGreatDoor
open Go.RowKit
def overK (es:List Int) (lo hi:Int) (p:List Stp):Nat→List Sp
  | 0=>[]
  | k+1=>overK es lo hi p k++(match p[k]? with | some s=>[cutS es lo hi (sumM es (p.take k)) s] | none=>[])
theorem overK_at {es:List Int}{lo hi:Int}{p:List Stp}{k:Nat}{s:Stp} (h:p[k]?=some s):overK es lo hi p (k+1)=overK es lo hi p k++[cutS es lo hi (sumM es (p.take k)) s]:=by
 conv=>lhs;unfold overK
 rw[h]
def goodM (es:List Int) (p:List Stp):Prop:=(∀v∈es,1≤v∧v≤1000000)∧(∀s∈p,thereB es.length s.1=true)∧p.length≤40
theorem good_at {es:List Int}{p:List Stp} (h:goodM es p) {k:Nat}{s:Stp} (hs:p[k]?=some s):∃j:Nat,s.1=(j:Int)∧j<es.length∧∃v,es[j]?=some v∧1≤v∧v≤1000000∧es.getD s.1.toNat 0=v:=by
 have h1:=h.2.1 s (List.mem_of_getElem? hs)
 unfold thereB at h1
 rw[Bool.and_eq_true,decide_eq_true_eq,decide_eq_true_eq] at h1
 obtain⟨j,hj⟩:∃j:Nat,s.1=(j:Int):=⟨s.1.toNat,by omega⟩
 have hl:j<es.length:=by omega
 have hv:es[j]?=some es[j]:=List.getElem?_eq_getElem hl
 have h2:=h.1 _ (List.getElem_mem hl)
 exact⟨j,hj,hl,_,hv,h2.1,h2.2,by rw[hj,List.getD_eq_getElem?_getD,Int.toNat_natCast,hv];rfl⟩
theorem sum_good {es:List Int}{p:List Stp} (h:goodM es p):∀k,k≤p.length→0≤sumM es (p.take k)∧sumM es (p.take k)≤1000000*k
  | 0,_=>by simp[sumM]
  | k+1,hk=>by
   obtain⟨i1,i2⟩:=sum_good h k (by omega)
   have hs:p[k]?=some p[k]:=List.getElem?_eq_getElem (by omega)
   obtain⟨j,_,_,v,_,h1,h2,h3⟩:=good_at h hs
   rw[sumM_take hs,h3,IntWalk.i64_in _ (by have:=h.2.2;omega)]
   omega
theorem sum_step {es:List Int}{p:List Stp} (h:goodM es p) {k:Nat}{s:Stp} (hs:p[k]?=some s):sumM es (p.take (k+1))=sumM es (p.take k)+es.getD s.1.toNat 0:=by
 have hk:k<p.length:=(List.getElem?_eq_some_iff.1 hs).1
 obtain⟨i1,i2⟩:=sum_good h k (by omega)
 obtain⟨j,_,_,v,_,h1,h2,h3⟩:=good_at h hs
 rw[sumM_take hs,h3,IntWalk.i64_in _ (by have:=h.2.2;omega)]
theorem len_good {t:Tp}{p:List Stp} (h:(lenM t p).2=0) (hw:t.1.any wrongB=false):goodM t.1 p∧(lenM t p).1=sumM t.1 p:=by
 unfold lenM at h ⊢
 split at h
 ·simp at h
 ·rename_i h0
  rw[if_neg h0]
  split at h
  ·rename_i h1
   rw[if_pos h1]
   split at h
   ·rename_i h2
    rw[if_pos h2]
    refine⟨⟨fun v hv=>?_,fun s hs=>?_,by omega⟩,rfl⟩
    ·have:=(List.any_eq_false.1 hw) v hv
     unfold wrongB at this
     simp only[Bool.or_eq_true,decide_eq_true_eq,not_or] at this
     omega
    ·exact List.all_eq_true.1 h1 s hs
   ·simp at h
  ·simp at h
end Go.Proofs.YtpapiojicbbheaaGreatDoor

namespace Go.Proofs.YtpapiojicbbheaaGreatDoor
open Go.RowKit
def posM (es:List Int) (s:Stp) (a:Int):Int:=if s.2=true then es.getD s.1.toNat 0 - 1 - a else a
theorem cut_has {es:List Int}{lo hi S e a:Int}{s:Stp} (h0:0≤s.1) (h2:es.getD s.1.toNat 0≤1000000) :
    (someS (cutS es lo hi S s)&&hasS (cutS es lo hi S s) e a)=true↔s.1=e∧0≤a∧a<es.getD s.1.toNat 0∧lo≤S+posM es s a∧S+posM es s a<hi:=by
  rw[Bool.and_eq_true,someS_iff,hasS_iff]
  unfold cutS posM
  generalize es.getD s.1.toNat 0=v at *
  split <;> simp only <;> omega
theorem good_pos {es:List Int}{p:List Stp} (h:goodM es p) {k:Nat}{s:Stp} (hs:p[k]?=some s):0≤s.1∧1≤es.getD s.1.toNat 0∧es.getD s.1.toNat 0≤1000000:=by
 obtain⟨j,h1,_,v,_,h3,h4,h5⟩:=good_at h hs
 exact⟨by omega,by omega,by omega⟩
theorem overK_has {es:List Int}{p:List Stp}{lo hi:Int} (hg:goodM es p) (e a:Int):∀k,k≤p.length→(hasL (overK es lo hi p k) e a=true↔∃i s,i<k∧p[i]?=some s∧s.1=e∧0≤a∧a<es.getD s.1.toNat 0∧lo≤sumM es (p.take i)+posM es s a∧sumM es (p.take i)+posM es s a<hi)
  | 0,_=>by
   constructor
   ·intro h;simp[overK,hasL] at h
   ·rintro⟨i,_,h,_⟩;omega
  | k+1,hk=>by
   have hs:p[k]?=some p[k]:=List.getElem?_eq_getElem (by omega)
   obtain⟨g1,g2,g3⟩:=good_pos hg hs
   rw[overK_at hs,hasL_app,Bool.or_eq_true,overK_has hg e a k (by omega),hasL_cons,hasL_nil,Bool.or_false,cut_has g1 g3]
   constructor
   ·rintro(⟨i,s,hi,r⟩ | h)
    ·exact⟨i,s,by omega,r⟩
    ·exact⟨k,_,by omega,hs,h⟩
   ·rintro⟨i,s,hi,hs',r⟩
    by_cases h:i=k
    ·subst h
     rw[hs] at hs'
     injection hs' with hs'
     subst hs'
     exact .inr r
    ·exact .inl ⟨i,s,by omega,hs',r⟩
def onceM (p:List Stp):Prop:=∀(i k:Nat) (s u:Stp),p[i]?=some s→p[k]?=some u→s.1=u.1→i=k
def plainS (es:List Int) (p:List Stp):Int:=(p.map fun s=>es.getD s.1.toNat 0).sum
theorem sum_plain {es:List Int}{p:List Stp} (h:goodM es p):∀k,k≤p.length→sumM es (p.take k)=plainS es (p.take k)
  | 0,_=>rfl
  | k+1,hk=>by
   have hs:p[k]?=some p[k]:=List.getElem?_eq_getElem (by omega)
   rw[sum_step h hs,sum_plain h k (by omega)]
   unfold plainS
   rw[List.take_add_one,hs,List.map_append,List.sum_append]
   simp
end Go.Proofs.YtpapiojicbbheaaGreatDoor

namespace Go.Proofs.YtpapiojicbbheaaGreatDoor
open Go.RowKit
abbrev Ps:=Int×Int×Bool
def noP:Ps:=(0,0,false)
def edgeM (t:Tp) (e:Int):Int:=t.1.getD e.toNat 0
def rightB (t:Tp) (p:Ps):Bool:=decide (checkM t=0)&&thereB t.1.length p.1&&decide (0≤p.2.1)&&decide (p.2.1≤edgeM t p.1)
def overP (t:Tp) (s:Stp) (n:Int):Ps:=(s.1,if s.2=true then edgeM t s.1 - n else n,s.2)
def alongP (t:Tp) (p:Ps):Int:=if p.2.2=true then edgeM t p.1 - p.2.1 else p.2.1
def aheadP (t:Tp) (p:Ps):Int:=if p.2.2=true then p.2.1 else edgeM t p.1 - p.2.1
theorem ahead_along (t:Tp) (p:Ps):aheadP t p=edgeM t p.1 - alongP t p:=by unfold aheadP alongP;split <;> omega
theorem along_over (t:Tp) (s:Stp) (n:Int):alongP t (overP t s n)=n:=by
 obtain⟨e,r⟩:=s
 cases r <;> simp[alongP,overP]
 omega
def goM (t:Tp):Nat→Stp→Int→Ps×Int
  | 0,s,n=>if n≤edgeM t s.1 then (overP t s n,0) else match afterM t s with | []=>(noP,141) | [_]=>(noP,2) | _::_::_=>(noP,140)
  | f+1,s,n=>if n≤edgeM t s.1 then (overP t s n,0) else match afterM t s with | []=>(noP,141) | [x]=>goM t f x (n - edgeM t s.1) | _::_::_=>(noP,140)
theorem goM_in {t:Tp}{f:Nat}{s:Stp}{n:Int} (h:n≤edgeM t s.1):goM t f s n=(overP t s n,0):=by
 cases f <;> (unfold goM;rw[if_pos h])
theorem goM_end {t:Tp}{f:Nat}{s:Stp}{n:Int} (h:¬n≤edgeM t s.1) (ha:afterM t s=[]):goM t f s n=(noP,141):=by
 cases f <;> (unfold goM;rw[if_neg h,ha])
theorem goM_fork {t:Tp}{f:Nat}{s:Stp}{n:Int}{x y:Stp}{l:List Stp} (h:¬n≤edgeM t s.1) (ha:afterM t s=x::y::l):goM t f s n=(noP,140):=by
 cases f <;> (unfold goM;rw[if_neg h,ha])
theorem goM_long {t:Tp}{s:Stp}{n:Int}{x:Stp} (h:¬n≤edgeM t s.1) (ha:afterM t s=[x]):goM t 0 s n=(noP,2):=by
 unfold goM;rw[if_neg h,ha]
theorem goM_next {t:Tp}{f:Nat}{s:Stp}{n:Int}{x:Stp} (h:¬n≤edgeM t s.1) (ha:afterM t s=[x]):goM t (f+1) s n=goM t f x (n - edgeM t s.1):=by
 conv=>lhs;unfold goM
 rw[if_neg h,ha]
theorem after_there {t:Tp}{s x:Stp} (h:x∈afterM t s):thereB t.1.length x.1=true:=by
 unfold afterM at h
 split at h
 ·exact(listM_mem.1 h).1
 ·simp at h
def walkP (t:Tp) (p:Ps) (n:Int):Ps×Int:=if rightB t p=true∧0≤n∧n≤1099511627776 then goM t 40 (p.1,p.2.2) (n+alongP t p) else (noP,1)
theorem right_iff {t:Tp}{p:Ps}:rightB t p=true↔checkM t=0∧thereB t.1.length p.1=true∧0≤p.2.1∧p.2.1≤edgeM t p.1:=by
 unfold rightB;simp[and_assoc]
theorem along_in {t:Tp}{p:Ps} (h0:0≤p.2.1) (h1:p.2.1≤edgeM t p.1):0≤alongP t p∧alongP t p≤edgeM t p.1:=by unfold alongP;split <;> omega
end Go.Proofs.YtpapiojicbbheaaGreatDoor

namespace Go.Proofs.YtpapiojicbbheaaGreatDoor
open Go.RowKit
def onP (t:Tp) (path:List Stp) (p:Ps):Int×Int:=if rightB t p=true then (if (lenM t path).2=0 then (match path.findIdx? (fun s=>decide (s=(p.1,p.2.2))) with | some i=>(sumM t.1 (path.take i)+alongP t p,0) | none=>(0,4)) else (0,(lenM t path).2)) else (0,1)
theorem plainS_cons (es:List Int) (s:Stp) (l:List Stp):plainS es (s::l)=es.getD s.1.toNat 0+plainS es l:=by unfold plainS;simp
theorem check_edges {t:Tp} (h:checkM t=0):∀v∈t.1,1≤v∧v≤1000000:=by
 intro v hv
 unfold checkM at h
 split at h
 ·exact absurd h (by decide)
 split at h
 ·exact absurd h (by decide)
 rename_i h1
 rw[Bool.not_eq_true,List.any_eq_false] at h1
 have:=h1 v hv
 unfold wrongB at this
 simp at this
 omega
theorem good_of {t:Tp}{p:List Stp} (hc:checkM t=0) (h:(lenM t p).2=0):goodM t.1 p∧p≠[]∧(lenM t p).1=sumM t.1 p:=by
 have hw:=len_way h
 unfold lenM at h ⊢
 split at h
 ·exact absurd h (by decide)
 rename_i h0
 rw[if_neg h0,if_pos hw.1,if_pos hw.2]
 refine⟨⟨check_edges hc,List.all_eq_true.1 hw.1,by omega⟩,?_,rfl⟩
 rintro rfl
 exact h0 (.inl rfl)
theorem plain_step {es:List Int}{p:List Stp}{i:Nat}{s:Stp} (h:p[i]?=some s):plainS es (p.take (i+1))=plainS es (p.take i)+es.getD s.1.toNat 0:=by
 unfold plainS
 rw[List.take_add_one,h,List.map_append,List.sum_append];simp
end Go.Proofs.YtpapiojicbbheaaGreatDoor

namespace Go.Proofs.YtpapiojicbbheaaGreatDoor
open Go.RowKit
abbrev Lk:=Int×Int×Int
end Go.Proofs.YtpapiojicbbheaaGreatDoor

namespace Go.Proofs.YtpapiojicbbheaaGreatDoor
open Go.RowKit
abbrev Sc:=Int×Int
abbrev Ma:=Int×Bool×List Stp×List Sc×Int
def noMa:Ma:=(0,false,[],[],0)
def overB (p:List Stp) (e:Int):Bool:=p.any fun u=>u.1==e
def twiceAt (p:List Stp) (k:Nat):Bool:=match p[k]? with | some s=>overB (p.take k) s.1 | none=>false
def twiceB (p:List Stp):Bool:=(List.range p.length).any (twiceAt p)
theorem over_iff {p:List Stp}{e:Int}:overB p e=true↔∃u∈p,u.1=e:=by
 unfold overB
 rw[List.any_eq_true]
 simp
theorem twice_no {p:List Stp}:twiceB p=false↔onceM p:=by
 unfold twiceB onceM
 rw[List.any_eq_false]
 constructor
 ·intro h
  have key:∀(i k:Nat) (s u:Stp),i<k→p[i]?=some s→p[k]?=some u→s.1=u.1→False:=by
   intro i k s u hik hs hu he
   have h1:=h k (List.mem_range.2 (List.getElem?_eq_some_iff.1 hu).1)
   apply h1
   unfold twiceAt
   rw[hu]
   exact over_iff.2 ⟨s,by rw[List.mem_iff_getElem?];exact⟨i,by rw[List.getElem?_take,if_pos hik];exact hs⟩,he⟩
  intro i k s u hs hu he
  rcases Nat.lt_trichotomy i k with h1 | h1 | h1
  ·exact(key i k s u h1 hs hu he).elim
  ·exact h1
  ·exact(key k i u s h1 hu hs he.symm).elim
 ·intro h k hk hb
  unfold twiceAt at hb
  cases hu:p[k]? with
  | none=>rw[hu] at hb;cases hb
  | some u=>
   rw[hu] at hb
   obtain⟨s,hs,he⟩:=over_iff.1 hb
   obtain⟨i,hi⟩:=List.mem_iff_getElem?.1 hs
   rw[List.getElem?_take] at hi
   split at hi
   ·rename_i hik
    have:=h i k s u hi hu he
    omega
   ·cases hi
def leftA (t:Tp) (m:Ma):Option (Int×Int):=match balM t.2.2.1 m.1 with
  | none=>none
  | some b=>if m.2.2.1.head?=some (b.2.1,m.2.1)∧(lenM t m.2.2.1).2=0 then some ((lenM t m.2.2.1).1 - alongP t (b.2.1,b.2.2,m.2.1),alongP t (b.2.1,b.2.2,m.2.1)) else none
def endS (l:List Sc):Int:=(l.getLast?.map (·.1)).getD 0
def sectAt (l:List Sc) (k:Nat):Bool:=match l[k]? with
  | some s=>decide (endS (l.take k)<s.1)&&decide (s.1≤1099511627776)&&decide (1≤s.2)&&decide (s.2≤1000)
  | none=>true
def sectsB (l:List Sc):Bool:=(List.range l.length).all (sectAt l)
def fitsB (t:Tp) (m:Ma):Bool:=match leftA t m with | some z=>decide (endS m.2.2.2.1+m.2.2.2.2≤z.1) | none=>false
def mayMA (t:Tp) (m:Ma):Bool:=decide (checkM t=0)&&decide (m.2.2.1.length≤24)&&!twiceB m.2.2.1&&decide (1≤m.2.2.2.1.length)&&decide (m.2.2.2.1.length≤8)&&decide (0≤m.2.2.2.2)&&decide (m.2.2.2.2≤1099511627776)&&sectsB m.2.2.2.1&&fitsB t m
def reachM (l:List Sc) (age:Int):Int:=endS (l.takeWhile fun s=>decide (age<s.2))
theorem endS_nil:endS []=0:=rfl
theorem endS_app (l:List Sc) (s:Sc):endS (l++[s])=s.1:=by unfold endS;simp
theorem endS_take {l:List Sc}{k:Nat}{s:Sc} (h:l[k]?=some s):endS (l.take (k+1))=s.1:=by
 rw[List.take_add_one,h]
 exact endS_app _ _
structure SectsI (l:List Sc):Prop where
  up:∀k s,l[k]?=some s→endS (l.take k)<s.1
  big:∀s∈l,s.1≤1099511627776
  time:∀s∈l,1≤s.2∧s.2≤1000
theorem sects_iff {l:List Sc}:sectsB l=true↔SectsI l:=by
 unfold sectsB
 rw[List.all_eq_true]
 constructor
 ·intro h
  have key:∀k s,l[k]?=some s→(endS (l.take k)<s.1∧s.1≤1099511627776∧1≤s.2∧s.2≤1000):=by
   intro k s hs
   have h1:=h k (List.mem_range.2 (List.getElem?_eq_some_iff.1 hs).1)
   unfold sectAt at h1
   rw[hs] at h1
   simpa[and_assoc] using h1
  refine⟨fun k s hs=>(key k s hs).1,fun s hs=>?_,fun s hs=>?_⟩
  ·obtain⟨k,hk⟩:=List.mem_iff_getElem?.1 hs;exact(key k s hk).2.1
  ·obtain⟨k,hk⟩:=List.mem_iff_getElem?.1 hs;exact(key k s hk).2.2
 ·intro h k hk
  unfold sectAt
  cases hs:l[k]? with
  | none=>rfl
  | some s=>
   have a1:=h.up k s hs
   have a2:=h.big s (List.mem_of_getElem? hs)
   have a3:=h.time s (List.mem_of_getElem? hs)
   simp[a1,a2,a3.1,a3.2]
theorem SectsI.mono {l:List Sc} (h:SectsI l) {i:Nat}:∀{j:Nat},i≤j→j≤l.length→endS (l.take i)≤endS (l.take j):=by
 intro j
 induction j with
 | zero=>intro h1 _;rw[show i=0 by omega];exact Int.le_refl _
 | succ j ih=>
  intro h1 h2
  by_cases e:i=j+1
  ·rw[e];exact Int.le_refl _
  ·have hs:l[j]?=some l[j]:=List.getElem?_eq_getElem (by omega)
   have a1:=ih (by omega) (by omega)
   have a2:=h.up j _ hs
   rw[endS_take hs]
   omega
theorem SectsI.pos {l:List Sc} (h:SectsI l) {j:Nat} (hj:j≤l.length):0≤endS (l.take j):=by
 have:=h.mono (i:=0) (Nat.zero_le j) hj
 simpa[endS_nil] using this
theorem while_take {α:Type} (p:α→Bool) (l:List α):l.takeWhile p=l.take (l.takeWhile p).length:=(List.prefix_iff_eq_take.1 (List.takeWhile_prefix p))
theorem while_len {α:Type} (p:α→Bool) (l:List α):(l.takeWhile p).length≤l.length:=(List.takeWhile_prefix p).length_le
theorem while_in {α:Type}{p:α→Bool}:∀{l:List α}{k:Nat}{x:α},k<(l.takeWhile p).length→l[k]?=some x→p x=true
  | [],k,x,h,_=>by simp at h
  | y::l,k,x,h,hx=>by
   rw[List.takeWhile_cons] at h
   cases hp:p y with
   | false=>rw[hp] at h;simp at h
   | true=>
    rw[hp] at h
    cases k with
    | zero=>simp at hx;rw[←hx];exact hp
    | succ k=>simp at hx h;exact while_in h hx
theorem while_stop {α:Type}{p:α→Bool}:∀{l:List α}{x:α},l[(l.takeWhile p).length]?=some x→p x=false
  | [],x,hx=>by simp at hx
  | y::l,x,hx=>by
   rw[List.takeWhile_cons] at hx
   cases hp:p y with
   | false=>rw[hp] at hx;simp at hx;rw[←hx];exact hp
   | true=>rw[hp] at hx;simp at hx;exact while_stop hx
theorem while_is {α:Type}{p:α→Bool}{l:List α}{j:Nat} (h1:∀k x,k<j→l[k]?=some x→p x=true) (h2:∀x,l[j]?=some x→p x=false) (hj:j≤l.length):(l.takeWhile p).length=j:=by
 have hl:=while_len p l
 rcases Nat.lt_trichotomy (l.takeWhile p).length j with h | h | h
 ·have hx:l[(l.takeWhile p).length]?=some l[(l.takeWhile p).length]:=List.getElem?_eq_getElem (by omega)
  have:=while_stop hx
  rw[h1 _ _ h hx] at this
  cases this
 ·exact h
 ·have hx:l[j]?=some l[j]:=List.getElem?_eq_getElem (by omega)
  have:=while_in h hx
  rw[h2 _ hx] at this
  cases this
theorem reach_take (l:List Sc) (age:Int):reachM l age=endS (l.take (l.takeWhile fun s=>decide (age<s.2)).length):=by
 unfold reachM
 conv=>lhs;rw[while_take]
theorem endS_all {l:List Sc}:endS l=endS (l.take l.length):=by rw[List.take_length]
structure MayA (t:Tp) (m:Ma) (z:Int×Int):Prop where
  chk:checkM t=0
  few:m.2.2.1.length≤24
  once:onceM m.2.2.1
  some_:1≤m.2.2.2.1.length
  eight:m.2.2.2.1.length≤8
  gap0:0≤m.2.2.2.2
  gap1:m.2.2.2.2≤1099511627776
  sects:SectsI m.2.2.2.1
  left:leftA t m=some z
  fits:endS m.2.2.2.1+m.2.2.2.2≤z.1
theorem may_iff {t:Tp}{m:Ma}:mayMA t m=true↔∃z,MayA t m z:=by
 unfold mayMA fitsB
 simp only[Bool.and_eq_true,decide_eq_true_eq,Bool.not_eq_true',twice_no,sects_iff]
 constructor
 ·rintro⟨⟨⟨⟨⟨⟨⟨⟨h1,h2⟩,h3⟩,h4⟩,h5⟩,h6⟩,h7⟩,h8⟩,h9⟩
  cases hl:leftA t m with
  | none=>rw[hl] at h9;cases h9
  | some z=>rw[hl] at h9;exact⟨z,h1,h2,h3,h4,h5,h6,h7,h8,hl,by simpa using h9⟩
 ·rintro⟨z,h1,h2,h3,h4,h5,h6,h7,h8,h9,h10⟩
  exact⟨⟨⟨⟨⟨⟨⟨⟨h1,h2⟩,h3⟩,h4⟩,h5⟩,h6⟩,h7⟩,h8⟩,by rw[h9];simpa using h10⟩
theorem left_some {t:Tp}{m:Ma}{z:Int×Int} (h:leftA t m=some z):∃b,balM t.2.2.1 m.1=some b∧m.2.2.1.head?=some (b.2.1,m.2.1)∧(lenM t m.2.2.1).2=0∧z=((lenM t m.2.2.1).1 - alongP t (b.2.1,b.2.2,m.2.1),alongP t (b.2.1,b.2.2,m.2.1)):=by
 unfold leftA at h
 cases hb:balM t.2.2.1 m.1 with
 | none=>rw[hb] at h;cases h
 | some b=>
  rw[hb] at h
  simp only at h
  split at h
  ·rename_i h1
   injection h with h
   exact⟨b,rfl,h1.1,h1.2,h.symm⟩
  ·cases h
end Go.Proofs.YtpapiojicbbheaaGreatDoor

namespace Go.Proofs.YtpapiojicbbheaaGreatDoor
open Go.RowKit
def nextK (t:Tp) (train:Int) (out:List Lk) (may:Rt→Bool) (k:Lk):Option (Lk×Rt):=match rtM t.2.2.2 k.1 with
  | some r=>if (k.2.1==train&&!(out.contains k)&&may r)=true then some (k,r) else none
  | none=>none
def hasB (s:Stp) (r:Rt):Bool:=r.2.1.contains s
def followsB (t:Tp) (gone:List Stp) (r:Rt):Bool:=match gone.getLast?,r.2.1.head? with
  | some g,some h=>(afterM t g).contains h&&!(r.2.1.any fun u=>overB gone u.1)
  | _,_=>false
def chainK (t:Tp) (l:List Lk) (train:Int):Nat→List Lk→List Stp→List Lk×List Stp
  | 0,out,gone=>(out,gone)
  | f+1,out,gone=>match l.findSome? (nextK t train out (followsB t gone)) with
    | none=>(out,gone)
    | some z=>chainK t l train f (out++[z.1]) (gone++z.2.2.1)
def chainM (t:Tp) (l:List Lk) (train:Int) (s:Stp):List Lk:=if checkM t=0 then (match l.findSome? (nextK t train [] (hasB s)) with
  | none=>[]
  | some z=>(chainK t l train 7 [z.1] z.2.2.1).1) else []
theorem nextK_some {t:Tp}{train:Int}{out:List Lk}{may:Rt→Bool}{k:Lk}{z:Lk×Rt} (h:nextK t train out may k=some z):z.1=k∧rtM t.2.2.2 k.1=some z.2∧k.2.1=train∧k∉out∧may z.2=true:=by
 unfold nextK at h
 cases hr:rtM t.2.2.2 k.1 with
 | none=>rw[hr] at h;cases h
 | some r=>
  rw[hr] at h
  simp only at h
  split at h
  ·rename_i hc
   injection h with h
   subst h
   simp only[Bool.and_eq_true,beq_iff_eq,Bool.not_eq_true',List.contains_eq_mem,decide_eq_false_iff_not] at hc
   exact⟨rfl,rfl,hc.1.1,hc.1.2,hc.2⟩
  ·cases h
structure ChI (t:Tp) (l:List Lk) (train:Int) (s:Stp) (out:List Lk) (gone:List Stp):Prop where
  way:∀i k,out[i]?=some k→∃r,rtM t.2.2.2 k.1=some r∧k∈l∧k.2.1=train∧k∉out.take i∧(i=0→hasB s r=true)∧(0<i→followsB t ((out.take i).flatMap fun k=>((rtM t.2.2.2 k.1).map (·.2.1)).getD []) r=true)
  gone_:gone=out.flatMap fun k=>((rtM t.2.2.2 k.1).map (·.2.1)).getD []
theorem ChI.next {t:Tp}{l:List Lk}{train:Int}{s:Stp}{out:List Lk}{gone:List Stp} (h:ChI t l train s out gone) (h0:out≠[]) {z:Lk×Rt} (hz:l.findSome? (nextK t train out (followsB t gone))=some z):ChI t l train s (out++[z.1]) (gone++z.2.2.1):=by
 obtain⟨k,hk,hz⟩:=List.exists_of_findSome?_eq_some hz
 obtain⟨h1,h2,h3,h4,h5⟩:=nextK_some hz
 refine⟨fun i k' hk'=>?_,?_⟩
 ·by_cases hi:i<out.length
  ·rw[List.getElem?_append_left hi] at hk'
   rw[List.take_append_of_le_length (by omega)]
   exact h.way i k' hk'
  ·have hi2:i=out.length:=by
    have:=(List.getElem?_eq_some_iff.1 hk').1
    rw[List.length_append] at this
    simp at this
    omega
   subst hi2
   rw[List.getElem?_append_right (Nat.le_refl _)] at hk'
   simp at hk'
   subst hk'
   rw[List.take_append_of_le_length (Nat.le_refl _),List.take_length,h1]
   refine⟨z.2,h2,hk,h3,h4,fun e=>?_,fun _=>by rw[←h.gone_];exact h5⟩
   exact absurd (List.eq_nil_of_length_eq_zero e) h0
 ·rw[List.flatMap_append,←h.gone_,h1]
  simp[h2]
theorem ChI.loop {t:Tp}{l:List Lk}{train:Int}{s:Stp}:∀{f:Nat}{out:List Lk}{gone:List Stp},ChI t l train s out gone→out≠[]→ChI t l train s (chainK t l train f out gone).1 (chainK t l train f out gone).2∧(chainK t l train f out gone).1.length≤out.length+f
  | 0,out,gone,h,_=>⟨h,Nat.le_refl _⟩
  | f+1,out,gone,h,h0=>by
   unfold chainK
   cases hz:l.findSome? (nextK t train out (followsB t gone)) with
   | none=>exact⟨h,by simp only;omega⟩
   | some z=>
    simp only
    have h1:=h.next h0 hz
    obtain⟨a,b⟩:=ChI.loop (f:=f) h1 (by simp)
    refine⟨a,?_⟩
    rw[List.length_append] at b
    simp at b
    omega
theorem chain_good {t:Tp}{l:List Lk}{train:Int}{s:Stp}:∃gone,ChI t l train s (chainM t l train s) gone∧(chainM t l train s).length≤8∧(chainM t l train s≠[]→checkM t=0):=by
 unfold chainM
 split
 ·rename_i hc
  cases hz:l.findSome? (nextK t train [] (hasB s)) with
  | none=>exact⟨[],⟨fun i k h=>by simp at h,rfl⟩,by simp,fun h=>absurd rfl h⟩
  | some z=>
   simp only
   obtain⟨k,hk,hz⟩:=List.exists_of_findSome?_eq_some hz
   obtain⟨h1,h2,h3,h4,h5⟩:=nextK_some hz
   have h:ChI t l train s [z.1] z.2.2.1:=by
    refine⟨fun i k' hk'=>?_,?_⟩
    ·cases i with
     | zero=>
      simp at hk'
      subst hk'
      rw[h1]
      exact⟨z.2,h2,hk,h3,by simp,fun _=>h5,fun h=>absurd h (by omega)⟩
     | succ i=>simp at hk'
    ·rw[h1];simp[h2]
   obtain⟨a,b⟩:=ChI.loop (f:=7) h (by simp)
   exact⟨_,a,by simpa using b,fun _=>hc⟩
 ·exact⟨[],⟨fun i k h=>by simp at h,rfl⟩,by simp,fun h=>absurd rfl h⟩
end Go.Proofs.YtpapiojicbbheaaGreatDoor

namespace Go.Proofs.YtpapiojicbbheaaGreatDoor
open Go.RowKit
theorem MayA.place {t:Tp}{m:Ma}{z:Int×Int} (h:MayA t m z):∃b,balM t.2.2.1 m.1=some b∧(lenM t m.2.2.1).2=0∧z=((lenM t m.2.2.1).1 - alongP t (b.2.1,b.2.2,m.2.1),alongP t (b.2.1,b.2.2,m.2.1))∧goodM t.1 m.2.2.1∧(lenM t m.2.2.1).1=sumM t.1 m.2.2.1:=by
 obtain⟨b,h1,h2,h3,h4⟩:=left_some h.left
 obtain⟨g1,g2,g3⟩:=good_of h.chk h3
 exact⟨b,h1,h3,h4,g1,g3⟩
end Go.Proofs.YtpapiojicbbheaaGreatDoor

namespace Go.Proofs.YtpapiojicbbheaaGreatDoor
open Go.RowKit
theorem check_bal {t:Tp} (h:checkM t=0) {b:Bl} (hb:b∈t.2.2.1):0≤b.1∧b.1≤16777214∧thereB t.1.length b.2.1=true∧0≤b.2.2∧b.2.2≤edgeM t b.2.1:=by
 have h0:firstE (bErr t) t.2.2.1.length=0:=by
  unfold checkM at h
  split at h
  ·exact absurd h (by decide)
  split at h
  ·exact absurd h (by decide)
  split at h
  ·rename_i h3;exact absurd h h3
  split at h
  ·rename_i h3;exact absurd h h3
  rename_i h3
  simpa using h3
 obtain⟨i,hi⟩:=List.mem_iff_getElem?.1 hb
 have h1:=firstE_all h0 i (List.getElem?_eq_some_iff.1 hi).1
 unfold bErr at h1
 rw[hi] at h1
 simp only at h1
 split at h1
 ·exact absurd h1 (by decide)
 rename_i h2
 have h3:thereB t.1.length b.2.1=true:=by
  cases h4:thereB t.1.length b.2.1 with
  | true=>rfl
  | false=>exact absurd (.inr (.inr (.inl h4))) h2
 refine⟨by omega,by omega,h3,by omega,?_⟩
 unfold edgeM
 omega
theorem bal_mem {l:List Bl}{id:Int}{b:Bl} (h:balM l id=some b):b∈l∧b.1=id:=by
 unfold balM at h
 exact⟨List.mem_of_find?_eq_some h,by simpa using List.find?_some h⟩
theorem MayA.behind {t:Tp}{m:Ma}{z:Int×Int} (h:MayA t m z):0≤z.2:=by
 obtain⟨b,h1,h2,h3,h4⟩:=left_some h.left
 obtain⟨c1,c2,c3,c4,c5⟩:=check_bal h.chk (bal_mem h1).1
 rw[h4]
 exact(along_in (t:=t) (p:=(b.2.1,b.2.2,m.2.1)) c4 c5).1
def goneM (t:Tp):Nat→Stp→Int→List Stp
  | 0,s,_=>[s]
  | f+1,s,n=>if n≤edgeM t s.1 then [s] else match afterM t s with
    | [x]=>s::goneM t f x (n - edgeM t s.1)
    | _=>[s]
theorem gone_in {t:Tp}{f:Nat}{s:Stp}{n:Int} (h:n≤edgeM t s.1):goneM t f s n=[s]:=by
 cases f <;> unfold goneM
 ·rfl
 ·rw[if_pos h]
theorem gone_next {t:Tp}{f:Nat}{s x:Stp}{n:Int} (h:¬n≤edgeM t s.1) (ha:afterM t s=[x]):goneM t (f+1) s n=s::goneM t f x (n - edgeM t s.1):=by
 conv=>lhs;unfold goneM
 rw[if_neg h,ha]
theorem go_on {t:Tp}{f:Nat}{s:Stp}{n:Int} (h:(goM t f s n).2=0) (hn:¬n≤edgeM t s.1):∃g x,f=g+1∧afterM t s=[x]∧(goM t g x (n - edgeM t s.1)).2=0:=by
 cases f with
 | zero=>
  rcases ha:afterM t s with _ | ⟨x,_ | ⟨y,l⟩⟩
  ·rw[goM_end hn ha] at h;exact absurd h (by decide)
  ·rw[goM_long hn ha] at h;exact absurd h (by decide)
  ·rw[goM_fork hn ha] at h;exact absurd h (by decide)
 | succ f=>
  rcases ha:afterM t s with _ | ⟨x,_ | ⟨y,l⟩⟩
  ·rw[goM_end hn ha] at h;exact absurd h (by decide)
  ·rw[goM_next hn ha] at h;exact⟨f,x,rfl,rfl,h⟩
  ·rw[goM_fork hn ha] at h;exact absurd h (by decide)
structure GoneI (t:Tp) (f:Nat) (s:Stp) (n:Int):Prop where
  few:(goneM t f s n).length≤f+1
  head:(goneM t f s n).head?=some s
  in_:∀u∈goneM t f s n,thereB t.1.length u.1=true
  aft:∀k a b,(goneM t f s n)[k]?=some a→(goneM t f s n)[k+1]?=some b→afterM t a=[b]
  last:(goneM t f s n).getLast?=some ((goM t f s n).1.1,(goM t f s n).1.2.2)
  at_:n=plainS t.1 (goneM t f s n) - edgeM t (goM t f s n).1.1+alongP t (goM t f s n).1
theorem gone_good {t:Tp}:∀{f:Nat}{s:Stp}{n:Int},thereB t.1.length s.1=true→(goM t f s n).2=0→GoneI t f s n:=by
 intro f
 induction f with
 | zero=>
  intro s n hs h
  by_cases hn:n≤edgeM t s.1
  ·have e1:=gone_in (t:=t) (f:=0) hn
   have e2:=goM_in (t:=t) (f:=0) hn
   refine⟨by rw[e1];simp,by rw[e1];rfl,by rw[e1];simpa using hs,by rw[e1];intro k a b ha hb;simp at hb,by rw[e1,e2];rfl,?_⟩
   rw[e1,e2]
   simp only
   rw[along_over]
   unfold plainS overP edgeM
   simp
  ·obtain⟨g,x,h1,_⟩:=go_on h hn
   omega
 | succ f ih=>
  intro s n hs h
  by_cases hn:n≤edgeM t s.1
  ·have e1:=gone_in (t:=t) (f:=f+1) hn
   have e2:=goM_in (t:=t) (f:=f+1) hn
   refine⟨by rw[e1];simp,by rw[e1];rfl,by rw[e1];simpa using hs,by rw[e1];intro k a b ha hb;simp at hb,by rw[e1,e2];rfl,?_⟩
   rw[e1,e2]
   simp only
   rw[along_over]
   unfold plainS overP edgeM
   simp
  ·obtain⟨g,x,h1,h2,h3⟩:=go_on h hn
   obtain rfl:f=g:=by omega
   have i:=ih (after_there (t:=t) (s:=s) (x:=x) (by rw[h2];simp)) h3
   have e1:=gone_next (f:=f) hn h2
   have e2:=goM_next (f:=f) hn h2
   refine⟨by rw[e1];have:=i.few;simp;omega,by rw[e1];rfl,by rw[e1];intro u hu;rcases List.mem_cons.1 hu with rfl | hu;exact hs;exact i.in_ u hu,?_,?_,?_⟩
   ·rw[e1]
    intro k a b ha hb
    cases k with
    | zero=>
     have hh:=i.head
     rw[List.head?_eq_getElem?] at hh
     simp only[List.getElem?_cons_zero,Option.some.injEq] at ha
     simp only[List.getElem?_cons_succ] at hb
     rw[hh] at hb
     injection hb with hb
     rw[←ha,←hb,h2]
    | succ k=>
     simp only[List.getElem?_cons_succ] at ha hb
     exact i.aft k a b ha hb
   ·rw[e1,e2,List.getLast?_cons,i.last]
    rfl
   ·rw[e1,e2,plainS_cons]
    have:=i.at_
    have e3:t.1.getD s.1.toNat 0=edgeM t s.1:=rfl
    rw[e3]
    omega
def routeOf (t:Tp) (k:Lk):Rt:=(rtM t.2.2.2 k.1).getD (0,[],0,0)
def partC (t:Tp) (s:Stp) (i:Nat) (k:Lk):List Stp:=if i=0 then (routeOf t k).2.1.drop ((routeOf t k).2.1.idxOf s+1) else (routeOf t k).2.1
def wayC (t:Tp) (s:Stp) (g:List Stp) (c:List Lk):Nat→List Stp
  | 0=>g
  | i+1=>wayC t s g c i++(match c[i]? with | some k=>partC t s i k | none=>[])
def secC (t:Tp) (s:Stp) (g:List Stp) (back:Int) (c:List Lk):Nat→List Sc
  | 0=>[]
  | i+1=>secC t s g back c i++(match c[i]? with | some k=>[(plainS t.1 (wayC t s g c (i+1)) - back,(routeOf t k).2.2.2)] | none=>[])
def gapC (t:Tp) (c:List Lk):Nat→Int
  | 0=>0
  | i+1=>match c[i]? with | some k=>(routeOf t k).2.2.1 | none=>0
def lessS (l:List Sc) (g:Int):List Sc:=match l.getLast? with | some x=>l.dropLast++[(x.1 - g,x.2)] | none=>[]
def endC (ref:Int) (rev:Bool) (n:Int) (P:List Stp) (S:List Sc) (gap:Int):Ma×Int:=
  if 24<P.length∨twiceB P=true then (noMa,2)
  else if endS S≤n∨(1<S.length∧endS S≤endS S.dropLast) then (noMa,141)
  else match S with
    | []=>(noMa,1)
    | x::S'=>if x.1=0 then ((ref,rev,P,S',gap),0) else ((ref,rev,P,x::S',gap),0)
end Go.Proofs.YtpapiojicbbheaaGreatDoor

namespace Go.Proofs.YtpapiojicbbheaaGreatDoor
open Go.RowKit
def unitM (s:Int):Int:=if s=0 then 1 else if s=1 then 10 else if s=2 then 100 else 0
def dmM (n s:Int):Int×Int:=if unitM s=0 then (0,1) else if n<0∨32766<n then (0,7) else (n*unitM s,0)
def raiseM (d s:Int) (up:Bool):Int:=if up=true then d+(unitM s - 1) else d
def scaledM (d s:Int) (up:Bool):Int×Int:=if unitM s=0 then (0,1) else if d<0∨1099511627776<d then (0,7) else if 32766<raiseM d s up / unitM s then (0,7) else (raiseM d s up / unitM s,0)
def bestM (d:Int):Int:=if (scaledM d 0 true).2=0 then 0 else if (scaledM d 1 true).2=0 then 1 else if (scaledM d 2 true).2=0 then 2 else -1
theorem unit_range (s:Int):0≤unitM s∧unitM s≤100:=by unfold unitM;split;omega;split;omega;split <;> omega
theorem scaled_ok {d s:Int}{up:Bool} (h:(scaledM d s up).2=0):0<unitM s∧0≤d∧d≤1099511627776∧(scaledM d s up).1=raiseM d s up / unitM s∧(scaledM d s up).1≤32766∧0≤(scaledM d s up).1:=by
 have hu:=unit_range s
 unfold scaledM at h ⊢
 split at h
 ·exact absurd h (by decide)
 rename_i h1
 split at h
 ·exact absurd h (by decide)
 rename_i h2
 split at h
 ·exact absurd h (by decide)
 rename_i h3
 rw[if_neg h1,if_neg h2,if_neg h3]
 have h4:0<unitM s:=by omega
 have h5:0≤raiseM d s up:=by unfold raiseM;split <;> omega
 exact⟨h4,by omega,by omega,rfl,by simp only;omega,Int.ediv_nonneg h5 (by omega)⟩
theorem best_ok {d:Int} (h:0≤bestM d):(scaledM d (bestM d) true).2=0∧bestM d≤2:=by
 unfold bestM at h ⊢
 split
 ·exact⟨by assumption,by omega⟩
 ·split
  ·exact⟨by assumption,by omega⟩
  ·split
   ·exact⟨by assumption,by omega⟩
   ·rename_i h1 h2 h3
    rw[if_neg h1,if_neg h2,if_neg h3] at h
    exact absurd h (by decide)
theorem scaled_less {d e s:Int} (h:(scaledM d s true).2=0) (h0:0≤e) (h1:e≤d):(scaledM e s false).2=0∧(scaledM e s false).1=e / unitM s:=by
 obtain⟨g1,g2,g3,g4,g5,g6⟩:=scaled_ok h
 have hle:e / unitM s≤32766:=by
  have h2:e / unitM s≤raiseM d s true / unitM s:=Int.ediv_le_ediv g1 (by unfold raiseM;rw[if_pos rfl];omega)
  omega
 unfold scaledM
 rw[if_neg (by omega),if_neg (by omega)]
 have:raiseM e s false=e:=rfl
 rw[this,if_neg (by omega)]
 exact⟨rfl,rfl⟩
end Go.Proofs.YtpapiojicbbheaaGreatDoor

namespace Go.Proofs.YtpapiojicbbheaaGreatDoor
open Go.RowKit
def nomI (rev:Bool):Int:=if rev=true then 0 else 1
def secN (u:Int):Int→List Sc→Option (List Int)
  | _,[]=>some []
  | last,s::l=>if (scaledM s.1 u false).2≠0∨(scaledM s.1 u false).1≤last then none else (secN u (scaledM s.1 u false).1 l).map fun v=>((scaledM s.1 u false).1 - last)::1::s.2::0::v
def gapN (u g:Int):List Int:=if 0<(scaledM g u false).1 then [1,(scaledM g u false).1,0,0] else [0,0]
def firstB (t:Tp) (e:Int):Option Bl:=t.2.2.1.find? fun b=>b.2.1==e
def linkN (t:Tp) (u:Int) (n:Nat):Nat→Int→Int→List Stp→Except Int (List Int)
  | _,_,_,[]=>.ok []
  | i,begin,at_,s::l=>match firstB t s.1 with
    | none=>.error 1
    | some b=>
     let here:=begin+alongP t (b.2.1,b.2.2,s.2)
     if (scaledM (here - at_) u false).2≠0 then .error (scaledM (here - at_) u false).2 else
     match linkN t u n (i+1) (begin+edgeM t s.1) here l with
     | .error e=>.error e
     | .ok v=>.ok ((if i=2 then [(n:Int) - 2] else [])++[(scaledM (here - at_) u false).1,1,b.1 / 16384,b.1 % 16384,nomI s.2,2,12]++v)
def packsM17 (t:Tp) (m:Ma):Except Int (List (Int×List Int)):=
  if mayMA t m=false then .error 1 else
  let u:=bestM (endS m.2.2.2.1+m.2.2.2.2)
  if u<0 then .error 7 else
  match secN u 0 m.2.2.2.1 with
  | none=>.error 7
  | some v=>
   let p15:Int×List Int:=(15,[nomI m.2.1,u,0,0,(m.2.2.2.1.length:Int) - 1]++v++[0]++gapN u m.2.2.2.2)
   match m.2.2.1,balM t.2.2.1 m.1 with
   | s0::s1::l,some b=>match linkN t u m.2.2.1.length 1 (edgeM t s0.1) (alongP t (b.2.1,b.2.2,m.2.1)) (s1::l) with
     | .error e=>.error e
     | .ok w=>.ok [p15,(5,[nomI m.2.1,u]++w++(if l=[] then [0] else []))]
   | _,_=>.ok [p15]
def failR (e x:Int):Int:=if e=0 then x else e
def farR (u:Int) (v:List Int) (e:Int):Int×List Int×Int:=((dmM (v.headD 0) u).1,v.tail,if (dmM (v.headD 0) u).2≠0 then failR e 7 else e)
structure SecO where
  s:Sc
  v:List Int
  e:Int
def sectR (u from_:Int) (v:List Int) (e:Int):SecO:=
  let raw:=v.headD 0
  let timed:=decide (v.tail.headD 0=1)
  let timer:=if timed=true then v.tail.tail.headD 0 else 0
  let v':=if timed=true then v.tail.tail.tail.tail else v.tail.tail
  let e1:=if timed=false∨timer<1∨1000<timer∨raw=0 then failR e 20 else e
  let e2:=if (dmM raw u).2≠0 then failR e1 7 else e1
  ⟨(from_+(dmM raw u).1,timer),v',e2⟩
def sectsR (u:Int):Nat→Int→List Int→Except Int (List Sc×List Int)
  | 0,_,v=>.ok ([],v)
  | k+1,at_,v=>if (sectR u at_ v 0).e≠0 then .error (sectR u at_ v 0).e else
    match sectsR u k (sectR u at_ v 0).s.1 (sectR u at_ v 0).v with
    | .error e=>.error e
    | .ok (l,w)=>.ok ((sectR u at_ v 0).s::l,w)
def gapR (u:Int) (v:List Int):Int×Int:=
  let v1:=if v.headD 0=1 then v.tail.tail.tail else v.tail
  if v1.headD 0=1 then ((dmM (v1.tail.headD 0) u).1,if (dmM (v1.tail.headD 0) u).2≠0 then 7 else 0) else (0,0)
def secs3 (u:Int) (z:List Sc×List Int):Except Int (List Sc×Int):=if (gapR u z.2).2≠0 then .error (gapR u z.2).2 else .ok (z.1,(gapR u z.2).1)
def secs4 (u:Int) (r:Except Int (List Sc×List Int)):Except Int (List Sc×Int):=match r with
  | .error e=>.error e
  | .ok z=>secs3 u z
def secs2 (u many:Int) (v:List Int):Except Int (List Sc×Int):=if 8≤many then .error 2 else secs4 u (sectsR u (many+1).toNat 0 v)
def secsM (rev:Bool) (v:List Int):Except Int (List Sc×Int):=
  if v.headD 0≠nomI rev then .error 20 else secs2 (v.tail.headD 0) (v.tail.tail.tail.tail.headD 0) v.tail.tail.tail.tail.tail
def orV (a b:Int):Int:=bits .or .i64 a b
def idL (v:List Int):Int:=orV (v.getD 2 0*16384) (v.getD 3 0)
def stepL (t:Tp) (path:List Stp) (v:List Int):Except Int (List Stp):=match balM t.2.2.1 (idL v),path.getLast? with
  | none,_=>.error 4
  | _,none=>.error 4
  | some b,some last=>if b.2.1=last.1 then .ok path else
    if (afterM t last).contains (b.2.1,decide (v.getD 4 0=0))=false then .error 141 else
    if overB path b.2.1=true∨path.length=24 then .error 2 else .ok (path++[(b.2.1,decide (v.getD 4 0=0))])
def linksR (t:Tp):Nat→List Stp→List Int→Except Int (List Stp)
  | 0,path,_=>.ok path
  | k+1,path,v=>if v.getD 1 0≠1 then .error 20 else match stepL t path v with
    | .error e=>.error e
    | .ok p=>linksR t k p (v.drop 7)
def linkedR (t:Tp) (path:List Stp) (v:List Int):Except Int (List Stp):=
  if (v.drop 2).getD 1 0≠1 then .error 20 else match stepL t path (v.drop 2) with
  | .error e=>.error e
  | .ok p=>linksR t ((v.drop 2).getD 7 0).toNat p ((v.drop 2).drop 8)
abbrev Pk:=Int×List Int
def wayR (t:Tp) (s:Stp) (l:List Pk):Except Int (List Stp):=match l.find? (fun p=>p.1==5) with
  | none=>.ok [s]
  | some p=>linkedR t [s] p.2
def headId (l:List Pk):Int:=match l with | []=>0 | p::_=>p.1
def headV (l:List Pk):List Int:=match l with | []=>[] | p::_=>p.2
def readM (bad:Pk→Bool) (t:Tp) (ref:Int) (rev:Bool) (l:List Pk):Ma×Int:=
  if checkM t≠0 then (noMa,1) else match balM t.2.2.1 ref with
  | none=>(noMa,4)
  | some b=>if headId l≠15∨l.any bad=true then (noMa,50) else
    match secsM rev (headV l) with
    | .error e=>(noMa,e)
    | .ok z=>match wayR t (b.2.1,rev) l with
      | .error e=>(noMa,e)
      | .ok P=>if mayMA t (ref,rev,P,z.1,z.2)=true then ((ref,rev,P,z.1,z.2),0) else (noMa,7)
end Go.Proofs.YtpapiojicbbheaaGreatDoor

namespace Go.Proofs.YtpapiojicbbheaaGreatDoor
open Go.RowKit
theorem ret_int {k:IntKind}{a b:Int} (h:a=b):Ending.returned (.int k a)=.returned (.int k b):=by rw[h]
theorem pow_pos' (k:Nat):1≤((2 ^ k:Nat):Int):=by
 have:=Nat.one_le_two_pow (n:=k);omega
theorem pow_le32 {k:Nat} (hk:k≤32):((2 ^ k:Nat):Int)≤4294967296:=by
 have:2 ^ k≤2 ^ 32:=Nat.pow_le_pow_right (by omega) hk
 have h:(2:Nat) ^ 32=4294967296:=by decide
 omega
def numOf (l:List Bool):Nat:=l.foldl (fun a b=>2*a+b.toNat) 0
theorem numOf_snoc (l:List Bool) (b:Bool):numOf (l++[b])=2*numOf l+b.toNat:=by simp[numOf]
theorem numOf_lt_from (l:List Bool):∀a:Nat,l.foldl (fun a b=>2*a+b.toNat) a<(a+1)*2 ^ l.length:=by
 induction l with
 | nil=>intro a;simp
 | cons b l ih=>
  intro a
  have h:=ih (2*a+b.toNat)
  have hb:b.toNat≤1:=by cases b <;> simp
  have h2:(2*a+b.toNat+1)*2 ^ l.length≤((a+1)*2)*2 ^ l.length:=Nat.mul_le_mul_right _ (by omega)
  simp only[List.foldl_cons,List.length_cons,Nat.pow_succ]
  rw[Nat.mul_comm (2 ^ l.length) 2,←Nat.mul_assoc]
  omega
theorem numOf_lt (l:List Bool):numOf l<2 ^ l.length:=by
 have:=numOf_lt_from l 0
 simpa[numOf] using this
def bitAt (l:List Bool) (i:Nat):Bool:=l[i]?.getD false
def getN (l:List Bool) (width:Int):Int:=if width<1∨32<width∨(l.length:Int)<width then 0 else numOf (l.take width.toNat)
def getL (l:List Bool) (width:Int):List Bool:=if width<1∨32<width∨(l.length:Int)<width then l else l.drop width.toNat
def getE (len:Nat) (width:Int):Int:=if width<1∨32<width then 1 else if (len:Int)<width then 10 else 0
theorem numOf_le32 (l:List Bool) {k:Nat} (hk:k≤32) (h:l.length≤k):numOf l≤4294967295:=by
 have h1:=numOf_lt l
 have h2:2 ^ l.length≤2 ^ 32:=Nat.pow_le_pow_right (by omega) (by omega)
 have h3:(2:Nat) ^ 32=4294967296:=by decide
 omega
theorem take_bit (l:List Bool) (k:Nat) (h:k<l.length):l.take (k+1)=l.take k++[bitAt l k]:=by
 rw[List.take_succ_eq_append_getElem h]
 simp[bitAt,h]
theorem shift_nat (x k:Nat):(x:Int) / 2 ^ k=((x / 2 ^ k:Nat):Int):=by
 rw[Int.natCast_ediv,Int.natCast_pow];rfl
theorem shift_big {x k:Nat} (h:2 ^ k≤x):((x:Int) / 2 ^ k != 0)=true:=by
 have:=Nat.div_pos h (Nat.two_pow_pos k)
 rw[shift_nat,bne_iff_ne];omega
theorem shift_small {x k:Nat} (h:x<2 ^ k):((x:Int) / 2 ^ k != 0)=false:=by
 have:=Nat.div_eq_of_lt h
 rw[shift_nat,this];rfl
theorem wraps_i64 (n:Int) (h₀:0≤n) (h₁:n<2 ^ 63):IntKind.i64.wrap n=n:=IntWalk.i64_in _ ⟨by omega,by omega⟩
theorem getE_zero {len:Nat}{x:Int} (h:getE len x=0):1≤x∧x≤32∧x≤len:=by
 unfold getE at h
 split at h
 ·omega
 ·split at h
  ·omega
  ·omega
end Go.Proofs.YtpapiojicbbheaaGreatDoor

namespace Go.Proofs.YtpapiojicbbheaaGreatDoor
open Go.RowKit
theorem scaled_dn {d u:Int} (h:(scaledM d u false).2=0):0<unitM u∧0≤d∧(scaledM d u false).1=d / unitM u∧0≤d / unitM u∧d / unitM u≤32766:=by
 obtain⟨h1,h2,_,h4,h5,h6⟩:=scaled_ok h
 have:raiseM d u false=d:=rfl
 rw[this] at h4
 rw[h4] at h5 h6
 exact⟨h1,h2,h4,h6,h5⟩
theorem secN_cons {u last:Int}{s:Sc}{l:List Sc}{v:List Int} (h:secN u last (s::l)=some v):(scaledM s.1 u false).2=0∧last<s.1 / unitM u∧∃w,secN u (s.1 / unitM u) l=some w∧v=(s.1 / unitM u - last)::1::s.2::0::w:=by
 unfold secN at h
 split at h
 ·cases h
 rename_i hc
 have h0:(scaledM s.1 u false).2=0:=by omega
 obtain⟨a1,a2,a3,a4,a5⟩:=scaled_dn h0
 rw[a3] at h hc
 rw[Option.map_eq_some_iff] at h
 obtain⟨w,hw,rfl⟩:=h
 exact⟨h0,by omega,w,hw,rfl⟩
theorem or14 (a b:Int) (ha:0≤a) (ha2:a<4398046511104) (hb:0≤b) (hb2:b<16384):orV (a*16384) b=a*16384+b:=by
 obtain⟨m,rfl⟩:∃m:Nat,a=m:=⟨a.toNat,by omega⟩
 obtain⟨n,rfl⟩:∃n:Nat,b=n:=⟨b.toNat,by omega⟩
 have a1:m*16384<9223372036854775808:=by omega
 have a2:n<9223372036854775808:=by omega
 have h:=(bits_nat .i64 63 (by decide) wraps_i64 (m*16384) n (by rw[show (2:Nat) ^ 63=9223372036854775808 from rfl];exact a1) (by rw[show (2:Nat) ^ 63=9223372036854775808 from rfl];exact a2)).2
 have e:m*16384 ||| n=m*16384+n:=by
  have h1:=Nat.shiftLeft_add_eq_or_of_lt (i:=14) (b:=n) (by omega) m
  rw[Nat.shiftLeft_eq] at h1
  exact h1.symm
 rw[e] at h
 have e2:((m*16384:Nat):Int)=(m:Int)*16384:=by omega
 have e3:((m*16384+n:Nat):Int)=(m:Int)*16384+(n:Int):=by rw[Int.natCast_add,e2]
 rw[e2,e3] at h
 exact h
theorem firstB_some {t:Tp}{e:Int}{b:Bl} (h:firstB t e=some b):b∈t.2.2.1∧b.2.1=e:=by
 unfold firstB at h
 exact⟨List.mem_of_find?_eq_some h,by simpa using List.find?_some h⟩
theorem linkN_cons {t:Tp}{u:Int}{n i:Nat}{begin_ at_:Int}{s:Stp}{l:List Stp}{w:List Int} (h:linkN t u n i begin_ at_ (s::l)=.ok w):∃b v,firstB t s.1=some b∧(scaledM (begin_+alongP t (b.2.1,b.2.2,s.2) - at_) u false).2=0 ∧
    linkN t u n (i+1) (begin_+edgeM t s.1) (begin_+alongP t (b.2.1,b.2.2,s.2)) l=.ok v ∧
    w=(if i=2 then [(n:Int) - 2] else [])++[(scaledM (begin_+alongP t (b.2.1,b.2.2,s.2) - at_) u false).1,1,b.1 / 16384,b.1 % 16384,nomI s.2,2,12]++v:=by
  unfold linkN at h
  cases hb:firstB t s.1 with
  | none=>rw[hb] at h;cases h
  | some b=>
   rw[hb] at h
   simp only at h
   split at h
   ·cases h
   rename_i hz
   cases hv:linkN t u n (i+1) (begin_+edgeM t s.1) (begin_+alongP t (b.2.1,b.2.2,s.2)) l with
   | error e=>rw[hv] at h;cases h
   | ok v=>
    rw[hv] at h
    injection h with h
    exact⟨b,v,rfl,by simpa using hz,hv,h.symm⟩
theorem packs_ok {t:Tp}{m:Ma}{l:List Pk} (h:packsM17 t m=.ok l):∃z v,MayA t m z∧0≤bestM (endS m.2.2.2.1+m.2.2.2.2)∧secN (bestM (endS m.2.2.2.1+m.2.2.2.2)) 0 m.2.2.2.1=some v ∧
    ((∃s0,m.2.2.1=[s0]∧l=[(15,[nomI m.2.1,bestM (endS m.2.2.2.1+m.2.2.2.2),0,0,(m.2.2.2.1.length:Int) - 1]++v++[0]++gapN (bestM (endS m.2.2.2.1+m.2.2.2.2)) m.2.2.2.2)]) ∨
     ∃(s0 s1:Stp) (r:List Stp) (b:Bl) (w:List Int),m.2.2.1=s0::s1::r∧linkN t (bestM (endS m.2.2.2.1+m.2.2.2.2)) m.2.2.1.length 1 (edgeM t s0.1) (alongP t (b.2.1,b.2.2,m.2.1)) (s1::r)=.ok w ∧
      l=[(15,[nomI m.2.1,bestM (endS m.2.2.2.1+m.2.2.2.2),0,0,(m.2.2.2.1.length:Int) - 1]++v++[0]++gapN (bestM (endS m.2.2.2.1+m.2.2.2.2)) m.2.2.2.2),(5,[nomI m.2.1,bestM (endS m.2.2.2.1+m.2.2.2.2)]++w++(if r=[] then [0] else []))]):=by
  unfold packsM17 at h
  by_cases hm:mayMA t m=false
  ·rw[if_pos hm] at h;cases h
  rw[if_neg hm] at h
  obtain⟨z,hz⟩:=may_iff.1 (by simpa using hm)
  dsimp only at h
  by_cases hu:bestM (endS m.2.2.2.1+m.2.2.2.2)<0
  ·rw[if_pos hu] at h;cases h
  rw[if_neg hu] at h
  cases hv:secN (bestM (endS m.2.2.2.1+m.2.2.2.2)) 0 m.2.2.2.1 with
  | none=>simp only[hv] at h;cases h
  | some v=>
   simp only[hv] at h
   refine⟨z,v,hz,by omega,rfl,?_⟩
   obtain⟨b,h1,h2,h3,h4⟩:=left_some hz.left
   rw[h1] at h
   cases hp:m.2.2.1 with
   | nil=>rw[hp] at h2;cases h2
   | cons s0 p=>
    cases p with
    | nil=>
     rw[hp] at h
     injection h with h
     exact .inl ⟨s0,rfl,h.symm⟩
    | cons s1 r=>
     rw[hp] at h
     simp only at h
     cases hw:linkN t (bestM (endS m.2.2.2.1+m.2.2.2.2)) (s0::s1::r).length 1 (edgeM t s0.1) (alongP t (b.2.1,b.2.2,m.2.1)) (s1::r) with
     | error e=>rw[hw] at h;cases h
     | ok w=>
      rw[hw] at h
      injection h with h
      exact .inr ⟨s0,s1,r,b,w,rfl,hw,h.symm⟩
end Go.Proofs.YtpapiojicbbheaaGreatDoor

namespace Go.Proofs.YtpapiojicbbheaaGreatDoor
structure VRow where
  name:List UInt8
  width:Int
  most:Int
  special:Int
def vrows:List VRow:=[
  ⟨[78,73,68,95,77,69,83,83,65,71,69],8,-1,-1⟩,
  ⟨[76,95,77,69,83,83,65,71,69],10,-1,-1⟩,
  ⟨[84,95,84,82,65,73,78],32,-1,-1⟩,
  ⟨[77,95,65,67,75],1,-1,-1⟩,
  ⟨[78,73,68,95,76,82,66,71],24,-1,-1⟩,
  ⟨[78,73,68,95,80,65,67,75,69,84],8,-1,-1⟩,
  ⟨[81,95,68,73,82],2,2,-1⟩,
  ⟨[76,95,80,65,67,75,69,84],13,-1,-1⟩,
  ⟨[81,95,83,67,65,76,69],2,2,-1⟩,
  ⟨[78,73,68,95,69,78,71,73,78,69],24,-1,-1⟩,
  ⟨[78,73,68,95,67],10,-1,-1⟩,
  ⟨[78,73,68,95,66,71],14,-1,-1⟩,
  ⟨[81,95,78,69,87,67,79,85,78,84,82,89],1,-1,-1⟩,
  ⟨[68,95,76,82,66,71],15,-1,-1⟩,
  ⟨[81,95,68,73,82,76,82,66,71],2,2,-1⟩,
  ⟨[81,95,68,76,82,66,71],2,2,-1⟩,
  ⟨[76,95,68,79,85,66,84,79,86,69,82],15,-1,-1⟩,
  ⟨[76,95,68,79,85,66,84,85,78,68,69,82],15,-1,-1⟩,
  ⟨[81,95,76,69,78,71,84,72],2,-1,-1⟩,
  ⟨[76,95,84,82,65,73,78,73,78,84],15,-1,-1⟩,
  ⟨[86,95,84,82,65,73,78],7,120,127⟩,
  ⟨[81,95,68,73,82,84,82,65,73,78],2,2,-1⟩,
  ⟨[77,95,77,79,68,69],4,14,-1⟩,
  ⟨[77,95,76,69,86,69,76],3,4,-1⟩,
  ⟨[78,73,68,95,78,84,67],8,-1,-1⟩,
  ⟨[86,95,69,77,65],7,120,-1⟩,
  ⟨[84,95,69,77,65],10,-1,-1⟩,
  ⟨[78,95,73,84,69,82],5,-1,-1⟩,
  ⟨[76,95,83,69,67,84,73,79,78],15,-1,-1⟩,
  ⟨[81,95,83,69,67,84,73,79,78,84,73,77,69,82],1,-1,-1⟩,
  ⟨[84,95,83,69,67,84,73,79,78,84,73,77,69,82],10,-1,-1⟩,
  ⟨[68,95,83,69,67,84,73,79,78,84,73,77,69,82,83,84,79,80,76,79,67],15,-1,-1⟩,
  ⟨[76,95,69,78,68,83,69,67,84,73,79,78],15,-1,-1⟩,
  ⟨[81,95,69,78,68,84,73,77,69,82],1,-1,-1⟩,
  ⟨[84,95,69,78,68,84,73,77,69,82],10,-1,-1⟩,
  ⟨[68,95,69,78,68,84,73,77,69,82,83,84,65,82,84,76,79,67],15,-1,-1⟩,
  ⟨[81,95,68,65,78,71,69,82,80,79,73,78,84],1,-1,-1⟩,
  ⟨[68,95,68,80],15,-1,-1⟩,
  ⟨[86,95,82,69,76,69,65,83,69,68,80],7,120,126⟩,
  ⟨[81,95,79,86,69,82,76,65,80],1,-1,-1⟩,
  ⟨[68,95,83,84,65,82,84,79,76],15,-1,-1⟩,
  ⟨[84,95,79,76],10,-1,-1⟩,
  ⟨[68,95,79,76],15,-1,-1⟩,
  ⟨[86,95,82,69,76,69,65,83,69,79,76],7,120,126⟩,
  ⟨[68,95,76,73,78,75],15,-1,-1⟩,
  ⟨[81,95,76,73,78,75,79,82,73,69,78,84,65,84,73,79,78],1,-1,-1⟩,
  ⟨[81,95,76,73,78,75,82,69,65,67,84,73,79,78],2,2,-1⟩,
  ⟨[81,95,76,79,67,65,67,67],6,-1,-1⟩,
  ⟨[68,95,71,82,65,68,73,69,78,84],15,-1,-1⟩,
  ⟨[81,95,71,68,73,82],1,-1,-1⟩,
  ⟨[71,95,65],8,-1,-1⟩,
  ⟨[68,95,83,84,65,84,73,67],15,-1,-1⟩,
  ⟨[86,95,83,84,65,84,73,67],7,120,127⟩,
  ⟨[81,95,70,82,79,78,84],1,-1,-1⟩,
  ⟨[78,67,95,68,73,70,70],4,-1,-1⟩,
  ⟨[86,95,68,73,70,70],7,120,-1⟩,
  ⟨[68,95,77,65,77,79,68,69],15,-1,-1⟩,
  ⟨[77,95,77,65,77,79,68,69],2,2,-1⟩,
  ⟨[86,95,77,65,77,79,68,69],7,120,127⟩,
  ⟨[76,95,77,65,77,79,68,69],15,-1,-1⟩,
  ⟨[76,95,65,67,75,77,65,77,79,68,69],15,-1,-1⟩,
  ⟨[81,95,77,65,77,79,68,69],1,-1,-1⟩,
  ⟨[81,95,82,66,67],1,-1,-1⟩,
  ⟨[78,73,68,95,82,66,67],14,-1,-1⟩,
  ⟨[78,73,68,95,82,65,68,73,79],32,-1,-1⟩,
  ⟨[81,95,83,76,69,69,80,83,69,83,83,73,79,78],1,-1,-1⟩,
  ⟨[84,95,77,65,82],8,-1,-1⟩,
  ⟨[84,95,84,73,77,69,79,85,84,82,81,83,84],10,-1,-1⟩,
  ⟨[84,95,67,89,67,82,81,83,84],8,-1,-1⟩,
  ⟨[84,95,67,89,67,76,79,67],8,-1,-1⟩,
  ⟨[68,95,67,89,67,76,79,67],15,-1,-1⟩,
  ⟨[77,95,76,79,67],3,2,-1⟩,
  ⟨[68,95,76,79,67],15,-1,-1⟩,
  ⟨[81,95,76,71,84,76,79,67],1,-1,-1⟩,
  ⟨[78,73,68,95,80,82,86,76,82,66,71],24,-1,-1⟩,
  ⟨[78,73,68,95,79,80,69,82,65,84,73,79,78,65,76],32,-1,-1⟩,
  ⟨[78,67,95,84,82,65,73,78],15,-1,-1⟩,
  ⟨[76,95,84,82,65,73,78],12,-1,-1⟩,
  ⟨[86,95,77,65,88,84,82,65,73,78],7,120,-1⟩,
  ⟨[77,95,76,79,65,68,73,78,71,71,65,85,71,69],8,-1,-1⟩,
  ⟨[77,95,65,88,76,69,76,79,65,68],7,-1,-1⟩,
  ⟨[77,95,65,73,82,84,73,71,72,84],2,1,-1⟩,
  ⟨[77,95,84,82,65,67,84,73,79,78],8,-1,-1⟩,
  ⟨[78,73,68,95,83,84,77],8,-1,-1⟩,
  ⟨[68,95,86,65,76,73,68,78,86],15,-1,-1⟩,
  ⟨[86,95,78,86,83,72,85,78,84],7,120,-1⟩,
  ⟨[84,95,78,86,67,79,78,84,65,67,84],8,-1,-1⟩,
  ⟨[77,95,78,86,67,79,78,84,65,67,84],2,2,-1⟩,
  ⟨[78,73,68,95,69,77],4,-1,-1⟩,
  ⟨[68,95,82,69,70],16,-1,-1⟩,
  ⟨[68,95,69,77,69,82,71,69,78,67,89,83,84,79,80],15,-1,-1⟩,
  ⟨[81,95,69,77,69,82,71,69,78,67,89,83,84,79,80],2,-1,-1⟩,
  ⟨[77,95,86,69,82,83,73,79,78],7,-1,-1⟩,
  ⟨[81,95,83,84,65,84,85,83],2,-1,-1⟩,
  ⟨[81,95,77,65,82,81,83,84,82,69,65,83,79,78],5,-1,-1⟩,
  ⟨[68,95,83,82],15,-1,-1⟩]
def wtab:List Int:=[8,10,32,1,24,8,2,13,2,24,10,14,1,15,2,2,15,15,2,15,7,2,4,3,8,7,10,5,15,1,10,15,15,1,10,15,1,15,7,1,15,10,15,7,15,1,2,6,15,1,8,15,7,1,4,7,15,2,7,15,15,1,1,14,32,1,8,10,8,8,15,3,15,1,24,32,15,12,7,8,7,2,8,8,15,7,8,2,4,16,15,2,7,2,5,15]
end Go.Proofs.YtpapiojicbbheaaGreatDoor

namespace Go.Proofs.YtpapiojicbbheaaGreatDoor
open Go.RowKit
def Widths (w:World):Prop:=∀i,i<96→w.cell? ⟨0, i,none⟩=some (.int .i64 (wtab.getD i 0))
theorem Widths.keep {w w':World}{S:Nat→Prop} (h:Widths w) (hk:Keep S w w') (hS:¬S 0):Widths w':=
  fun i hi=>(hk.cell (cell_lt (h i hi)) hS).trans (h i hi)
def vWidth (v:Int):Int:=if 0≤v∧v<96 then wtab.getD v.toNat 0 else 0
theorem wtab_range:∀i,i<96→1≤wtab.getD i 0∧wtab.getD i 0≤32:=by decide
theorem vWidth_range (v:Int):0≤vWidth v∧vWidth v≤32:=by
 unfold vWidth
 split
 ·have:=wtab_range v.toNat (by omega);omega
 ·omega
set_option maxHeartbeats 400000 in
theorem vwidth_any (v:Int) (w:World) (hw:Widths w) :
    Calls Tryz.prog 160 #[.int .i64 v] w fun e w'=>e=.returned (.int .i64 (vWidth v))∧w=w':=by
  by_cases h:0≤v∧v<96
  ·obtain⟨k,rfl⟩:∃k:Nat,v=k:=⟨v.toNat,by omega⟩
   have hc:=hw k (by omega)
   have he:vWidth k=wtab.getD k 0:=by rw[vWidth,if_pos h,Int.toNat_natCast]
   rw[he]
   obtain⟨h1,h2⟩:=h
   generalize wtab.getD k 0=x at *
   clear hw he
   go_enter Tryz.func160, Tryz.ntmps160
   go_wp2
   go_ret
   exact⟨rfl,rfl⟩
  ·have he:vWidth v=0:=by rw[vWidth,if_neg h]
   rw[he]
   clear hw he
   have h:v<0∨96≤v:=by omega
   rcases h with h | h
   all_goals
    go_enter Tryz.func160, Tryz.ntmps160
    go_wp2
    go_ret
    exact⟨rfl,rfl⟩
def vSpecial (v:Int):Int:=if v=20∨v=52∨v=58 then 127 else if v=38∨v=43 then 126 else 0
set_option maxHeartbeats 400000 in
theorem vspecial_any (v:Int) (w:World) :
    Calls Tryz.prog 191 #[.int .i64 v] w fun e w'=>e=.returned (.int .i64 (vSpecial v))∧w=w':=by
  go_enter Tryz.func191, Tryz.ntmps191
  go_wp2
  all_goals
   go_ret
   refine⟨ret_int ?_,rfl⟩
   simp only[beq_iff_eq,beq_eq_false_iff_ne,ne_eq] at *
   unfold vSpecial
   (repeat' split) <;> omega
def vMost (v:Int):Int:=
  if v=81 then 1 else if v=6∨v=8∨v=14∨v=15∨v=21∨v=46∨v=57∨v=71∨v=87 then 2 else if v=23 then 4 else if v=22 then 14
  else if v=20∨v=25∨v=38∨v=43∨v=52∨v=55∨v=58∨v=78∨v=85 then 120 else ((2 ^ (vWidth v).toNat:Nat):Int) - 1
set_option maxHeartbeats 1000000 in
theorem vmost_any (v:Int) (w:World) (hw:Widths w) :
    Calls Tryz.prog 192 #[.int .i64 v] w fun e w'=>e=.returned (.int .i64 (vMost v))∧w=w':=by
  have hr:=vWidth_range v
  obtain⟨k,hk⟩:∃k:Nat,vWidth v=k:=⟨(vWidth v).toNat,by omega⟩
  rw[hk] at hr
  have Hw:=qh hw
  have HK:=qh hk
  clear hw hk
  have hp:=pow_pos' k
  have hp2:=pow_le32 (k:=k) (by omega)
  go_enter Tryz.func192, Tryz.ntmps192
  go_wp2_with (go_at_call 160; refine(vwidth_any v _ Hw.out).mono ?_;rw[HK.out];rintro e w' ⟨rfl,rfl⟩)
  all_goals
   go_ret
   refine⟨ret_int ?_,rfl⟩
   simp only[beq_iff_eq,beq_eq_false_iff_ne,ne_eq] at *
   unfold vMost
   first
    | ((repeat' split) <;> omega)
    | skip
  repeat rw[if_neg (by omega)]
  have e:(2:Int) ^ k=((2 ^ k:Nat):Int):=(Int.natCast_pow 2 k).symm
  rw[HK.out,Int.toNat_natCast,e,IntWalk.wrap64_in ((2 ^ k:Nat):Int) ⟨by omega,by omega⟩,IntWalk.wrap64_in _ ⟨by omega,by omega⟩]
theorem vMost_range (v:Int):0≤vMost v∧vMost v≤4294967295:=by
 have h1:=vWidth_range v
 have h2:=pow_pos' (vWidth v).toNat
 have h3:=pow_le32 (k:=(vWidth v).toNat) (by omega)
 unfold vMost
 (repeat' split) <;> omega
theorem vSpecial_range (v:Int):0≤vSpecial v∧vSpecial v≤127:=by
 unfold vSpecial
 (repeat' split) <;> omega
def vMay (v n:Int):Bool:=decide (vWidth v≠0∧0≤n∧n<((2 ^ (vWidth v).toNat:Nat):Int)∧(n≤vMost v∨(0<vSpecial v∧vSpecial v≤n)))
set_option maxHeartbeats 1000000 in
theorem vmay_any (v n:Int) (hn:n≤9223372036854775807) (w:World) (hw:Widths w) :
    Calls Tryz.prog 162 #[.int .i64 v,.int .i64 n] w fun e w'=>e=.returned (.bool (vMay v n))∧w=w':=by
  have hr:=vWidth_range v
  obtain⟨k,hk⟩:∃k:Nat,vWidth v=k:=⟨(vWidth v).toNat,by omega⟩
  obtain⟨m,hm⟩:∃m,vMost v=m:=⟨_,rfl⟩
  obtain⟨s,hs⟩:∃s,vSpecial v=s:=⟨_,rfl⟩
  have hm1:=vMost_range v
  have hs1:=vSpecial_range v
  have hmay:vMay v n=decide ((k:Int)≠0∧0≤n∧n<((2 ^ k:Nat):Int)∧(n≤m∨(0<s∧s≤n))):=by rw[vMay,hk,hm,hs,Int.toNat_natCast]
  rw[hk] at hr
  rw[hm] at hm1
  rw[hs] at hs1
  have HW:∀W,W=w→Calls Tryz.prog 160 #[.int .i64 v] W fun e w'=>e=.returned (.int .i64 k)∧W=w':=by rintro W rfl;have:=vwidth_any v W hw;rwa [hk] at this
  have HM:∀W,W=w→Calls Tryz.prog 192 #[.int .i64 v] W fun e w'=>e=.returned (.int .i64 m)∧W=w':=by rintro W rfl;have:=vmost_any v W hw;rwa [hm] at this
  have HS:∀W,W=w→Calls Tryz.prog 191 #[.int .i64 v] W fun e w'=>e=.returned (.int .i64 s)∧W=w':=by rintro W rfl;have:=vspecial_any v W;rwa [hs] at this
  have hHW:=qh HW
  have hHM:=qh HM
  have hHS:=qh HS
  clear HW HM HS hw hk hm hs
  by_cases h0:(k:Int)=0
  ·have hf:Hid (vMay v n=false):=by show _=false;rw[hmay,decide_eq_false_iff_not];omega
   have hk0:((k:Int)==0)=true:=by simpa using h0
   clear hmay h0
   go_enter Tryz.func162, Tryz.ntmps162
   go_wp2_with (first| (go_at_call 160; refine(hHW.out _ rfl).mono ?_;rintro e w' ⟨rfl,rfl⟩) | (go_at_call 191; refine(hHS.out _ rfl).mono ?_;rintro e w' ⟨rfl,rfl⟩) | (go_at_call 192; refine(hHM.out _ rfl).mono ?_;rintro e w' ⟨rfl,rfl⟩))
   go_ret
   exact⟨by rw[hf.out];rfl,rfl⟩
  have hk0:((k:Int)==0)=false:=by simpa using h0
  by_cases h1:n<0
  ·have hf:Hid (vMay v n=false):=by show _=false;rw[hmay,decide_eq_false_iff_not];omega
   clear hmay h0
   go_enter Tryz.func162, Tryz.ntmps162
   go_wp2_with (first| (go_at_call 160; refine(hHW.out _ rfl).mono ?_;rintro e w' ⟨rfl,rfl⟩) | (go_at_call 191; refine(hHS.out _ rfl).mono ?_;rintro e w' ⟨rfl,rfl⟩) | (go_at_call 192; refine(hHM.out _ rfl).mono ?_;rintro e w' ⟨rfl,rfl⟩))
   go_ret
   exact⟨by rw[hf.out];rfl,rfl⟩
  obtain⟨x,rfl⟩:∃x:Nat,n=x:=⟨n.toNat,by omega⟩
  by_cases h2:x<2 ^ k
  ·have hsh:=shift_small h2
   by_cases h3:(x:Int)≤m
   ·have hf:Hid (vMay v x=true):=by show _=true;rw[hmay,decide_eq_true_eq];omega
    clear hmay h2
    go_enter Tryz.func162, Tryz.ntmps162
    go_wp2_with (first| (go_at_call 160; refine(hHW.out _ rfl).mono ?_;rintro e w' ⟨rfl,rfl⟩) | (go_at_call 191; refine(hHS.out _ rfl).mono ?_;rintro e w' ⟨rfl,rfl⟩) | (go_at_call 192; refine(hHM.out _ rfl).mono ?_;rintro e w' ⟨rfl,rfl⟩))
    go_ret
    exact⟨by rw[hf.out];rfl,rfl⟩
   ·have hlo:decide ((x:Int)≤m)=false:=by simpa using h3
    by_cases h4:0<s
    ·by_cases h5:s≤(x:Int)
     ·have hf:Hid (vMay v x=true):=by show _=true;rw[hmay,decide_eq_true_eq];omega
      clear hmay h2
      go_enter Tryz.func162, Tryz.ntmps162
      go_wp2_with (first| (go_at_call 160; refine(hHW.out _ rfl).mono ?_;rintro e w' ⟨rfl,rfl⟩) | (go_at_call 191; refine(hHS.out _ rfl).mono ?_;rintro e w' ⟨rfl,rfl⟩) | (go_at_call 192; refine(hHM.out _ rfl).mono ?_;rintro e w' ⟨rfl,rfl⟩))
      go_ret
      exact⟨by rw[hf.out];rfl,rfl⟩
     ·have hf:Hid (vMay v x=false):=by show _=false;rw[hmay,decide_eq_false_iff_not];omega
      have hlo5:decide (s≤(x:Int))=false:=by simpa using h5
      clear hmay h2
      go_enter Tryz.func162, Tryz.ntmps162
      go_wp2_with (first| (go_at_call 160; refine(hHW.out _ rfl).mono ?_;rintro e w' ⟨rfl,rfl⟩) | (go_at_call 191; refine(hHS.out _ rfl).mono ?_;rintro e w' ⟨rfl,rfl⟩) | (go_at_call 192; refine(hHM.out _ rfl).mono ?_;rintro e w' ⟨rfl,rfl⟩))
      go_ret
      exact⟨by rw[hf.out];rfl,rfl⟩
    ·have hlo4:decide (0<s)=false:=by simpa using h4
     have hf:Hid (vMay v x=false):=by show _=false;rw[hmay,decide_eq_false_iff_not];omega
     clear hmay h2
     go_enter Tryz.func162, Tryz.ntmps162
     go_wp2_with (first| (go_at_call 160; refine(hHW.out _ rfl).mono ?_;rintro e w' ⟨rfl,rfl⟩) | (go_at_call 191; refine(hHS.out _ rfl).mono ?_;rintro e w' ⟨rfl,rfl⟩) | (go_at_call 192; refine(hHM.out _ rfl).mono ?_;rintro e w' ⟨rfl,rfl⟩))
     go_ret
     exact⟨by rw[hf.out];rfl,rfl⟩
  ·have hsh:=shift_big (x:=x) (k:=k) (by omega)
   have hf:Hid (vMay v x=false):=by show _=false;rw[hmay,decide_eq_false_iff_not];omega
   clear hmay h0 h2
   go_enter Tryz.func162, Tryz.ntmps162
   go_wp2_with (first| (go_at_call 160; refine(hHW.out _ rfl).mono ?_;rintro e w' ⟨rfl,rfl⟩) | (go_at_call 191; refine(hHS.out _ rfl).mono ?_;rintro e w' ⟨rfl,rfl⟩) | (go_at_call 192; refine(hHM.out _ rfl).mono ?_;rintro e w' ⟨rfl,rfl⟩))
   go_ret
   exact⟨by rw[hf.out];rfl,rfl⟩
end Go.Proofs.YtpapiojicbbheaaGreatDoor

namespace Go.Proofs.YtpapiojicbbheaaGreatDoor
open Go.RowKit
def runAll (P:Program) (N:Nat):List Oper→Act→Option (Act×Option (Array Value×TypeId))
  | [],a=>some (a,none)
  | o::r,a=>
   if o.guard=none then
     match o.op with
     | .build t parts=>
      match P.built t (parts.map fun (i,x)=>(i,a.eval x)).toList with
      | some cs=>runAll P N r (a.put o.dst (.agg cs))
      | none=>none
     | .assign x=>runAll P N r (a.put o.dst (a.eval x))
     | .buildSlice t len parts=>
      match P.underlying t with
      | some (.slice e)=>
       match P.builtSlice e len (parts.map fun (i,x)=>(i,a.eval x)).toList with
       | some cells=>
        match runAll P N r (a.put o.dst (.slice (some ⟨N,0,none⟩) len len)) with
        | some (a',none)=>some (a',some (cells,e))
        | _=>none
       | none=>none
      | _=>none
     | _=>none
   else none
def laidBy (w:World):Option (Array Value×TypeId)→World
  | none=>w
  | some (cells,e)=>w.alloc (.cells cells e)
theorem wpList_runAll {P:Program}{ops:Array Oper}{Q:Exit→Act→World→Prop} (N:Nat):∀(l:List Oper) (a a':Act) (c:Option (Array Value×TypeId)) (w:World),(c≠none→w.heap.size=N) →
    runAll P N l a=some (a',c)→Q .normal a' (laidBy w c)→wpList P ops Q l a w:=by
  intro l
  induction l with
  | nil=>
   intro a a' c w _ h hq
   simp only[runAll,Option.some.injEq,Prod.mk.injEq] at h
   obtain⟨rfl,rfl⟩:=h
   exact hq
  | cons o r ih=>
   intro a a' c w hN h hq
   unfold runAll at h
   split at h
   case isFalse=>cases h
   rename_i hg
   split at h
   ·rename_i t parts ho
    split at h
    ·rename_i cs hcs
     refine wpList_build hg t parts ho (by rw[hcs];rfl) ?_
     rw[hcs]
     exact ih _ _ _ _ hN h hq
    ·cases h
   ·rename_i x ho
    refine Great.wpList_readTo hg _ rfl (a.eval x) ?_ (ih _ _ _ _ hN h hq)
    simp[execOp,ho]
   ·rename_i t len parts ho
    split at h
    ·rename_i e hu
     split at h
     ·rename_i cells hc
      split at h
      ·rename_i a2 hr
       simp only[Option.some.injEq,Prod.mk.injEq] at h
       obtain⟨rfl,rfl⟩:=h
       refine Great.wpList_buildSliceTo hg t e len parts ho N (hN (by simp)) _ rfl hu cells hc ?_
       exact ih _ _ none _ (fun h=>absurd rfl h) hr hq
      ·cases h
     ·cases h
    ·cases h
   ·cases h
def vcells:List Value:=vrows.flatMap fun r=>[.string ⟨r.name.toArray⟩,.int .i64 r.width,.int .i64 r.most,.int .i64 r.special]
theorem wp_region_table {P:Program}{id:Nat}{ops:Array Oper}{Q:Exit→Act→World→Prop}{a:Act}{w:World} (v:Value) (t:Tmp) (cells:Array Value) (e:TypeId) (n:Nat)
    (hk:(runAll P w.heap.size ops.toList a).map (fun r=>(r.1.tmps.getD t undef,r.1.tmps.size,r.1.defers.isEmpty,r.2))=some (v,n,true,some (cells,e)))
    (h:∀a':Act,a'.tmps.getD t undef=v→a'.tmps.size=n→a'.defers=[]→Q .normal a' (w.alloc (.cells cells e))):(Code.region id ops false).wp P Q a w:=by
  obtain⟨r,hr,he⟩:=Option.map_eq_some_iff.1 hk
  obtain⟨a',c⟩:=r
  simp only[Prod.mk.injEq] at he
  obtain⟨h1,h2,h3,rfl⟩:=he
  refine wp_region_list (wpList_runAll w.heap.size ops.toList a a' _ w (fun _=>rfl) hr ?_)
  exact h a' h1 h2 (by simpa using h3)
set_option maxHeartbeats 4000000 in
set_option maxRecDepth 100000 in
theorem table_any (w:World) :
    Calls Tryz.prog 202 #[] w fun e w'=>e=.returned (.slice (some ⟨w.heap.size,0,none⟩) 96 96)∧w'=w.alloc (.cells vcells.toArray 208):=by
  go_enter Tryz.func202, Tryz.ntmps202
  refine wp_seq (wp_region_lit (wpList_runAll 0 _ _ _ none _ (fun h=>absurd rfl h) rfl ?_))
  simp only[Exit.then]
  refine wp_seq (wp_region_table (.slice (some ⟨w.heap.size,0,none⟩) 96 96) 0 vcells.toArray 208 98 (by kernel_rfl) ?_)
  intro a' h0 hn hd
  simp only[Exit.then]
  refine wp_ret ?_
  exact bodyPost_ret (results_tmp rfl _ _ _) hd ⟨by rw[h0],rfl⟩
end Go.Proofs.YtpapiojicbbheaaGreatDoor

namespace Go.Proofs.YtpapiojicbbheaaGreatDoor
open Go.RowKit
def vrow (v:Int):VRow:=if 0≤v∧v<96 then vrows.getD v.toNat ⟨[],0,0,0⟩ else ⟨[],0,0,0⟩
def rowVals (r:VRow):Array Value:=#[.string ⟨r.name.toArray⟩,.int .i64 r.width,.int .i64 r.most,.int .i64 r.special]
theorem rows_at:∀(l:List VRow) (k j:Nat) (r:VRow) (x:Value),l[k]?=some r→[Value.string ⟨r.name.toArray⟩,.int .i64 r.width,.int .i64 r.most,.int .i64 r.special][j]?=some x →
    (l.flatMap fun r=>[.string ⟨r.name.toArray⟩,.int .i64 r.width,.int .i64 r.most,.int .i64 r.special])[k*4+j]?=some x:=by
  intro l
  induction l with
  | nil=>intro k j r x h;cases h
  | cons r0 l ih=>
   intro k j r x h hx
   rw[List.flatMap_cons]
   cases k with
   | zero=>
    obtain rfl:r0=r:=by simpa using h
    have hj:j<4:=by
     rcases Nat.lt_or_ge j 4 with h | h
     ·exact h
     ·rw[List.getElem?_eq_none (by simpa using h)] at hx;cases hx
    rw[Nat.zero_mul,Nat.zero_add,List.getElem?_append_left (by simpa using hj)]
    exact hx
   | succ k=>
    rw[List.getElem?_append_right (by simp;omega)]
    have e:(k+1)*4+j - [Value.string ⟨r0.name.toArray⟩,.int .i64 r0.width,.int .i64 r0.most,.int .i64 r0.special].length=k*4+j:=by simp;omega
    rw[e]
    exact ih k j r x (by simpa using h) hx
theorem vrows_len:vrows.length=96:=by decide +kernel
theorem vrow_at (k:Nat) (hk:k<96):vrows[k]?=some (vrow k):=by
 rw[vrow,if_pos (by omega),Int.toNat_natCast,List.getD_eq_getElem?_getD,List.getElem?_eq_getElem (by rw[vrows_len];exact hk)]
 rfl
theorem row_kept {w w':World}{cs:Array Value}{t:TypeId} (hk:Keep Never (w.alloc (.cells cs t)) w') (j:Nat) (u:Value) (hj:cs[j]?=some u) :
    w'.cell? ⟨w.heap.size,j,none⟩=some u∧w'.frozen? ⟨w.heap.size,j,none⟩=false:=
  ⟨(hk.cell (by simp) (fun h=>h)).trans ((World.cell?_alloc_at _ _ _ _ rfl).trans hj),(hk.frozen (by simp) (fun h=>h)).trans (World.frozen?_alloc_at _ _ _ _ rfl)⟩
theorem table_row (k:Nat) (hk:k<96) (w0:World) (n:Nat) (hn:w0.heap.size=n) :
    Calls Tryz.prog 202 #[] w0 fun e w'=>e=.returned (.slice (some ⟨n,0,none⟩) 96 96)∧n<w'.heap.size∧Keep Never w0 w'∧w'.cell? ⟨n,k*4,none⟩=some (.string ⟨(vrow k).name.toArray⟩)∧w'.cell? ⟨n,k*4+1,none⟩=some (.int .i64 (vrow k).width)∧w'.cell? ⟨n,k*4+2,none⟩=some (.int .i64 (vrow k).most)∧w'.cell? ⟨n,k*4+3,none⟩=some (.int .i64 (vrow k).special):=by
  refine(table_any w0).mono ?_
  rintro e w' ⟨rfl,rfl⟩
  subst hn
  have hc:∀j x,[Value.string ⟨(vrow k).name.toArray⟩,.int .i64 (vrow k).width,.int .i64 (vrow k).most,.int .i64 (vrow k).special][j]?=some x→(w0.alloc (.cells vcells.toArray 208)).cell? ⟨w0.heap.size,k*4+j,none⟩=some x:=by
   intro j x hx
   rw[World.cell?_alloc_at _ _ _ _ rfl,List.getElem?_toArray]
   exact rows_at vrows k j _ x (vrow_at k hk) hx
  exact⟨rfl,by simp,(Keep.refl _ _).alloc _,hc 0 _ rfl,hc 1 _ rfl,hc 2 _ rfl,hc 3 _ rfl⟩
set_option maxHeartbeats 1000000 in
theorem rget2_any (v:Int) (w:World) :
    Calls Tryz.prog 167 #[.int .i64 v] w fun e w'=>e=.returned (.tuple #[.agg (rowVals (vrow v)),.bool (decide (0≤v∧v<96))])∧Keep Never w w':=by
  by_cases h:0≤v∧v<96
  ·obtain⟨k,rfl⟩:∃k:Nat,v=k:=⟨v.toNat,by omega⟩
   have htab:=qh (table_row k (by omega))
   have hd:decide (0≤(k:Int)∧(k:Int)<96)=true:=by simpa using h
   rw[hd]
   have hv:Hid (rowVals (vrow k)=#[.string ⟨(vrow k).name.toArray⟩,.int .i64 (vrow k).width,.int .i64 (vrow k).most,.int .i64 (vrow k).special]):=rfl
   obtain⟨h1,h2⟩:=h
   generalize vrow k=r at *
   generalize rowVals r=rv at *
   clear hd
   go_enter Tryz.func167, Tryz.ntmps167
   go_wp2_with (go_at_call 202; refine(htab.out _ (w.heap.size+1) (by simp)).mono ?_;rintro e w' ⟨rfl,hlt,hk,c0,c1,c2,c3⟩;obtain⟨r0,f0⟩:=row_kept hk 0 _ rfl;obtain⟨r1,f1⟩:=row_kept hk 1 _ rfl;obtain⟨r2,f2⟩:=row_kept hk 2 _ rfl;obtain⟨r3,f3⟩:=row_kept hk 3 _ rfl;have HK:=qh hk;clear hk)
   refine bodyPost_ret (v:=.tuple #[.agg rv,.bool true]) ?_ rfl ⟨rfl,?_⟩
   ·rw[results_cell_tmp rfl,hv.out];go_simp
   ·exact((((((Keep.refl _ _).alloc _).trans HK.out).set_ (.inr (Nat.le_refl _)) _).set_ (.inr (Nat.le_refl _)) _).set_ (.inr (Nat.le_refl _)) _).set_ (.inr (Nat.le_refl _)) _
  ·have hf:Hid (vrow v=⟨[],0,0,0⟩):=by show _=_;rw[vrow,if_neg h]
   have hd:decide (0≤v∧v<96)=false:=by simpa using h
   rw[hd,hf.out]
   have htab:=qh (table_row 0 (by omega))
   clear hd
   have h:v<0∨96≤v:=by omega
   rcases h with h | h
   all_goals
    go_enter Tryz.func167, Tryz.ntmps167
    go_wp2_with (go_at_call 202; refine(htab.out _ (w.heap.size+1) (by simp)).mono ?_;rintro e w' ⟨rfl,hlt,hk,-,-,-,-⟩;obtain⟨r0,f0⟩:=row_kept hk 0 _ rfl;obtain⟨r1,f1⟩:=row_kept hk 1 _ rfl;obtain⟨r2,f2⟩:=row_kept hk 2 _ rfl;obtain⟨r3,f3⟩:=row_kept hk 3 _ rfl;have HK:=qh hk;clear hk)
    refine bodyPost_ret (v:=.tuple #[.agg (rowVals ⟨[],0,0,0⟩),.bool false]) ?_ rfl ⟨rfl,?_⟩
    ·rw[results_cell_tmp rfl];go_simp;rfl
    ·exact((((((Keep.refl _ _).alloc _).trans HK.out).set_ (.inr (Nat.le_refl _)) _).set_ (.inr (Nat.le_refl _)) _).set_ (.inr (Nat.le_refl _)) _).set_ (.inr (Nat.le_refl _)) _
end Go.Proofs.YtpapiojicbbheaaGreatDoor

namespace Go.Proofs.YtpapiojicbbheaaGreatDoor
open Go.RowKit
set_option maxHeartbeats 400000 in
theorem power_any (n:Nat) (hn:n≤32) (w:World) :
    Calls Tryz.prog 223 #[.int .i64 n] w fun e w'=>e=.returned (.int .i64 ((2 ^ n:Nat):Int))∧w=w':=by
  go_enter Tryz.func223, Tryz.ntmps223
  go_wp2
  go_loop [3,4] (fun p i=>∃k:Nat,k≤n∧i=.int .i64 k∧p=.int .i64 ((2 ^ k:Nat):Int)) (fun _ i=>n - (intOf i).toNat)
  case atStart=>exact⟨0,Nat.zero_le _,rfl,rfl⟩
  case round=>
   obtain⟨k,hk,rfl,rfl⟩:=hrel
   have h1:=pow_pos' k
   have h2:=pow_le32 (k:=k) (by omega)
   have h3:((2 ^ (k+1):Nat):Int)=((2 ^ k:Nat):Int)*2:=by rw[Nat.pow_succ];omega
   have H3:=qh h3;clear h3
   generalize hp:((2 ^ k:Nat):Int)=p at *
   have HP:=qh hp;clear hp
   go_wp2
   ·go_round
    case rel=>exact⟨k+1,by omega,by go_num,by rw[H3.out]⟩
    case measure=>simp[intOf];omega
   ·have:k=n:=by omega
    subst this
    go_ret
    exact⟨ret_int HP.out.symm,rfl⟩
theorem power_any' (n:Nat) (hn:n≤32) (p:Int) (hp:((2 ^ n:Nat):Int)=p) (w:World) :
    Calls Tryz.prog 223 #[.int .i64 n] w fun e w'=>e=.returned (.int .i64 p)∧w=w':=by
  subst hp;exact power_any n hn w
end Go.Proofs.YtpapiojicbbheaaGreatDoor

namespace Go.Proofs.YtpapiojicbbheaaGreatDoor
open Go.RowKit
def vIs (v:Int):Bool:=decide (0≤v∧v<96)
theorem vrows_range:∀r∈vrows,1≤r.width∧r.width≤32∧-1≤r.most∧r.most≤4294967295∧-1≤r.special∧r.special≤127:=by decide +kernel
theorem vrow_range (v:Int):0≤(vrow v).width∧(vrow v).width≤32∧-1≤(vrow v).most∧(vrow v).most≤4294967295∧-1≤(vrow v).special∧(vrow v).special≤127:=by
 by_cases h:0≤v∧v<96
 ·obtain⟨k,rfl⟩:∃k:Nat,v=k:=⟨v.toNat,by omega⟩
  have:=vrows_range (vrow k) (List.mem_of_getElem? (vrow_at k (by omega)))
  omega
 ·rw[vrow,if_neg h]
  exact⟨by decide,by decide,by decide,by decide,by decide,by decide⟩
theorem rget2 (v:Int) (s:ByteArray) (wd m sp:Int) (b:Bool) (h0:⟨(vrow v).name.toArray⟩=s) (h1:(vrow v).width=wd) (h2:(vrow v).most=m) (h3:(vrow v).special=sp) (hb:vIs v=b) (w:World) :
    Calls Tryz.prog 167 #[.int .i64 v] w fun e w'=>e=.returned (.tuple #[.agg #[.string s,.int .i64 wd,.int .i64 m,.int .i64 sp],.bool b])∧Keep Never w w':=by
  subst h0 h1 h2 h3 hb
  exact rget2_any v w
set_option maxHeartbeats 400000 in
theorem rwidth_any (v:Int) (w:World) :
    Calls Tryz.prog 124 #[.int .i64 v] w fun e w'=>e=.returned (.int .i64 (vrow v).width)∧Keep Never w w':=by
  have hr:=vrow_range v
  obtain⟨s,hs⟩:∃s:ByteArray,⟨(vrow v).name.toArray⟩=s:=⟨_,rfl⟩
  obtain⟨k,hk⟩:∃k:Nat,(vrow v).width=k:=⟨(vrow v).width.toNat,by omega⟩
  obtain⟨m,hm⟩:∃m,(vrow v).most=m:=⟨_,rfl⟩
  obtain⟨sp,hsp⟩:∃sp,(vrow v).special=sp:=⟨_,rfl⟩
  obtain⟨b,hb⟩:∃b,vIs v=b:=⟨_,rfl⟩
  have hget:=qh (rget2 v s k m sp b hs hk hm hsp hb)
  rw[hk,hm,hsp] at hr
  obtain⟨p,hp⟩:∃p:Int,((2 ^ k:Nat):Int)=p:=⟨_,rfl⟩
  have hpow:=qh (power_any' k (by omega) p hp)
  have hp1:=pow_pos' k
  have hp2:=pow_le32 (k:=k) (by omega)
  rw[hp] at hp1 hp2
  rw[hk]
  clear hs hk hm hsp hb hp
  go_enter Tryz.func124, Tryz.ntmps124
  go_wp2_with (first| (go_at_call 167; refine(hget.out _).mono ?_;rintro e w' ⟨rfl,hk⟩;have HK:=qh hk;clear hk) | (go_at_call 223; refine(hpow.out _).mono ?_;rintro e w' ⟨rfl,rfl⟩))
  go_ret
  exact⟨rfl,(by repeat (first| exact Keep.refl _ _ | exact HK.out | refine Keep.alloc ?_ _))⟩
def rSpecial (v:Int):Int:=if (vrow v).special<0 then 0 else (vrow v).special
def rMost (v:Int):Int:=if vIs v=true∧(vrow v).most<0 then ((2 ^ (vrow v).width.toNat:Nat):Int) - 1 else (vrow v).most
def rMay (v n:Int):Bool:=decide (vIs v=true∧0≤n∧n<((2 ^ (vrow v).width.toNat:Nat):Int)∧((vrow v).most<0∨n≤(vrow v).most∨(0≤(vrow v).special∧(vrow v).special≤n)))
set_option maxHeartbeats 1000000 in
theorem rmay_any (v n:Int) (w:World) :
    Calls Tryz.prog 204 #[.int .i64 v,.int .i64 n] w fun e w'=>e=.returned (.bool (rMay v n))∧Keep Never w w':=by
  have hr:=vrow_range v
  obtain⟨s,hs⟩:∃s:ByteArray,⟨(vrow v).name.toArray⟩=s:=⟨_,rfl⟩
  obtain⟨k,hk⟩:∃k:Nat,(vrow v).width=k:=⟨(vrow v).width.toNat,by omega⟩
  obtain⟨m,hm⟩:∃m,(vrow v).most=m:=⟨_,rfl⟩
  obtain⟨sp,hsp⟩:∃sp,(vrow v).special=sp:=⟨_,rfl⟩
  obtain⟨b,hb⟩:∃b,vIs v=b:=⟨_,rfl⟩
  have hget:=qh (rget2 v s k m sp b hs hk hm hsp hb)
  rw[hk,hm,hsp] at hr
  obtain⟨p,hp⟩:∃p:Int,((2 ^ k:Nat):Int)=p:=⟨_,rfl⟩
  have hpow:=qh (power_any' k (by omega) p hp)
  have hp1:=pow_pos' k
  have hp2:=pow_le32 (k:=k) (by omega)
  rw[hp] at hp1 hp2
  have hmay:rMay v n=decide (b=true∧0≤n∧n<p∧(m<0∨n≤m∨(0≤sp∧sp≤n))):=by rw[rMay,hm,hk,hb,hsp,Int.toNat_natCast,hp]
  clear hs hk hm hsp hb hp
  cases b
  ·have hf:Hid (rMay v n=false):=by show _=false;rw[hmay,decide_eq_false_iff_not];simp
   clear hmay
   go_enter Tryz.func204, Tryz.ntmps204
   go_wp2_with (first| (go_at_call 167; refine(hget.out _).mono ?_;rintro e w' ⟨rfl,hk⟩;have HK:=qh hk;clear hk) | (go_at_call 223; refine(hpow.out _).mono ?_;rintro e w' ⟨rfl,rfl⟩))
   go_ret
   exact⟨by rw[hf.out];rfl,(by repeat (first| exact Keep.refl _ _ | exact HK.out | refine Keep.alloc ?_ _))⟩
  by_cases c1:n<0
  ·have d1:decide (n<0)=true:=by simpa using c1
   have hf:Hid (rMay v n=false):=by show _=false;rw[hmay,decide_eq_false_iff_not];simp;omega
   clear hmay
   go_enter Tryz.func204, Tryz.ntmps204
   go_wp2_with (first| (go_at_call 167; refine(hget.out _).mono ?_;rintro e w' ⟨rfl,hk⟩;have HK:=qh hk;clear hk) | (go_at_call 223; refine(hpow.out _).mono ?_;rintro e w' ⟨rfl,rfl⟩))
   go_ret
   exact⟨by rw[hf.out];rfl,(by repeat (first| exact Keep.refl _ _ | exact HK.out | refine Keep.alloc ?_ _))⟩
  have d1:decide (n<0)=false:=by simpa using c1
  by_cases c2:p≤n
  ·have d2:decide (p≤n)=true:=by simpa using c2
   have hf:Hid (rMay v n=false):=by show _=false;rw[hmay,decide_eq_false_iff_not];simp;omega
   clear hmay
   go_enter Tryz.func204, Tryz.ntmps204
   go_wp2_with (first| (go_at_call 167; refine(hget.out _).mono ?_;rintro e w' ⟨rfl,hk⟩;have HK:=qh hk;clear hk) | (go_at_call 223; refine(hpow.out _).mono ?_;rintro e w' ⟨rfl,rfl⟩))
   go_ret
   exact⟨by rw[hf.out];rfl,(by repeat (first| exact Keep.refl _ _ | exact HK.out | refine Keep.alloc ?_ _))⟩
  have d2:decide (p≤n)=false:=by simpa using c2
  by_cases c3:m<0
  ·have d3:decide (m<0)=true:=by simpa using c3
   have hf:Hid (rMay v n=true):=by show _=true;rw[hmay,decide_eq_true_eq];simp;omega
   clear hmay
   go_enter Tryz.func204, Tryz.ntmps204
   go_wp2_with (first| (go_at_call 167; refine(hget.out _).mono ?_;rintro e w' ⟨rfl,hk⟩;have HK:=qh hk;clear hk) | (go_at_call 223; refine(hpow.out _).mono ?_;rintro e w' ⟨rfl,rfl⟩))
   go_ret
   exact⟨by rw[hf.out];rfl,(by repeat (first| exact Keep.refl _ _ | exact HK.out | refine Keep.alloc ?_ _))⟩
  have d3:decide (m<0)=false:=by simpa using c3
  by_cases c4:n≤m
  ·have d4:decide (n≤m)=true:=by simpa using c4
   have hf:Hid (rMay v n=true):=by show _=true;rw[hmay,decide_eq_true_eq];simp;omega
   clear hmay
   go_enter Tryz.func204, Tryz.ntmps204
   go_wp2_with (first| (go_at_call 167; refine(hget.out _).mono ?_;rintro e w' ⟨rfl,hk⟩;have HK:=qh hk;clear hk) | (go_at_call 223; refine(hpow.out _).mono ?_;rintro e w' ⟨rfl,rfl⟩))
   go_ret
   exact⟨by rw[hf.out];rfl,(by repeat (first| exact Keep.refl _ _ | exact HK.out | refine Keep.alloc ?_ _))⟩
  have d4:decide (n≤m)=false:=by simpa using c4
  by_cases c5:0≤sp
  ·have d5:decide (0≤sp)=true:=by simpa using c5
   by_cases c6:sp≤n
   ·have d6:decide (sp≤n)=true:=by simpa using c6
    have hf:Hid (rMay v n=true):=by show _=true;rw[hmay,decide_eq_true_eq];simp;omega
    clear hmay
    go_enter Tryz.func204, Tryz.ntmps204
    go_wp2_with (first| (go_at_call 167; refine(hget.out _).mono ?_;rintro e w' ⟨rfl,hk⟩;have HK:=qh hk;clear hk) | (go_at_call 223; refine(hpow.out _).mono ?_;rintro e w' ⟨rfl,rfl⟩))
    go_ret
    exact⟨by rw[hf.out];rfl,(by repeat (first| exact Keep.refl _ _ | exact HK.out | refine Keep.alloc ?_ _))⟩
   ·have d6:decide (sp≤n)=false:=by simpa using c6
    have hf:Hid (rMay v n=false):=by show _=false;rw[hmay,decide_eq_false_iff_not];simp;omega
    clear hmay
    go_enter Tryz.func204, Tryz.ntmps204
    go_wp2_with (first| (go_at_call 167; refine(hget.out _).mono ?_;rintro e w' ⟨rfl,hk⟩;have HK:=qh hk;clear hk) | (go_at_call 223; refine(hpow.out _).mono ?_;rintro e w' ⟨rfl,rfl⟩))
    go_ret
    exact⟨by rw[hf.out];rfl,(by repeat (first| exact Keep.refl _ _ | exact HK.out | refine Keep.alloc ?_ _))⟩
  ·have d5:decide (0≤sp)=false:=by simpa using c5
   have hf:Hid (rMay v n=false):=by show _=false;rw[hmay,decide_eq_false_iff_not];simp;omega
   clear hmay
   go_enter Tryz.func204, Tryz.ntmps204
   go_wp2_with (first| (go_at_call 167; refine(hget.out _).mono ?_;rintro e w' ⟨rfl,hk⟩;have HK:=qh hk;clear hk) | (go_at_call 223; refine(hpow.out _).mono ?_;rintro e w' ⟨rfl,rfl⟩))
   go_ret
   exact⟨by rw[hf.out];rfl,(by repeat (first| exact Keep.refl _ _ | exact HK.out | refine Keep.alloc ?_ _))⟩
end Go.Proofs.YtpapiojicbbheaaGreatDoor

namespace Go.Proofs.YtpapiojicbbheaaGreatDoor
open Go.RowKit
def vName (k:Nat):ByteArray:=⟨(vrow k).name.toArray⟩
def FindIs (s:ByteArray) (x:Int):Prop:=(∃k:Nat,k<96∧x=k∧vName k=s∧∀j,j<k→vName j≠s)∨(x=-1∧∀j,j<96→vName j≠s)
theorem FindIs.one {s:ByteArray}{x y:Int} (h:FindIs s x) (h':FindIs s y):x=y:=by
 rcases h with⟨k,hk,rfl,he,hl⟩ | ⟨rfl,hl⟩
 ·rcases h' with⟨k',hk',rfl,he',hl'⟩ | ⟨rfl,hl'⟩
  ·rcases Nat.lt_trichotomy k k' with h | h | h
   ·exact absurd he (hl' k h)
   ·rw[h]
   ·exact absurd he' (hl k' h)
  ·exact absurd he (hl' k hk)
 ·rcases h' with⟨k',hk',rfl,he',hl'⟩ | ⟨rfl,hl'⟩
  ·exact absurd he' (hl k' hk')
  ·rfl
theorem bytes_beq (a b:ByteArray):(a.toList==b.toList)=decide (a=b):=by
 rw[Bool.eq_iff_iff,beq_iff_eq,decide_eq_true_iff,Lib.toList_data,Lib.toList_data]
 constructor
 ·intro h;rw[←Lib.mk_data a,h,Lib.mk_data]
 ·intro h;rw[h]
theorem table_names (w0:World) (n:Nat) (hn:w0.heap.size=n) :
    Calls Tryz.prog 202 #[] w0 fun e w'=>e=.returned (.slice (some ⟨n,0,none⟩) 96 96)∧Keep Never w0 w'∧∀k,k<96→w'.cell? ⟨n,k*4,none⟩=some (.string (vName k)):=by
  refine(table_any w0).mono ?_
  rintro e w' ⟨rfl,rfl⟩
  subst hn
  refine⟨rfl,(Keep.refl _ _).alloc _,fun k hk=>?_⟩
  rw[World.cell?_alloc_at _ _ _ _ rfl,List.getElem?_toArray]
  exact rows_at vrows k 0 _ _ (vrow_at k hk) rfl
set_option maxHeartbeats 1000000 in
theorem rfind_any (s:ByteArray) (w:World) :
    Calls Tryz.prog 169 #[.string s] w fun e w'=>∃x,e=.returned (.int .i64 x)∧FindIs s x∧Keep Never w w':=by
  go_enter Tryz.func169, Tryz.ntmps169
  go_wp2_with (go_at_call 202; refine(table_names _ w.heap.size (by simp)).mono ?_;rintro e w' ⟨rfl,hk,hc⟩;have HK:=qh hk;have HC:=qh hc;clear hk hc)
  go_loop [4] (fun v=>∃k:Nat,k≤96∧v=.int .i64 k∧∀j,j<k→vName j≠s) (fun v=>96 - (intOf v).toNat)
  case atStart=>exact⟨0,by omega,rfl,fun j h=>by omega⟩
  case round=>
   obtain⟨k,hk,rfl,hlo⟩:=hrel
   have HL:=qh hlo
   clear hlo
   by_cases h96:k<96
   ·have c0:=HC.out k h96
    by_cases he:vName k=s
    ·have hb:((vName k).toList==s.toList)=true:=by rw[bytes_beq];simpa using he
     have HE:=qh he
     clear he
     go_wp2
     go_ret
     exact⟨k,rfl,.inl ⟨k,h96,rfl,HE.out,HL.out⟩,HK.out⟩
    ·have hb:((vName k).toList==s.toList)=false:=by rw[bytes_beq];simpa using he
     have HE:=qh he
     clear he
     go_wp2
     go_round
     case rel=>exact⟨k+1,by omega,by go_num,fun j h=>by rcases Nat.lt_succ_iff_lt_or_eq.1 h with h | rfl;exact HL.out j h;exact HE.out⟩
     case measure=>simp[intOf];omega
   ·obtain rfl:k=96:=by omega
    go_wp2
    go_ret
    exact⟨-1,rfl,.inr ⟨rfl,HL.out⟩,HK.out⟩
end Go.Proofs.YtpapiojicbbheaaGreatDoor

namespace Go.Proofs.YtpapiojicbbheaaGreatDoor
open Go.RowKit
theorem vrows_plain:∀k,k<96→wtab.getD k 0=(vrows.getD k ⟨[],0,0,0⟩).width∧vMost k=rMost k∧vSpecial k=rSpecial k:=by decide +kernel
theorem vIs_iff {v:Int}:vIs v=true↔0≤v∧v<96:=by simp[vIs]
theorem vWidth_eq (v:Int):vWidth v=(vrow v).width:=by
 unfold vWidth vrow
 split
 ·exact(vrows_plain v.toNat (by omega)).1
 ·rfl
theorem vSpecial_eq (v:Int):vSpecial v=rSpecial v:=by
 by_cases h:0≤v∧v<96
 ·obtain⟨k,rfl⟩:∃k:Nat,v=k:=⟨v.toNat,by omega⟩
  exact(vrows_plain k (by omega)).2.2
 ·have e:rSpecial v=0:=by rw[rSpecial,vrow,if_neg h];rfl
  rw[e]
  unfold vSpecial
  (repeat' split) <;> omega
theorem vMost_eq (v:Int):vMost v=rMost v:=by
 by_cases h:0≤v∧v<96
 ·obtain⟨k,rfl⟩:∃k:Nat,v=k:=⟨v.toNat,by omega⟩
  exact(vrows_plain k (by omega)).2.1
 ·have hf:vIs v=false:=by simpa[vIs] using h
  have e:rMost v=0:=by rw[rMost,hf,if_neg (by simp),vrow,if_neg h]
  have e2:vWidth v=0:=by rw[vWidth,if_neg h]
  rw[e]
  unfold vMost
  rw[e2]
  (repeat' split) <;> first | omega | rfl
theorem vrows_special:∀r∈vrows,r.special≠0∧(0<r.special→r.special<((2 ^ r.width.toNat:Nat):Int)∧0≤r.most∧r.most<r.special)∧r.most<((2 ^ r.width.toNat:Nat):Int):=by decide +kernel
theorem vMay_eq (v n:Int):vMay v n=rMay v n:=by
 rw[Bool.eq_iff_iff]
 unfold vMay rMay
 rw[vMost_eq,vSpecial_eq,vWidth_eq,decide_eq_true_iff,decide_eq_true_iff,vIs_iff]
 by_cases h:0≤v∧v<96
 ·obtain⟨k,rfl⟩:∃k:Nat,v=k:=⟨v.toNat,by omega⟩
  have hm:=List.mem_of_getElem? (vrow_at k (by omega))
  have h1:=vrows_range (vrow k) hm
  have h2:=vrows_special (vrow k) hm
  have hi:vIs (k:Int)=true:=vIs_iff.2 h
  unfold rMost rSpecial
  rw[hi]
  generalize (vrow k).width=wd at *
  generalize (vrow k).most=m at *
  generalize (vrow k).special=sp at *
  generalize ((2 ^ wd.toNat:Nat):Int)=p at *
  by_cases hm:m<0
  ·rw[if_pos ⟨rfl,hm⟩]
   by_cases hs:sp<0
   ·rw[if_pos hs];omega
   ·rw[if_neg hs];omega
  ·rw[if_neg (by simpa using hm)]
   by_cases hs:sp<0
   ·rw[if_pos hs];omega
   ·rw[if_neg hs];omega
 ·have e:vrow v=⟨[],0,0,0⟩:=by rw[vrow,if_neg h]
  rw[e]
  simp only[ne_eq,not_true_eq_false,false_and,false_iff]
  omega
theorem names_nodup:(vrows.map (·.name)).Nodup:=by decide +kernel
theorem vName_inj {a b:Nat} (ha:a<96) (hb:b<96) (h:vName a=vName b):a=b:=by
 have h1:(vrow a).name=(vrow b).name:=by
  have:=congrArg (fun x:ByteArray=>x.data.toList) h
  exact this
 have e1:(vrows.map (·.name))[a]?=some (vrow a).name:=by rw[List.getElem?_map,vrow_at a ha];rfl
 have e2:(vrows.map (·.name))[b]?=some (vrow b).name:=by rw[List.getElem?_map,vrow_at b hb];rfl
 exact(List.getElem?_inj (by rw[List.length_map,vrows_len];exact ha) names_nodup).1 (by rw[e1,e2,h1])
theorem find_name {a:Nat} (ha:a<96):FindIs (vName a) a:=.inl ⟨a,ha,rfl,rfl,fun j hj h=>by have:=vName_inj (by omega) ha h;omega⟩
end Go.Proofs.YtpapiojicbbheaaGreatDoor

namespace Go.Proofs.YtpapiojicbbheaaGreatDoor
open Go.RowKit
inductive Parts where
  | nil
  | cons (v wh:Int) (l r:Parts)
namespace Parts
def app:Parts→Parts→Parts
  | .nil,m=>m
  | .cons v wh l r,m=>.cons v wh l (r.app m)
def len:Parts→Nat
  | .nil=>0
  | .cons _ _ _ r=>r.len+1
theorem app_nil:∀t:Parts,t.app .nil=t
  | .nil=>rfl
  | .cons v wh l r=>by rw[app,app_nil r]
theorem app_assoc:∀a b c:Parts,(a.app b).app c=a.app (b.app c)
  | .nil,_,_=>rfl
  | .cons v wh l r,b,c=>by simp only[app];rw[app_assoc r b c]
theorem len_app:∀a b:Parts,(a.app b).len=a.len+b.len
  | .nil,b=>by simp[app,len]
  | .cons v wh l r,b=>by simp only[app,len];rw[len_app r b];omega
end Parts
def row:List Int→Parts
  | []=>.nil
  | v::l=>.cons v 0 .nil (row l)
def andP (l:List Parts):Parts:=l.foldr Parts.app .nil
theorem andP_snoc (l:List Parts) (t:Parts):andP (l++[t])=(andP l).app t:=by
 induction l with
 | nil=>simp[andP,Parts.app,Parts.app_nil]
 | cons a l ih=>simp only[andP,List.cons_append,List.foldr_cons] at ih ⊢;rw[ih,Parts.app_assoc]
def some_ (wh:Int) (l:Parts):Parts:=.cons 0 wh l .nil
def pReport (p:Parts):Parts:=andP [row [7,8,4],p,row [13,14,15,16,17,18],some_ 3 (row [19]),row [20,21,22,23],some_ 2 (row [24])]
def pLink:Parts:=andP [row [44,12],some_ 2 (row [10]),row [11,45,46,47]]
def pTimer:Parts:=andP [row [29],some_ 2 (row [30,31])]
def pSection:Parts:=andP [row [28],pTimer]
def pAuthority:Parts:=andP [row [6,7,8,25,26,27],some_ 1 pSection,row [32],pTimer,row [33],some_ 2 (row [34,35]),row [36],some_ 2 (row [37,38]),row [39],some_ 2 (row [40,41,42,43])]
def pHead:Parts:=row [6,7,8]
def pOne:Parts:=andP [row [51,52,53,27],some_ 1 (row [54,55])]
def pSpeeds:Parts:=andP [pHead,pOne,row [27],some_ 1 pOne]
def pRepeated (l:Parts):Parts:=andP [l,row [27],some_ 1 l]
def ptree (id:Int):Option Parts:=
  if id=0 then some (pReport .nil)
  else if id=1 then some (pReport (row [74]))
  else if id=3 then some (andP [pHead,row [84,27],some_ 1 (row [10]),row [85,87,86]])
  else if id=5 then some (andP [pHead,pRepeated pLink])
  else if id=11 then some (andP [row [7,75,76,77,78,79,80,81,27],some_ 1 (row [82]),row [27],some_ 1 (row [83])])
  else if id=15 then some (pAuthority)
  else if id=21 then some (andP [pHead,pRepeated (row [48,49,50])])
  else if id=27 then some (pSpeeds)
  else if id=42 then some (row [6,7,62,10,63,64,64,65])
  else if id=57 then some (row [6,7,66,67,68])
  else if id=58 then some (andP [pHead,row [69,70,71,27],some_ 1 (row [72,73])])
  else if id=80 then some (andP [pHead,pRepeated (row [56,57,58,59,60,61])])
  else none
abbrev Val (σ:Type):=Int→σ→Except Int (Int×σ)
def iterE {σ:Type} (f:σ→Except Int σ):Nat→σ→Except Int σ
  | 0,s=>.ok s
  | n+1,s=>match f s with | .error e=>.error e | .ok s'=>iterE f n s'
def walkL {σ:Type} (val:Val σ):Parts→Int→σ→Except Int σ
  | .nil,_,s=>.ok s
  | .cons v wh l r,last,s=>
   if wh=0 then match val v s with | .error e=>.error e | .ok (n,s')=>walkL val r n s'
   else if wh=1 then match iterE (walkL val l 0) last.toNat s with | .error e=>.error e | .ok s'=>walkL val r last s'
   else if last=1∨wh=3∧last=2 then match walkL val l 0 s with | .error e=>.error e | .ok s'=>walkL val r last s'
   else walkL val r last s
def Alike2 {σ τ:Type} (R:σ→τ→Prop):Except Int σ→Except Int τ→Prop
  | .error e,.error e'=>e=e'
  | .ok s,.ok t=>R s t
  | _,_=>False
theorem iter_sim {σ τ:Type}{R:σ→τ→Prop}{f:σ→Except Int σ}{g:τ→Except Int τ} (h:∀s t,R s t→Alike2 R (f s) (g t)):∀(n:Nat) (s:σ) (t:τ),R s t→Alike2 R (iterE f n s) (iterE g n t):=by
 intro n
 induction n with
 | zero=>intro s t hst;exact hst
 | succ n ih=>
  intro s t hst
  have h1:=h s t hst
  simp only[iterE]
  cases hf:f s <;> cases hg:g t <;> rw[hf,hg] at h1
  ·exact h1
  ·exact h1.elim
  ·exact h1.elim
  ·exact ih _ _ h1
theorem walk_sim {σ τ:Type}{R:σ→τ→Prop}{val:Val σ}{val':Val τ} (h:∀v s t,R s t→Alike2 (fun a b=>a.1=b.1∧R a.2 b.2) (val v s) (val' v t)) :
    ∀(T:Parts) (last:Int) (s:σ) (t:τ),R s t→Alike2 R (walkL val T last s) (walkL val' T last t):=by
  intro T
  induction T with
  | nil=>intro last s t hst;exact hst
  | cons v wh l r ihl ihr=>
   intro last s t hst
   simp only[walkL]
   by_cases h0:wh=0
   ·rw[if_pos h0,if_pos h0]
    have h1:=h v s t hst
    rcases hf:val v s with e | ⟨n,s'⟩ <;> rcases hg:val' v t with e' | ⟨n',t'⟩ <;> rw[hf,hg] at h1
    ·exact h1
    ·exact h1.elim
    ·exact h1.elim
    ·obtain⟨rfl,h2⟩:=h1
     exact ihr _ _ _ h2
   ·rw[if_neg h0,if_neg h0]
    by_cases h1:wh=1
    ·rw[if_pos h1,if_pos h1]
     have h2:=iter_sim (fun s t hst=>ihl 0 s t hst) last.toNat s t hst
     cases hf:iterE (walkL val l 0) last.toNat s <;> cases hg:iterE (walkL val' l 0) last.toNat t <;> rw[hf,hg] at h2
     ·exact h2
     ·exact h2.elim
     ·exact h2.elim
     ·exact ihr _ _ _ h2
    ·rw[if_neg h1,if_neg h1]
     by_cases h2:last=1∨wh=3∧last=2
     ·rw[if_pos h2,if_pos h2]
      have h3:=ihl 0 s t hst
      cases hf:walkL val l 0 s <;> cases hg:walkL val' l 0 t <;> rw[hf,hg] at h3
      ·exact h3
      ·exact h3.elim
      ·exact h3.elim
      ·exact ihr _ _ _ h3
     ·rw[if_neg h2,if_neg h2]
      exact ihr _ _ _ hst
theorem iter_inv {σ:Type}{I:σ→σ→Prop} (hr:∀s,I s s) (ht:∀a b c,I a b→I b c→I a c) {f:σ→Except Int σ} (h:∀s s',f s=.ok s'→I s s'):∀(n:Nat) (s s':σ),iterE f n s=.ok s'→I s s':=by
 intro n
 induction n with
 | zero=>intro s s' hs;injection hs with hs;subst hs;exact hr s
 | succ n ih=>
  intro s s' hs
  simp only[iterE] at hs
  cases hf:f s with
  | error e=>rw[hf] at hs;cases hs
  | ok s1=>rw[hf] at hs;exact ht _ _ _ (h _ _ hf) (ih _ _ hs)
theorem walk_inv {σ:Type}{I:σ→σ→Prop} (hr:∀s,I s s) (ht:∀a b c,I a b→I b c→I a c) {val:Val σ} (h:∀v s n s',val v s=.ok (n,s')→I s s') :
    ∀(T:Parts) (last:Int) (s s':σ),walkL val T last s=.ok s'→I s s':=by
  intro T
  induction T with
  | nil=>intro last s s' hs;injection hs with hs;subst hs;exact hr s
  | cons v wh l r ihl ihr=>
   intro last s s' hs
   simp only[walkL] at hs
   by_cases h0:wh=0
   ·rw[if_pos h0] at hs
    rcases hf:val v s with e | ⟨n,s1⟩
    ·rw[hf] at hs;cases hs
    ·rw[hf] at hs;exact ht _ _ _ (h _ _ _ _ hf) (ihr _ _ _ hs)
   ·rw[if_neg h0] at hs
    by_cases h1:wh=1
    ·rw[if_pos h1] at hs
     cases hf:iterE (walkL val l 0) last.toNat s with
     | error e=>rw[hf] at hs;cases hs
     | ok s1=>rw[hf] at hs;exact ht _ _ _ (iter_inv hr ht (fun a b=>ihl 0 a b) _ _ _ hf) (ihr _ _ _ hs)
    ·rw[if_neg h1] at hs
     by_cases h2:last=1∨wh=3∧last=2
     ·rw[if_pos h2] at hs
      cases hf:walkL val l 0 s with
      | error e=>rw[hf] at hs;cases hs
      | ok s1=>rw[hf] at hs;exact ht _ _ _ (ihl _ _ _ hf) (ihr _ _ _ hs)
     ·rw[if_neg h2] at hs
      exact ihr _ _ _ hs
end Go.Proofs.YtpapiojicbbheaaGreatDoor
