/- Texts of this claim, together: TopS, TopT, TopU, TopI, SlgA, PlcA, PlcB, LckA, PlnA, PlnB, PlnS, PlnC, SclA, PlnE, PlcC, PlcD, PlcE, PlnD, LckB, LckC. -/
import Derived.Test.YtpapiojicbbheaaGreatDoorTd02
import Derived.Test.YtpapiojicbbheaaGreatDoorTd00
import Derived.IntWalk
import Derived.Test.YtpapiojicbbheaaGreatDoorTd01
import Derived.WalkMore
namespace Go.Proofs.YtpapiojicbbheaaGreatDoor
open Go.RowKit
theorem run_neq_stp (w:World) (x1:Int) (x2:Bool) (y1:Int) (y2:Bool):(binOp .neq 30 (.agg #[.int .i64 x1,.bool x2]) (.agg #[.int .i64 y1,.bool y2])).run Tryz.prog w=.ok (.bool (!sameS x1 x2 y1 y2)) w:=by
 by_cases h1:x1=y1
 ·have t1:(x1==y1)=true:=by simpa using h1
  by_cases h2:x2=y2
  ·have t2:(x2==y2)=true:=by simpa using h2
   have hd:sameS x1 x2 y1 y2=true:=decide_eq_true (by rw[h1,h2])
   rw[hd]
   clear h1 h2 hd
   go_simp
  ·have t2:(x2==y2)=false:=by simpa using h2
   have hd:sameS x1 x2 y1 y2=false:=decide_eq_false (by simp[h2])
   rw[hd]
   clear h1 h2 hd
   go_simp
 ·have t1:(x1==y1)=false:=by simpa using h1
  have hd:sameS x1 x2 y1 y2=false:=decide_eq_false (by simp[h1])
  rw[hd]
  clear h1 hd
  go_simp
set_option maxHeartbeats 1000000 in
set_option maxRecDepth 100000 in
theorem steps_any (A A':Option Addr) (n n' c c' B B':Nat) (l m:List Stp) (w:World) (hr:Rd w B 2 A n (stpCells l)) (hr':Rd w B' 2 A' n' (stpCells m)) (hn:n≤100000000) (hn':n'≤100000000) :
    Calls Tryz.prog 26 #[.slice A n c,.slice A' n' c'] w fun e w'=>e=.returned (.bool (decide (l=m)))∧Keep Never w w':=by
  have qe:∀(w:World) (x1:Int) (x2:Bool) (y1:Int) (y2:Bool),(binOp .neq 30 (.agg #[.int .i64 x1,.bool x2]) (.agg #[.int .i64 y1,.bool y2])).run Tryz.prog w=.ok (.bool (!sameS x1 x2 y1 y2)) w:=run_neq_stp
  have HL:Hid (l.length=n∧m.length=n'):=qh ⟨hr.stp_len,hr'.stp_len⟩
  have HR:=qh hr
  have HR':=qh hr'
  clear hr hr'
  by_cases h0:n=n'
  case neg=>
   have t0:((n:Int) != (n':Int))=true:=by simp;omega
   have HF:Hid (decide (l=m)=false):=qh (decide_eq_false (fun e=>h0 (by rw[←HL.out.1,←HL.out.2,e])))
   clear h0
   go_enter Tryz.func26, Tryz.ntmps26
   go_wp2_with fail
   go_ret
   exact⟨by rw[HF.out];rfl,Keep.refl _ _⟩
  subst h0
  have t0:((n:Int) != (n:Int))=false:=by simp
  go_enter Tryz.func26, Tryz.ntmps26
  go_wp2_with fail
  clear t0
  go_loopw [5] (fun i wr=>∃k:Nat,k≤n∧i=.int .i64 k∧Hid (Keep Never w wr∧l.take k=m.take k)) (fun i _=>n - (intOf i).toNat)
  case atStart=>exact⟨0,by omega,rfl,qh ⟨Keep.refl _ _,by simp⟩⟩
  case round=>
   obtain⟨k,hk,rfl,HH⟩:=hrel
   by_cases h0:k<n
   ·have hkz:(k:Int)<(n:Int):=by omega
    obtain⟨ad,u,hA,_,hu,c0,c1⟩:=(HR.out.keep HH.out.1 (fun _ h=>h.elim)).stp h0
    obtain⟨ae,v,hA',_,hv,d0,d1⟩:=(HR'.out.keep HH.out.1 (fun _ h=>h.elim)).stp h0
    subst hA hA'
    obtain⟨u1,u2⟩:=u
    obtain⟨v1,v2⟩:=v
    simp only at c0 c1 d0 d1
    have Hu:=qh hu
    have Hv:=qh hv
    have HT:Hid (l.take (k+1)=l.take k++[(u1,u2)]∧m.take (k+1)=m.take k++[(v1,v2)]):=qh (by
     obtain⟨h2,h3⟩:=List.getElem?_eq_some_iff.1 hu
     obtain⟨h4,h5⟩:=List.getElem?_eq_some_iff.1 hv
     exact⟨by rw[List.take_succ_eq_append_getElem h2,h3],by rw[List.take_succ_eq_append_getElem h4,h5]⟩)
    clear hu hv
    go_wp2_with fail
    rcases Bool.eq_false_or_eq_true (sameS u1 u2 v1 v2) with t1 | t1
    ·have HN:Hid (l.take (k+1)=m.take (k+1)):=qh (by rw[HT.out.1,HT.out.2,HH.out.2,of_decide_eq_true t1])
     have t2:(!sameS u1 u2 v1 v2)=false:=by rw[t1];rfl
     go_quiet (fail)
     go_wp2_with fail
     refine⟨⟨k+1,by omega,by go_num,qh ⟨HH.out.1.drewN _,HN.out⟩⟩,?_⟩
     simp[intOf];try omega
    ·have HF:Hid (decide (l=m)=false):=qh (decide_eq_false (fun e=>by
      have h1:=Hu.out
      rw[e,Hv.out] at h1
      injection h1 with h1
      exact(of_decide_eq_false t1) h1.symm))
     have t2:(!sameS u1 u2 v1 v2)=true:=by rw[t1];rfl
     go_quiet (fail)
     go_wp2_with fail
     go_ret
     exact⟨by rw[HF.out];rfl,HH.out.1.drewN _⟩
   ·obtain rfl:k=n:=by omega
    have hkz:¬(k:Int)<(k:Int):=by omega
    have HF:Hid (decide (l=m)=true):=qh (decide_eq_true (by
     have:=HH.out.2
     rwa [List.take_of_length_le (by rw[HL.out.1];exact Nat.le_refl _),List.take_of_length_le (by rw[HL.out.2];exact Nat.le_refl _)] at this))
    go_wp2_with fail
    go_ret
    exact⟨by rw[HF.out];rfl,HH.out.1⟩
end Go.Proofs.YtpapiojicbbheaaGreatDoor

namespace Go.Proofs.YtpapiojicbbheaaGreatDoor
open Go.RowKit
theorem bal_hit {l:List Bl}{id:Int}{k:Nat}{b:Bl} (h:l[k]?=some b) (hb:b.1=id) (ha:∀x∈l.take k,x.1≠id):balM l id=some b:=find_idx h (by simpa using hb) (fun x hx=>by simpa using ha x hx)
theorem bal_miss {l:List Bl}{id:Int} (ha:∀x∈l,x.1≠id):balM l id=none:=find_no (fun x hx=>by simpa using ha x hx)
theorem rt_hit {l:List Rt}{id:Int}{k:Nat}{b:Rt} (h:l[k]?=some b) (hb:b.1=id) (ha:∀x∈l.take k,x.1≠id):rtM l id=some b:=find_idx h (by simpa using hb) (fun x hx=>by simpa using ha x hx)
theorem rt_miss {l:List Rt}{id:Int} (ha:∀x∈l,x.1≠id):rtM l id=none:=find_no (fun x hx=>by simpa using ha x hx)
theorem all_take {α:Type}{l:List α}{k:Nat}{b:α}{p:α→Prop} (h:l[k]?=some b) (ha:∀x∈l.take k,p x) (hb:p b):∀x∈l.take (k+1),p x:=by
 obtain⟨h2,h3⟩:=List.getElem?_eq_some_iff.1 h
 rw[List.take_succ_eq_append_getElem h2,h3]
 intro x hx
 rcases List.mem_append.1 hx with hx | hx
 ·exact ha x hx
 ·simp at hx;subst hx;exact hb
end Go.Proofs.YtpapiojicbbheaaGreatDoor

namespace Go.Proofs.YtpapiojicbbheaaGreatDoor
open Go.RowKit
theorem firstE_all {f:Nat→Int}:∀{n:Nat},firstE f n=0→∀j,j<n→f j=0
  | 0,_,j,hj=>by omega
  | n+1,h,j,hj=>by
   unfold firstE at h
   by_cases h1:firstE f n=0
   ·rw[if_neg (by simpa using h1)] at h
    by_cases e:j=n
    ·rw[e];exact h
    ·exact firstE_all h1 j (by omega)
   ·rw[if_pos h1] at h
    exact absurd h h1
structure RtGood (t:Tp) (r:Rt):Prop where
  fnd:rtM t.2.2.2 r.1=some r
  err:(lenM t r.2.1).2=0
  gap:r.2.2.1<(lenM t r.2.1).1
  few:r.2.1.length≤8
  bal:∀(k:Nat) (s:Stp),r.2.1[k]?=some s→t.2.2.1.any (fun b=>b.2.1==s.1)=true
  aft:∀(k:Nat) (s u:Stp),r.2.1[k]?=some s→r.2.1[k+1]?=some u→u∈afterM t s
  dis:∀(j k:Nat) (s u:Stp),j<k→r.2.1[j]?=some s→r.2.1[k]?=some u→s.1≠u.1
theorem routed_good {t:Tp}{r:Rt} (h:routedM t r=0):(lenM t r.2.1).2=0∧r.2.2.1<(lenM t r.2.1).1∧r.2.1.length≤8∧pathBad t.1.length r.2.1=false∧r.2.1.any (noBal t.2.2.1)=false:=by
 unfold routedM at h
 split at h
 ·exact absurd h (by decide)
 rename_i h1
 split at h
 ·exact absurd h (by decide)
 rename_i h2
 split at h
 ·rename_i h3
  exact absurd h h3
 rename_i h3
 split at h
 ·exact absurd h (by decide)
 rename_i h4
 split at h
 ·exact absurd h (by decide)
 rename_i h5
 refine⟨by omega,by omega,by omega,by simpa using h2,by simpa using h5⟩
theorem len_way {t:Tp}{p:List Stp} (h:(lenM t p).2=0):p.all (fun s=>thereB t.1.length s.1)=true∧wayM t.2.1 p=true:=by
 unfold lenM at h
 split at h
 ·exact absurd h (by simp)
 split at h
 ·rename_i h2
  split at h
  ·rename_i h3
   exact⟨h2,h3⟩
  ·exact absurd h (by simp)
 ·exact absurd h (by simp)
theorem check_good {t:Tp} (h:checkM t=0) {i:Nat}{r:Rt} (hr:t.2.2.2[i]?=some r):RtGood t r:=by
 have h0:firstE (rErr t) t.2.2.2.length=0:=by
  unfold checkM at h
  split at h
  ·exact absurd h (by decide)
  split at h
  ·exact absurd h (by decide)
  split at h
  ·rename_i h3;exact absurd h h3
  split at h
  ·rename_i h3;exact absurd h h3
  exact h
 have hi:i<t.2.2.2.length:=(List.getElem?_eq_some_iff.1 hr).1
 have h1:=firstE_all h0 i hi
 unfold rErr at h1
 rw[hr] at h1
 simp only at h1
 split at h1
 ·rename_i h2;exact absurd h1 h2
 rename_i h2
 have h2:routedM t r=0:=by simpa using h2
 split at h1
 ·exact absurd h1 (by decide)
 rename_i h3
 have h3:rtM (t.2.2.2.take i) r.1=none:=by simpa using h3
 obtain⟨e1,e2,e3,e4,e5⟩:=routed_good h2
 obtain⟨e6,e7⟩:=len_way e1
 have hth:∀(k:Nat) (s:Stp),r.2.1[k]?=some s→thereB t.1.length s.1=true:=fun k s hs=>List.all_eq_true.1 e6 s (List.mem_of_getElem? hs)
 refine⟨?_,e1,e2,e3,?_,?_,?_⟩
 ·refine rt_hit hr rfl (fun x hx=>?_)
  unfold rtM at h3
  rw[List.find?_eq_none] at h3
  have:=h3 x hx
  simpa using this
 ·intro k s hs
  rw[List.any_eq_false] at e5
  have:=e5 s (List.mem_of_getElem? hs)
  unfold noBal at this
  simpa using this
 ·intro k s u hs hu
  rw[afterM_mem]
  refine⟨hth k s hs,hth _ u hu,?_⟩
  rw[←okAt_eq hs hu]
  unfold wayM at e7
  rw[List.all_eq_true] at e7
  exact e7 k (List.mem_range.2 (by have:=(List.getElem?_eq_some_iff.1 hu).1;omega))
 ·intro j k s u hjk hs hu he
  unfold pathBad at e4
  rw[List.any_eq_false] at e4
  have h5:=e4 k (List.mem_range.2 (List.getElem?_eq_some_iff.1 hu).1)
  apply h5
  unfold badAt
  rw[hu]
  simp only[Bool.or_eq_true]
  right
  rw[List.any_eq_true]
  refine⟨s,?_,by simpa using he⟩
  rw[List.mem_iff_getElem?]
  exact⟨j,by rw[List.getElem?_take];rw[if_pos hjk];exact hs⟩
end Go.Proofs.YtpapiojicbbheaaGreatDoor

namespace Go.Proofs.YtpapiojicbbheaaGreatDoor
open Go.RowKit
def overK (es:List Int) (lo hi:Int) (p:List Stp):Nat→List Sp
  | 0=>[]
  | k+1=>overK es lo hi p k++(match p[k]? with | some s=>[cutS es lo hi (sumM es (p.take k)) s] | none=>[])
theorem overK_at {es:List Int}{lo hi:Int}{p:List Stp}{k:Nat}{s:Stp} (h:p[k]?=some s):overK es lo hi p (k+1)=overK es lo hi p k++[cutS es lo hi (sumM es (p.take k)) s]:=by
 conv=>lhs;unfold overK
 rw[h]
def goodM (es:List Int) (p:List Stp):Prop:=(∀v∈es,1≤v∧v≤1000000)∧(∀s∈p,thereB es.length s.1=true)∧p.length≤40
theorem good_at {es:List Int}{p:List Stp} (h:goodM es p) {k:Nat}{s:Stp} (hs:p[k]?=some s):∃j:Nat,s.1=(j:Int)∧j<es.length∧∃v,es[j]?=some v∧1≤v∧v≤1000000∧es.getD s.1.toNat 0=v:=by
 have h1:=h.2.1 s (List.mem_of_getElem? hs)
 unfold thereB at h1
 rw[Bool.and_eq_true,decide_eq_true_eq,decide_eq_true_eq] at h1
 obtain⟨j,hj⟩:∃j:Nat,s.1=(j:Int):=⟨s.1.toNat,by omega⟩
 have hl:j<es.length:=by omega
 have hv:es[j]?=some es[j]:=List.getElem?_eq_getElem hl
 have h2:=h.1 _ (List.getElem_mem hl)
 exact⟨j,hj,hl,_,hv,h2.1,h2.2,by rw[hj,List.getD_eq_getElem?_getD,Int.toNat_natCast,hv];rfl⟩
theorem sum_good {es:List Int}{p:List Stp} (h:goodM es p):∀k,k≤p.length→0≤sumM es (p.take k)∧sumM es (p.take k)≤1000000*k
  | 0,_=>by simp[sumM]
  | k+1,hk=>by
   obtain⟨i1,i2⟩:=sum_good h k (by omega)
   have hs:p[k]?=some p[k]:=List.getElem?_eq_getElem (by omega)
   obtain⟨j,_,_,v,_,h1,h2,h3⟩:=good_at h hs
   rw[sumM_take hs,h3,IntWalk.i64_in _ (by have:=h.2.2;omega)]
   omega
theorem sum_step {es:List Int}{p:List Stp} (h:goodM es p) {k:Nat}{s:Stp} (hs:p[k]?=some s):sumM es (p.take (k+1))=sumM es (p.take k)+es.getD s.1.toNat 0:=by
 have hk:k<p.length:=(List.getElem?_eq_some_iff.1 hs).1
 obtain⟨i1,i2⟩:=sum_good h k (by omega)
 obtain⟨j,_,_,v,_,h1,h2,h3⟩:=good_at h hs
 rw[sumM_take hs,h3,IntWalk.i64_in _ (by have:=h.2.2;omega)]
theorem len_good {t:Tp}{p:List Stp} (h:(lenM t p).2=0) (hw:t.1.any wrongB=false):goodM t.1 p∧(lenM t p).1=sumM t.1 p:=by
 unfold lenM at h ⊢
 split at h
 ·simp at h
 ·rename_i h0
  rw[if_neg h0]
  split at h
  ·rename_i h1
   rw[if_pos h1]
   split at h
   ·rename_i h2
    rw[if_pos h2]
    refine⟨⟨fun v hv=>?_,fun s hs=>?_,by omega⟩,rfl⟩
    ·have:=(List.any_eq_false.1 hw) v hv
     unfold wrongB at this
     simp only[Bool.or_eq_true,decide_eq_true_eq,not_or] at this
     omega
    ·exact List.all_eq_true.1 h1 s hs
   ·simp at h
  ·simp at h
end Go.Proofs.YtpapiojicbbheaaGreatDoor

namespace Go.Proofs.YtpapiojicbbheaaGreatDoor
open Go.RowKit
def posM (es:List Int) (s:Stp) (a:Int):Int:=if s.2=true then es.getD s.1.toNat 0 - 1 - a else a
theorem cut_has {es:List Int}{lo hi S e a:Int}{s:Stp} (h0:0≤s.1) (h2:es.getD s.1.toNat 0≤1000000) :
    (someS (cutS es lo hi S s)&&hasS (cutS es lo hi S s) e a)=true↔s.1=e∧0≤a∧a<es.getD s.1.toNat 0∧lo≤S+posM es s a∧S+posM es s a<hi:=by
  rw[Bool.and_eq_true,someS_iff,hasS_iff]
  unfold cutS posM
  generalize es.getD s.1.toNat 0=v at *
  split <;> simp only <;> omega
theorem good_pos {es:List Int}{p:List Stp} (h:goodM es p) {k:Nat}{s:Stp} (hs:p[k]?=some s):0≤s.1∧1≤es.getD s.1.toNat 0∧es.getD s.1.toNat 0≤1000000:=by
 obtain⟨j,h1,_,v,_,h3,h4,h5⟩:=good_at h hs
 exact⟨by omega,by omega,by omega⟩
theorem overK_has {es:List Int}{p:List Stp}{lo hi:Int} (hg:goodM es p) (e a:Int):∀k,k≤p.length→(hasL (overK es lo hi p k) e a=true↔∃i s,i<k∧p[i]?=some s∧s.1=e∧0≤a∧a<es.getD s.1.toNat 0∧lo≤sumM es (p.take i)+posM es s a∧sumM es (p.take i)+posM es s a<hi)
  | 0,_=>by
   constructor
   ·intro h;simp[overK,hasL] at h
   ·rintro⟨i,_,h,_⟩;omega
  | k+1,hk=>by
   have hs:p[k]?=some p[k]:=List.getElem?_eq_getElem (by omega)
   obtain⟨g1,g2,g3⟩:=good_pos hg hs
   rw[overK_at hs,hasL_app,Bool.or_eq_true,overK_has hg e a k (by omega),hasL_cons,hasL_nil,Bool.or_false,cut_has g1 g3]
   constructor
   ·rintro(⟨i,s,hi,r⟩ | h)
    ·exact⟨i,s,by omega,r⟩
    ·exact⟨k,_,by omega,hs,h⟩
   ·rintro⟨i,s,hi,hs',r⟩
    by_cases h:i=k
    ·subst h
     rw[hs] at hs'
     injection hs' with hs'
     subst hs'
     exact .inr r
    ·exact .inl ⟨i,s,by omega,hs',r⟩
def onceM (p:List Stp):Prop:=∀(i k:Nat) (s u:Stp),p[i]?=some s→p[k]?=some u→s.1=u.1→i=k
def plainS (es:List Int) (p:List Stp):Int:=(p.map fun s=>es.getD s.1.toNat 0).sum
theorem sum_plain {es:List Int}{p:List Stp} (h:goodM es p):∀k,k≤p.length→sumM es (p.take k)=plainS es (p.take k)
  | 0,_=>rfl
  | k+1,hk=>by
   have hs:p[k]?=some p[k]:=List.getElem?_eq_getElem (by omega)
   rw[sum_step h hs,sum_plain h k (by omega)]
   unfold plainS
   rw[List.take_add_one,hs,List.map_append,List.sum_append]
   simp
end Go.Proofs.YtpapiojicbbheaaGreatDoor

namespace Go.Proofs.YtpapiojicbbheaaGreatDoor
open Go.RowKit
abbrev Ps:=Int×Int×Bool
def noP:Ps:=(0,0,false)
def edgeM (t:Tp) (e:Int):Int:=t.1.getD e.toNat 0
def rightB (t:Tp) (p:Ps):Bool:=decide (checkM t=0)&&thereB t.1.length p.1&&decide (0≤p.2.1)&&decide (p.2.1≤edgeM t p.1)
def overP (t:Tp) (s:Stp) (n:Int):Ps:=(s.1,if s.2=true then edgeM t s.1 - n else n,s.2)
def alongP (t:Tp) (p:Ps):Int:=if p.2.2=true then edgeM t p.1 - p.2.1 else p.2.1
def aheadP (t:Tp) (p:Ps):Int:=if p.2.2=true then p.2.1 else edgeM t p.1 - p.2.1
theorem ahead_along (t:Tp) (p:Ps):aheadP t p=edgeM t p.1 - alongP t p:=by unfold aheadP alongP;split <;> omega
theorem along_over (t:Tp) (s:Stp) (n:Int):alongP t (overP t s n)=n:=by
 obtain⟨e,r⟩:=s
 cases r <;> simp[alongP,overP]
 omega
def goM (t:Tp):Nat→Stp→Int→Ps×Int
  | 0,s,n=>if n≤edgeM t s.1 then (overP t s n,0) else match afterM t s with | []=>(noP,141) | [_]=>(noP,2) | _::_::_=>(noP,140)
  | f+1,s,n=>if n≤edgeM t s.1 then (overP t s n,0) else match afterM t s with | []=>(noP,141) | [x]=>goM t f x (n - edgeM t s.1) | _::_::_=>(noP,140)
theorem goM_in {t:Tp}{f:Nat}{s:Stp}{n:Int} (h:n≤edgeM t s.1):goM t f s n=(overP t s n,0):=by
 cases f <;> (unfold goM;rw[if_pos h])
theorem goM_end {t:Tp}{f:Nat}{s:Stp}{n:Int} (h:¬n≤edgeM t s.1) (ha:afterM t s=[]):goM t f s n=(noP,141):=by
 cases f <;> (unfold goM;rw[if_neg h,ha])
theorem goM_fork {t:Tp}{f:Nat}{s:Stp}{n:Int}{x y:Stp}{l:List Stp} (h:¬n≤edgeM t s.1) (ha:afterM t s=x::y::l):goM t f s n=(noP,140):=by
 cases f <;> (unfold goM;rw[if_neg h,ha])
theorem goM_long {t:Tp}{s:Stp}{n:Int}{x:Stp} (h:¬n≤edgeM t s.1) (ha:afterM t s=[x]):goM t 0 s n=(noP,2):=by
 unfold goM;rw[if_neg h,ha]
theorem goM_next {t:Tp}{f:Nat}{s:Stp}{n:Int}{x:Stp} (h:¬n≤edgeM t s.1) (ha:afterM t s=[x]):goM t (f+1) s n=goM t f x (n - edgeM t s.1):=by
 conv=>lhs;unfold goM
 rw[if_neg h,ha]
theorem after_there {t:Tp}{s x:Stp} (h:x∈afterM t s):thereB t.1.length x.1=true:=by
 unfold afterM at h
 split at h
 ·exact(listM_mem.1 h).1
 ·simp at h
def walkP (t:Tp) (p:Ps) (n:Int):Ps×Int:=if rightB t p=true∧0≤n∧n≤1099511627776 then goM t 40 (p.1,p.2.2) (n+alongP t p) else (noP,1)
theorem right_iff {t:Tp}{p:Ps}:rightB t p=true↔checkM t=0∧thereB t.1.length p.1=true∧0≤p.2.1∧p.2.1≤edgeM t p.1:=by
 unfold rightB;simp[and_assoc]
theorem along_in {t:Tp}{p:Ps} (h0:0≤p.2.1) (h1:p.2.1≤edgeM t p.1):0≤alongP t p∧alongP t p≤edgeM t p.1:=by unfold alongP;split <;> omega
end Go.Proofs.YtpapiojicbbheaaGreatDoor

namespace Go.Proofs.YtpapiojicbbheaaGreatDoor
open Go.RowKit
theorem plainS_cons (es:List Int) (s:Stp) (l:List Stp):plainS es (s::l)=es.getD s.1.toNat 0+plainS es l:=by unfold plainS;simp
theorem check_edges {t:Tp} (h:checkM t=0):∀v∈t.1,1≤v∧v≤1000000:=by
 intro v hv
 unfold checkM at h
 split at h
 ·exact absurd h (by decide)
 split at h
 ·exact absurd h (by decide)
 rename_i h1
 rw[Bool.not_eq_true,List.any_eq_false] at h1
 have:=h1 v hv
 unfold wrongB at this
 simp at this
 omega
theorem good_of {t:Tp}{p:List Stp} (hc:checkM t=0) (h:(lenM t p).2=0):goodM t.1 p∧p≠[]∧(lenM t p).1=sumM t.1 p:=by
 have hw:=len_way h
 unfold lenM at h ⊢
 split at h
 ·exact absurd h (by decide)
 rename_i h0
 rw[if_neg h0,if_pos hw.1,if_pos hw.2]
 refine⟨⟨check_edges hc,List.all_eq_true.1 hw.1,by omega⟩,?_,rfl⟩
 rintro rfl
 exact h0 (.inl rfl)
end Go.Proofs.YtpapiojicbbheaaGreatDoor

namespace Go.Proofs.YtpapiojicbbheaaGreatDoor
open Go.RowKit
abbrev Lk:=Int×Int×Int
end Go.Proofs.YtpapiojicbbheaaGreatDoor

namespace Go.Proofs.YtpapiojicbbheaaGreatDoor
open Go.RowKit
abbrev Sc:=Int×Int
abbrev Ma:=Int×Bool×List Stp×List Sc×Int
def noMa:Ma:=(0,false,[],[],0)
def overB (p:List Stp) (e:Int):Bool:=p.any fun u=>u.1==e
def twiceAt (p:List Stp) (k:Nat):Bool:=match p[k]? with | some s=>overB (p.take k) s.1 | none=>false
def twiceB (p:List Stp):Bool:=(List.range p.length).any (twiceAt p)
theorem over_iff {p:List Stp}{e:Int}:overB p e=true↔∃u∈p,u.1=e:=by
 unfold overB
 rw[List.any_eq_true]
 simp
theorem twice_no {p:List Stp}:twiceB p=false↔onceM p:=by
 unfold twiceB onceM
 rw[List.any_eq_false]
 constructor
 ·intro h
  have key:∀(i k:Nat) (s u:Stp),i<k→p[i]?=some s→p[k]?=some u→s.1=u.1→False:=by
   intro i k s u hik hs hu he
   have h1:=h k (List.mem_range.2 (List.getElem?_eq_some_iff.1 hu).1)
   apply h1
   unfold twiceAt
   rw[hu]
   exact over_iff.2 ⟨s,by rw[List.mem_iff_getElem?];exact⟨i,by rw[List.getElem?_take,if_pos hik];exact hs⟩,he⟩
  intro i k s u hs hu he
  rcases Nat.lt_trichotomy i k with h1 | h1 | h1
  ·exact(key i k s u h1 hs hu he).elim
  ·exact h1
  ·exact(key k i u s h1 hu hs he.symm).elim
 ·intro h k hk hb
  unfold twiceAt at hb
  cases hu:p[k]? with
  | none=>rw[hu] at hb;cases hb
  | some u=>
   rw[hu] at hb
   obtain⟨s,hs,he⟩:=over_iff.1 hb
   obtain⟨i,hi⟩:=List.mem_iff_getElem?.1 hs
   rw[List.getElem?_take] at hi
   split at hi
   ·rename_i hik
    have:=h i k s u hi hu he
    omega
   ·cases hi
def leftA (t:Tp) (m:Ma):Option (Int×Int):=match balM t.2.2.1 m.1 with
  | none=>none
  | some b=>if m.2.2.1.head?=some (b.2.1,m.2.1)∧(lenM t m.2.2.1).2=0 then some ((lenM t m.2.2.1).1 - alongP t (b.2.1,b.2.2,m.2.1),alongP t (b.2.1,b.2.2,m.2.1)) else none
def endS (l:List Sc):Int:=(l.getLast?.map (·.1)).getD 0
def sectAt (l:List Sc) (k:Nat):Bool:=match l[k]? with
  | some s=>decide (endS (l.take k)<s.1)&&decide (s.1≤1099511627776)&&decide (1≤s.2)&&decide (s.2≤1000)
  | none=>true
def sectsB (l:List Sc):Bool:=(List.range l.length).all (sectAt l)
def fitsB (t:Tp) (m:Ma):Bool:=match leftA t m with | some z=>decide (endS m.2.2.2.1+m.2.2.2.2≤z.1) | none=>false
def mayMA (t:Tp) (m:Ma):Bool:=decide (checkM t=0)&&decide (m.2.2.1.length≤24)&&!twiceB m.2.2.1&&decide (1≤m.2.2.2.1.length)&&decide (m.2.2.2.1.length≤8)&&decide (0≤m.2.2.2.2)&&decide (m.2.2.2.2≤1099511627776)&&sectsB m.2.2.2.1&&fitsB t m
def reachM (l:List Sc) (age:Int):Int:=endS (l.takeWhile fun s=>decide (age<s.2))
theorem endS_nil:endS []=0:=rfl
theorem endS_app (l:List Sc) (s:Sc):endS (l++[s])=s.1:=by unfold endS;simp
theorem endS_take {l:List Sc}{k:Nat}{s:Sc} (h:l[k]?=some s):endS (l.take (k+1))=s.1:=by
 rw[List.take_add_one,h]
 exact endS_app _ _
structure SectsI (l:List Sc):Prop where
  up:∀k s,l[k]?=some s→endS (l.take k)<s.1
  big:∀s∈l,s.1≤1099511627776
  time:∀s∈l,1≤s.2∧s.2≤1000
theorem sects_iff {l:List Sc}:sectsB l=true↔SectsI l:=by
 unfold sectsB
 rw[List.all_eq_true]
 constructor
 ·intro h
  have key:∀k s,l[k]?=some s→(endS (l.take k)<s.1∧s.1≤1099511627776∧1≤s.2∧s.2≤1000):=by
   intro k s hs
   have h1:=h k (List.mem_range.2 (List.getElem?_eq_some_iff.1 hs).1)
   unfold sectAt at h1
   rw[hs] at h1
   simpa[and_assoc] using h1
  refine⟨fun k s hs=>(key k s hs).1,fun s hs=>?_,fun s hs=>?_⟩
  ·obtain⟨k,hk⟩:=List.mem_iff_getElem?.1 hs;exact(key k s hk).2.1
  ·obtain⟨k,hk⟩:=List.mem_iff_getElem?.1 hs;exact(key k s hk).2.2
 ·intro h k hk
  unfold sectAt
  cases hs:l[k]? with
  | none=>rfl
  | some s=>
   have a1:=h.up k s hs
   have a2:=h.big s (List.mem_of_getElem? hs)
   have a3:=h.time s (List.mem_of_getElem? hs)
   simp[a1,a2,a3.1,a3.2]
theorem SectsI.mono {l:List Sc} (h:SectsI l) {i:Nat}:∀{j:Nat},i≤j→j≤l.length→endS (l.take i)≤endS (l.take j):=by
 intro j
 induction j with
 | zero=>intro h1 _;rw[show i=0 by omega];exact Int.le_refl _
 | succ j ih=>
  intro h1 h2
  by_cases e:i=j+1
  ·rw[e];exact Int.le_refl _
  ·have hs:l[j]?=some l[j]:=List.getElem?_eq_getElem (by omega)
   have a1:=ih (by omega) (by omega)
   have a2:=h.up j _ hs
   rw[endS_take hs]
   omega
theorem SectsI.pos {l:List Sc} (h:SectsI l) {j:Nat} (hj:j≤l.length):0≤endS (l.take j):=by
 have:=h.mono (i:=0) (Nat.zero_le j) hj
 simpa[endS_nil] using this
theorem while_take {α:Type} (p:α→Bool) (l:List α):l.takeWhile p=l.take (l.takeWhile p).length:=(List.prefix_iff_eq_take.1 (List.takeWhile_prefix p))
theorem while_len {α:Type} (p:α→Bool) (l:List α):(l.takeWhile p).length≤l.length:=(List.takeWhile_prefix p).length_le
theorem while_in {α:Type}{p:α→Bool}:∀{l:List α}{k:Nat}{x:α},k<(l.takeWhile p).length→l[k]?=some x→p x=true
  | [],k,x,h,_=>by simp at h
  | y::l,k,x,h,hx=>by
   rw[List.takeWhile_cons] at h
   cases hp:p y with
   | false=>rw[hp] at h;simp at h
   | true=>
    rw[hp] at h
    cases k with
    | zero=>simp at hx;rw[←hx];exact hp
    | succ k=>simp at hx h;exact while_in h hx
theorem while_stop {α:Type}{p:α→Bool}:∀{l:List α}{x:α},l[(l.takeWhile p).length]?=some x→p x=false
  | [],x,hx=>by simp at hx
  | y::l,x,hx=>by
   rw[List.takeWhile_cons] at hx
   cases hp:p y with
   | false=>rw[hp] at hx;simp at hx;rw[←hx];exact hp
   | true=>rw[hp] at hx;simp at hx;exact while_stop hx
theorem while_is {α:Type}{p:α→Bool}{l:List α}{j:Nat} (h1:∀k x,k<j→l[k]?=some x→p x=true) (h2:∀x,l[j]?=some x→p x=false) (hj:j≤l.length):(l.takeWhile p).length=j:=by
 have hl:=while_len p l
 rcases Nat.lt_trichotomy (l.takeWhile p).length j with h | h | h
 ·have hx:l[(l.takeWhile p).length]?=some l[(l.takeWhile p).length]:=List.getElem?_eq_getElem (by omega)
  have:=while_stop hx
  rw[h1 _ _ h hx] at this
  cases this
 ·exact h
 ·have hx:l[j]?=some l[j]:=List.getElem?_eq_getElem (by omega)
  have:=while_in h hx
  rw[h2 _ hx] at this
  cases this
theorem reach_take (l:List Sc) (age:Int):reachM l age=endS (l.take (l.takeWhile fun s=>decide (age<s.2)).length):=by
 unfold reachM
 conv=>lhs;rw[while_take]
structure MayA (t:Tp) (m:Ma) (z:Int×Int):Prop where
  chk:checkM t=0
  few:m.2.2.1.length≤24
  once:onceM m.2.2.1
  some_:1≤m.2.2.2.1.length
  eight:m.2.2.2.1.length≤8
  gap0:0≤m.2.2.2.2
  gap1:m.2.2.2.2≤1099511627776
  sects:SectsI m.2.2.2.1
  left:leftA t m=some z
  fits:endS m.2.2.2.1+m.2.2.2.2≤z.1
theorem may_iff {t:Tp}{m:Ma}:mayMA t m=true↔∃z,MayA t m z:=by
 unfold mayMA fitsB
 simp only[Bool.and_eq_true,decide_eq_true_eq,Bool.not_eq_true',twice_no,sects_iff]
 constructor
 ·rintro⟨⟨⟨⟨⟨⟨⟨⟨h1,h2⟩,h3⟩,h4⟩,h5⟩,h6⟩,h7⟩,h8⟩,h9⟩
  cases hl:leftA t m with
  | none=>rw[hl] at h9;cases h9
  | some z=>rw[hl] at h9;exact⟨z,h1,h2,h3,h4,h5,h6,h7,h8,hl,by simpa using h9⟩
 ·rintro⟨z,h1,h2,h3,h4,h5,h6,h7,h8,h9,h10⟩
  exact⟨⟨⟨⟨⟨⟨⟨⟨h1,h2⟩,h3⟩,h4⟩,h5⟩,h6⟩,h7⟩,h8⟩,by rw[h9];simpa using h10⟩
theorem left_some {t:Tp}{m:Ma}{z:Int×Int} (h:leftA t m=some z):∃b,balM t.2.2.1 m.1=some b∧m.2.2.1.head?=some (b.2.1,m.2.1)∧(lenM t m.2.2.1).2=0∧z=((lenM t m.2.2.1).1 - alongP t (b.2.1,b.2.2,m.2.1),alongP t (b.2.1,b.2.2,m.2.1)):=by
 unfold leftA at h
 cases hb:balM t.2.2.1 m.1 with
 | none=>rw[hb] at h;cases h
 | some b=>
  rw[hb] at h
  simp only at h
  split at h
  ·rename_i h1
   injection h with h
   exact⟨b,rfl,h1.1,h1.2,h.symm⟩
  ·cases h
end Go.Proofs.YtpapiojicbbheaaGreatDoor

namespace Go.Proofs.YtpapiojicbbheaaGreatDoor
open Go.RowKit
def nextK (t:Tp) (train:Int) (out:List Lk) (may:Rt→Bool) (k:Lk):Option (Lk×Rt):=match rtM t.2.2.2 k.1 with
  | some r=>if (k.2.1==train&&!(out.contains k)&&may r)=true then some (k,r) else none
  | none=>none
def hasB (s:Stp) (r:Rt):Bool:=r.2.1.contains s
def followsB (t:Tp) (gone:List Stp) (r:Rt):Bool:=match gone.getLast?,r.2.1.head? with
  | some g,some h=>(afterM t g).contains h&&!(r.2.1.any fun u=>overB gone u.1)
  | _,_=>false
def chainK (t:Tp) (l:List Lk) (train:Int):Nat→List Lk→List Stp→List Lk×List Stp
  | 0,out,gone=>(out,gone)
  | f+1,out,gone=>match l.findSome? (nextK t train out (followsB t gone)) with
    | none=>(out,gone)
    | some z=>chainK t l train f (out++[z.1]) (gone++z.2.2.1)
def chainM (t:Tp) (l:List Lk) (train:Int) (s:Stp):List Lk:=if checkM t=0 then (match l.findSome? (nextK t train [] (hasB s)) with
  | none=>[]
  | some z=>(chainK t l train 7 [z.1] z.2.2.1).1) else []
theorem nextK_some {t:Tp}{train:Int}{out:List Lk}{may:Rt→Bool}{k:Lk}{z:Lk×Rt} (h:nextK t train out may k=some z):z.1=k∧rtM t.2.2.2 k.1=some z.2∧k.2.1=train∧k∉out∧may z.2=true:=by
 unfold nextK at h
 cases hr:rtM t.2.2.2 k.1 with
 | none=>rw[hr] at h;cases h
 | some r=>
  rw[hr] at h
  simp only at h
  split at h
  ·rename_i hc
   injection h with h
   subst h
   simp only[Bool.and_eq_true,beq_iff_eq,Bool.not_eq_true',List.contains_eq_mem,decide_eq_false_iff_not] at hc
   exact⟨rfl,rfl,hc.1.1,hc.1.2,hc.2⟩
  ·cases h
structure ChI (t:Tp) (l:List Lk) (train:Int) (s:Stp) (out:List Lk) (gone:List Stp):Prop where
  way:∀i k,out[i]?=some k→∃r,rtM t.2.2.2 k.1=some r∧k∈l∧k.2.1=train∧k∉out.take i∧(i=0→hasB s r=true)∧(0<i→followsB t ((out.take i).flatMap fun k=>((rtM t.2.2.2 k.1).map (·.2.1)).getD []) r=true)
  gone_:gone=out.flatMap fun k=>((rtM t.2.2.2 k.1).map (·.2.1)).getD []
theorem ChI.next {t:Tp}{l:List Lk}{train:Int}{s:Stp}{out:List Lk}{gone:List Stp} (h:ChI t l train s out gone) (h0:out≠[]) {z:Lk×Rt} (hz:l.findSome? (nextK t train out (followsB t gone))=some z):ChI t l train s (out++[z.1]) (gone++z.2.2.1):=by
 obtain⟨k,hk,hz⟩:=List.exists_of_findSome?_eq_some hz
 obtain⟨h1,h2,h3,h4,h5⟩:=nextK_some hz
 refine⟨fun i k' hk'=>?_,?_⟩
 ·by_cases hi:i<out.length
  ·rw[List.getElem?_append_left hi] at hk'
   rw[List.take_append_of_le_length (by omega)]
   exact h.way i k' hk'
  ·have hi2:i=out.length:=by
    have:=(List.getElem?_eq_some_iff.1 hk').1
    rw[List.length_append] at this
    simp at this
    omega
   subst hi2
   rw[List.getElem?_append_right (Nat.le_refl _)] at hk'
   simp at hk'
   subst hk'
   rw[List.take_append_of_le_length (Nat.le_refl _),List.take_length,h1]
   refine⟨z.2,h2,hk,h3,h4,fun e=>?_,fun _=>by rw[←h.gone_];exact h5⟩
   exact absurd (List.eq_nil_of_length_eq_zero e) h0
 ·rw[List.flatMap_append,←h.gone_,h1]
  simp[h2]
theorem ChI.loop {t:Tp}{l:List Lk}{train:Int}{s:Stp}:∀{f:Nat}{out:List Lk}{gone:List Stp},ChI t l train s out gone→out≠[]→ChI t l train s (chainK t l train f out gone).1 (chainK t l train f out gone).2∧(chainK t l train f out gone).1.length≤out.length+f
  | 0,out,gone,h,_=>⟨h,Nat.le_refl _⟩
  | f+1,out,gone,h,h0=>by
   unfold chainK
   cases hz:l.findSome? (nextK t train out (followsB t gone)) with
   | none=>exact⟨h,by simp only;omega⟩
   | some z=>
    simp only
    have h1:=h.next h0 hz
    obtain⟨a,b⟩:=ChI.loop (f:=f) h1 (by simp)
    refine⟨a,?_⟩
    rw[List.length_append] at b
    simp at b
    omega
theorem chain_good {t:Tp}{l:List Lk}{train:Int}{s:Stp}:∃gone,ChI t l train s (chainM t l train s) gone∧(chainM t l train s).length≤8∧(chainM t l train s≠[]→checkM t=0):=by
 unfold chainM
 split
 ·rename_i hc
  cases hz:l.findSome? (nextK t train [] (hasB s)) with
  | none=>exact⟨[],⟨fun i k h=>by simp at h,rfl⟩,by simp,fun h=>absurd rfl h⟩
  | some z=>
   simp only
   obtain⟨k,hk,hz⟩:=List.exists_of_findSome?_eq_some hz
   obtain⟨h1,h2,h3,h4,h5⟩:=nextK_some hz
   have h:ChI t l train s [z.1] z.2.2.1:=by
    refine⟨fun i k' hk'=>?_,?_⟩
    ·cases i with
     | zero=>
      simp at hk'
      subst hk'
      rw[h1]
      exact⟨z.2,h2,hk,h3,by simp,fun _=>h5,fun h=>absurd h (by omega)⟩
     | succ i=>simp at hk'
    ·rw[h1];simp[h2]
   obtain⟨a,b⟩:=ChI.loop (f:=7) h (by simp)
   exact⟨_,a,by simpa using b,fun _=>hc⟩
 ·exact⟨[],⟨fun i k h=>by simp at h,rfl⟩,by simp,fun h=>absurd rfl h⟩
def nextD (t:Tp) (train:Int) (way:List Stp) (s:Stp) (out:List Lk) (k:Lk):Option Lk:=match rtM t.2.2.2 k.1 with
  | some r=>if k.2.1=train∧(if out=[] then hasB s r else followsB t way r)=true∧k∉out then some k else none
  | none=>none
theorem next_doc {t:Tp}{train:Int}{out:List Lk}{gone:List Stp}{s:Stp}{l:List Lk}:l.findSome? (nextD t train gone s out)=(l.findSome? (nextK t train out (if out=[] then hasB s else followsB t gone))).map (·.1):=by
 induction l with
 | nil=>rfl
 | cons k l ih=>
  rw[List.findSome?_cons,List.findSome?_cons]
  have e:nextD t train gone s out k=(nextK t train out (if out=[] then hasB s else followsB t gone) k).map (·.1):=by
   unfold nextD nextK
   cases rtM t.2.2.2 k.1 with
   | none=>rfl
   | some r=>
    simp only
    by_cases h1:k.2.1=train
    ·by_cases h2:k∈out
     ·simp[h1,h2]
     ·by_cases h0:out=[]
      ·subst h0
       simp only[if_true]
       cases hb:hasB s r <;> simp[h1]
      ·simp only[h0,if_false]
       cases hb:followsB t gone r <;> simp[h1,h2]
    ·simp[h1]
  rw[e]
  cases nextK t train out (if out=[] then hasB s else followsB t gone) k with
  | none=>exact ih
  | some z=>rfl
end Go.Proofs.YtpapiojicbbheaaGreatDoor

namespace Go.Proofs.YtpapiojicbbheaaGreatDoor
open Go.RowKit
theorem MayA.place {t:Tp}{m:Ma}{z:Int×Int} (h:MayA t m z):∃b,balM t.2.2.1 m.1=some b∧(lenM t m.2.2.1).2=0∧z=((lenM t m.2.2.1).1 - alongP t (b.2.1,b.2.2,m.2.1),alongP t (b.2.1,b.2.2,m.2.1))∧goodM t.1 m.2.2.1∧(lenM t m.2.2.1).1=sumM t.1 m.2.2.1:=by
 obtain⟨b,h1,h2,h3,h4⟩:=left_some h.left
 obtain⟨g1,g2,g3⟩:=good_of h.chk h3
 exact⟨b,h1,h3,h4,g1,g3⟩
end Go.Proofs.YtpapiojicbbheaaGreatDoor

namespace Go.Proofs.YtpapiojicbbheaaGreatDoor
open Go.RowKit
theorem check_bal {t:Tp} (h:checkM t=0) {b:Bl} (hb:b∈t.2.2.1):0≤b.1∧b.1≤16777214∧thereB t.1.length b.2.1=true∧0≤b.2.2∧b.2.2≤edgeM t b.2.1:=by
 have h0:firstE (bErr t) t.2.2.1.length=0:=by
  unfold checkM at h
  split at h
  ·exact absurd h (by decide)
  split at h
  ·exact absurd h (by decide)
  split at h
  ·rename_i h3;exact absurd h h3
  split at h
  ·rename_i h3;exact absurd h h3
  rename_i h3
  simpa using h3
 obtain⟨i,hi⟩:=List.mem_iff_getElem?.1 hb
 have h1:=firstE_all h0 i (List.getElem?_eq_some_iff.1 hi).1
 unfold bErr at h1
 rw[hi] at h1
 simp only at h1
 split at h1
 ·exact absurd h1 (by decide)
 rename_i h2
 have h3:thereB t.1.length b.2.1=true:=by
  cases h4:thereB t.1.length b.2.1 with
  | true=>rfl
  | false=>exact absurd (.inr (.inr (.inl h4))) h2
 refine⟨by omega,by omega,h3,by omega,?_⟩
 unfold edgeM
 omega
theorem bal_mem {l:List Bl}{id:Int}{b:Bl} (h:balM l id=some b):b∈l∧b.1=id:=by
 unfold balM at h
 exact⟨List.mem_of_find?_eq_some h,by simpa using List.find?_some h⟩
def goneM (t:Tp):Nat→Stp→Int→List Stp
  | 0,s,_=>[s]
  | f+1,s,n=>if n≤edgeM t s.1 then [s] else match afterM t s with
    | [x]=>s::goneM t f x (n - edgeM t s.1)
    | _=>[s]
theorem gone_in {t:Tp}{f:Nat}{s:Stp}{n:Int} (h:n≤edgeM t s.1):goneM t f s n=[s]:=by
 cases f <;> unfold goneM
 ·rfl
 ·rw[if_pos h]
theorem gone_next {t:Tp}{f:Nat}{s x:Stp}{n:Int} (h:¬n≤edgeM t s.1) (ha:afterM t s=[x]):goneM t (f+1) s n=s::goneM t f x (n - edgeM t s.1):=by
 conv=>lhs;unfold goneM
 rw[if_neg h,ha]
theorem go_on {t:Tp}{f:Nat}{s:Stp}{n:Int} (h:(goM t f s n).2=0) (hn:¬n≤edgeM t s.1):∃g x,f=g+1∧afterM t s=[x]∧(goM t g x (n - edgeM t s.1)).2=0:=by
 cases f with
 | zero=>
  rcases ha:afterM t s with _ | ⟨x,_ | ⟨y,l⟩⟩
  ·rw[goM_end hn ha] at h;exact absurd h (by decide)
  ·rw[goM_long hn ha] at h;exact absurd h (by decide)
  ·rw[goM_fork hn ha] at h;exact absurd h (by decide)
 | succ f=>
  rcases ha:afterM t s with _ | ⟨x,_ | ⟨y,l⟩⟩
  ·rw[goM_end hn ha] at h;exact absurd h (by decide)
  ·rw[goM_next hn ha] at h;exact⟨f,x,rfl,rfl,h⟩
  ·rw[goM_fork hn ha] at h;exact absurd h (by decide)
structure GoneI (t:Tp) (f:Nat) (s:Stp) (n:Int):Prop where
  few:(goneM t f s n).length≤f+1
  head:(goneM t f s n).head?=some s
  in_:∀u∈goneM t f s n,thereB t.1.length u.1=true
  aft:∀k a b,(goneM t f s n)[k]?=some a→(goneM t f s n)[k+1]?=some b→afterM t a=[b]
  last:(goneM t f s n).getLast?=some ((goM t f s n).1.1,(goM t f s n).1.2.2)
  at_:n=plainS t.1 (goneM t f s n) - edgeM t (goM t f s n).1.1+alongP t (goM t f s n).1
theorem gone_good {t:Tp}:∀{f:Nat}{s:Stp}{n:Int},thereB t.1.length s.1=true→(goM t f s n).2=0→GoneI t f s n:=by
 intro f
 induction f with
 | zero=>
  intro s n hs h
  by_cases hn:n≤edgeM t s.1
  ·have e1:=gone_in (t:=t) (f:=0) hn
   have e2:=goM_in (t:=t) (f:=0) hn
   refine⟨by rw[e1];simp,by rw[e1];rfl,by rw[e1];simpa using hs,by rw[e1];intro k a b ha hb;simp at hb,by rw[e1,e2];rfl,?_⟩
   rw[e1,e2]
   simp only
   rw[along_over]
   unfold plainS overP edgeM
   simp
  ·obtain⟨g,x,h1,_⟩:=go_on h hn
   omega
 | succ f ih=>
  intro s n hs h
  by_cases hn:n≤edgeM t s.1
  ·have e1:=gone_in (t:=t) (f:=f+1) hn
   have e2:=goM_in (t:=t) (f:=f+1) hn
   refine⟨by rw[e1];simp,by rw[e1];rfl,by rw[e1];simpa using hs,by rw[e1];intro k a b ha hb;simp at hb,by rw[e1,e2];rfl,?_⟩
   rw[e1,e2]
   simp only
   rw[along_over]
   unfold plainS overP edgeM
   simp
  ·obtain⟨g,x,h1,h2,h3⟩:=go_on h hn
   obtain rfl:f=g:=by omega
   have i:=ih (after_there (t:=t) (s:=s) (x:=x) (by rw[h2];simp)) h3
   have e1:=gone_next (f:=f) hn h2
   have e2:=goM_next (f:=f) hn h2
   refine⟨by rw[e1];have:=i.few;simp;omega,by rw[e1];rfl,by rw[e1];intro u hu;rcases List.mem_cons.1 hu with rfl | hu;exact hs;exact i.in_ u hu,?_,?_,?_⟩
   ·rw[e1]
    intro k a b ha hb
    cases k with
    | zero=>
     have hh:=i.head
     rw[List.head?_eq_getElem?] at hh
     simp only[List.getElem?_cons_zero,Option.some.injEq] at ha
     simp only[List.getElem?_cons_succ] at hb
     rw[hh] at hb
     injection hb with hb
     rw[←ha,←hb,h2]
    | succ k=>
     simp only[List.getElem?_cons_succ] at ha hb
     exact i.aft k a b ha hb
   ·rw[e1,e2,List.getLast?_cons,i.last]
    rfl
   ·rw[e1,e2,plainS_cons]
    have:=i.at_
    have e3:t.1.getD s.1.toNat 0=edgeM t s.1:=rfl
    rw[e3]
    omega
def strP (t:Tp) (p:Ps) (n:Int):List Stp:=goneM t 40 (p.1,p.2.2) (n+alongP t p)
def routeOf (t:Tp) (k:Lk):Rt:=(rtM t.2.2.2 k.1).getD (0,[],0,0)
def partC (t:Tp) (s:Stp) (i:Nat) (k:Lk):List Stp:=if i=0 then (routeOf t k).2.1.drop ((routeOf t k).2.1.idxOf s+1) else (routeOf t k).2.1
def wayC (t:Tp) (s:Stp) (g:List Stp) (c:List Lk):Nat→List Stp
  | 0=>g
  | i+1=>wayC t s g c i++(match c[i]? with | some k=>partC t s i k | none=>[])
def secC (t:Tp) (s:Stp) (g:List Stp) (back:Int) (c:List Lk):Nat→List Sc
  | 0=>[]
  | i+1=>secC t s g back c i++(match c[i]? with | some k=>[(plainS t.1 (wayC t s g c (i+1)) - back,(routeOf t k).2.2.2)] | none=>[])
def gapC (t:Tp) (c:List Lk):Nat→Int
  | 0=>0
  | i+1=>match c[i]? with | some k=>(routeOf t k).2.2.1 | none=>0
def lessS (l:List Sc) (g:Int):List Sc:=match l.getLast? with | some x=>l.dropLast++[(x.1 - g,x.2)] | none=>[]
def endC (ref:Int) (rev:Bool) (n:Int) (P:List Stp) (S:List Sc) (gap:Int):Ma×Int:=
  if 24<P.length∨twiceB P=true then (noMa,2)
  else if endS S≤n∨(1<S.length∧endS S≤endS S.dropLast) then (noMa,141)
  else match S with
    | []=>(noMa,1)
    | x::S'=>if x.1=0 then ((ref,rev,P,S',gap),0) else ((ref,rev,P,x::S',gap),0)
end Go.Proofs.YtpapiojicbbheaaGreatDoor

namespace Go.Proofs.YtpapiojicbbheaaGreatDoor
open Go.RowKit
def unitM (s:Int):Int:=if s=0 then 1 else if s=1 then 10 else if s=2 then 100 else 0
def dmM (n s:Int):Int×Int:=if unitM s=0 then (0,1) else if n<0∨32766<n then (0,7) else (n*unitM s,0)
def raiseM (d s:Int) (up:Bool):Int:=if up=true then d+(unitM s - 1) else d
def scaledM (d s:Int) (up:Bool):Int×Int:=if unitM s=0 then (0,1) else if d<0∨1099511627776<d then (0,7) else if 32766<raiseM d s up / unitM s then (0,7) else (raiseM d s up / unitM s,0)
def bestM (d:Int):Int:=if (scaledM d 0 true).2=0 then 0 else if (scaledM d 1 true).2=0 then 1 else if (scaledM d 2 true).2=0 then 2 else -1
theorem unit_range (s:Int):0≤unitM s∧unitM s≤100:=by unfold unitM;split;omega;split;omega;split <;> omega
theorem scaled_ok {d s:Int}{up:Bool} (h:(scaledM d s up).2=0):0<unitM s∧0≤d∧d≤1099511627776∧(scaledM d s up).1=raiseM d s up / unitM s∧(scaledM d s up).1≤32766∧0≤(scaledM d s up).1:=by
 have hu:=unit_range s
 unfold scaledM at h ⊢
 split at h
 ·exact absurd h (by decide)
 rename_i h1
 split at h
 ·exact absurd h (by decide)
 rename_i h2
 split at h
 ·exact absurd h (by decide)
 rename_i h3
 rw[if_neg h1,if_neg h2,if_neg h3]
 have h4:0<unitM s:=by omega
 have h5:0≤raiseM d s up:=by unfold raiseM;split <;> omega
 exact⟨h4,by omega,by omega,rfl,by simp only;omega,Int.ediv_nonneg h5 (by omega)⟩
theorem best_ok {d:Int} (h:0≤bestM d):(scaledM d (bestM d) true).2=0∧bestM d≤2:=by
 unfold bestM at h ⊢
 split
 ·exact⟨by assumption,by omega⟩
 ·split
  ·exact⟨by assumption,by omega⟩
  ·split
   ·exact⟨by assumption,by omega⟩
   ·rename_i h1 h2 h3
    rw[if_neg h1,if_neg h2,if_neg h3] at h
    exact absurd h (by decide)
theorem scaled_less {d e s:Int} (h:(scaledM d s true).2=0) (h0:0≤e) (h1:e≤d):(scaledM e s false).2=0∧(scaledM e s false).1=e / unitM s:=by
 obtain⟨g1,g2,g3,g4,g5,g6⟩:=scaled_ok h
 have hle:e / unitM s≤32766:=by
  have h2:e / unitM s≤raiseM d s true / unitM s:=Int.ediv_le_ediv g1 (by unfold raiseM;rw[if_pos rfl];omega)
  omega
 unfold scaledM
 rw[if_neg (by omega),if_neg (by omega)]
 have:raiseM e s false=e:=rfl
 rw[this,if_neg (by omega)]
 exact⟨rfl,rfl⟩
end Go.Proofs.YtpapiojicbbheaaGreatDoor

namespace Go.Proofs.YtpapiojicbbheaaGreatDoor
open Go.RowKit
def nomI (rev:Bool):Int:=if rev=true then 0 else 1
def secN (u:Int):Int→List Sc→Option (List Int)
  | _,[]=>some []
  | last,s::l=>if (scaledM s.1 u false).2≠0∨(scaledM s.1 u false).1≤last then none else (secN u (scaledM s.1 u false).1 l).map fun v=>((scaledM s.1 u false).1 - last)::1::s.2::0::v
def gapN (u g:Int):List Int:=if 0<(scaledM g u false).1 then [1,(scaledM g u false).1,0,0] else [0,0]
def firstB (t:Tp) (e:Int):Option Bl:=t.2.2.1.find? fun b=>b.2.1==e
def linkN (t:Tp) (u:Int) (n:Nat):Nat→Int→Int→List Stp→Except Int (List Int)
  | _,_,_,[]=>.ok []
  | i,begin,at_,s::l=>match firstB t s.1 with
    | none=>.error 1
    | some b=>
     let here:=begin+alongP t (b.2.1,b.2.2,s.2)
     if (scaledM (here - at_) u false).2≠0 then .error (scaledM (here - at_) u false).2 else
     match linkN t u n (i+1) (begin+edgeM t s.1) here l with
     | .error e=>.error e
     | .ok v=>.ok ((if i=2 then [(n:Int) - 2] else [])++[(scaledM (here - at_) u false).1,1,b.1 / 16384,b.1 % 16384,nomI s.2,2,12]++v)
def packsM17 (t:Tp) (m:Ma):Except Int (List (Int×List Int)):=
  if mayMA t m=false then .error 1 else
  let u:=bestM (endS m.2.2.2.1+m.2.2.2.2)
  if u<0 then .error 7 else
  match secN u 0 m.2.2.2.1 with
  | none=>.error 7
  | some v=>
   let p15:Int×List Int:=(15,[nomI m.2.1,u,0,0,(m.2.2.2.1.length:Int) - 1]++v++[0]++gapN u m.2.2.2.2)
   match m.2.2.1,balM t.2.2.1 m.1 with
   | s0::s1::l,some b=>match linkN t u m.2.2.1.length 1 (edgeM t s0.1) (alongP t (b.2.1,b.2.2,m.2.1)) (s1::l) with
     | .error e=>.error e
     | .ok w=>.ok [p15,(5,[nomI m.2.1,u]++w++(if l=[] then [0] else []))]
   | _,_=>.ok [p15]
def failR (e x:Int):Int:=if e=0 then x else e
def farR (u:Int) (v:List Int) (e:Int):Int×List Int×Int:=((dmM (v.headD 0) u).1,v.tail,if (dmM (v.headD 0) u).2≠0 then failR e 7 else e)
structure SecO where
  s:Sc
  v:List Int
  e:Int
def sectR (u from_:Int) (v:List Int) (e:Int):SecO:=
  let raw:=v.headD 0
  let timed:=decide (v.tail.headD 0=1)
  let timer:=if timed=true then v.tail.tail.headD 0 else 0
  let v':=if timed=true then v.tail.tail.tail.tail else v.tail.tail
  let e1:=if timed=false∨timer<1∨1000<timer∨raw=0 then failR e 20 else e
  let e2:=if (dmM raw u).2≠0 then failR e1 7 else e1
  ⟨(from_+(dmM raw u).1,timer),v',e2⟩
def sectsR (u:Int):Nat→Int→List Int→Except Int (List Sc×List Int)
  | 0,_,v=>.ok ([],v)
  | k+1,at_,v=>if (sectR u at_ v 0).e≠0 then .error (sectR u at_ v 0).e else
    match sectsR u k (sectR u at_ v 0).s.1 (sectR u at_ v 0).v with
    | .error e=>.error e
    | .ok (l,w)=>.ok ((sectR u at_ v 0).s::l,w)
def gapR (u:Int) (v:List Int):Int×Int:=
  let v1:=if v.headD 0=1 then v.tail.tail.tail else v.tail
  if v1.headD 0=1 then ((dmM (v1.tail.headD 0) u).1,if (dmM (v1.tail.headD 0) u).2≠0 then 7 else 0) else (0,0)
def secs3 (u:Int) (z:List Sc×List Int):Except Int (List Sc×Int):=if (gapR u z.2).2≠0 then .error (gapR u z.2).2 else .ok (z.1,(gapR u z.2).1)
def secs4 (u:Int) (r:Except Int (List Sc×List Int)):Except Int (List Sc×Int):=match r with
  | .error e=>.error e
  | .ok z=>secs3 u z
def secs2 (u many:Int) (v:List Int):Except Int (List Sc×Int):=if 8≤many then .error 2 else secs4 u (sectsR u (many+1).toNat 0 v)
def secsM (rev:Bool) (v:List Int):Except Int (List Sc×Int):=
  if v.headD 0≠nomI rev then .error 20 else secs2 (v.tail.headD 0) (v.tail.tail.tail.tail.headD 0) v.tail.tail.tail.tail.tail
def orV (a b:Int):Int:=bits .or .i64 a b
def idL (v:List Int):Int:=orV (v.getD 2 0*16384) (v.getD 3 0)
def stepL (t:Tp) (path:List Stp) (v:List Int):Except Int (List Stp):=match balM t.2.2.1 (idL v),path.getLast? with
  | none,_=>.error 4
  | _,none=>.error 4
  | some b,some last=>if b.2.1=last.1 then .ok path else
    if (afterM t last).contains (b.2.1,decide (v.getD 4 0=0))=false then .error 141 else
    if overB path b.2.1=true∨path.length=24 then .error 2 else .ok (path++[(b.2.1,decide (v.getD 4 0=0))])
def linksR (t:Tp):Nat→List Stp→List Int→Except Int (List Stp)
  | 0,path,_=>.ok path
  | k+1,path,v=>if v.getD 1 0≠1 then .error 20 else match stepL t path v with
    | .error e=>.error e
    | .ok p=>linksR t k p (v.drop 7)
def linkedR (t:Tp) (path:List Stp) (v:List Int):Except Int (List Stp):=
  if (v.drop 2).getD 1 0≠1 then .error 20 else match stepL t path (v.drop 2) with
  | .error e=>.error e
  | .ok p=>linksR t ((v.drop 2).getD 7 0).toNat p ((v.drop 2).drop 8)
abbrev Pk:=Int×List Int
def wayR (t:Tp) (s:Stp) (l:List Pk):Except Int (List Stp):=match l.find? (fun p=>p.1==5) with
  | none=>.ok [s]
  | some p=>linkedR t [s] p.2
def headId (l:List Pk):Int:=match l with | []=>0 | p::_=>p.1
def headV (l:List Pk):List Int:=match l with | []=>[] | p::_=>p.2
def readM (bad:Pk→Bool) (t:Tp) (ref:Int) (rev:Bool) (l:List Pk):Ma×Int:=
  if checkM t≠0 then (noMa,1) else match balM t.2.2.1 ref with
  | none=>(noMa,4)
  | some b=>if headId l≠15∨l.any bad=true then (noMa,50) else
    match secsM rev (headV l) with
    | .error e=>(noMa,e)
    | .ok z=>match wayR t (b.2.1,rev) l with
      | .error e=>(noMa,e)
      | .ok P=>if mayMA t (ref,rev,P,z.1,z.2)=true then ((ref,rev,P,z.1,z.2),0) else (noMa,7)
end Go.Proofs.YtpapiojicbbheaaGreatDoor

namespace Go.Proofs.YtpapiojicbbheaaGreatDoor
open Go.RowKit
abbrev psV (p:Ps):Value:=.agg #[.int .i64 p.1,.int .i64 p.2.1,.bool p.2.2]
theorem edge_at {w:World}{B:Nat}{x:TA}{t:Tp}{e:Int} (h:TpAt w B x t) (h0:0≤e) (h1:e<(x.ne:Int)):∃ad k v,x.Ae=some ad∧e=((k:Nat):Int)∧k<x.ne∧w.cell? (ad.add k)=some (.int .i64 v)∧edgeM t e=v:=by
 obtain⟨k,rfl⟩:∃k:Nat,e=k:=⟨e.toNat,by omega⟩
 have hl:=h.e.len
 obtain⟨ad,v,hA,hb,hv,hc⟩:=(int_rd h.e).at1 (show k<x.ne by omega)
 refine⟨ad,k,v,hA,rfl,by omega,hc,?_⟩
 unfold edgeM
 rw[show ((k:Nat):Int).toNat=k by omega,List.getD_eq_getElem?_getD,hv];rfl
set_option maxHeartbeats 4000000 in
set_option maxRecDepth 100000 in
theorem pright_any (x:TA) (t:Tp) (B:Nat) (e a:Int) (r:Bool) (w:World) (h:TpAt w B x t) (hs:TpSmall x t) (hB:B≤w.heap.size) :
    Calls Tryz.prog 137 #[.agg x.cs,.agg #[.int .i64 e,.int .i64 a,.bool r]] w fun en w'=>en=.returned (.bool (rightB t (e,a,r)))∧Keep Never w w':=by
  have HCh:=qh (fun (W:World) (hk:Keep Never w W)=>check_any x t B W (h.keep hk) hs (Nat.le_trans hB hk.size))
  have HE:=qh h
  have HEl:Hid (x.ne=t.1.length):=qh h.e.len
  have HED:=qh (fun (W:World) (hk:Keep Never w W) (i:Int) (h0:0≤i) (h1:i<(x.ne:Int))=>edge_at (h.keep hk) h0 h1)
  obtain⟨Ae,ne,ce,Aj,nj,cj,Ab,nb,cb,Ar,nr,cr⟩:=x
  simp only[TA.cs] at HCh HEl HED ⊢
  clear h hs hB HE
  have HR:Hid (rightB t (e,a,r)=(decide (checkM t=0)&&(decide (0≤e)&&decide (e<(ne:Int)))&&decide (0≤a)&&decide (a≤edgeM t e))):=qh (by rw[HEl.out];rfl)
  obtain⟨ck,hck⟩:∃z,checkM t=z:=⟨_,rfl⟩
  rw[hck] at HR HCh
  clear hck
  obtain⟨w1,hw1⟩:∃V:World,w.alloc (.cells #[.slice Ae ne ce,.slice Aj nj cj,.slice Ab nb cb,.slice Ar nr cr] 27)=V:=⟨_,rfl⟩
  have zw1:w1.heap.size=w.heap.size+1:=by rw[←hw1];simp
  have kw1:Keep Never w w1:=by rw[←hw1];exact(Keep.refl _ _).alloc _
  have bw1:=Blk.new w 27 #[.slice Ae ne ce,.slice Aj nj cj,.slice Ab nb cb,.slice Ar nr cr]
  rw[hw1] at bw1
  obtain⟨w2,hw2⟩:∃V:World,w1.alloc (.cells #[.int .i64 e,.int .i64 a,.bool r] 71)=V:=⟨_,rfl⟩
  have kw2:Keep Never w1 w2:=by rw[←hw2];exact(Keep.refl _ _).alloc _
  have bw2:=Blk.new w1 71 #[.int .i64 e,.int .i64 a,.bool r]
  rw[hw2,zw1] at bw2
  have HB1:=qh (bw1.keep kw2 (fun h=>h))
  have HB2:=qh bw2
  have HK:=qh (kw1.trans kw2)
  clear kw1 kw2 bw1 bw2
  have HC:=qh (fun (W:World) (hk:Keep Never w2 W)=>HCh.out W (HK.out.trans hk))
  clear HCh
  by_cases g0:ck=0
  case neg=>
   have t0:(ck==0)=false:=by simpa using g0
   have HF:Hid (rightB t (e,a,r)=false):=qh (by rw[HR.out,decide_eq_false g0];rfl)
   clear g0
   obtain⟨y0,y1,y2,y3⟩:=bc4 HB1.out
   obtain⟨q0,q1,q2⟩:=bc3 HB2.out
   have HS2:Hid (∀W',Keep Never w2 W'→Keep Never w2 W'∧W'.cell? ⟨w.heap.size,0,none⟩=some (.slice Ae ne ce)∧W'.cell? ⟨w.heap.size,1,none⟩=some (.slice Aj nj cj)∧W'.cell? ⟨w.heap.size,2,none⟩=some (.slice Ab nb cb)∧W'.cell? ⟨w.heap.size,3,none⟩=some (.slice Ar nr cr)∧W'.cell? ⟨w.heap.size+1,0,none⟩=some (.int .i64 e)∧W'.cell? ⟨w.heap.size+1,1,none⟩=some (.int .i64 a)∧W'.cell? ⟨w.heap.size+1,2,none⟩=some (.bool r)):=qh (fun W' h=>⟨h,keepT h y0,keepT h y1,keepT h y2,keepT h y3,keepT h q0,keepT h q1,keepT h q2⟩)
   go_enter Tryz.func137, Tryz.ntmps137
   go_wp2_with fail
   clear y0 y1 y2 y3 q0 q1 q2
   refine wp_region_noPanic ?_
   refine wp_region_held_drew (S:=(fun W'=>Keep Never w2 W'∧W'.cell? ⟨w.heap.size,0,none⟩=some (.slice Ae ne ce)∧W'.cell? ⟨w.heap.size,1,none⟩=some (.slice Aj nj cj)∧W'.cell? ⟨w.heap.size,2,none⟩=some (.slice Ab nb cb)∧W'.cell? ⟨w.heap.size,3,none⟩=some (.slice Ar nr cr)∧W'.cell? ⟨w.heap.size+1,0,none⟩=some (.int .i64 e)∧W'.cell? ⟨w.heap.size+1,1,none⟩=some (.int .i64 a)∧W'.cell? ⟨w.heap.size+1,2,none⟩=some (.bool r))) (by kernel_rfl) ?_ (fun hHeld=>?_)
   ·exact HS2.out _ ((Keep.refl Never w2).drew)
   refine qT 0 ?_
   try simp only[qy]
   refine wpAnyH_ready (rs:=[1]) (by kernel_rfl) (by simp) ?_
   refine AllReadyH.cons (o:=?_) ?_ (fun K hK=>?_) AllReadyH.nil
   rotate_left 1
   ·(simp only[qz];rfl)
   go_simp
   refine(HC.out _ hHeld.1).mono ?_;rintro en w3 ⟨rfl,hk3⟩
   (try go_wp2_with fail)
   refine hK.out _ _ ?_ (fun hHeld=>?_)
   ·(try dsimp only);exact HS2.out _ (hHeld.1.trans hk3)
   clear hK K
   try simp only[qy]
   refine qT 2 ?_
   try simp only[qy]
   refine qT 3 ?_
   try simp only[qy]
   refine qU 4 ?_
   try simp only[qy]
   refine qU 5 ?_
   try simp only[qy]
   refine qU 6 ?_
   try simp only[qy]
   refine qT 7 ?_
   try simp only[qy]
   refine qT 8 ?_
   try simp only[qy]
   refine qU 9 ?_
   try simp only[qy]
   refine qU 10 ?_
   try simp only[qy]
   refine qU 11 ?_
   try simp only[qy]
   refine qU 12 ?_
   try simp only[qy]
   refine qU 13 ?_
   try simp only[qy]
   refine qU 14 ?_
   try simp only[qy]
   refine qT 15 ?_
   try simp only[qy]
   refine qT 16 ?_
   try simp only[qy]
   refine qU 17 ?_
   try simp only[qy]
   refine qU 18 ?_
   try simp only[qy]
   refine qU 19 ?_
   try simp only[qy]
   refine qT 20 ?_
   try simp only[qy]
   refine qT 21 ?_
   try simp only[qy]
   refine qU 22 ?_
   try simp only[qy]
   refine qU 23 ?_
   try simp only[qy]
   refine qU 24 ?_
   try simp only[qy]
   refine qU 25 ?_
   try simp only[qy]
   refine qU 26 ?_
   try simp only[qy]
   refine qU 27 ?_
   try simp only[qy]
   refine qU 28 ?_
   try simp only[qy]
   refine qU 29 ?_
   try simp only[qy]
   refine qU 30 ?_
   try simp only[qy]
   refine qT 31 ?_
   try simp only[qy]
   refine qT 32 ?_
   try simp only[qy]
   refine wpAnyH_done (by kernel_rfl) ?_ _
   refine NoPanic.normal ?_
   have hS:=hHeld
   have HKz:=qh (HK.out.trans hS.1)
   clear hS hHeld
   go_wp2_with fail
   go_ret
   exact⟨by rw[HF.out];rfl,HKz.out⟩
  have t0:(ck==0)=true:=by simpa using g0
  by_cases g1:0≤e
  case neg=>
   have t1:decide (e≥0)=false:=by simpa using g1
   have HF:Hid (rightB t (e,a,r)=false):=qh (by rw[HR.out,decide_eq_false g1];simp)
   clear g0 g1
   obtain⟨y0,y1,y2,y3⟩:=bc4 HB1.out
   obtain⟨q0,q1,q2⟩:=bc3 HB2.out
   have HS2:Hid (∀W',Keep Never w2 W'→Keep Never w2 W'∧W'.cell? ⟨w.heap.size,0,none⟩=some (.slice Ae ne ce)∧W'.cell? ⟨w.heap.size,1,none⟩=some (.slice Aj nj cj)∧W'.cell? ⟨w.heap.size,2,none⟩=some (.slice Ab nb cb)∧W'.cell? ⟨w.heap.size,3,none⟩=some (.slice Ar nr cr)∧W'.cell? ⟨w.heap.size+1,0,none⟩=some (.int .i64 e)∧W'.cell? ⟨w.heap.size+1,1,none⟩=some (.int .i64 a)∧W'.cell? ⟨w.heap.size+1,2,none⟩=some (.bool r)):=qh (fun W' h=>⟨h,keepT h y0,keepT h y1,keepT h y2,keepT h y3,keepT h q0,keepT h q1,keepT h q2⟩)
   go_enter Tryz.func137, Tryz.ntmps137
   go_wp2_with fail
   clear y0 y1 y2 y3 q0 q1 q2
   refine wp_region_noPanic ?_
   refine wp_region_held_drew (S:=(fun W'=>Keep Never w2 W'∧W'.cell? ⟨w.heap.size,0,none⟩=some (.slice Ae ne ce)∧W'.cell? ⟨w.heap.size,1,none⟩=some (.slice Aj nj cj)∧W'.cell? ⟨w.heap.size,2,none⟩=some (.slice Ab nb cb)∧W'.cell? ⟨w.heap.size,3,none⟩=some (.slice Ar nr cr)∧W'.cell? ⟨w.heap.size+1,0,none⟩=some (.int .i64 e)∧W'.cell? ⟨w.heap.size+1,1,none⟩=some (.int .i64 a)∧W'.cell? ⟨w.heap.size+1,2,none⟩=some (.bool r))) (by kernel_rfl) ?_ (fun hHeld=>?_)
   ·exact HS2.out _ ((Keep.refl Never w2).drew)
   refine qT 0 ?_
   try simp only[qy]
   refine wpAnyH_ready (rs:=[1]) (by kernel_rfl) (by simp) ?_
   refine AllReadyH.cons (o:=?_) ?_ (fun K hK=>?_) AllReadyH.nil
   rotate_left 1
   ·(simp only[qz];rfl)
   go_simp
   refine(HC.out _ hHeld.1).mono ?_;rintro en w3 ⟨rfl,hk3⟩
   (try go_wp2_with fail)
   refine hK.out _ _ ?_ (fun hHeld=>?_)
   ·(try dsimp only);exact HS2.out _ (hHeld.1.trans hk3)
   clear hK K
   try simp only[qy]
   refine qT 2 ?_
   try simp only[qy]
   refine qT 3 ?_
   try simp only[qy]
   refine qT 4 ?_
   try simp only[qy]
   refine qT 5 ?_
   try simp only[qy]
   refine qT 6 ?_
   try simp only[qy]
   refine qT 7 ?_
   try simp only[qy]
   refine qT 8 ?_
   try simp only[qy]
   refine qU 9 ?_
   try simp only[qy]
   refine qU 10 ?_
   try simp only[qy]
   refine qU 11 ?_
   try simp only[qy]
   refine qU 12 ?_
   try simp only[qy]
   refine qU 13 ?_
   try simp only[qy]
   refine qU 14 ?_
   try simp only[qy]
   refine qT 15 ?_
   try simp only[qy]
   refine qT 16 ?_
   try simp only[qy]
   refine qU 17 ?_
   try simp only[qy]
   refine qU 18 ?_
   try simp only[qy]
   refine qU 19 ?_
   try simp only[qy]
   refine qT 20 ?_
   try simp only[qy]
   refine qT 21 ?_
   try simp only[qy]
   refine qU 22 ?_
   try simp only[qy]
   refine qU 23 ?_
   try simp only[qy]
   refine qU 24 ?_
   try simp only[qy]
   refine qU 25 ?_
   try simp only[qy]
   refine qU 26 ?_
   try simp only[qy]
   refine qU 27 ?_
   try simp only[qy]
   refine qU 28 ?_
   try simp only[qy]
   refine qU 29 ?_
   try simp only[qy]
   refine qU 30 ?_
   try simp only[qy]
   refine qT 31 ?_
   try simp only[qy]
   refine qT 32 ?_
   try simp only[qy]
   refine wpAnyH_done (by kernel_rfl) ?_ _
   refine NoPanic.normal ?_
   have hS:=hHeld
   have HKz:=qh (HK.out.trans hS.1)
   clear hS hHeld
   go_wp2_with fail
   go_ret
   exact⟨by rw[HF.out];rfl,HKz.out⟩
  have t1:decide (e≥0)=true:=by simpa using g1
  by_cases g2:e<(ne:Int)
  case neg=>
   have t2:decide (e<(ne:Int))=false:=by simpa using g2
   have HF:Hid (rightB t (e,a,r)=false):=qh (by rw[HR.out,decide_eq_false g2];simp)
   clear g0 g1 g2
   obtain⟨y0,y1,y2,y3⟩:=bc4 HB1.out
   obtain⟨q0,q1,q2⟩:=bc3 HB2.out
   have HS2:Hid (∀W',Keep Never w2 W'→Keep Never w2 W'∧W'.cell? ⟨w.heap.size,0,none⟩=some (.slice Ae ne ce)∧W'.cell? ⟨w.heap.size,1,none⟩=some (.slice Aj nj cj)∧W'.cell? ⟨w.heap.size,2,none⟩=some (.slice Ab nb cb)∧W'.cell? ⟨w.heap.size,3,none⟩=some (.slice Ar nr cr)∧W'.cell? ⟨w.heap.size+1,0,none⟩=some (.int .i64 e)∧W'.cell? ⟨w.heap.size+1,1,none⟩=some (.int .i64 a)∧W'.cell? ⟨w.heap.size+1,2,none⟩=some (.bool r)):=qh (fun W' h=>⟨h,keepT h y0,keepT h y1,keepT h y2,keepT h y3,keepT h q0,keepT h q1,keepT h q2⟩)
   go_enter Tryz.func137, Tryz.ntmps137
   go_wp2_with fail
   clear y0 y1 y2 y3 q0 q1 q2
   refine wp_region_noPanic ?_
   refine wp_region_held_drew (S:=(fun W'=>Keep Never w2 W'∧W'.cell? ⟨w.heap.size,0,none⟩=some (.slice Ae ne ce)∧W'.cell? ⟨w.heap.size,1,none⟩=some (.slice Aj nj cj)∧W'.cell? ⟨w.heap.size,2,none⟩=some (.slice Ab nb cb)∧W'.cell? ⟨w.heap.size,3,none⟩=some (.slice Ar nr cr)∧W'.cell? ⟨w.heap.size+1,0,none⟩=some (.int .i64 e)∧W'.cell? ⟨w.heap.size+1,1,none⟩=some (.int .i64 a)∧W'.cell? ⟨w.heap.size+1,2,none⟩=some (.bool r))) (by kernel_rfl) ?_ (fun hHeld=>?_)
   ·exact HS2.out _ ((Keep.refl Never w2).drew)
   refine qT 0 ?_
   try simp only[qy]
   refine wpAnyH_ready (rs:=[1]) (by kernel_rfl) (by simp) ?_
   refine AllReadyH.cons (o:=?_) ?_ (fun K hK=>?_) AllReadyH.nil
   rotate_left 1
   ·(simp only[qz];rfl)
   go_simp
   refine(HC.out _ hHeld.1).mono ?_;rintro en w3 ⟨rfl,hk3⟩
   (try go_wp2_with fail)
   refine hK.out _ _ ?_ (fun hHeld=>?_)
   ·(try dsimp only);exact HS2.out _ (hHeld.1.trans hk3)
   clear hK K
   try simp only[qy]
   refine qT 2 ?_
   try simp only[qy]
   refine qT 3 ?_
   try simp only[qy]
   refine qT 4 ?_
   try simp only[qy]
   refine qT 5 ?_
   try simp only[qy]
   refine qT 6 ?_
   try simp only[qy]
   refine qT 7 ?_
   try simp only[qy]
   refine qT 8 ?_
   try simp only[qy]
   refine qT 9 ?_
   try simp only[qy]
   refine qT 10 ?_
   try simp only[qy]
   refine qT 11 ?_
   try simp only[qy]
   refine qT 12 ?_
   try simp only[qy]
   refine qT 13 ?_
   try simp only[qy]
   refine qT 14 ?_
   try simp only[qy]
   refine qT 15 ?_
   try simp only[qy]
   refine qT 16 ?_
   try simp only[qy]
   refine qU 17 ?_
   try simp only[qy]
   refine qU 18 ?_
   try simp only[qy]
   refine qU 19 ?_
   try simp only[qy]
   refine qT 20 ?_
   try simp only[qy]
   refine qT 21 ?_
   try simp only[qy]
   refine qU 22 ?_
   try simp only[qy]
   refine qU 23 ?_
   try simp only[qy]
   refine qU 24 ?_
   try simp only[qy]
   refine qU 25 ?_
   try simp only[qy]
   refine qU 26 ?_
   try simp only[qy]
   refine qU 27 ?_
   try simp only[qy]
   refine qU 28 ?_
   try simp only[qy]
   refine qU 29 ?_
   try simp only[qy]
   refine qU 30 ?_
   try simp only[qy]
   refine qT 31 ?_
   try simp only[qy]
   refine qT 32 ?_
   try simp only[qy]
   refine wpAnyH_done (by kernel_rfl) ?_ _
   refine NoPanic.normal ?_
   have hS:=hHeld
   have HKz:=qh (HK.out.trans hS.1)
   clear hS hHeld
   go_wp2_with fail
   go_ret
   exact⟨by rw[HF.out];rfl,HKz.out⟩
  have t2:decide (e<(ne:Int))=true:=by simpa using g2
  by_cases g3:0≤a
  case neg=>
   have t3:decide (a≥0)=false:=by simpa using g3
   have HF:Hid (rightB t (e,a,r)=false):=qh (by rw[HR.out,decide_eq_false g3];simp)
   clear g0 g1 g2 g3
   obtain⟨y0,y1,y2,y3⟩:=bc4 HB1.out
   obtain⟨q0,q1,q2⟩:=bc3 HB2.out
   have HS2:Hid (∀W',Keep Never w2 W'→Keep Never w2 W'∧W'.cell? ⟨w.heap.size,0,none⟩=some (.slice Ae ne ce)∧W'.cell? ⟨w.heap.size,1,none⟩=some (.slice Aj nj cj)∧W'.cell? ⟨w.heap.size,2,none⟩=some (.slice Ab nb cb)∧W'.cell? ⟨w.heap.size,3,none⟩=some (.slice Ar nr cr)∧W'.cell? ⟨w.heap.size+1,0,none⟩=some (.int .i64 e)∧W'.cell? ⟨w.heap.size+1,1,none⟩=some (.int .i64 a)∧W'.cell? ⟨w.heap.size+1,2,none⟩=some (.bool r)):=qh (fun W' h=>⟨h,keepT h y0,keepT h y1,keepT h y2,keepT h y3,keepT h q0,keepT h q1,keepT h q2⟩)
   go_enter Tryz.func137, Tryz.ntmps137
   go_wp2_with fail
   clear y0 y1 y2 y3 q0 q1 q2
   refine wp_region_noPanic ?_
   refine wp_region_held_drew (S:=(fun W'=>Keep Never w2 W'∧W'.cell? ⟨w.heap.size,0,none⟩=some (.slice Ae ne ce)∧W'.cell? ⟨w.heap.size,1,none⟩=some (.slice Aj nj cj)∧W'.cell? ⟨w.heap.size,2,none⟩=some (.slice Ab nb cb)∧W'.cell? ⟨w.heap.size,3,none⟩=some (.slice Ar nr cr)∧W'.cell? ⟨w.heap.size+1,0,none⟩=some (.int .i64 e)∧W'.cell? ⟨w.heap.size+1,1,none⟩=some (.int .i64 a)∧W'.cell? ⟨w.heap.size+1,2,none⟩=some (.bool r))) (by kernel_rfl) ?_ (fun hHeld=>?_)
   ·exact HS2.out _ ((Keep.refl Never w2).drew)
   refine qT 0 ?_
   try simp only[qy]
   refine wpAnyH_ready (rs:=[1]) (by kernel_rfl) (by simp) ?_
   refine AllReadyH.cons (o:=?_) ?_ (fun K hK=>?_) AllReadyH.nil
   rotate_left 1
   ·(simp only[qz];rfl)
   go_simp
   refine(HC.out _ hHeld.1).mono ?_;rintro en w3 ⟨rfl,hk3⟩
   (try go_wp2_with fail)
   refine hK.out _ _ ?_ (fun hHeld=>?_)
   ·(try dsimp only);exact HS2.out _ (hHeld.1.trans hk3)
   clear hK K
   try simp only[qy]
   refine qT 2 ?_
   try simp only[qy]
   refine qT 3 ?_
   try simp only[qy]
   refine qT 4 ?_
   try simp only[qy]
   refine qT 5 ?_
   try simp only[qy]
   refine qT 6 ?_
   try simp only[qy]
   refine qT 7 ?_
   try simp only[qy]
   refine qT 8 ?_
   try simp only[qy]
   refine qT 9 ?_
   try simp only[qy]
   refine qT 10 ?_
   try simp only[qy]
   refine qT 11 ?_
   try simp only[qy]
   refine qT 12 ?_
   try simp only[qy]
   refine qT 13 ?_
   try simp only[qy]
   refine qT 14 ?_
   try simp only[qy]
   refine qT 15 ?_
   try simp only[qy]
   refine qT 16 ?_
   try simp only[qy]
   refine qT 17 ?_
   try simp only[qy]
   refine qT 18 ?_
   try simp only[qy]
   refine qT 19 ?_
   try simp only[qy]
   refine qT 20 ?_
   try simp only[qy]
   refine qT 21 ?_
   try simp only[qy]
   refine qU 22 ?_
   try simp only[qy]
   refine qU 23 ?_
   try simp only[qy]
   refine qU 24 ?_
   try simp only[qy]
   refine qU 25 ?_
   try simp only[qy]
   refine qU 26 ?_
   try simp only[qy]
   refine qU 27 ?_
   try simp only[qy]
   refine qU 28 ?_
   try simp only[qy]
   refine qU 29 ?_
   try simp only[qy]
   refine qU 30 ?_
   try simp only[qy]
   refine qT 31 ?_
   try simp only[qy]
   refine qT 32 ?_
   try simp only[qy]
   refine wpAnyH_done (by kernel_rfl) ?_ _
   refine NoPanic.normal ?_
   have hS:=hHeld
   have HKz:=qh (HK.out.trans hS.1)
   clear hS hHeld
   go_wp2_with fail
   go_ret
   exact⟨by rw[HF.out];rfl,HKz.out⟩
  have t3:decide (a≥0)=true:=by simpa using g3
  obtain⟨ad,k,v,hA,he,hk,d0,hv⟩:=HED.out w2 HK.out e g1 g2
  subst hA
  have HV:=qh hv
  rw[hv] at HR
  have hkz:(k:Int)<(ne:Int):=by omega
  have HRb:Hid (rightB t (e,a,r)=decide (a≤v)):=qh (by rw[HR.out,decide_eq_true g0,decide_eq_true g1,decide_eq_true g2,decide_eq_true g3];rfl)
  clear g0 g1 g2 g3 HED HR hv
  subst he
  by_cases g4:a≤v
  ·have t4:decide (a≤v)=true:=by simpa using g4
   have HF:Hid (rightB t (((k:Nat):Int),a,r)=true):=qh (by rw[HRb.out];exact t4)
   clear g4 HRb
   obtain⟨y0,y1,y2,y3⟩:=bc4 HB1.out
   obtain⟨q0,q1,q2⟩:=bc3 HB2.out
   have HS2:Hid (∀W',Keep Never w2 W'→Keep Never w2 W'∧W'.cell? ⟨w.heap.size,0,none⟩=some (.slice (some ad) ne ce)∧W'.cell? ⟨w.heap.size,1,none⟩=some (.slice Aj nj cj)∧W'.cell? ⟨w.heap.size,2,none⟩=some (.slice Ab nb cb)∧W'.cell? ⟨w.heap.size,3,none⟩=some (.slice Ar nr cr)∧W'.cell? ⟨w.heap.size+1,0,none⟩=some (.int .i64 ((k:Nat):Int))∧W'.cell? ⟨w.heap.size+1,1,none⟩=some (.int .i64 a)∧W'.cell? ⟨w.heap.size+1,2,none⟩=some (.bool r)∧W'.cell? (ad.add k)=some (.int .i64 v)):=qh (fun W' h=>⟨h,keepT h y0,keepT h y1,keepT h y2,keepT h y3,keepT h q0,keepT h q1,keepT h q2,keepT h d0⟩)
   go_enter Tryz.func137, Tryz.ntmps137
   go_wp2_with fail
   clear y0 y1 y2 y3 q0 q1 q2 d0
   refine wp_region_noPanic ?_
   refine wp_region_held_drew (S:=(fun W'=>Keep Never w2 W'∧W'.cell? ⟨w.heap.size,0,none⟩=some (.slice (some ad) ne ce)∧W'.cell? ⟨w.heap.size,1,none⟩=some (.slice Aj nj cj)∧W'.cell? ⟨w.heap.size,2,none⟩=some (.slice Ab nb cb)∧W'.cell? ⟨w.heap.size,3,none⟩=some (.slice Ar nr cr)∧W'.cell? ⟨w.heap.size+1,0,none⟩=some (.int .i64 ((k:Nat):Int))∧W'.cell? ⟨w.heap.size+1,1,none⟩=some (.int .i64 a)∧W'.cell? ⟨w.heap.size+1,2,none⟩=some (.bool r)∧W'.cell? (ad.add k)=some (.int .i64 v))) (by kernel_rfl) ?_ (fun hHeld=>?_)
   ·exact HS2.out _ ((Keep.refl Never w2).drew)
   refine qT 0 ?_
   try simp only[qy]
   refine wpAnyH_ready (rs:=[1]) (by kernel_rfl) (by simp) ?_
   refine AllReadyH.cons (o:=?_) ?_ (fun K hK=>?_) AllReadyH.nil
   rotate_left 1
   ·(simp only[qz];rfl)
   go_simp
   refine(HC.out _ hHeld.1).mono ?_;rintro en w3 ⟨rfl,hk3⟩
   (try go_wp2_with fail)
   refine hK.out _ _ ?_ (fun hHeld=>?_)
   ·(try dsimp only);exact HS2.out _ (hHeld.1.trans hk3)
   clear hK K
   try simp only[qy]
   refine qT 2 ?_
   try simp only[qy]
   refine qT 3 ?_
   try simp only[qy]
   refine qT 4 ?_
   try simp only[qy]
   refine qT 5 ?_
   try simp only[qy]
   refine qT 6 ?_
   try simp only[qy]
   refine qT 7 ?_
   try simp only[qy]
   refine qT 8 ?_
   try simp only[qy]
   refine qT 9 ?_
   try simp only[qy]
   refine qT 10 ?_
   try simp only[qy]
   refine qT 11 ?_
   try simp only[qy]
   refine qT 12 ?_
   try simp only[qy]
   refine qT 13 ?_
   try simp only[qy]
   refine qT 14 ?_
   try simp only[qy]
   refine qT 15 ?_
   try simp only[qy]
   refine qT 16 ?_
   try simp only[qy]
   refine qT 17 ?_
   try simp only[qy]
   refine qT 18 ?_
   try simp only[qy]
   refine qT 19 ?_
   try simp only[qy]
   refine qT 20 ?_
   try simp only[qy]
   refine qT 21 ?_
   try simp only[qy]
   refine qT 22 ?_
   try simp only[qy]
   refine qT 23 ?_
   try simp only[qy]
   refine qT 24 ?_
   try simp only[qy]
   refine qT 25 ?_
   try simp only[qy]
   refine qT 26 ?_
   try simp only[qy]
   refine qT 27 ?_
   try simp only[qy]
   refine qT 28 ?_
   try simp only[qy]
   refine qT 29 ?_
   try simp only[qy]
   refine qT 30 ?_
   try simp only[qy]
   refine qT 31 ?_
   try simp only[qy]
   refine qT 32 ?_
   try simp only[qy]
   refine wpAnyH_done (by kernel_rfl) ?_ _
   refine NoPanic.normal ?_
   have hS:=hHeld
   have HKz:=qh (HK.out.trans hS.1)
   clear hS hHeld
   go_wp2_with fail
   go_ret
   exact⟨by rw[HF.out];rfl,HKz.out⟩
  ·have t4:decide (a≤v)=false:=by simpa using g4
   have HF:Hid (rightB t (((k:Nat):Int),a,r)=false):=qh (by rw[HRb.out];exact t4)
   clear g4 HRb
   obtain⟨y0,y1,y2,y3⟩:=bc4 HB1.out
   obtain⟨q0,q1,q2⟩:=bc3 HB2.out
   have HS2:Hid (∀W',Keep Never w2 W'→Keep Never w2 W'∧W'.cell? ⟨w.heap.size,0,none⟩=some (.slice (some ad) ne ce)∧W'.cell? ⟨w.heap.size,1,none⟩=some (.slice Aj nj cj)∧W'.cell? ⟨w.heap.size,2,none⟩=some (.slice Ab nb cb)∧W'.cell? ⟨w.heap.size,3,none⟩=some (.slice Ar nr cr)∧W'.cell? ⟨w.heap.size+1,0,none⟩=some (.int .i64 ((k:Nat):Int))∧W'.cell? ⟨w.heap.size+1,1,none⟩=some (.int .i64 a)∧W'.cell? ⟨w.heap.size+1,2,none⟩=some (.bool r)∧W'.cell? (ad.add k)=some (.int .i64 v)):=qh (fun W' h=>⟨h,keepT h y0,keepT h y1,keepT h y2,keepT h y3,keepT h q0,keepT h q1,keepT h q2,keepT h d0⟩)
   go_enter Tryz.func137, Tryz.ntmps137
   go_wp2_with fail
   clear y0 y1 y2 y3 q0 q1 q2 d0
   refine wp_region_noPanic ?_
   refine wp_region_held_drew (S:=(fun W'=>Keep Never w2 W'∧W'.cell? ⟨w.heap.size,0,none⟩=some (.slice (some ad) ne ce)∧W'.cell? ⟨w.heap.size,1,none⟩=some (.slice Aj nj cj)∧W'.cell? ⟨w.heap.size,2,none⟩=some (.slice Ab nb cb)∧W'.cell? ⟨w.heap.size,3,none⟩=some (.slice Ar nr cr)∧W'.cell? ⟨w.heap.size+1,0,none⟩=some (.int .i64 ((k:Nat):Int))∧W'.cell? ⟨w.heap.size+1,1,none⟩=some (.int .i64 a)∧W'.cell? ⟨w.heap.size+1,2,none⟩=some (.bool r)∧W'.cell? (ad.add k)=some (.int .i64 v))) (by kernel_rfl) ?_ (fun hHeld=>?_)
   ·exact HS2.out _ ((Keep.refl Never w2).drew)
   refine qT 0 ?_
   try simp only[qy]
   refine wpAnyH_ready (rs:=[1]) (by kernel_rfl) (by simp) ?_
   refine AllReadyH.cons (o:=?_) ?_ (fun K hK=>?_) AllReadyH.nil
   rotate_left 1
   ·(simp only[qz];rfl)
   go_simp
   refine(HC.out _ hHeld.1).mono ?_;rintro en w3 ⟨rfl,hk3⟩
   (try go_wp2_with fail)
   refine hK.out _ _ ?_ (fun hHeld=>?_)
   ·(try dsimp only);exact HS2.out _ (hHeld.1.trans hk3)
   clear hK K
   try simp only[qy]
   refine qT 2 ?_
   try simp only[qy]
   refine qT 3 ?_
   try simp only[qy]
   refine qT 4 ?_
   try simp only[qy]
   refine qT 5 ?_
   try simp only[qy]
   refine qT 6 ?_
   try simp only[qy]
   refine qT 7 ?_
   try simp only[qy]
   refine qT 8 ?_
   try simp only[qy]
   refine qT 9 ?_
   try simp only[qy]
   refine qT 10 ?_
   try simp only[qy]
   refine qT 11 ?_
   try simp only[qy]
   refine qT 12 ?_
   try simp only[qy]
   refine qT 13 ?_
   try simp only[qy]
   refine qT 14 ?_
   try simp only[qy]
   refine qT 15 ?_
   try simp only[qy]
   refine qT 16 ?_
   try simp only[qy]
   refine qT 17 ?_
   try simp only[qy]
   refine qT 18 ?_
   try simp only[qy]
   refine qT 19 ?_
   try simp only[qy]
   refine qT 20 ?_
   try simp only[qy]
   refine qT 21 ?_
   try simp only[qy]
   refine qT 22 ?_
   try simp only[qy]
   refine qT 23 ?_
   try simp only[qy]
   refine qT 24 ?_
   try simp only[qy]
   refine qT 25 ?_
   try simp only[qy]
   refine qT 26 ?_
   try simp only[qy]
   refine qT 27 ?_
   try simp only[qy]
   refine qT 28 ?_
   try simp only[qy]
   refine qT 29 ?_
   try simp only[qy]
   refine qT 30 ?_
   try simp only[qy]
   refine qT 31 ?_
   try simp only[qy]
   refine qT 32 ?_
   try simp only[qy]
   refine wpAnyH_done (by kernel_rfl) ?_ _
   refine NoPanic.normal ?_
   have hS:=hHeld
   have HKz:=qh (HK.out.trans hS.1)
   clear hS hHeld
   go_wp2_with fail
   go_ret
   exact⟨by rw[HF.out];rfl,HKz.out⟩
theorem ps3_blk {w:World}{b t:Nat}{u0 u1 u2:Value} (h:Blk w b t #[u0,u1,u2]) (v0 v1 v2:Value):Blk (((w.setCell ⟨b,0,none⟩ v0).setCell ⟨b,1,none⟩ v1).setCell ⟨b,2,none⟩ v2) b t #[v0,v1,v2]:=by
 have:=((h.set_ 0 v0).set_ 1 v1).set_ 2 v2
 simpa using this
theorem ps3_keep {S:Nat→Prop}{w0 w:World}{b:Nat} (h:Keep S w0 w) (hb:S b∨w0.heap.size≤b) (v0 v1 v2:Value):Keep S w0 (((w.setCell ⟨b,0,none⟩ v0).setCell ⟨b,1,none⟩ v1).setCell ⟨b,2,none⟩ v2):=
  ((h.set_ (p:=⟨b,0,none⟩) hb v0).set_ (p:=⟨b,1,none⟩) hb v1).set_ (p:=⟨b,2,none⟩) hb v2
set_option maxRecDepth 100000 in
theorem ps_results {fn:Func}{r:Nat} (h:fn.results=#[.cell r 71]) {w:World}{b:Nat}{v0 v1 v2:Value} (hb:Blk w b 71 #[v0,v1,v2]) (tmps:Array Value) (ht:tmps.getD r undef=.pointer (some ⟨b,0,none⟩)) :
    (results fn tmps).run Tryz.prog w=.ok (.agg #[v0,v1,v2]) w:=by
  have q0:w.cell? ⟨b,0,none⟩=some v0:=hb.cell 0
  have q1:w.cell? ⟨b,1,none⟩=some v1:=hb.cell 1
  have q2:w.cell? ⟨b,2,none⟩=some v2:=hb.cell 2
  have ht':tmps[r]?.getD undef=.pointer (some ⟨b,0,none⟩):=by rw[←Array.getD_eq_getD_getElem?];exact ht
  simp[results,h,ht',go_sem,q0,q1,q2]
set_option maxRecDepth 100000 in
theorem ps_results2 {fn:Func}{r s:Nat} (h:fn.results=#[.cell r 71, .tmp s]) {w:World}{b:Nat}{v0 v1 v2:Value} (hb:Blk w b 71 #[v0,v1,v2]) (tmps:Array Value) (ht:tmps.getD r undef=.pointer (some ⟨b,0,none⟩)) :
    (results fn tmps).run Tryz.prog w=.ok (.tuple #[.agg #[v0,v1,v2],tmps.getD s undef]) w:=by
  have q0:w.cell? ⟨b,0,none⟩=some v0:=hb.cell 0
  have q1:w.cell? ⟨b,1,none⟩=some v1:=hb.cell 1
  have q2:w.cell? ⟨b,2,none⟩=some v2:=hb.cell 2
  have ht':tmps[r]?.getD undef=.pointer (some ⟨b,0,none⟩):=by rw[←Array.getD_eq_getD_getElem?];exact ht
  simp[results,h,ht',go_sem,q0,q1,q2]
def PsRet (p:Ps) (w:World) (e:Ending) (w':World):Prop:=e=.returned (psV p)∧Keep Never w w'
def PsRet2 (p:Ps×Int) (w:World) (e:Ending) (w':World):Prop:=e=.returned (.tuple #[psV p.1,.int .i64 p.2])∧Keep Never w w'
set_option maxHeartbeats 4000000 in
set_option maxRecDepth 100000 in
theorem pover_any (x:TA) (t:Tp) (B:Nat) (e:Int) (r:Bool) (n:Int) (w:World) (h:TpAt w B x t) (h0:0≤e) (h1:e<(x.ne:Int)) (hv1:0≤edgeM t e) (hv2:edgeM t e≤1000000) (hn1:0≤n) (hn2:n≤4398046511104) :
    Calls Tryz.prog 139 #[.agg x.cs,.agg #[.int .i64 e,.bool r],.int .i64 n] w (PsRet (overP t (e,r) n) w):=by
  obtain⟨ad,k,v,hA,he,hk,d0,hv⟩:=edge_at h h0 h1
  have HD:Hid (∀W,Keep Never w W→W.cell? (ad.add k)=some (.int .i64 v)):=qh (fun W hk=>keepT hk d0)
  obtain⟨Ae,ne,ce,Aj,nj,cj,Ab,nb,cb,Ar,nr,cr⟩:=x
  simp only[TA.cs] at hA hk ⊢
  subst hA he
  have hkz:(k:Int)<(ne:Int):=by omega
  rw[hv] at hv1 hv2
  have hw:IntKind.i64.wrap (v - n)=v - n:=IntWalk.i64_in _ (by omega)
  cases r with
  | true=>
   have HF:Hid (overP t (((k:Nat):Int),true) n=(((k:Nat):Int),v - n,true)):=qh (by unfold overP;rw[if_pos rfl];simp only;rw[hv])
   clear h d0 hv h0 h1 hv1 hv2 hn1 hn2
   obtain⟨w1,hw1⟩:∃V:World,w.alloc (.cells #[.slice (some ad) ne ce,.slice Aj nj cj,.slice Ab nb cb,.slice Ar nr cr] 27)=V:=⟨_,rfl⟩
   have zw1:w1.heap.size=w.heap.size+1:=by rw[←hw1];simp
   have kw1:Keep Never w w1:=by rw[←hw1];exact(Keep.refl _ _).alloc _
   have bw1:=Blk.new w 27 #[.slice (some ad) ne ce,.slice Aj nj cj,.slice Ab nb cb,.slice Ar nr cr]
   rw[hw1] at bw1
   obtain⟨w2,hw2⟩:∃V:World,w1.alloc (.cells #[.int .i64 ((k:Nat):Int),.bool true] 30)=V:=⟨_,rfl⟩
   have zw2:w2.heap.size=w.heap.size+1+1:=by rw[←hw2];simp[zw1]
   have kw2:Keep Never w1 w2:=by rw[←hw2];exact(Keep.refl _ _).alloc _
   have bw2:=Blk.new w1 30 #[.int .i64 ((k:Nat):Int),.bool true]
   rw[hw2,zw1] at bw2
   obtain⟨w3,hw3⟩:∃V:World,w2.alloc (.cells #[.int .i64 0,.int .i64 0,.bool false] 71)=V:=⟨_,rfl⟩
   have kw3:Keep Never w2 w3:=by rw[←hw3];exact(Keep.refl _ _).alloc _
   have bw3:=Blk.new w2 71 #[.int .i64 0,.int .i64 0,.bool false]
   rw[hw3,zw2] at bw3
   have HB1:=qh ((bw1.keep kw2 (fun h=>h)).keep kw3 (fun h=>h))
   have HB2:=qh (bw2.keep kw3 (fun h=>h))
   have HB3:=qh bw3
   have HK:=qh ((kw1.trans kw2).trans kw3)
   clear kw1 kw2 kw3 bw1 bw2 bw3
   obtain⟨y0,y1,y2,y3⟩:=bc4 HB1.out
   obtain⟨q0,q1⟩:=bc2 HB2.out
   have d0:=HD.out w3 HK.out
   go_enter Tryz.func139, Tryz.ntmps139
   obtain⟨z0,z1,z2⟩:=bc3 HB3.out
   have zf0:=HB3.out.frozen 0
   have zf1:=HB3.out.frozen 1
   have zf2:=HB3.out.frozen 2
   go_wp2_with fail
   (try simp only[Exit.inBlock,Exit.then])
   have hp:=ps3_keep HK.out (b:=w.heap.size+1+1) (.inr (by omega)) (.int .i64 ((k:Nat):Int)) (.int .i64 (v - n)) (.bool true)
   refine bodyPost_ret (ps_results (fn:=Tryz.f139) (r:=6) rfl (ps3_blk HB3.out (.int .i64 ((k:Nat):Int)) (.int .i64 (v - n)) (.bool true)) _ rfl) rfl ⟨by rw[HF.out],hp⟩
  | false=>
   have HF:Hid (overP t (((k:Nat):Int),false) n=(((k:Nat):Int),n,false)):=qh (by unfold overP;rw[if_neg (by simp)])
   clear h d0 hv h0 h1 hv1 hv2 hn1 hn2
   obtain⟨w1,hw1⟩:∃V:World,w.alloc (.cells #[.slice (some ad) ne ce,.slice Aj nj cj,.slice Ab nb cb,.slice Ar nr cr] 27)=V:=⟨_,rfl⟩
   have zw1:w1.heap.size=w.heap.size+1:=by rw[←hw1];simp
   have kw1:Keep Never w w1:=by rw[←hw1];exact(Keep.refl _ _).alloc _
   have bw1:=Blk.new w 27 #[.slice (some ad) ne ce,.slice Aj nj cj,.slice Ab nb cb,.slice Ar nr cr]
   rw[hw1] at bw1
   obtain⟨w2,hw2⟩:∃V:World,w1.alloc (.cells #[.int .i64 ((k:Nat):Int),.bool false] 30)=V:=⟨_,rfl⟩
   have zw2:w2.heap.size=w.heap.size+1+1:=by rw[←hw2];simp[zw1]
   have kw2:Keep Never w1 w2:=by rw[←hw2];exact(Keep.refl _ _).alloc _
   have bw2:=Blk.new w1 30 #[.int .i64 ((k:Nat):Int),.bool false]
   rw[hw2,zw1] at bw2
   obtain⟨w3,hw3⟩:∃V:World,w2.alloc (.cells #[.int .i64 0,.int .i64 0,.bool false] 71)=V:=⟨_,rfl⟩
   have kw3:Keep Never w2 w3:=by rw[←hw3];exact(Keep.refl _ _).alloc _
   have bw3:=Blk.new w2 71 #[.int .i64 0,.int .i64 0,.bool false]
   rw[hw3,zw2] at bw3
   have HB1:=qh ((bw1.keep kw2 (fun h=>h)).keep kw3 (fun h=>h))
   have HB2:=qh (bw2.keep kw3 (fun h=>h))
   have HB3:=qh bw3
   have HK:=qh ((kw1.trans kw2).trans kw3)
   clear kw1 kw2 kw3 bw1 bw2 bw3
   obtain⟨y0,y1,y2,y3⟩:=bc4 HB1.out
   obtain⟨q0,q1⟩:=bc2 HB2.out
   have d0:=HD.out w3 HK.out
   go_enter Tryz.func139, Tryz.ntmps139
   obtain⟨z0,z1,z2⟩:=bc3 HB3.out
   have zf0:=HB3.out.frozen 0
   have zf1:=HB3.out.frozen 1
   have zf2:=HB3.out.frozen 2
   go_wp2_with fail
   (try simp only[Exit.inBlock,Exit.then])
   have hp:=ps3_keep HK.out (b:=w.heap.size+1+1) (.inr (by omega)) (.int .i64 ((k:Nat):Int)) (.int .i64 n) (.bool false)
   refine bodyPost_ret (ps_results (fn:=Tryz.f139) (r:=6) rfl (ps3_blk HB3.out (.int .i64 ((k:Nat):Int)) (.int .i64 n) (.bool false)) _ rfl) rfl ⟨by rw[HF.out],hp⟩
set_option maxHeartbeats 4000000 in
set_option maxRecDepth 100000 in
theorem palong_any (x:TA) (t:Tp) (B:Nat) (e a:Int) (r:Bool) (w:World) (h:TpAt w B x t) (h0:0≤e) (h1:e<(x.ne:Int)) (hv1:0≤edgeM t e) (hv2:edgeM t e≤1000000) (ha1:0≤a) (ha2:a≤1000000) :
    Calls Tryz.prog 138 #[.agg x.cs,.agg #[.int .i64 e,.int .i64 a,.bool r]] w fun en w'=>en=.returned (.int .i64 (alongP t (e,a,r)))∧Keep Never w w':=by
  obtain⟨ad,k,v,hA,he,hk,d0,hv⟩:=edge_at h h0 h1
  have HD:Hid (∀W,Keep Never w W→W.cell? (ad.add k)=some (.int .i64 v)):=qh (fun W hk=>keepT hk d0)
  obtain⟨Ae,ne,ce,Aj,nj,cj,Ab,nb,cb,Ar,nr,cr⟩:=x
  simp only[TA.cs] at hA hk ⊢
  subst hA he
  have hkz:(k:Int)<(ne:Int):=by omega
  rw[hv] at hv1 hv2
  have hw:IntKind.i64.wrap (v - a)=v - a:=IntWalk.i64_in _ (by omega)
  cases r with
  | true=>
   have HF:Hid (alongP t (((k:Nat):Int),a,true)=v - a):=qh (by unfold alongP;rw[if_pos rfl];simp only;rw[hv])
   clear h d0 hv h0 h1 hv1 hv2 ha1 ha2
   obtain⟨w1,hw1⟩:∃V:World,w.alloc (.cells #[.slice (some ad) ne ce,.slice Aj nj cj,.slice Ab nb cb,.slice Ar nr cr] 27)=V:=⟨_,rfl⟩
   have zw1:w1.heap.size=w.heap.size+1:=by rw[←hw1];simp
   have kw1:Keep Never w w1:=by rw[←hw1];exact(Keep.refl _ _).alloc _
   have bw1:=Blk.new w 27 #[.slice (some ad) ne ce,.slice Aj nj cj,.slice Ab nb cb,.slice Ar nr cr]
   rw[hw1] at bw1
   obtain⟨w2,hw2⟩:∃V:World,w1.alloc (.cells #[.int .i64 ((k:Nat):Int),.int .i64 a,.bool true] 71)=V:=⟨_,rfl⟩
   have kw2:Keep Never w1 w2:=by rw[←hw2];exact(Keep.refl _ _).alloc _
   have bw2:=Blk.new w1 71 #[.int .i64 ((k:Nat):Int),.int .i64 a,.bool true]
   rw[hw2,zw1] at bw2
   have HB1:=qh (bw1.keep kw2 (fun h=>h))
   have HB2:=qh bw2
   have HK:=qh (kw1.trans kw2)
   clear kw1 kw2 bw1 bw2
   obtain⟨y0,y1,y2,y3⟩:=bc4 HB1.out
   obtain⟨q0,q1,q2⟩:=bc3 HB2.out
   have d0:=HD.out w2 HK.out
   go_enter Tryz.func138, Tryz.ntmps138
   go_wp2_with fail
   go_quiet (fail)
   go_wp2_with fail
   go_ret
   exact⟨by rw[HF.out];rfl,HK.out.drewN _⟩
  | false=>
   have HF:Hid (alongP t (((k:Nat):Int),a,false)=a):=qh (by unfold alongP;rw[if_neg (by simp)])
   clear h d0 hv h0 h1 hv1 hv2 ha1 ha2
   obtain⟨w1,hw1⟩:∃V:World,w.alloc (.cells #[.slice (some ad) ne ce,.slice Aj nj cj,.slice Ab nb cb,.slice Ar nr cr] 27)=V:=⟨_,rfl⟩
   have zw1:w1.heap.size=w.heap.size+1:=by rw[←hw1];simp
   have kw1:Keep Never w w1:=by rw[←hw1];exact(Keep.refl _ _).alloc _
   have bw1:=Blk.new w 27 #[.slice (some ad) ne ce,.slice Aj nj cj,.slice Ab nb cb,.slice Ar nr cr]
   rw[hw1] at bw1
   obtain⟨w2,hw2⟩:∃V:World,w1.alloc (.cells #[.int .i64 ((k:Nat):Int),.int .i64 a,.bool false] 71)=V:=⟨_,rfl⟩
   have kw2:Keep Never w1 w2:=by rw[←hw2];exact(Keep.refl _ _).alloc _
   have bw2:=Blk.new w1 71 #[.int .i64 ((k:Nat):Int),.int .i64 a,.bool false]
   rw[hw2,zw1] at bw2
   have HB1:=qh (bw1.keep kw2 (fun h=>h))
   have HB2:=qh bw2
   have HK:=qh (kw1.trans kw2)
   clear kw1 kw2 bw1 bw2
   obtain⟨y0,y1,y2,y3⟩:=bc4 HB1.out
   obtain⟨q0,q1,q2⟩:=bc3 HB2.out
   have d0:=HD.out w2 HK.out
   go_enter Tryz.func138, Tryz.ntmps138
   go_wp2_with fail
   go_ret
   exact⟨by rw[HF.out];rfl,HK.out⟩
end Go.Proofs.YtpapiojicbbheaaGreatDoor

namespace Go.Proofs.YtpapiojicbbheaaGreatDoor
open Go.RowKit
theorem edge_in {t:Tp} (hc:checkM t=0) {e:Int} (h:thereB t.1.length e=true):1≤edgeM t e∧edgeM t e≤1000000:=by
 unfold thereB at h
 simp only[Bool.and_eq_true,decide_eq_true_eq] at h
 have hl:e.toNat<t.1.length:=by omega
 have hg:edgeM t e=t.1[e.toNat]:=by unfold edgeM;rw[List.getD_eq_getElem?_getD,List.getElem?_eq_getElem hl];rfl
 rw[hg]
 exact check_edges hc _ (List.getElem_mem hl)
structure WkI (w5:World) (bs:Nat) (t:Tp) (r:Ps×Int) (f:Nat) (s:Stp) (m:Int) (W:World):Prop where
  far:Keep (fun q=>q=bs) w5 W
  st:Blk W bs 30 #[.int .i64 s.1,.bool s.2]
  go:goM t f s m=r
  there:thereB t.1.length s.1=true
  pos:0≤m
  top:m≤2199023255552
set_option maxHeartbeats 8000000 in
set_option maxRecDepth 100000 in
theorem pwalk_any (x:TA) (t:Tp) (B:Nat) (e a:Int) (r:Bool) (n:Int) (w:World) (h:TpAt w B x t) (hs:TpSmall x t) (hB:B≤w.heap.size) :
    Calls Tryz.prog 91 #[.agg x.cs,.agg #[.int .i64 e,.int .i64 a,.bool r],.int .i64 n] w (PsRet2 (walkP t (e,a,r) n) w):=by
  have HRi:=qh (fun (W:World) (hk:Keep Never w W)=>pright_any x t B e a r W (h.keep hk) hs (Nat.le_trans hB hk.size))
  have HTp:=qh h
  have HEl:Hid (x.ne=t.1.length):=qh h.e.len
  have HAl:=qh (fun (W:World) (hk:Keep Never w W)=>palong_any x t B e a r W (h.keep hk))
  have HOv:=qh (fun (W:World) (hk:Keep Never w W) (e:Int) (r:Bool) (n:Int)=>pover_any x t B e r n W (h.keep hk))
  have HAf:=qh (fun (W:World) (hk:Keep Never w W) (s:Stp)=>after_any x t B s W (h.keep hk) hs.j hs.e)
  have HED:=qh (fun (W:World) (hk:Keep Never w W) (i:Int) (h0:0≤i) (h1:i<(x.ne:Int))=>edge_at (h.keep hk) h0 h1)
  obtain⟨Ae,ne,ce,Aj,nj,cj,Ab,nb,cb,Ar,nr,cr⟩:=x
  simp only[TA.cs] at HRi HTp HEl HAl HOv HAf HED ⊢
  clear h hs hB
  obtain⟨w1,hw1⟩:∃V:World,w.alloc (.cells #[.slice Ae ne ce,.slice Aj nj cj,.slice Ab nb cb,.slice Ar nr cr] 27)=V:=⟨_,rfl⟩
  have zw1:w1.heap.size=w.heap.size+1:=by rw[←hw1];simp
  have kw1:Keep Never w w1:=by rw[←hw1];exact(Keep.refl _ _).alloc _
  have bw1:=Blk.new w 27 #[.slice Ae ne ce,.slice Aj nj cj,.slice Ab nb cb,.slice Ar nr cr]
  rw[hw1] at bw1
  obtain⟨w2,hw2⟩:∃V:World,w1.alloc (.cells #[.int .i64 e,.int .i64 a,.bool r] 71)=V:=⟨_,rfl⟩
  have zw2:w2.heap.size=w.heap.size+1+1:=by rw[←hw2];simp[zw1]
  have kw2:Keep Never w1 w2:=by rw[←hw2];exact(Keep.refl _ _).alloc _
  have bw2:=Blk.new w1 71 #[.int .i64 e,.int .i64 a,.bool r]
  rw[hw2,zw1] at bw2
  obtain⟨w3,hw3⟩:∃V:World,w2.alloc (.cells #[.int .i64 0,.int .i64 0,.bool false] 71)=V:=⟨_,rfl⟩
  have kw3:Keep Never w2 w3:=by rw[←hw3];exact(Keep.refl _ _).alloc _
  have bw3:=Blk.new w2 71 #[.int .i64 0,.int .i64 0,.bool false]
  rw[hw3,zw2] at bw3
  have HB1:=qh ((bw1.keep kw2 (fun h=>h)).keep kw3 (fun h=>h))
  have HB2:=qh (bw2.keep kw3 (fun h=>h))
  have HB3:=qh bw3
  have HK:=qh ((kw1.trans kw2).trans kw3)
  clear kw1 kw2 kw3 bw1 bw2 bw3
  obtain⟨y0,y1,y2,y3⟩:=bc4 HB1.out
  obtain⟨q0,q1,q2⟩:=bc3 HB2.out
  have HC:=qh (HRi.out w3 HK.out)
  clear HRi
  cases hr:rightB t (e,a,r) with
  | false=>
   have HF:Hid (walkP t (e,a,r) n=(noP,1)):=qh (by unfold walkP;rw[if_neg (by rw[hr];simp)])
   rw[hr] at HC
   clear hr
   go_enter Tryz.func91, Tryz.ntmps91
   go_wp2_with fail
   go_step3
   go_wp2_with fail
   refine HC.out.mono ?_
   rintro en w4 ⟨rfl,hk4⟩
   have HK4:=qtr HK hk4
   have HT4:=qkb HB1 hk4
   have HP4:=qkb HB2 hk4
   have HZ4:=qkb HB3 hk4
   clear hk4 HC HB1 HB2 HB3 y0 y1 y2 y3 q0 q1 q2 hw1 hw2 hw3 zw1 zw2
   obtain⟨z0,z1,z2⟩:=bc3 HZ4.out
   have zf0:=HZ4.out.frozen 0
   have zf1:=HZ4.out.frozen 1
   have zf2:=HZ4.out.frozen 2
   go_wp2_with fail
   (try simp only[Exit.inBlock,Exit.then])
   (try rw[Exit.noGoto_ret])
   have hp:=ps3_keep HK4.out (b:=w.heap.size+1+1) (.inr (by omega)) (.int .i64 0) (.int .i64 0) (.bool false)
   refine bodyPost_ret (ps_results2 (fn:=Tryz.f91) (r:=6) (s:=7) rfl (ps3_blk HZ4.out (.int .i64 0) (.int .i64 0) (.bool false)) _ rfl) rfl ⟨by rw[HF.out];rfl,hp⟩
  | true=>
   rw[hr] at HC
   by_cases g0:0≤n
   case neg=>
    have t0:decide (n<0)=true:=by simp;omega
    have HF:Hid (walkP t (e,a,r) n=(noP,1)):=qh (by unfold walkP;rw[if_neg (by rintro⟨_,h,_⟩;exact g0 h)])
    clear hr g0
    go_enter Tryz.func91, Tryz.ntmps91
    go_wp2_with fail
    go_step3
    go_wp2_with fail
    refine HC.out.mono ?_
    rintro en w4 ⟨rfl,hk4⟩
    have HK4:=qtr HK hk4
    have HT4:=qkb HB1 hk4
    have HP4:=qkb HB2 hk4
    have HZ4:=qkb HB3 hk4
    clear hk4 HC HB1 HB2 HB3 y0 y1 y2 y3 q0 q1 q2 hw1 hw2 hw3 zw1 zw2
    obtain⟨z0,z1,z2⟩:=bc3 HZ4.out
    have zf0:=HZ4.out.frozen 0
    have zf1:=HZ4.out.frozen 1
    have zf2:=HZ4.out.frozen 2
    go_wp2_with fail
    (try simp only[Exit.inBlock,Exit.then])
    (try rw[Exit.noGoto_ret])
    have hp:=ps3_keep HK4.out (b:=w.heap.size+1+1) (.inr (by omega)) (.int .i64 0) (.int .i64 0) (.bool false)
    refine bodyPost_ret (ps_results2 (fn:=Tryz.f91) (r:=6) (s:=7) rfl (ps3_blk HZ4.out (.int .i64 0) (.int .i64 0) (.bool false)) _ rfl) rfl ⟨by rw[HF.out];rfl,hp⟩
   have t0:decide (n<0)=false:=by simp;omega
   by_cases g1:n≤1099511627776
   case neg=>
    have t1:decide (n>1099511627776)=true:=by simp;omega
    have HF:Hid (walkP t (e,a,r) n=(noP,1)):=qh (by unfold walkP;rw[if_neg (by rintro⟨_,_,h⟩;exact g1 h)])
    clear hr g0 g1
    go_enter Tryz.func91, Tryz.ntmps91
    go_wp2_with fail
    go_step3
    go_wp2_with fail
    refine HC.out.mono ?_
    rintro en w4 ⟨rfl,hk4⟩
    have HK4:=qtr HK hk4
    have HT4:=qkb HB1 hk4
    have HP4:=qkb HB2 hk4
    have HZ4:=qkb HB3 hk4
    clear hk4 HC HB1 HB2 HB3 y0 y1 y2 y3 q0 q1 q2 hw1 hw2 hw3 zw1 zw2
    obtain⟨z0,z1,z2⟩:=bc3 HZ4.out
    have zf0:=HZ4.out.frozen 0
    have zf1:=HZ4.out.frozen 1
    have zf2:=HZ4.out.frozen 2
    go_wp2_with fail
    (try simp only[Exit.inBlock,Exit.then])
    (try rw[Exit.noGoto_ret])
    have hp:=ps3_keep HK4.out (b:=w.heap.size+1+1) (.inr (by omega)) (.int .i64 0) (.int .i64 0) (.bool false)
    refine bodyPost_ret (ps_results2 (fn:=Tryz.f91) (r:=6) (s:=7) rfl (ps3_blk HZ4.out (.int .i64 0) (.int .i64 0) (.bool false)) _ rfl) rfl ⟨by rw[HF.out];rfl,hp⟩
   have t1:decide (n>1099511627776)=false:=by simp;omega
   go_enter Tryz.func91, Tryz.ntmps91
   go_wp2_with fail
   go_step3
   go_wp2_with fail
   refine HC.out.mono ?_
   rintro en w4 ⟨rfl,hk4⟩
   have HK4:=qtr HK hk4
   have HT4:=qkb HB1 hk4
   have HP4:=qkb HB2 hk4
   have HZ4:=qkb HB3 hk4
   clear hk4 HC HB1 HB2 HB3 y0 y1 y2 y3 q0 q1 q2 hw1 hw2 hw3 zw1 zw2
   obtain⟨r1,r2,r3,r4⟩:=right_iff.1 hr
   simp only at r2 r3 r4
   have HCk:=qh r1
   have hin:=edge_in r1 r2
   have hth:=r2
   unfold thereB at hth
   simp only[Bool.and_eq_true,decide_eq_true_eq] at hth
   rw[←HEl.out] at hth
   have hal:=along_in (t:=t) (p:=(e,a,r)) r3 r4
   simp only at hal
   have HW:Hid (goM t 40 (e,r) (n+alongP t (e,a,r))=walkP t (e,a,r) n):=qh (by unfold walkP;rw[if_pos ⟨hr,g0,g1⟩])
   have HTh:=qh r2
   obtain⟨w5,hw5⟩:∃V:World,w4.alloc (.cells #[.int .i64 e,.bool r] 30)=V:=⟨_,rfl⟩
   have K5:Keep Never w4 w5:=by rw[←hw5];exact(Keep.refl _ _).alloc _
   have B5:=Blk.new w4 30 #[.int .i64 e,.bool r]
   rw[hw5] at B5
   obtain⟨bs,hbs⟩:∃q,w4.heap.size=q:=⟨_,rfl⟩
   rw[hbs] at B5
   have HK5:=qtr HK4 K5
   have HT5:=qkb HT4 K5
   have HP5:=qkb HP4 K5
   have HZ5:=qkb HZ4 K5
   have HS5:=qh B5
   have HLo:Hid (w.heap.size+2<bs):=qh (by rw[←hbs];exact HZ4.out.lt)
   have HC:=qh (HAl.out w5 HK5.out hth.1 hth.2 (by omega) hin.2 r3 (by omega))
   obtain⟨al,hal'⟩:∃z,alongP t (e,a,r)=z:=⟨_,rfl⟩
   rw[hal'] at HC HW hal
   have hw:IntKind.i64.wrap (n+al)=n+al:=IntWalk.i64_in _ (by omega)
   have HN0:Hid (0≤n+al∧n+al≤2199023255552):=qh (by omega)
   obtain⟨p0,p1,p2⟩:=bc3 HP4.out
   obtain⟨y0,y1,y2,y3⟩:=bc4 HT5.out
   obtain⟨q0,q1,q2⟩:=bc3 HP5.out
   clear K5 B5 HT4 HP4 HZ4 hr g0 g1 r1 r2 r3 r4 hin hth hal hal' HAl
   go_wp2_with fail
   refine HC.out.mono ?_
   clear hw5 hbs
   rintro en w6 ⟨rfl,hk6⟩
   have HI6:Hid (WkI w5 bs t (walkP t (e,a,r) n) 40 (e,r) (n+al) w6):=qh ⟨hk6.mono (fun _ _ h=>h.elim),HS5.out.keep hk6 (fun h=>h),HW.out,HTh.out,HN0.out.1,HN0.out.2⟩
   have HK56:=qh hk6
   obtain⟨s0,s1⟩:=bc2 HI6.out.st
   clear hk6 HC p0 p1 p2 q0 q1 q2 y0 y1 y2 y3
   have y0:w6.cell? ⟨w.heap.size,0,none⟩=some (.slice Ae ne ce):=(HT5.out.keep HK56.out (fun h=>h)).cell 0
   have hw':wrap64 (n+al)=n+al:=by have:=hw;rwa [IntWalk.i64_left] at this
   go_wp2_with fail
   (try rw[hw'])
   obtain⟨m0,hm0⟩:∃z,n+al=z:=⟨_,rfl⟩
   rw[hm0] at HI6
   rw[hm0]
   clear hm0 hw hw' s0 s1 y0 HW HN0
   go_step3
   go_wp2_with fail
   go_loopw [2,9,10,11,46,50,54] (fun m er l _ _ _ _ wr=>∃(f:Nat) (s:Stp) (mm:Int),f≤40∧m=.int .i64 mm∧er=.int .i64 0∧l=.int .i64 ((40 - f:Nat):Int)∧Hid (WkI w5 bs t (walkP t (e,a,r) n) f s mm wr)) (fun _ _ l _ _ _ _ _=>40 - (intOf l).toNat)
   case atStart=>exact⟨40,(e,r),m0,by omega,rfl,rfl,rfl,HI6⟩
   case round=>
    obtain⟨f,s,mm,hf,rfl,rfl,rfl,HH⟩:=hrel
    have HTr:=qh (HT5.out.keep HH.out.far (by have:=HLo.out;omega))
    have HZr:=qh (HZ5.out.keep HH.out.far (by have:=HLo.out;omega))
    have HKr:=qh (HK5.out.then_ HH.out.far (fun i hi e=>by have:=HLo.out;omega))
    have HSr:=qh HH.out.st
    have HGo:=qh HH.out.go
    have hpos:=HH.out.pos
    have htop:=HH.out.top
    obtain⟨es,er⟩:=s
    have hin:=edge_in HCk.out HH.out.there
    have hth:=HH.out.there
    unfold thereB at hth
    simp only[Bool.and_eq_true,decide_eq_true_eq] at hth
    rw[←HEl.out] at hth
    obtain⟨ad,k,v,hA,he,hk,d0,hv⟩:=HED.out wr HKr.out es hth.1 hth.2
    subst hA
    subst he
    simp only at hin HSr HGo hth
    rw[hv] at hin
    have hkz:(k:Int)<(ne:Int):=by omega
    have HV:=qh hv
    obtain⟨y0,y1,y2,y3⟩:=bc4 HTr.out
    obtain⟨s0,s1⟩:=bc2 HSr.out
    by_cases g:mm≤v
    ·have t2:decide (mm≤v)=true:=by simpa using g
     have HF:Hid (walkP t (e,a,r) n=(overP t (((k:Nat):Int),er) mm,0)):=qh (by rw[←HGo.out];exact goM_in (by rw[hv];exact g))
     have HC:=qh (HOv.out wr HKr.out ((k:Nat):Int) er mm hth.1 hth.2 (by rw[hv];omega) (by rw[hv];omega) hpos (by omega))
     clear g hv hth hin hpos htop
     go_wp2_with fail
     refine HC.out.mono ?_
     rintro en w7 ⟨rfl,hk7⟩
     have HK7:=qtr HKr hk7
     have HZ7:=qkb HZr hk7
     clear hk7 HC y0 y1 y2 y3 s0 s1
     obtain⟨⟨o1,o2,o3⟩,hov⟩:∃z,overP t (((k:Nat):Int),er) mm=z:=⟨_,rfl⟩
     rw[hov] at HF
     rw[hov]
     clear hov
     obtain⟨z0,z1,z2⟩:=bc3 HZ7.out
     have zf0:=HZ7.out.frozen 0
     have zf1:=HZ7.out.frozen 1
     have zf2:=HZ7.out.frozen 2
     go_wp2_with fail
     (try simp only[Exit.inBlock,Exit.then])
     (try rw[Exit.noGoto_ret])
     have hp:=ps3_keep HK7.out (b:=w.heap.size+1+1) (.inr (by omega)) (.int .i64 o1) (.int .i64 o2) (.bool o3)
     refine bodyPost_ret (ps_results2 (fn:=Tryz.f91) (r:=6) (s:=7) rfl (ps3_blk HZ7.out (.int .i64 o1) (.int .i64 o2) (.bool o3)) _ rfl) rfl ⟨by rw[HF.out];rfl,hp⟩
    ·have t2:decide (mm≤v)=false:=by simpa using g
     have HC:=qh (HAf.out wr HKr.out (((k:Nat):Int),er))
     dsimp only at HC
     have HG:Hid (¬mm≤edgeM t ((k:Nat):Int)):=qh (by rw[hv];exact g)
     clear hv hth
     go_wp2_with fail
     refine HC.out.mono ?_
     rintro en w7 ⟨A7,n7,c7,rfl,hn7,ho7,hk7⟩
     have HK7:=qtr HKr hk7
     have HKa:=qh hk7
     have HT7:=qkb HTr hk7
     have HZ7:=qkb HZr hk7
     have HS7:=qkb HSr hk7
     have HFa:=qh (HH.out.far.then_ hk7 (fun _ _ h=>h.elim))
     have Ho7:=qh ho7
     have Hth:=qh HH.out.there
     clear ho7 hk7 HC y0 y1 y2 y3 s0 s1 HTr HZr HSr HKr
     rcases hl:afterM t (((k:Nat):Int),er) with _ | ⟨x,_ | ⟨y,l⟩⟩
     ·have HF:Hid (walkP t (e,a,r) n=(noP,141)):=qh (by rw[←HGo.out];exact goM_end (by have:=HG.out;simp only;omega) hl)
      rw[hl] at hn7
      obtain rfl:n7=0:=hn7.out
      clear hl hn7
      obtain⟨z0,z1,z2⟩:=bc3 HZ7.out
      have zf0:=HZ7.out.frozen 0
      have zf1:=HZ7.out.frozen 1
      have zf2:=HZ7.out.frozen 2
      go_wp2_with fail
      (try simp only[Exit.inBlock,Exit.then])
      (try rw[Exit.noGoto_ret])
      have hp:=ps3_keep HK7.out (b:=w.heap.size+1+1) (.inr (by omega)) (.int .i64 0) (.int .i64 0) (.bool false)
      refine bodyPost_ret (ps_results2 (fn:=Tryz.f91) (r:=6) (s:=7) rfl (ps3_blk HZ7.out (.int .i64 0) (.int .i64 0) (.bool false)) _ rfl) rfl ⟨by rw[HF.out];rfl,hp⟩
     ·rw[hl] at hn7 Ho7
      obtain rfl:n7=1:=hn7.out
      have hmem:x∈afterM t (((k:Nat):Int),er):=by rw[hl];simp
      have Hx:=qh (after_there hmem)
      cases f with
      | zero=>
       have HF:Hid (walkP t (e,a,r) n=(noP,2)):=qh (by rw[←HGo.out];exact goM_long (by have:=HG.out;simp only;omega) hl)
       clear hl hn7 hmem
       obtain⟨z0,z1,z2⟩:=bc3 HZ7.out
       have zf0:=HZ7.out.frozen 0
       have zf1:=HZ7.out.frozen 1
       have zf2:=HZ7.out.frozen 2
       go_wp2_with fail
       (try simp only[Exit.inBlock,Exit.then])
       (try rw[Exit.noGoto_ret])
       have hp:=ps3_keep HK7.out (b:=w.heap.size+1+1) (.inr (by omega)) (.int .i64 0) (.int .i64 0) (.bool false)
       refine bodyPost_ret (ps_results2 (fn:=Tryz.f91) (r:=6) (s:=7) rfl (ps3_blk HZ7.out (.int .i64 0) (.int .i64 0) (.bool false)) _ rfl) rfl ⟨by rw[HF.out];rfl,hp⟩
      | succ f=>
       have HG2:Hid (goM t f x (mm - v)=walkP t (e,a,r) n):=qh (by rw[←HGo.out,goM_next (by have:=HG.out;simp only;omega) hl];simp only[HV.out])
       have t6:(((40 - (f+1):Nat):Int)==40)=false:=by simp;omega
       have hvm:v<mm:=by omega
       have hw6:IntKind.i64.wrap (mm - v)=mm - v:=IntWalk.i64_in _ (by omega)
       have HB7:Hid (0≤mm - v∧mm - v≤2199023255552):=qh (by omega)
       obtain⟨ad2,x',hA2,hb2,hx',c0,c1⟩:=Ho7.out.rd.stp (k:=0) (by omega)
       obtain rfl:x=x':=by simpa using hx'
       subst hA2
       obtain⟨x0,x1⟩:=x
       simp only[Nat.zero_mul] at c0 c1
       have ea:ad2.add 0=ad2:=by unfold Addr.add;split <;> simp_all
       have c0':=c0
       have c1':=c1
       rw[ea] at c0' c1'
       have d7:=keepT HKa.out d0
       obtain⟨y0,y1,y2,y3⟩:=bc4 HT7.out
       obtain⟨s0,s1⟩:=bc2 HS7.out
       have sf0:=HS7.out.frozen 0
       have sf1:=HS7.out.frozen 1
       clear hl hn7 hmem hx' g hin hpos htop d0
       go_wp2_with fail
       have b8:Blk ((w7.setCell ⟨bs,0,none⟩ (.int .i64 x0)).setCell ⟨bs,1,none⟩ (.bool x1)) bs 30 #[.int .i64 x0,.bool x1]:=by have:=(HS7.out.set_ 0 (.int .i64 x0)).set_ 1 (.bool x1);simpa using this
       refine⟨⟨f,(x0,x1),mm - v,by omega,rfl,rfl,by rw[show ((39 - f:Nat):Int)+1=((40 - f:Nat):Int) by omega],qh ⟨(HFa.out.set_ (p:=⟨bs,0,none⟩) (.inl rfl) _).set_ (p:=⟨bs,1,none⟩) (.inl rfl) _,b8,HG2.out,Hx.out,HB7.out.1,HB7.out.2⟩⟩,?_⟩
       simp[intOf];try omega
     ·have HF:Hid (walkP t (e,a,r) n=(noP,140)):=qh (by rw[←HGo.out];exact goM_fork (by have:=HG.out;simp only;omega) hl)
      rw[hl] at hn7
      have hn2:n7=l.length+2:=hn7.out
      have t3:((n7:Int)==0)=false:=by simp;omega
      have t4:decide ((n7:Int)>1)=true:=by simp;omega
      have t5:decide (1<n7)=true:=by simp;omega
      clear hl hn7 hn2
      obtain⟨z0,z1,z2⟩:=bc3 HZ7.out
      have zf0:=HZ7.out.frozen 0
      have zf1:=HZ7.out.frozen 1
      have zf2:=HZ7.out.frozen 2
      go_wp2_with fail
      (try simp only[Exit.inBlock,Exit.then])
      (try rw[Exit.noGoto_ret])
      have hp:=ps3_keep HK7.out (b:=w.heap.size+1+1) (.inr (by omega)) (.int .i64 0) (.int .i64 0) (.bool false)
      refine bodyPost_ret (ps_results2 (fn:=Tryz.f91) (r:=6) (s:=7) rfl (ps3_blk HZ7.out (.int .i64 0) (.int .i64 0) (.bool false)) _ rfl) rfl ⟨by rw[HF.out];rfl,hp⟩
end Go.Proofs.YtpapiojicbbheaaGreatDoor

namespace Go.Proofs.YtpapiojicbbheaaGreatDoor
open Go.RowKit
def locP (t:Tp) (id:Int) (rev:Bool) (n:Int):Ps×Int:=if checkM t=0 then (match balM t.2.2.1 id with | none=>(noP,4) | some b=>walkP t (b.2.1,b.2.2,rev) n) else (noP,1)
set_option maxHeartbeats 8000000 in
set_option maxRecDepth 100000 in
theorem plocate_any (x:TA) (t:Tp) (B:Nat) (id:Int) (r:Bool) (n:Int) (w:World) (h:TpAt w B x t) (hs:TpSmall x t) (hB:B≤w.heap.size) :
    Calls Tryz.prog 54 #[.agg x.cs,.int .i64 id,.bool r,.int .i64 n] w (PsRet2 (locP t id r n) w):=by
  have HCh:=qh (fun (W:World) (hk:Keep Never w W)=>check_any x t B W (h.keep hk) hs (Nat.le_trans hB hk.size))
  have HBa:=qh (fun (W:World) (hk:Keep Never w W)=>bal_any x t B id W (h.keep hk) hs.b)
  have HWk:=qh (fun (W:World) (hk:Keep Never w W) (e a:Int)=>pwalk_any x t B e a r n W (h.keep hk) hs (Nat.le_trans hB hk.size))
  obtain⟨Ae,ne,ce,Aj,nj,cj,Ab,nb,cb,Ar,nr,cr⟩:=x
  simp only[TA.cs] at HCh HBa HWk ⊢
  clear h hs hB
  obtain⟨w1,hw1⟩:∃V:World,w.alloc (.cells #[.slice Ae ne ce,.slice Aj nj cj,.slice Ab nb cb,.slice Ar nr cr] 27)=V:=⟨_,rfl⟩
  have zw1:w1.heap.size=w.heap.size+1:=by rw[←hw1];simp
  have kw1:Keep Never w w1:=by rw[←hw1];exact(Keep.refl _ _).alloc _
  have bw1:=Blk.new w 27 #[.slice Ae ne ce,.slice Aj nj cj,.slice Ab nb cb,.slice Ar nr cr]
  rw[hw1] at bw1
  obtain⟨w2,hw2⟩:∃V:World,w1.alloc (.cells #[.int .i64 0,.int .i64 0,.bool false] 71)=V:=⟨_,rfl⟩
  have kw2:Keep Never w1 w2:=by rw[←hw2];exact(Keep.refl _ _).alloc _
  have bw2:=Blk.new w1 71 #[.int .i64 0,.int .i64 0,.bool false]
  rw[hw2,zw1] at bw2
  have HB1:=qh (bw1.keep kw2 (fun h=>h))
  have HB2:=qh bw2
  have HK:=qh (kw1.trans kw2)
  clear kw1 kw2 bw1 bw2
  obtain⟨y0,y1,y2,y3⟩:=bc4 HB1.out
  have HC:=qh (HCh.out w2 HK.out)
  obtain⟨ck,hck⟩:∃z,checkM t=z:=⟨_,rfl⟩
  rw[hck] at HC
  go_enter Tryz.func54, Tryz.ntmps54
  go_wp2_with fail
  refine HC.out.mono ?_
  rintro en w4 ⟨rfl,hk4⟩
  have HK4:=qtr HK hk4
  have HT4:=qkb HB1 hk4
  have HZ4:=qkb HB2 hk4
  clear hk4 HC HCh HB1 HB2 y0 y1 y2 y3 hw1 hw2 zw1
  by_cases g:ck=0
  case neg=>
   have t0:(ck != 0)=true:=by simpa using g
   have HF:Hid (locP t id r n=(noP,1)):=qh (by unfold locP;rw[if_neg (by rw[hck];exact g)])
   clear g hck
   obtain⟨z0,z1,z2⟩:=bc3 HZ4.out
   have zf0:=HZ4.out.frozen 0
   have zf1:=HZ4.out.frozen 1
   have zf2:=HZ4.out.frozen 2
   go_wp2_with fail
   (try simp only[Exit.inBlock,Exit.then])
   have hp:=ps3_keep HK4.out (b:=w.heap.size+1) (.inr (by omega)) (.int .i64 0) (.int .i64 0) (.bool false)
   refine bodyPost_ret (ps_results2 (fn:=Tryz.f54) (r:=8) (s:=9) rfl (ps3_blk HZ4.out (.int .i64 0) (.int .i64 0) (.bool false)) _ rfl) rfl ⟨by rw[HF.out];rfl,hp⟩
  have t0:(ck != 0)=false:=by simpa using g
  have HF0:Hid (locP t id r n=match balM t.2.2.1 id with | none=>(noP,4) | some b=>walkP t (b.2.1,b.2.2,r) n):=qh (by unfold locP;rw[if_pos (by rw[hck];exact g)])
  clear g hck
  have hC0:=HBa.out w4 HK4.out
  unfold BalRet at hC0
  obtain⟨ob,hob⟩:∃z,balM t.2.2.1 id=z:=⟨_,rfl⟩
  rw[hob] at hC0 HF0
  have HC:=qh hC0
  clear hC0 hob HBa
  obtain⟨y0,y1,y2,y3⟩:=bc4 HT4.out
  cases ob with
  | none=>
   have HF:Hid (locP t id r n=(noP,4)):=qh HF0.out
   go_wp2_with fail
   refine HC.out.mono ?_
   rintro en w5 ⟨rfl,hk5⟩
   have HK5:=qtr HK4 hk5
   have HZ5:=qkb HZ4 hk5
   clear hk5 HC y0 y1 y2 y3
   simp only[Option.getD,Option.isSome]
   have HK6:=qh (HK5.out.trans ((Keep.refl Never w5).alloc (.cells #[.int .i64 0,.int .i64 0,.int .i64 0] 94)))
   have HZ6:=qh (HZ5.out.alloc (.cells #[.int .i64 0,.int .i64 0,.int .i64 0] 94))
   obtain⟨z0,z1,z2⟩:=bc3 HZ6.out
   have zf0:=HZ6.out.frozen 0
   have zf1:=HZ6.out.frozen 1
   have zf2:=HZ6.out.frozen 2
   go_wp2_with fail
   (try simp only[Exit.inBlock,Exit.then])
   have hp:=ps3_keep HK6.out (b:=w.heap.size+1) (.inr (by omega)) (.int .i64 0) (.int .i64 0) (.bool false)
   refine bodyPost_ret (ps_results2 (fn:=Tryz.f54) (r:=8) (s:=9) rfl (ps3_blk HZ6.out (.int .i64 0) (.int .i64 0) (.bool false)) _ rfl) rfl ⟨by rw[HF.out];rfl,hp⟩
  | some b=>
   obtain⟨b1,b2,b3⟩:=b
   have HF:Hid (locP t id r n=walkP t (b2,b3,r) n):=qh HF0.out
   go_wp2_with fail
   refine HC.out.mono ?_
   rintro en w5 ⟨rfl,hk5⟩
   have HK5:=qtr HK4 hk5
   have HT5:=qkb HT4 hk5
   have HZ5:=qkb HZ4 hk5
   clear hk5 HC y0 y1 y2 y3
   simp only[Option.getD,Option.isSome]
   obtain⟨w6,hw6⟩:∃V:World,w5.alloc (.cells #[.int .i64 b1,.int .i64 b2,.int .i64 b3] 94)=V:=⟨_,rfl⟩
   have K6:Keep Never w5 w6:=by rw[←hw6];exact(Keep.refl _ _).alloc _
   have B6:=Blk.new w5 94 #[.int .i64 b1,.int .i64 b2,.int .i64 b3]
   rw[hw6] at B6
   obtain⟨bb,hbb⟩:∃q,w5.heap.size=q:=⟨_,rfl⟩
   rw[hbb] at B6
   have HK6:=qtr HK5 K6
   have HT6:=qkb HT5 K6
   have HZ6:=qkb HZ5 K6
   have HB6:=qh B6
   clear K6 B6
   obtain⟨y0,y1,y2,y3⟩:=bc4 HT6.out
   obtain⟨q0,q1,q2⟩:=bc3 HB6.out
   have HC:=qh (HWk.out w6 HK6.out b2 b3)
   go_wp2_with fail
   refine HC.out.mono ?_
   clear hw6 hbb
   rintro en w7 ⟨rfl,hk7⟩
   have HK7:=qtr HK6 hk7
   have HZ7:=qkb HZ6 hk7
   clear hk7 HC y0 y1 y2 y3 q0 q1 q2
   obtain⟨⟨⟨o1,o2,o3⟩,oe⟩,hov⟩:∃z,walkP t (b2,b3,r) n=z:=⟨_,rfl⟩
   rw[hov] at HF
   rw[hov]
   clear hov
   obtain⟨z0,z1,z2⟩:=bc3 HZ7.out
   have zf0:=HZ7.out.frozen 0
   have zf1:=HZ7.out.frozen 1
   have zf2:=HZ7.out.frozen 2
   go_wp2_with fail
   (try simp only[Exit.inBlock,Exit.then])
   have hp:=ps3_keep HK7.out (b:=w.heap.size+1) (.inr (by omega)) (.int .i64 o1) (.int .i64 o2) (.bool o3)
   refine bodyPost_ret (ps_results2 (fn:=Tryz.f54) (r:=8) (s:=9) rfl (ps3_blk HZ7.out (.int .i64 o1) (.int .i64 o2) (.bool o3)) _ rfl) rfl ⟨by rw[HF.out];rfl,hp⟩
end Go.Proofs.YtpapiojicbbheaaGreatDoor

namespace Go.Proofs.YtpapiojicbbheaaGreatDoor
open Go.RowKit
def buildM (t:Tp) (l:List Lk) (train ref:Int) (rev:Bool) (n:Int):Ma×Int:=
  if (locP t ref rev n).2≠0 then (noMa,(locP t ref rev n).2) else
  match balM t.2.2.1 ref with
  | none=>(noMa,4)
  | some b=>
   let s:Stp:=((locP t ref rev n).1.1,(locP t ref rev n).1.2.2)
   let c:=chainM t l train s
   let back:=alongP t (b.2.1,b.2.2,rev)
   let g:=goneM t 40 (b.2.1,rev) (n+back)
   if c=[] then (noMa,4) else endC ref rev n (wayC t s g c c.length) (lessS (secC t s g back c c.length) (gapC t c c.length)) (gapC t c c.length)
end Go.Proofs.YtpapiojicbbheaaGreatDoor

namespace Go.Proofs.YtpapiojicbbheaaGreatDoor
open Go.RowKit
def repLk:Rep Lk:=Rep.int.pair (Rep.int.pair Rep.int)
theorem opens_lk:Rep.Opens Tryz.prog 62 repLk:=
  Rep.opens_struct Tryz.underlying62 (by kernel_rfl)
    (Rep.fopens_cons rfl (by kernel_rfl) (Rep.opens_int Tryz.underlying3) (Rep.fopens_cons rfl (by kernel_rfl) (Rep.opens_int Tryz.underlying3) (Rep.fopens_last rfl (by kernel_rfl) (Rep.opens_int Tryz.underlying3))))
theorem opens_lks:Rep.Opens Tryz.prog 28 repLk.list:=Rep.opens_list Tryz.underlying28 (by kernel_rfl) (by decide) opens_lk
theorem lks_at {w:World}{B n c:Nat}{A:Option Addr}{l:List Lk} (h:repLk.Sl w B A n c l):SpAt w B A n c l:=by
 obtain⟨h1,h2,h3,h4,h5,_⟩:=sps_rd (show repSp.Sl w B A n c l from h)
 exact⟨h1,h5,h3⟩
set_option maxRecDepth 100000 in
theorem elemLk:Elem Tryz.prog 28 62 3 24:=⟨Tryz.underlying28, _,_,rfl,rfl,rfl,rfl,rfl,by omega⟩
theorem lkAt_own {w:World}{base n c:Nat}{A:Option Addr}{l:List Lk} (h:Own w base 62 3 A n c (spCells l)):SpAt w w.heap.size A n c l:=
  ⟨h.rd,(fun e=>by
   rcases h.form with⟨_,_,h2,_⟩ | ⟨_,_,h2,_⟩
   ·exact h2
   ·rw[e] at h2;cases h2),h.cap_le⟩
end Go.Proofs.YtpapiojicbbheaaGreatDoor

namespace Go.Proofs.YtpapiojicbbheaaGreatDoor
open Go.RowKit
def LksRet (m:List Lk) (w:World) (e:Ending) (w':World):Prop:=∃A n c,e=.returned (.slice A n c)∧Hid (n=m.length)∧Own w' w.heap.size 62 3 A n c (spCells m)∧Keep Never w w'
theorem TpAt.wide {w:World}{B B2:Nat}{x:TA}{t:Tp} (h:TpAt w B x t) (hB:B≤B2):TpAt w B2 x t:=⟨h.e.more hB,h.j.more hB,h.b.more hB,h.r.more hB⟩
end Go.Proofs.YtpapiojicbbheaaGreatDoor
