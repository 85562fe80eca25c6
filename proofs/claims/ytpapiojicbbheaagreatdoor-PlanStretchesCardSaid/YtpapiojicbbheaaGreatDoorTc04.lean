/- Texts of this claim, together: TopQ, TopS, TopT, TopU, TopI, SlgA, PlcA, PlcB, LckA, PlnA, PlnB, PlnS, PlnC, PlcC. -/
import Derived.Test.YtpapiojicbbheaaGreatDoorTc03
import Derived.Test.YtpapiojicbbheaaGreatDoorTc02
import Derived.Test.YtpapiojicbbheaaGreatDoorTc00
namespace Go.Proofs.YtpapiojicbbheaaGreatDoor
open Go.RowKit
structure TpLight (x:TA) (t:Tp):Prop where
  e:x.ne≤100
  j:x.nj≤100
  b:x.nb≤100
  r:x.nr≤100
  p:∀r∈t.2.2.2,r.2.1.length≤100
theorem TpLight.small {x:TA}{t:Tp} (h:TpLight x t):TpSmall x t:=⟨by have:=h.e;omega,by have:=h.j;omega,by have:=h.b;omega,by have:=h.r;omega,fun r hr=>by have:=h.p r hr;omega⟩
set_option maxHeartbeats 4000000 in
set_option maxRecDepth 100000 in
theorem light13r_any (x:TA) (t:Tp) (B:Nat) (w:World) (ht:TpAt w B x t) :
    Calls Tryz.prog 10 #[.agg x.cs] w fun e w'=>∃b,e=.returned (.bool b)∧Hid (b=true→TpLight x t)∧Keep Never w w':=by
  have HR:=qh ht.r
  obtain⟨Ae,ne,ce,Aj,nj,cj,Ab,nb,cb,Ar,nr,cr⟩:=x
  simp only[TA.cs] at HR ⊢
  obtain⟨wb,hwb⟩:∃wb:World,w.alloc (.cells #[.slice Ae ne ce,.slice Aj nj cj,.slice Ab nb cb,.slice Ar nr cr] 27)=wb:=⟨_,rfl⟩
  have k1:Keep Never w wb:=by rw[←hwb];exact(Keep.refl _ _).alloc _
  have b1':=Blk.new w 27 #[.slice Ae ne ce,.slice Aj nj cj,.slice Ab nb cb,.slice Ar nr cr]
  rw[hwb] at b1'
  obtain⟨y0,y1,y2,y3⟩:=bc4 (b1')
  have HB:=qh b1'
  have HK:=qh k1
  have HRb:=qh (HR.out.keep k1 (fun _ h=>h.elim))
  clear k1 b1' ht HR
  by_cases g1:ne≤100
  case neg=>
   have t1:decide ((ne:Int)>100)=true:=by simp;omega
   clear g1
   go_enter Tryz.func10, Tryz.ntmps10
   go_wp2_with fail
   go_ret
   exact⟨false,rfl,qh (fun h=>(by cases h)),HK.out⟩
  have t1:decide ((ne:Int)>100)=false:=by simp;omega
  by_cases g2:nj≤100
  case neg=>
   have t2:decide ((nj:Int)>100)=true:=by simp;omega
   clear g1 g2
   go_enter Tryz.func10, Tryz.ntmps10
   go_wp2_with fail
   go_ret
   exact⟨false,rfl,qh (fun h=>(by cases h)),HK.out⟩
  have t2:decide ((nj:Int)>100)=false:=by simp;omega
  by_cases g3:nb≤100
  case neg=>
   have t3:decide ((nb:Int)>100)=true:=by simp;omega
   clear g1 g2 g3
   go_enter Tryz.func10, Tryz.ntmps10
   go_wp2_with fail
   go_ret
   exact⟨false,rfl,qh (fun h=>(by cases h)),HK.out⟩
  have t3:decide ((nb:Int)>100)=false:=by simp;omega
  by_cases g4:nr≤100
  case neg=>
   have t4:decide ((nr:Int)>100)=true:=by simp;omega
   clear g1 g2 g3 g4
   go_enter Tryz.func10, Tryz.ntmps10
   go_wp2_with fail
   go_ret
   exact⟨false,rfl,qh (fun h=>(by cases h)),HK.out⟩
  have t4:decide ((nr:Int)>100)=false:=by simp;omega
  have HG:Hid (ne≤100∧nj≤100∧nb≤100∧nr≤100):=qh ⟨g1,g2,g3,g4⟩
  clear g1 g2 g3
  go_enter Tryz.func10, Tryz.ntmps10
  go_wp2_with fail
  clear y0 y1 y2 y3
  go_loopw [3] (fun i wr=>∃k:Nat,k≤nr∧i=.int .i64 k∧Hid (Keep Never wb wr∧∀r∈t.2.2.2.take k,r.2.1.length≤100)) (fun i _=>nr - (intOf i).toNat)
  case atStart=>exact⟨0,by omega,rfl,qh ⟨Keep.refl _ _,by simp⟩⟩
  case round=>
   obtain⟨k,hk,rfl,HH⟩:=hrel
   have hbb:=HB.out.keep HH.out.1 (fun h=>h)
   have y3:wr.cell? ⟨w.heap.size,3,none⟩=some (.slice Ar nr cr):=hbb.cell 3
   clear hbb
   by_cases h0:k<nr
   ·have hkz:(k:Int)<(nr:Int):=by omega
    obtain⟨ad,r,A2,n2,d2,hA,_,hr,_,hc,_,_,hsl⟩:=rt_at2 (HRb.out.keep HH.out.1 (fun _ h=>h.elim)) h0
    subst hA
    have hn2:n2=r.2.1.length:=hsl.len
    have HTk:Hid (t.2.2.2.take (k+1)=t.2.2.2.take k++[r]):=qh (by
     obtain⟨h2,h3⟩:=List.getElem?_eq_some_iff.1 hr
     rw[List.take_succ_eq_append_getElem h2,h3])
    have HRl:=qh hn2
    clear hr hsl hn2
    by_cases g5:n2≤100
    ·have t5:decide ((n2:Int)>100)=false:=by simp;omega
     have HN2:=qh g5
     clear g5
     go_wp2_with fail
     refine⟨⟨k+1,by omega,by go_num,qh ⟨HH.out.1,fun u hu=>?_⟩⟩,?_⟩
     ·rw[HTk.out] at hu
      rcases List.mem_append.1 hu with hu | hu
      ·exact HH.out.2 u hu
      ·simp at hu;subst hu;rw[←HRl.out];exact HN2.out
     simp[intOf];try omega
    ·have t5:decide ((n2:Int)>100)=true:=by simp;omega
     clear g5
     go_wp2_with fail
     go_ret
     exact⟨false,rfl,qh (fun h=>(by cases h)),HK.out.trans HH.out.1⟩
   ·obtain rfl:k=nr:=by omega
    have hkz:¬(k:Int)<(k:Int):=by omega
    go_wp2_with fail
    go_ret
    have HTL:=qh (TpLight.mk (x:=⟨Ae,ne,ce,Aj,nj,cj,Ab,nb,cb,Ar,k,cr⟩) (t:=t) HG.out.1 HG.out.2.1 HG.out.2.2.1 HG.out.2.2.2 (fun r hr=>HH.out.2 r (by rw[List.take_of_length_le (by rw[HRb.out.len];exact Nat.le_refl _)];exact hr)))
    first
     | exact .inr ⟨rfl,qh HTL.out,HK.out.trans HH.out.1⟩
     | exact⟨true,rfl,qh (fun _=>HTL.out),HK.out.trans HH.out.1⟩
     | exact .inr ⟨rfl,HTL,HK.out.trans HH.out.1⟩
end Go.Proofs.YtpapiojicbbheaaGreatDoor

namespace Go.Proofs.YtpapiojicbbheaaGreatDoor
open Go.RowKit
theorem run_neq_stp (w:World) (x1:Int) (x2:Bool) (y1:Int) (y2:Bool):(binOp .neq 30 (.agg #[.int .i64 x1,.bool x2]) (.agg #[.int .i64 y1,.bool y2])).run Tryz.prog w=.ok (.bool (!sameS x1 x2 y1 y2)) w:=by
 by_cases h1:x1=y1
 ·have t1:(x1==y1)=true:=by simpa using h1
  by_cases h2:x2=y2
  ·have t2:(x2==y2)=true:=by simpa using h2
   have hd:sameS x1 x2 y1 y2=true:=decide_eq_true (by rw[h1,h2])
   rw[hd]
   clear h1 h2 hd
   go_simp
  ·have t2:(x2==y2)=false:=by simpa using h2
   have hd:sameS x1 x2 y1 y2=false:=decide_eq_false (by simp[h2])
   rw[hd]
   clear h1 h2 hd
   go_simp
 ·have t1:(x1==y1)=false:=by simpa using h1
  have hd:sameS x1 x2 y1 y2=false:=decide_eq_false (by simp[h1])
  rw[hd]
  clear h1 hd
  go_simp
set_option maxHeartbeats 1000000 in
set_option maxRecDepth 100000 in
theorem steps_any (A A':Option Addr) (n n' c c' B B':Nat) (l m:List Stp) (w:World) (hr:Rd w B 2 A n (stpCells l)) (hr':Rd w B' 2 A' n' (stpCells m)) (hn:n≤100000000) (hn':n'≤100000000) :
    Calls Tryz.prog 26 #[.slice A n c,.slice A' n' c'] w fun e w'=>e=.returned (.bool (decide (l=m)))∧Keep Never w w':=by
  have qe:∀(w:World) (x1:Int) (x2:Bool) (y1:Int) (y2:Bool),(binOp .neq 30 (.agg #[.int .i64 x1,.bool x2]) (.agg #[.int .i64 y1,.bool y2])).run Tryz.prog w=.ok (.bool (!sameS x1 x2 y1 y2)) w:=run_neq_stp
  have HL:Hid (l.length=n∧m.length=n'):=qh ⟨hr.stp_len,hr'.stp_len⟩
  have HR:=qh hr
  have HR':=qh hr'
  clear hr hr'
  by_cases h0:n=n'
  case neg=>
   have t0:((n:Int) != (n':Int))=true:=by simp;omega
   have HF:Hid (decide (l=m)=false):=qh (decide_eq_false (fun e=>h0 (by rw[←HL.out.1,←HL.out.2,e])))
   clear h0
   go_enter Tryz.func26, Tryz.ntmps26
   go_wp2_with fail
   go_ret
   exact⟨by rw[HF.out];rfl,Keep.refl _ _⟩
  subst h0
  have t0:((n:Int) != (n:Int))=false:=by simp
  go_enter Tryz.func26, Tryz.ntmps26
  go_wp2_with fail
  clear t0
  go_loopw [5] (fun i wr=>∃k:Nat,k≤n∧i=.int .i64 k∧Hid (Keep Never w wr∧l.take k=m.take k)) (fun i _=>n - (intOf i).toNat)
  case atStart=>exact⟨0,by omega,rfl,qh ⟨Keep.refl _ _,by simp⟩⟩
  case round=>
   obtain⟨k,hk,rfl,HH⟩:=hrel
   by_cases h0:k<n
   ·have hkz:(k:Int)<(n:Int):=by omega
    obtain⟨ad,u,hA,_,hu,c0,c1⟩:=(HR.out.keep HH.out.1 (fun _ h=>h.elim)).stp h0
    obtain⟨ae,v,hA',_,hv,d0,d1⟩:=(HR'.out.keep HH.out.1 (fun _ h=>h.elim)).stp h0
    subst hA hA'
    obtain⟨u1,u2⟩:=u
    obtain⟨v1,v2⟩:=v
    simp only at c0 c1 d0 d1
    have Hu:=qh hu
    have Hv:=qh hv
    have HT:Hid (l.take (k+1)=l.take k++[(u1,u2)]∧m.take (k+1)=m.take k++[(v1,v2)]):=qh (by
     obtain⟨h2,h3⟩:=List.getElem?_eq_some_iff.1 hu
     obtain⟨h4,h5⟩:=List.getElem?_eq_some_iff.1 hv
     exact⟨by rw[List.take_succ_eq_append_getElem h2,h3],by rw[List.take_succ_eq_append_getElem h4,h5]⟩)
    clear hu hv
    go_wp2_with fail
    rcases Bool.eq_false_or_eq_true (sameS u1 u2 v1 v2) with t1 | t1
    ·have HN:Hid (l.take (k+1)=m.take (k+1)):=qh (by rw[HT.out.1,HT.out.2,HH.out.2,of_decide_eq_true t1])
     have t2:(!sameS u1 u2 v1 v2)=false:=by rw[t1];rfl
     go_quiet (fail)
     go_wp2_with fail
     refine⟨⟨k+1,by omega,by go_num,qh ⟨HH.out.1.drewN _,HN.out⟩⟩,?_⟩
     simp[intOf];try omega
    ·have HF:Hid (decide (l=m)=false):=qh (decide_eq_false (fun e=>by
      have h1:=Hu.out
      rw[e,Hv.out] at h1
      injection h1 with h1
      exact(of_decide_eq_false t1) h1.symm))
     have t2:(!sameS u1 u2 v1 v2)=true:=by rw[t1];rfl
     go_quiet (fail)
     go_wp2_with fail
     go_ret
     exact⟨by rw[HF.out];rfl,HH.out.1.drewN _⟩
   ·obtain rfl:k=n:=by omega
    have hkz:¬(k:Int)<(k:Int):=by omega
    have HF:Hid (decide (l=m)=true):=qh (decide_eq_true (by
     have:=HH.out.2
     rwa [List.take_of_length_le (by rw[HL.out.1];exact Nat.le_refl _),List.take_of_length_le (by rw[HL.out.2];exact Nat.le_refl _)] at this))
    go_wp2_with fail
    go_ret
    exact⟨by rw[HF.out];rfl,HH.out.1⟩
end Go.Proofs.YtpapiojicbbheaaGreatDoor

namespace Go.Proofs.YtpapiojicbbheaaGreatDoor
open Go.RowKit
theorem rt_hit {l:List Rt}{id:Int}{k:Nat}{b:Rt} (h:l[k]?=some b) (hb:b.1=id) (ha:∀x∈l.take k,x.1≠id):rtM l id=some b:=find_idx h (by simpa using hb) (fun x hx=>by simpa using ha x hx)
end Go.Proofs.YtpapiojicbbheaaGreatDoor

namespace Go.Proofs.YtpapiojicbbheaaGreatDoor
open Go.RowKit
theorem firstE_all {f:Nat→Int}:∀{n:Nat},firstE f n=0→∀j,j<n→f j=0
  | 0,_,j,hj=>by omega
  | n+1,h,j,hj=>by
   unfold firstE at h
   by_cases h1:firstE f n=0
   ·rw[if_neg (by simpa using h1)] at h
    by_cases e:j=n
    ·rw[e];exact h
    ·exact firstE_all h1 j (by omega)
   ·rw[if_pos h1] at h
    exact absurd h h1
structure RtGood (t:Tp) (r:Rt):Prop where
  fnd:rtM t.2.2.2 r.1=some r
  err:(lenM t r.2.1).2=0
  gap:r.2.2.1<(lenM t r.2.1).1
  few:r.2.1.length≤8
  bal:∀(k:Nat) (s:Stp),r.2.1[k]?=some s→t.2.2.1.any (fun b=>b.2.1==s.1)=true
  aft:∀(k:Nat) (s u:Stp),r.2.1[k]?=some s→r.2.1[k+1]?=some u→u∈afterM t s
  dis:∀(j k:Nat) (s u:Stp),j<k→r.2.1[j]?=some s→r.2.1[k]?=some u→s.1≠u.1
theorem routed_good {t:Tp}{r:Rt} (h:routedM t r=0):(lenM t r.2.1).2=0∧r.2.2.1<(lenM t r.2.1).1∧r.2.1.length≤8∧pathBad t.1.length r.2.1=false∧r.2.1.any (noBal t.2.2.1)=false:=by
 unfold routedM at h
 split at h
 ·exact absurd h (by decide)
 rename_i h1
 split at h
 ·exact absurd h (by decide)
 rename_i h2
 split at h
 ·rename_i h3
  exact absurd h h3
 rename_i h3
 split at h
 ·exact absurd h (by decide)
 rename_i h4
 split at h
 ·exact absurd h (by decide)
 rename_i h5
 refine⟨by omega,by omega,by omega,by simpa using h2,by simpa using h5⟩
theorem len_way {t:Tp}{p:List Stp} (h:(lenM t p).2=0):p.all (fun s=>thereB t.1.length s.1)=true∧wayM t.2.1 p=true:=by
 unfold lenM at h
 split at h
 ·exact absurd h (by simp)
 split at h
 ·rename_i h2
  split at h
  ·rename_i h3
   exact⟨h2,h3⟩
  ·exact absurd h (by simp)
 ·exact absurd h (by simp)
theorem check_good {t:Tp} (h:checkM t=0) {i:Nat}{r:Rt} (hr:t.2.2.2[i]?=some r):RtGood t r:=by
 have h0:firstE (rErr t) t.2.2.2.length=0:=by
  unfold checkM at h
  split at h
  ·exact absurd h (by decide)
  split at h
  ·exact absurd h (by decide)
  split at h
  ·rename_i h3;exact absurd h h3
  split at h
  ·rename_i h3;exact absurd h h3
  exact h
 have hi:i<t.2.2.2.length:=(List.getElem?_eq_some_iff.1 hr).1
 have h1:=firstE_all h0 i hi
 unfold rErr at h1
 rw[hr] at h1
 simp only at h1
 split at h1
 ·rename_i h2;exact absurd h1 h2
 rename_i h2
 have h2:routedM t r=0:=by simpa using h2
 split at h1
 ·exact absurd h1 (by decide)
 rename_i h3
 have h3:rtM (t.2.2.2.take i) r.1=none:=by simpa using h3
 obtain⟨e1,e2,e3,e4,e5⟩:=routed_good h2
 obtain⟨e6,e7⟩:=len_way e1
 have hth:∀(k:Nat) (s:Stp),r.2.1[k]?=some s→thereB t.1.length s.1=true:=fun k s hs=>List.all_eq_true.1 e6 s (List.mem_of_getElem? hs)
 refine⟨?_,e1,e2,e3,?_,?_,?_⟩
 ·refine rt_hit hr rfl (fun x hx=>?_)
  unfold rtM at h3
  rw[List.find?_eq_none] at h3
  have:=h3 x hx
  simpa using this
 ·intro k s hs
  rw[List.any_eq_false] at e5
  have:=e5 s (List.mem_of_getElem? hs)
  unfold noBal at this
  simpa using this
 ·intro k s u hs hu
  rw[afterM_mem]
  refine⟨hth k s hs,hth _ u hu,?_⟩
  rw[←okAt_eq hs hu]
  unfold wayM at e7
  rw[List.all_eq_true] at e7
  exact e7 k (List.mem_range.2 (by have:=(List.getElem?_eq_some_iff.1 hu).1;omega))
 ·intro j k s u hjk hs hu he
  unfold pathBad at e4
  rw[List.any_eq_false] at e4
  have h5:=e4 k (List.mem_range.2 (List.getElem?_eq_some_iff.1 hu).1)
  apply h5
  unfold badAt
  rw[hu]
  simp only[Bool.or_eq_true]
  right
  rw[List.any_eq_true]
  refine⟨s,?_,by simpa using he⟩
  rw[List.mem_iff_getElem?]
  exact⟨j,by rw[List.getElem?_take];rw[if_pos hjk];exact hs⟩
end Go.Proofs.YtpapiojicbbheaaGreatDoor

namespace Go.Proofs.YtpapiojicbbheaaGreatDoor
open Go.RowKit
def overK (es:List Int) (lo hi:Int) (p:List Stp):Nat→List Sp
  | 0=>[]
  | k+1=>overK es lo hi p k++(match p[k]? with | some s=>[cutS es lo hi (sumM es (p.take k)) s] | none=>[])
theorem overK_len (es:List Int) (lo hi:Int) (p:List Stp):∀k,(overK es lo hi p k).length≤k
  | 0=>Nat.le_refl _
  | k+1=>by
   have:=overK_len es lo hi p k
   unfold overK
   rw[List.length_append]
   cases p[k]? <;> simp <;> omega
theorem overK_at {es:List Int}{lo hi:Int}{p:List Stp}{k:Nat}{s:Stp} (h:p[k]?=some s):overK es lo hi p (k+1)=overK es lo hi p k++[cutS es lo hi (sumM es (p.take k)) s]:=by
 conv=>lhs;unfold overK
 rw[h]
def goodM (es:List Int) (p:List Stp):Prop:=(∀v∈es,1≤v∧v≤1000000)∧(∀s∈p,thereB es.length s.1=true)∧p.length≤40
theorem good_at {es:List Int}{p:List Stp} (h:goodM es p) {k:Nat}{s:Stp} (hs:p[k]?=some s):∃j:Nat,s.1=(j:Int)∧j<es.length∧∃v,es[j]?=some v∧1≤v∧v≤1000000∧es.getD s.1.toNat 0=v:=by
 have h1:=h.2.1 s (List.mem_of_getElem? hs)
 unfold thereB at h1
 rw[Bool.and_eq_true,decide_eq_true_eq,decide_eq_true_eq] at h1
 obtain⟨j,hj⟩:∃j:Nat,s.1=(j:Int):=⟨s.1.toNat,by omega⟩
 have hl:j<es.length:=by omega
 have hv:es[j]?=some es[j]:=List.getElem?_eq_getElem hl
 have h2:=h.1 _ (List.getElem_mem hl)
 exact⟨j,hj,hl,_,hv,h2.1,h2.2,by rw[hj,List.getD_eq_getElem?_getD,Int.toNat_natCast,hv];rfl⟩
theorem sum_good {es:List Int}{p:List Stp} (h:goodM es p):∀k,k≤p.length→0≤sumM es (p.take k)∧sumM es (p.take k)≤1000000*k
  | 0,_=>by simp[sumM]
  | k+1,hk=>by
   obtain⟨i1,i2⟩:=sum_good h k (by omega)
   have hs:p[k]?=some p[k]:=List.getElem?_eq_getElem (by omega)
   obtain⟨j,_,_,v,_,h1,h2,h3⟩:=good_at h hs
   rw[sumM_take hs,h3,IntWalk.i64_in _ (by have:=h.2.2;omega)]
   omega
theorem sum_step {es:List Int}{p:List Stp} (h:goodM es p) {k:Nat}{s:Stp} (hs:p[k]?=some s):sumM es (p.take (k+1))=sumM es (p.take k)+es.getD s.1.toNat 0:=by
 have hk:k<p.length:=(List.getElem?_eq_some_iff.1 hs).1
 obtain⟨i1,i2⟩:=sum_good h k (by omega)
 obtain⟨j,_,_,v,_,h1,h2,h3⟩:=good_at h hs
 rw[sumM_take hs,h3,IntWalk.i64_in _ (by have:=h.2.2;omega)]
def OverRet (t:Tp) (p:List Stp) (lo hi:Int) (w:World) (e:Ending) (w':World):Prop:=
  ∃m A n c,e=.returned (.tuple #[.slice A n c,.int .i64 (overE t p lo hi)])∧Hid (n=m.length)∧Hid (n≤100000000)∧SpAt w' w'.heap.size A n c m∧Keep Never w w'∧Hid (if overE t p lo hi=0 then NormOf (overK t.1 lo hi p p.length) m else m=[])
theorem over_err {t:Tp}{p:List Stp}{lo hi:Int}{w w':World}{e:Int} (h:overE t p lo hi=e) (he:e≠0) (hk:Keep Never w w'):OverRet t p lo hi w (.returned (.tuple #[.slice none 0 0,.int .i64 e])) w':=
  ⟨[],none,0,0,by rw[h],qh rfl,qh (by omega),nilAt w',hk,qh (by rw[if_neg (by rw[h];exact he)])⟩
theorem len_good {t:Tp}{p:List Stp} (h:(lenM t p).2=0) (hw:t.1.any wrongB=false):goodM t.1 p∧(lenM t p).1=sumM t.1 p:=by
 unfold lenM at h ⊢
 split at h
 ·simp at h
 ·rename_i h0
  rw[if_neg h0]
  split at h
  ·rename_i h1
   rw[if_pos h1]
   split at h
   ·rename_i h2
    rw[if_pos h2]
    refine⟨⟨fun v hv=>?_,fun s hs=>?_,by omega⟩,rfl⟩
    ·have:=(List.any_eq_false.1 hw) v hv
     unfold wrongB at this
     simp only[Bool.or_eq_true,decide_eq_true_eq,not_or] at this
     omega
    ·exact List.all_eq_true.1 h1 s hs
   ·simp at h
  ·simp at h
set_option maxHeartbeats 4000000 in
set_option maxRecDepth 100000 in
theorem over_any (x:TA) (t:Tp) (B:Nat) (A:Option Addr) (n c:Nat) (p:List Stp) (lo hi:Int) (w:World) (ht:TpAt w B x t) (hp:repStp.Sl w B A n c p) (hn:x.nj≤100000000) (hn1:x.ne≤100000000) (hn2:n≤100000000) (_hB:B≤w.heap.size)
    (l1:-9223372036854775808≤lo) (l2:lo≤9223372036854775807) (l3:-9223372036854775808≤hi) (l4:hi≤9223372036854775807) :
    Calls Tryz.prog 92 #[.agg x.cs,.slice A n c,.int .i64 lo,.int .i64 hi] w (OverRet t p lo hi w):=by
  have HLn:Hid (∀(w':World),Keep Never w w'→Calls Tryz.prog 133 #[.agg x.cs,.slice A n c] w' fun e w''=>e=.returned (.tuple #[.int .i64 (lenM t p).1,.int .i64 (lenM t p).2])∧Keep Never w' w''):=qh (fun w' h=>length_any x t B A n c p w' (ht.keep h) (hp.keep h (fun _ h=>h.elim)) hn hn2)
  have HE:=qh ht.e
  have HPl:Hid (n=p.length):=qh hp.len
  obtain⟨Ae,ne,ce,Aj,nj,cj,Ab,nb,cb,Ar,nr,cr⟩:=x
  simp only[TA.cs] at HLn HE hn1 ⊢
  have HWr:Hid (∀(w':World),Keep Never w w'→Calls Tryz.prog 100 #[.slice Ae ne ce,.func (.func 140) #[] #[]] w' fun e w''=>e=.returned (.bool (t.1.any wrongB))∧Keep Never w' w''):=qh (fun w' h=>wrong_any Ae ne ce B t.1 w' (int_rd (HE.out.keep h (fun _ h=>h.elim))) (by omega))
  obtain⟨wb,hwb⟩:∃wb:World,w.alloc (.cells #[.slice Ae ne ce,.slice Aj nj cj,.slice Ab nb cb,.slice Ar nr cr] 27)=wb:=⟨_,rfl⟩
  have k1:Keep Never w wb:=by rw[←hwb];exact(Keep.refl _ _).alloc _
  have b1':=Blk.new w 27 #[.slice Ae ne ce,.slice Aj nj cj,.slice Ab nb cb,.slice Ar nr cr]
  rw[hwb] at b1'
  obtain⟨y0,y1,y2,y3⟩:=bc4 (b1')
  have HB:=qh b1'
  have HK:=qh k1
  have HP:=qh (hp.keep k1 (fun _ h=>h.elim))
  have HEb:=qh (HE.out.keep k1 (fun _ h=>h.elim))
  have HC:=qh (HLn.out wb k1)
  obtain⟨all,hall⟩:∃z,(lenM t p).1=z:=⟨_,rfl⟩
  obtain⟨er,her⟩:∃z,(lenM t p).2=z:=⟨_,rfl⟩
  have HAl:=qh hall
  have HEr:=qh her
  rw[hall,her] at HC
  clear k1 b1' hp ht HE HLn hall her
  go_enter Tryz.func92, Tryz.ntmps92
  go_wp2_with fail
  refine HC.out.mono ?_
  rintro e w1 ⟨rfl,hk1⟩
  have HK1:=qtr HK hk1
  have HB1:=qkb HB hk1
  have y0:w1.cell? ⟨w.heap.size,0,none⟩=some (.slice Ae ne ce):=HB1.out.cell 0
  have HKb:=qh hk1
  have HC2:=qh (HWr.out w1 HK1.out)
  clear hk1 HC
  by_cases g0:er=0
  case neg=>
   have t0:(er != 0)=true:=by simpa using g0
   have t0':(er==0)=false:=by simpa using g0
   have HF:Hid (overE t p lo hi=er∧er≠0):=qh ⟨by unfold overE;rw[HEr.out,if_pos g0],g0⟩
   clear g0
   go_wp2_with fail
   go_ret2
   exact over_err HF.out.1 HF.out.2 HK1.out
  subst g0
  go_wp2_with fail
  refine HC2.out.mono ?_
  rintro e w2 ⟨rfl,hk2⟩
  have HK2:=qtr HK1 hk2
  have HKb2:=qtr HKb hk2
  clear hk2 HC2 y0 HKb HB1 HWr HK1
  cases hwr:t.1.any wrongB with
  | true=>
   have HF:Hid (overE t p lo hi=1):=qh (by unfold overE;rw[HEr.out,if_neg (by simp),if_pos (.inl hwr)])
   clear hwr
   go_wp2_with fail
   go_ret2
   exact over_err HF.out (by omega) HK2.out
  | false=>
   have HWf:=qh hwr
   clear hwr
   by_cases g1:lo<0
   ·have t1:decide (lo<0)=true:=by simpa using g1
    have HF:Hid (overE t p lo hi=1):=qh (by unfold overE;rw[HEr.out,if_neg (by simp),if_pos (.inr (.inl g1))])
    clear g1
    go_wp2_with fail
    go_ret2
    exact over_err HF.out (by omega) HK2.out
   have t1:decide (lo<0)=false:=by simpa using g1
   by_cases g2:lo>hi
   ·have t2:decide (lo>hi)=true:=by simpa using g2
    have HF:Hid (overE t p lo hi=1):=qh (by unfold overE;rw[HEr.out,if_neg (by simp),if_pos (.inr (.inr (.inl g2)))])
    clear g1 g2
    go_wp2_with fail
    go_ret2
    exact over_err HF.out (by omega) HK2.out
   have t2:decide (lo>hi)=false:=by simpa using g2
   by_cases g3:hi>all
   ·have t3:decide (hi>all)=true:=by simpa using g3
    have HF:Hid (overE t p lo hi=1):=qh (by unfold overE;rw[HEr.out,if_neg (by simp),if_pos (.inr (.inr (.inr (by rw[HAl.out];exact g3))))])
    clear g1 g2 g3
    go_wp2_with fail
    go_ret2
    exact over_err HF.out (by omega) HK2.out
   have t3:decide (hi>all)=false:=by simpa using g3
   have HF:Hid (overE t p lo hi=0):=qh (by
    unfold overE
    rw[HEr.out,if_neg (by simp),if_neg]
    rintro(h | h | h | h)
    ·rw[HWf.out] at h;cases h
    ·exact g1 h
    ·exact g2 h
    ·exact g3 (by rw[←HAl.out];exact h))
   obtain⟨hgd,hsm⟩:=len_good HEr.out HWf.out
   have HGd:=qh hgd
   have hn40:n≤40:=by have:=hgd.2.2;have:=HPl.out;omega
   have h00:0≤lo:=by omega
   have h01:lo≤hi:=by omega
   have h02:hi≤40000000:=by
    have h:=(sum_good hgd p.length (Nat.le_refl _)).2
    rw[List.take_length,←hsm,HAl.out] at h
    have:=hgd.2.2
    omega
   clear g1 g2 g3 hgd hsm l1 l2 l3 l4
   go_wp2_with fail
   clear t1 t2 t3
   rename World=>w2
   go_loopw [13,14,16,17,18,48] (fun ov av _ _ _ i wr=>∃(k no co:Nat) (Ao:Option Addr),k≤n∧i=.int .i64 k∧av=.int .i64 (sumM t.1 (p.take k))∧ov=.slice Ao no co∧no≤k ∧
     Hid (Keep Never w2 wr∧Own wr w2.heap.size 145 3 Ao no co (spCells (overK t.1 lo hi p k))∧no=(overK t.1 lo hi p k).length)) (fun _ _ _ _ _ i _=>n - (intOf i).toNat)
   case atStart=>exact⟨0,0,0,none,by omega,rfl,rfl,rfl,by omega,qh ⟨Keep.refl _ _,Own.nil _ _ _ _,rfl⟩⟩
   case round=>
    obtain⟨k,no,co,Ao,hk,rfl,rfl,rfl,hno,HH⟩:=hrel
    obtain⟨hkr,ho,hol⟩:=HH.out
    by_cases h0:k<n
    ·have hkz:(k:Int)<(n:Int):=by omega
     obtain⟨ad,s,hA,hab,hs,c0,c1,_⟩:=stp_at (HP.out.keep (HKb2.out.trans hkr) (fun _ h=>h.elim)) h0
     subst hA
     obtain⟨j,hj,hjl,v,hv,v1,v2,hgv⟩:=good_at HGd.out hs
     have hst:=sum_step HGd.out hs
     have hrg:=sum_good HGd.out k (by have:=HPl.out;omega)
     have hov:=overK_at (es:=t.1) (lo:=lo) (hi:=hi) hs
     rw[hgv] at hst
     obtain⟨s1,rv⟩:=s
     simp only at c0 c1 hj
     subst hj
     have hcut:cutS t.1 lo hi (sumM t.1 (p.take k)) ((j:Int),rv)=if rv=true then ((j:Int),v - min (hi - sumM t.1 (p.take k)) v,v - max (lo - sumM t.1 (p.take k)) 0) else ((j:Int),max (lo - sumM t.1 (p.take k)) 0,min (hi - sumM t.1 (p.take k)) v):=by
      unfold cutS;simp only at hgv ⊢;rw[hgv]
     rw[hcut] at hov
     generalize sumM t.1 (p.take k)=S at *
     obtain⟨mx,hmx⟩:∃z,max (lo - S) 0=z:=⟨_,rfl⟩
     obtain⟨mn,hmn⟩:∃z,min (hi - S) v=z:=⟨_,rfl⟩
     rw[hmx,hmn] at hov
     have hjn:j<ne:=by have:=HEb.out.len;omega
     obtain⟨ad2,v',hA2,_,hv',d0⟩:=(int_rd (HEb.out.keep (HKb2.out.trans hkr) (fun _ h=>h.elim))).at1 hjn
     subst hA2
     obtain rfl:v=v':=by rw[hv] at hv';injection hv'
     have hjz:(j:Int)<(ne:Int):=by omega
     have hj0:(0:Int)≤(j:Int):=by omega
     have hS1:=hrg.1
     have hS2:S≤40000000:=by have:=hrg.2;omega
     have hmx1:0≤mx:=by omega
     have hmx2:mx≤40000000:=by omega
     have hmn1:-40000000≤mn:=by omega
     have hmn2:mn≤1000000:=by omega
     have HSt:=qh hst
     have HOv:=qh hov
     have HO:=qh ho
     have HOl:=qh hol
     have HKr:=qh hkr
     have y0:wr.cell? ⟨w.heap.size,0,none⟩=some (.slice (some ad2) ne ce):=(HB.out.keep (HKb2.out.trans hkr) (fun h=>h)).cell 0
     have HD0:=qh d0
     have HY0:=qh y0
     obtain⟨w3,hw3⟩:∃w3:World,wr.alloc (.cells #[.int .i64 (j:Int),.bool rv] 30)=w3:=⟨_,rfl⟩
     obtain⟨w4,hw4⟩:∃w4:World,w3.alloc (.cells #[.int .i64 (j:Int),.int .i64 mx,.int .i64 mn] 145)=w4:=⟨_,rfl⟩
     have s3:w3.heap.size=wr.heap.size+1:=by rw[←hw3];simp
     have k3:Keep Never wr w3:=by rw[←hw3];exact(Keep.refl _ _).alloc _
     have k4:Keep Never w3 w4:=by rw[←hw4];exact(Keep.refl _ _).alloc _
     have b3:=Blk.new wr 30 #[.int .i64 (j:Int),.bool rv]
     rw[hw3] at b3
     have b4:=Blk.new w3 145 #[.int .i64 (j:Int),.int .i64 mx,.int .i64 mn]
     rw[hw4,s3] at b4
     have z0:w3.cell? ⟨wr.heap.size,0,none⟩=some (.int .i64 (j:Int)):=b3.cell 0
     have z1:w4.cell? ⟨wr.heap.size,1,none⟩=some (.bool rv):=(b3.keep k4 (fun h=>h)).cell 1
     have z01:w3.cell? ⟨wr.heap.size,1,none⟩=some (.bool rv):=b3.cell 1
     have g0:=b3.frozen 0
     have g1:=b3.frozen 1
     have f0:=b4.frozen 0
     have z2:w3.cell? ⟨w.heap.size,0,none⟩=some (.slice (some ad2) ne ce):=keepT k3 HY0.out
     have z3:=keepT k3 HD0.out
     obtain⟨q0,q1,q2⟩:=bc3 b4
     have f1:=b4.frozen 1
     have f2:=b4.frozen 2
     have HB4:=qh b4
     have HK4:=qh (k3.trans k4)
     clear hs hab hv hv' hgv hcut hst hrg hov ho hol hkr y0 d0 k3 k4 b3 b4 HH
     have HKT:Hid (Keep Never wr ((w4.setCell ⟨wr.heap.size+1,1,none⟩ (.int .i64 (v - mn))).setCell ⟨wr.heap.size+1,2,none⟩ (.int .i64 (v - mx)))):=qh ((HK4.out.set_ (p:=⟨wr.heap.size+1,1,none⟩) (.inr (by show wr.heap.size≤wr.heap.size+1;omega)) _).set_ (p:=⟨wr.heap.size+1,2,none⟩) (.inr (by show wr.heap.size≤wr.heap.size+1;omega)) _)
     have HOT:=qh (HO.out.keep HKT.out (fun _ _ h=>h))
     have HOF:=qh (HO.out.keep HK4.out (fun _ _ h=>h))
     have HKT2:=qh (HKr.out.trans HKT.out)
     have HKF2:=qh (HKr.out.trans HK4.out)
     go_wp2_with (first| (refine wpList_app _ rfl (.tmp 82) (.tmp 84) _ rfl elemSp w2.heap.size (A:=Ao) (n:=no) (c:=co) (by go_simp) (HOT.out.alloc _) _ (A':=some ⟨_,0,none⟩) (m:=1) (c':=1) (news:=[.int .i64 (j:Int),.int .i64 (v - mn),.int .i64 (v - mx)]) (by go_simp) (Rd.of_blk (n:=1) (cs:=[.int .i64 (j:Int),.int .i64 (v - mn),.int .i64 (v - mx)]) (Blk.new _ _ _) rfl) (by simp[Value.oneCell']) (by omega) (by unfold maxLen;omega) (by have:=HKT2.out.size;simp at this ⊢;omega) ?_;intro A10 c10 w10 hown10 hk10 hrow10;have hkk:Keep Never w2 w10:=(HKT2.out.alloc _).then_ hk10 (fun i hi h=>by have:=(HO.out.row h).1;omega)) | (refine wpList_app _ rfl (.tmp 82) (.tmp 84) _ rfl elemSp w2.heap.size (A:=Ao) (n:=no) (c:=co) (by go_simp) (HOF.out.alloc _) _ (A':=some ⟨_,0,none⟩) (m:=1) (c':=1) (news:=[.int .i64 (j:Int),.int .i64 (mx),.int .i64 (mn)]) (by go_simp) (Rd.of_blk (n:=1) (cs:=[.int .i64 (j:Int),.int .i64 (mx),.int .i64 (mn)]) (Blk.new _ _ _) rfl) (by simp[Value.oneCell']) (by omega) (by unfold maxLen;omega) (by have:=HKF2.out.size;simp at this ⊢;omega) ?_;intro A10 c10 w10 hown10 hk10 hrow10;have hkk:Keep Never w2 w10:=(HKF2.out.alloc _).then_ hk10 (fun i hi h=>by have:=(HO.out.row h).1;omega)))
     all_goals
      refine⟨⟨k+1,no+1,c10,A10,by omega,by go_num,by rw[HSt.out],rfl,by omega,qh ⟨hkk,?_,?_⟩⟩,?_⟩
      ·rw[HOv.out]
       by_cases hrv:rv=true
       ·rw[if_pos hrv]
        first | (simpa[spCells,spCell] using hown10) | contradiction | (simp_all;done)
       ·rw[if_neg hrv]
        first | (simpa[spCells,spCell] using hown10) | contradiction | (simp_all;done)
      ·rw[HOv.out,List.length_append,←HOl.out];rfl
      ·simp[intOf];try omega
    ·obtain rfl:k=n:=by omega
     have hkz:¬(k:Int)<(k:Int):=by omega
     have HKr:=qtr HK2 hkr
     have hol2:no≤40:=by omega
     have hsp:=SpAt.of_own ho
     have HN:=qh (norm_any Ao no co _ (overK t.1 lo hi p k) wr hsp.rd hsp.nil hsp.cap (by omega) (Nat.le_refl _))
     have HOl:=qh hol
     clear hkr ho hol hsp HH
     go_wp2_with fail
     refine HN.out.mono ?_
     rintro e w5 hr5
     obtain⟨m,A5,n5,c5,rfl,hn5,hs5,hk5,hp5,hl5⟩:=hr5.ans
     have HS5:=qh hs5
     have HK5:=qtr HKr hk5
     have HP5:=qh hp5
     have hl6:n5≤100000000:=by have:=hn5.out;have:=HOl.out;omega
     clear hr5 hs5 hk5 hp5 HN hl5
     go_wp2_with fail
     go_ret2
     exact⟨m,A5,n5,c5,by rw[HF.out];rfl,hn5,qh hl6,HS5.out,HK5.out,qh (by rw[if_pos HF.out,←HPl.out];exact HP5.out)⟩
end Go.Proofs.YtpapiojicbbheaaGreatDoor

namespace Go.Proofs.YtpapiojicbbheaaGreatDoor
open Go.RowKit
def posM (es:List Int) (s:Stp) (a:Int):Int:=if s.2=true then es.getD s.1.toNat 0 - 1 - a else a
theorem cut_has {es:List Int}{lo hi S e a:Int}{s:Stp} (h0:0≤s.1) (h2:es.getD s.1.toNat 0≤1000000) :
    (someS (cutS es lo hi S s)&&hasS (cutS es lo hi S s) e a)=true↔s.1=e∧0≤a∧a<es.getD s.1.toNat 0∧lo≤S+posM es s a∧S+posM es s a<hi:=by
  rw[Bool.and_eq_true,someS_iff,hasS_iff]
  unfold cutS posM
  generalize es.getD s.1.toNat 0=v at *
  split <;> simp only <;> omega
theorem good_pos {es:List Int}{p:List Stp} (h:goodM es p) {k:Nat}{s:Stp} (hs:p[k]?=some s):0≤s.1∧1≤es.getD s.1.toNat 0∧es.getD s.1.toNat 0≤1000000:=by
 obtain⟨j,h1,_,v,_,h3,h4,h5⟩:=good_at h hs
 exact⟨by omega,by omega,by omega⟩
theorem overK_has {es:List Int}{p:List Stp}{lo hi:Int} (hg:goodM es p) (e a:Int):∀k,k≤p.length→(hasL (overK es lo hi p k) e a=true↔∃i s,i<k∧p[i]?=some s∧s.1=e∧0≤a∧a<es.getD s.1.toNat 0∧lo≤sumM es (p.take i)+posM es s a∧sumM es (p.take i)+posM es s a<hi)
  | 0,_=>by
   constructor
   ·intro h;simp[overK,hasL] at h
   ·rintro⟨i,_,h,_⟩;omega
  | k+1,hk=>by
   have hs:p[k]?=some p[k]:=List.getElem?_eq_getElem (by omega)
   obtain⟨g1,g2,g3⟩:=good_pos hg hs
   rw[overK_at hs,hasL_app,Bool.or_eq_true,overK_has hg e a k (by omega),hasL_cons,hasL_nil,Bool.or_false,cut_has g1 g3]
   constructor
   ·rintro(⟨i,s,hi,r⟩ | h)
    ·exact⟨i,s,by omega,r⟩
    ·exact⟨k,_,by omega,hs,h⟩
   ·rintro⟨i,s,hi,hs',r⟩
    by_cases h:i=k
    ·subst h
     rw[hs] at hs'
     injection hs' with hs'
     subst hs'
     exact .inr r
    ·exact .inl ⟨i,s,by omega,hs',r⟩
def onceM (p:List Stp):Prop:=∀(i k:Nat) (s u:Stp),p[i]?=some s→p[k]?=some u→s.1=u.1→i=k
def plainS (es:List Int) (p:List Stp):Int:=(p.map fun s=>es.getD s.1.toNat 0).sum
theorem sum_plain {es:List Int}{p:List Stp} (h:goodM es p):∀k,k≤p.length→sumM es (p.take k)=plainS es (p.take k)
  | 0,_=>rfl
  | k+1,hk=>by
   have hs:p[k]?=some p[k]:=List.getElem?_eq_getElem (by omega)
   rw[sum_step h hs,sum_plain h k (by omega)]
   unfold plainS
   rw[List.take_add_one,hs,List.map_append,List.sum_append]
   simp
end Go.Proofs.YtpapiojicbbheaaGreatDoor

namespace Go.Proofs.YtpapiojicbbheaaGreatDoor
open Go.RowKit
abbrev Ps:=Int×Int×Bool
def noP:Ps:=(0,0,false)
def edgeM (t:Tp) (e:Int):Int:=t.1.getD e.toNat 0
def rightB (t:Tp) (p:Ps):Bool:=decide (checkM t=0)&&thereB t.1.length p.1&&decide (0≤p.2.1)&&decide (p.2.1≤edgeM t p.1)
def overP (t:Tp) (s:Stp) (n:Int):Ps:=(s.1,if s.2=true then edgeM t s.1 - n else n,s.2)
def alongP (t:Tp) (p:Ps):Int:=if p.2.2=true then edgeM t p.1 - p.2.1 else p.2.1
theorem along_over (t:Tp) (s:Stp) (n:Int):alongP t (overP t s n)=n:=by
 obtain⟨e,r⟩:=s
 cases r <;> simp[alongP,overP]
 omega
def goM (t:Tp):Nat→Stp→Int→Ps×Int
  | 0,s,n=>if n≤edgeM t s.1 then (overP t s n,0) else match afterM t s with | []=>(noP,141) | [_]=>(noP,2) | _::_::_=>(noP,140)
  | f+1,s,n=>if n≤edgeM t s.1 then (overP t s n,0) else match afterM t s with | []=>(noP,141) | [x]=>goM t f x (n - edgeM t s.1) | _::_::_=>(noP,140)
theorem goM_in {t:Tp}{f:Nat}{s:Stp}{n:Int} (h:n≤edgeM t s.1):goM t f s n=(overP t s n,0):=by
 cases f <;> (unfold goM;rw[if_pos h])
theorem goM_end {t:Tp}{f:Nat}{s:Stp}{n:Int} (h:¬n≤edgeM t s.1) (ha:afterM t s=[]):goM t f s n=(noP,141):=by
 cases f <;> (unfold goM;rw[if_neg h,ha])
theorem goM_fork {t:Tp}{f:Nat}{s:Stp}{n:Int}{x y:Stp}{l:List Stp} (h:¬n≤edgeM t s.1) (ha:afterM t s=x::y::l):goM t f s n=(noP,140):=by
 cases f <;> (unfold goM;rw[if_neg h,ha])
theorem goM_long {t:Tp}{s:Stp}{n:Int}{x:Stp} (h:¬n≤edgeM t s.1) (ha:afterM t s=[x]):goM t 0 s n=(noP,2):=by
 unfold goM;rw[if_neg h,ha]
theorem goM_next {t:Tp}{f:Nat}{s:Stp}{n:Int}{x:Stp} (h:¬n≤edgeM t s.1) (ha:afterM t s=[x]):goM t (f+1) s n=goM t f x (n - edgeM t s.1):=by
 conv=>lhs;unfold goM
 rw[if_neg h,ha]
theorem after_there {t:Tp}{s x:Stp} (h:x∈afterM t s):thereB t.1.length x.1=true:=by
 unfold afterM at h
 split at h
 ·exact(listM_mem.1 h).1
 ·simp at h
def walkP (t:Tp) (p:Ps) (n:Int):Ps×Int:=if rightB t p=true∧0≤n∧n≤1099511627776 then goM t 40 (p.1,p.2.2) (n+alongP t p) else (noP,1)
theorem right_iff {t:Tp}{p:Ps}:rightB t p=true↔checkM t=0∧thereB t.1.length p.1=true∧0≤p.2.1∧p.2.1≤edgeM t p.1:=by
 unfold rightB;simp[and_assoc]
theorem along_in {t:Tp}{p:Ps} (h0:0≤p.2.1) (h1:p.2.1≤edgeM t p.1):0≤alongP t p∧alongP t p≤edgeM t p.1:=by unfold alongP;split <;> omega
end Go.Proofs.YtpapiojicbbheaaGreatDoor

namespace Go.Proofs.YtpapiojicbbheaaGreatDoor
open Go.RowKit
theorem plainS_cons (es:List Int) (s:Stp) (l:List Stp):plainS es (s::l)=es.getD s.1.toNat 0+plainS es l:=by unfold plainS;simp
theorem check_edges {t:Tp} (h:checkM t=0):∀v∈t.1,1≤v∧v≤1000000:=by
 intro v hv
 unfold checkM at h
 split at h
 ·exact absurd h (by decide)
 split at h
 ·exact absurd h (by decide)
 rename_i h1
 rw[Bool.not_eq_true,List.any_eq_false] at h1
 have:=h1 v hv
 unfold wrongB at this
 simp at this
 omega
theorem good_of {t:Tp}{p:List Stp} (hc:checkM t=0) (h:(lenM t p).2=0):goodM t.1 p∧p≠[]∧(lenM t p).1=sumM t.1 p:=by
 have hw:=len_way h
 unfold lenM at h ⊢
 split at h
 ·exact absurd h (by decide)
 rename_i h0
 rw[if_neg h0,if_pos hw.1,if_pos hw.2]
 refine⟨⟨check_edges hc,List.all_eq_true.1 hw.1,by omega⟩,?_,rfl⟩
 rintro rfl
 exact h0 (.inl rfl)
end Go.Proofs.YtpapiojicbbheaaGreatDoor

namespace Go.Proofs.YtpapiojicbbheaaGreatDoor
open Go.RowKit
abbrev Lk:=Int×Int×Int
end Go.Proofs.YtpapiojicbbheaaGreatDoor

namespace Go.Proofs.YtpapiojicbbheaaGreatDoor
open Go.RowKit
abbrev Sc:=Int×Int
abbrev Ma:=Int×Bool×List Stp×List Sc×Int
def noMa:Ma:=(0,false,[],[],0)
def overB (p:List Stp) (e:Int):Bool:=p.any fun u=>u.1==e
def twiceAt (p:List Stp) (k:Nat):Bool:=match p[k]? with | some s=>overB (p.take k) s.1 | none=>false
def twiceB (p:List Stp):Bool:=(List.range p.length).any (twiceAt p)
theorem over_iff {p:List Stp}{e:Int}:overB p e=true↔∃u∈p,u.1=e:=by
 unfold overB
 rw[List.any_eq_true]
 simp
theorem twice_no {p:List Stp}:twiceB p=false↔onceM p:=by
 unfold twiceB onceM
 rw[List.any_eq_false]
 constructor
 ·intro h
  have key:∀(i k:Nat) (s u:Stp),i<k→p[i]?=some s→p[k]?=some u→s.1=u.1→False:=by
   intro i k s u hik hs hu he
   have h1:=h k (List.mem_range.2 (List.getElem?_eq_some_iff.1 hu).1)
   apply h1
   unfold twiceAt
   rw[hu]
   exact over_iff.2 ⟨s,by rw[List.mem_iff_getElem?];exact⟨i,by rw[List.getElem?_take,if_pos hik];exact hs⟩,he⟩
  intro i k s u hs hu he
  rcases Nat.lt_trichotomy i k with h1 | h1 | h1
  ·exact(key i k s u h1 hs hu he).elim
  ·exact h1
  ·exact(key k i u s h1 hu hs he.symm).elim
 ·intro h k hk hb
  unfold twiceAt at hb
  cases hu:p[k]? with
  | none=>rw[hu] at hb;cases hb
  | some u=>
   rw[hu] at hb
   obtain⟨s,hs,he⟩:=over_iff.1 hb
   obtain⟨i,hi⟩:=List.mem_iff_getElem?.1 hs
   rw[List.getElem?_take] at hi
   split at hi
   ·rename_i hik
    have:=h i k s u hi hu he
    omega
   ·cases hi
def leftA (t:Tp) (m:Ma):Option (Int×Int):=match balM t.2.2.1 m.1 with
  | none=>none
  | some b=>if m.2.2.1.head?=some (b.2.1,m.2.1)∧(lenM t m.2.2.1).2=0 then some ((lenM t m.2.2.1).1 - alongP t (b.2.1,b.2.2,m.2.1),alongP t (b.2.1,b.2.2,m.2.1)) else none
def endS (l:List Sc):Int:=(l.getLast?.map (·.1)).getD 0
def sectAt (l:List Sc) (k:Nat):Bool:=match l[k]? with
  | some s=>decide (endS (l.take k)<s.1)&&decide (s.1≤1099511627776)&&decide (1≤s.2)&&decide (s.2≤1000)
  | none=>true
def sectsB (l:List Sc):Bool:=(List.range l.length).all (sectAt l)
def fitsB (t:Tp) (m:Ma):Bool:=match leftA t m with | some z=>decide (endS m.2.2.2.1+m.2.2.2.2≤z.1) | none=>false
def mayMA (t:Tp) (m:Ma):Bool:=decide (checkM t=0)&&decide (m.2.2.1.length≤24)&&!twiceB m.2.2.1&&decide (1≤m.2.2.2.1.length)&&decide (m.2.2.2.1.length≤8)&&decide (0≤m.2.2.2.2)&&decide (m.2.2.2.2≤1099511627776)&&sectsB m.2.2.2.1&&fitsB t m
def reachM (l:List Sc) (age:Int):Int:=endS (l.takeWhile fun s=>decide (age<s.2))
def cutSc (l:List Sc) (to:Int) (i:Nat):List Sc:=l.take i++[(to,(l.getD i (0,0)).2)]
def cutM (m:Ma) (to:Int):Ma:=if to<1 then (m.1,m.2.1,m.2.2.1,[],0) else match m.2.2.2.1.findIdx? (fun s=>decide (to≤s.1)) with
  | none=>m
  | some i=>(m.1,m.2.1,m.2.2.1,cutSc m.2.2.2.1 to i,0)
def extE (t:Tp) (m:Ma) (lo hi:Int):Int:=if mayMA t m=true∧0≤lo∧lo≤hi∧hi≤endS m.2.2.2.1+m.2.2.2.2 then (match leftA t m with | some z=>overE t m.2.2.1 (z.2+lo) (z.2+hi) | none=>1) else 1
theorem endS_nil:endS []=0:=rfl
theorem endS_app (l:List Sc) (s:Sc):endS (l++[s])=s.1:=by unfold endS;simp
theorem endS_take {l:List Sc}{k:Nat}{s:Sc} (h:l[k]?=some s):endS (l.take (k+1))=s.1:=by
 rw[List.take_add_one,h]
 exact endS_app _ _
structure SectsI (l:List Sc):Prop where
  up:∀k s,l[k]?=some s→endS (l.take k)<s.1
  big:∀s∈l,s.1≤1099511627776
  time:∀s∈l,1≤s.2∧s.2≤1000
theorem sects_iff {l:List Sc}:sectsB l=true↔SectsI l:=by
 unfold sectsB
 rw[List.all_eq_true]
 constructor
 ·intro h
  have key:∀k s,l[k]?=some s→(endS (l.take k)<s.1∧s.1≤1099511627776∧1≤s.2∧s.2≤1000):=by
   intro k s hs
   have h1:=h k (List.mem_range.2 (List.getElem?_eq_some_iff.1 hs).1)
   unfold sectAt at h1
   rw[hs] at h1
   simpa[and_assoc] using h1
  refine⟨fun k s hs=>(key k s hs).1,fun s hs=>?_,fun s hs=>?_⟩
  ·obtain⟨k,hk⟩:=List.mem_iff_getElem?.1 hs;exact(key k s hk).2.1
  ·obtain⟨k,hk⟩:=List.mem_iff_getElem?.1 hs;exact(key k s hk).2.2
 ·intro h k hk
  unfold sectAt
  cases hs:l[k]? with
  | none=>rfl
  | some s=>
   have a1:=h.up k s hs
   have a2:=h.big s (List.mem_of_getElem? hs)
   have a3:=h.time s (List.mem_of_getElem? hs)
   simp[a1,a2,a3.1,a3.2]
theorem SectsI.mono {l:List Sc} (h:SectsI l) {i:Nat}:∀{j:Nat},i≤j→j≤l.length→endS (l.take i)≤endS (l.take j):=by
 intro j
 induction j with
 | zero=>intro h1 _;rw[show i=0 by omega];exact Int.le_refl _
 | succ j ih=>
  intro h1 h2
  by_cases e:i=j+1
  ·rw[e];exact Int.le_refl _
  ·have hs:l[j]?=some l[j]:=List.getElem?_eq_getElem (by omega)
   have a1:=ih (by omega) (by omega)
   have a2:=h.up j _ hs
   rw[endS_take hs]
   omega
theorem SectsI.pos {l:List Sc} (h:SectsI l) {j:Nat} (hj:j≤l.length):0≤endS (l.take j):=by
 have:=h.mono (i:=0) (Nat.zero_le j) hj
 simpa[endS_nil] using this
theorem while_take {α:Type} (p:α→Bool) (l:List α):l.takeWhile p=l.take (l.takeWhile p).length:=(List.prefix_iff_eq_take.1 (List.takeWhile_prefix p))
theorem while_len {α:Type} (p:α→Bool) (l:List α):(l.takeWhile p).length≤l.length:=(List.takeWhile_prefix p).length_le
theorem while_mono {α:Type}{p q:α→Bool} (h:∀x,p x=true→q x=true):∀l:List α,(l.takeWhile p).length≤(l.takeWhile q).length
  | []=>by simp
  | x::l=>by
   rw[List.takeWhile_cons,List.takeWhile_cons]
   cases hp:p x with
   | true=>rw[h x hp];simpa using while_mono h l
   | false=>simp
theorem while_in {α:Type}{p:α→Bool}:∀{l:List α}{k:Nat}{x:α},k<(l.takeWhile p).length→l[k]?=some x→p x=true
  | [],k,x,h,_=>by simp at h
  | y::l,k,x,h,hx=>by
   rw[List.takeWhile_cons] at h
   cases hp:p y with
   | false=>rw[hp] at h;simp at h
   | true=>
    rw[hp] at h
    cases k with
    | zero=>simp at hx;rw[←hx];exact hp
    | succ k=>simp at hx h;exact while_in h hx
theorem while_stop {α:Type}{p:α→Bool}:∀{l:List α}{x:α},l[(l.takeWhile p).length]?=some x→p x=false
  | [],x,hx=>by simp at hx
  | y::l,x,hx=>by
   rw[List.takeWhile_cons] at hx
   cases hp:p y with
   | false=>rw[hp] at hx;simp at hx;rw[←hx];exact hp
   | true=>rw[hp] at hx;simp at hx;exact while_stop hx
theorem while_is {α:Type}{p:α→Bool}{l:List α}{j:Nat} (h1:∀k x,k<j→l[k]?=some x→p x=true) (h2:∀x,l[j]?=some x→p x=false) (hj:j≤l.length):(l.takeWhile p).length=j:=by
 have hl:=while_len p l
 rcases Nat.lt_trichotomy (l.takeWhile p).length j with h | h | h
 ·have hx:l[(l.takeWhile p).length]?=some l[(l.takeWhile p).length]:=List.getElem?_eq_getElem (by omega)
  have:=while_stop hx
  rw[h1 _ _ h hx] at this
  cases this
 ·exact h
 ·have hx:l[j]?=some l[j]:=List.getElem?_eq_getElem (by omega)
  have:=while_in h hx
  rw[h2 _ hx] at this
  cases this
theorem reach_take (l:List Sc) (age:Int):reachM l age=endS (l.take (l.takeWhile fun s=>decide (age<s.2)).length):=by
 unfold reachM
 conv=>lhs;rw[while_take]
theorem endS_all {l:List Sc}:endS l=endS (l.take l.length):=by rw[List.take_length]
theorem cutSc_at {l:List Sc}{to:Int}{i:Nat} (h:l.findIdx? (fun s=>decide (to≤s.1))=some i):∃s,l[i]?=some s∧to≤s.1∧(∀k x,k<i→l[k]?=some x→x.1<to)∧cutSc l to i=l.take i++[(to,s.2)]:=by
 obtain⟨hi,h1,h2⟩:=List.findIdx?_eq_some_iff_getElem.1 h
 have hs:l[i]?=some l[i]:=List.getElem?_eq_getElem hi
 refine⟨l[i],hs,by simpa using h1,fun k x hk hx=>?_,?_⟩
 ·have h3:=h2 k hk
  have h4:l[k]=x:=by have:=List.getElem?_eq_getElem (l:=l) (i:=k) (by omega);rw[this] at hx;exact Option.some.inj hx
  rw[h4] at h3
  have:¬to≤x.1:=by simpa using h3
  omega
 ·unfold cutSc
  rw[List.getD_eq_getElem?_getD,hs]
  rfl
theorem cut_sects {l:List Sc} (h:SectsI l) {to:Int} (h1:1≤to) {i:Nat} (hi:l.findIdx? (fun s=>decide (to≤s.1))=some i):SectsI (cutSc l to i)∧endS (cutSc l to i)=to∧to≤endS l∧(cutSc l to i).length=i+1∧i<l.length:=by
 obtain⟨s,hs,hto,hb,hc⟩:=cutSc_at hi
 have hil:i<l.length:=(List.getElem?_eq_some_iff.1 hs).1
 have hlen:(l.take i).length=i:=by rw[List.length_take];omega
 have hend:endS (l.take i)<to:=by
  cases i with
  | zero=>simp[endS_nil];omega
  | succ i=>
   have hx:l[i]?=some l[i]:=List.getElem?_eq_getElem (by omega)
   rw[endS_take hx]
   exact hb i _ (by omega) hx
 rw[hc]
 refine⟨⟨fun k x hx=>?_,fun x hx=>?_,fun x hx=>?_⟩,endS_app _ _,?_,by rw[List.length_append,hlen];rfl,hil⟩
 ·by_cases hk:k<i
  ·rw[List.getElem?_append_left (by omega)] at hx
   rw[List.take_append_of_le_length (by omega),List.take_take,Nat.min_eq_left (by omega)]
   rw[List.getElem?_take,if_pos hk] at hx
   exact h.up k x hx
  ·have hk2:k=i:=by
    have:=(List.getElem?_eq_some_iff.1 hx).1
    rw[List.length_append,hlen] at this
    simp at this
    omega
   subst hk2
   rw[List.getElem?_append_right (by omega),hlen] at hx
   simp at hx
   subst hx
   rw[List.take_append_of_le_length (by omega),List.take_of_length_le (by omega)]
   exact hend
 ·rcases List.mem_append.1 hx with hx | hx
  ·exact h.big x (List.mem_of_mem_take hx)
  ·simp at hx;subst hx
   have:=h.big s (List.mem_of_getElem? hs)
   simp only
   omega
 ·rcases List.mem_append.1 hx with hx | hx
  ·exact h.time x (List.mem_of_mem_take hx)
  ·simp at hx;subst hx
   exact h.time s (List.mem_of_getElem? hs)
 ·have h2:=h.mono (i:=i+1) (j:=l.length) (by omega) (Nat.le_refl _)
  rw[endS_take hs,←endS_all] at h2
  omega
theorem cut_reach {l:List Sc} (h:SectsI l) {to:Int} (h1:1≤to) {i:Nat} (hi:l.findIdx? (fun s=>decide (to≤s.1))=some i) (age:Int):reachM (cutSc l to i) age≤reachM l age∧reachM (cutSc l to i) age≤to∧0≤reachM (cutSc l to i) age:=by
 obtain⟨c1,c2,c3,c4,c5⟩:=cut_sects h h1 hi
 obtain⟨s,hs,hto,hb,hc⟩:=cutSc_at hi
 have hlen:(l.take i).length=i:=by rw[List.length_take];omega
 rw[reach_take,reach_take]
 have hj:=while_len (fun s:Sc=>decide (age<s.2)) (cutSc l to i)
 have hjl:=while_len (fun s:Sc=>decide (age<s.2)) l
 have hall:=c1.mono (i:=((cutSc l to i).takeWhile fun s=>decide (age<s.2)).length) hj (Nat.le_refl _)
 rw[←endS_all,c2] at hall
 refine⟨?_,hall,c1.pos hj⟩
 have hat:∀k x,k<i→(cutSc l to i)[k]?=some x→l[k]?=some x:=fun k x hk hx=>by
  rw[hc,List.getElem?_append_left (by omega),List.getElem?_take,if_pos hk] at hx;exact hx
 generalize hq:((cutSc l to i).takeWhile fun s=>decide (age<s.2)).length=q at *
 have hge:q≤(l.takeWhile fun s=>decide (age<s.2)).length:=by
  rcases Nat.lt_or_ge (l.takeWhile fun s=>decide (age<s.2)).length q with hc2 | hc2
  ·exfalso
   obtain⟨x,hx⟩:∃x,l[(l.takeWhile fun s=>decide (age<s.2)).length]?=some x:=⟨_,List.getElem?_eq_getElem (by omega)⟩
   have hst:=while_stop hx
   generalize (l.takeWhile fun s=>decide (age<s.2)).length=r at *
   by_cases hr:r<i
   ·have h3:(cutSc l to i)[r]?=some x:=by rw[hc,List.getElem?_append_left (by omega),List.getElem?_take,if_pos hr];exact hx
    have h4:=while_in (p:=fun s:Sc=>decide (age<s.2)) (l:=cutSc l to i) (k:=r) (by omega) h3
    rw[hst] at h4
    cases h4
   ·have hri:r=i:=by omega
    subst hri
    have h3:(cutSc l to r)[r]?=some (to,s.2):=by rw[hc,List.getElem?_append_right (by omega),hlen];simp
    have h4:=while_in (p:=fun s:Sc=>decide (age<s.2)) (l:=cutSc l to r) (k:=r) (by omega) h3
    have h5:x=s:=by rw[hx] at hs;exact Option.some.inj hs
    rw[h5] at hst
    simp only[decide_eq_true_eq,decide_eq_false_iff_not] at h4 hst
    exact hst h4
  ·exact hc2
 by_cases hqi:q≤i
 ·have h2:(cutSc l to i).take q=l.take q:=by rw[hc,List.take_append_of_le_length (by omega),List.take_take,Nat.min_eq_left hqi]
  rw[h2]
  exact h.mono hge hjl
 ·have h2:q=(cutSc l to i).length:=by omega
  rw[h2,←endS_all,c2]
  have h3:=h.mono (i:=i+1) (j:=(l.takeWhile fun s=>decide (age<s.2)).length) (by omega) hjl
  rw[endS_take hs] at h3
  omega
theorem reach_le {l:List Sc} (h:SectsI l) (age:Int):0≤reachM l age∧reachM l age≤endS l:=by
 rw[reach_take]
 have hj:=while_len (fun s:Sc=>decide (age<s.2)) l
 refine⟨h.pos hj,?_⟩
 have:=h.mono hj (Nat.le_refl _)
 rwa [←endS_all] at this
theorem reach_age {l:List Sc} (h:SectsI l) {age more:Int} (h1:age≤more):reachM l more≤reachM l age:=by
 rw[reach_take,reach_take]
 exact h.mono (while_mono (fun x hx=>by simp only[decide_eq_true_eq] at hx ⊢;omega) l) (while_len _ l)
structure MayA (t:Tp) (m:Ma) (z:Int×Int):Prop where
  chk:checkM t=0
  few:m.2.2.1.length≤24
  once:onceM m.2.2.1
  some_:1≤m.2.2.2.1.length
  eight:m.2.2.2.1.length≤8
  gap0:0≤m.2.2.2.2
  gap1:m.2.2.2.2≤1099511627776
  sects:SectsI m.2.2.2.1
  left:leftA t m=some z
  fits:endS m.2.2.2.1+m.2.2.2.2≤z.1
theorem may_iff {t:Tp}{m:Ma}:mayMA t m=true↔∃z,MayA t m z:=by
 unfold mayMA fitsB
 simp only[Bool.and_eq_true,decide_eq_true_eq,Bool.not_eq_true',twice_no,sects_iff]
 constructor
 ·rintro⟨⟨⟨⟨⟨⟨⟨⟨h1,h2⟩,h3⟩,h4⟩,h5⟩,h6⟩,h7⟩,h8⟩,h9⟩
  cases hl:leftA t m with
  | none=>rw[hl] at h9;cases h9
  | some z=>rw[hl] at h9;exact⟨z,h1,h2,h3,h4,h5,h6,h7,h8,hl,by simpa using h9⟩
 ·rintro⟨z,h1,h2,h3,h4,h5,h6,h7,h8,h9,h10⟩
  exact⟨⟨⟨⟨⟨⟨⟨⟨h1,h2⟩,h3⟩,h4⟩,h5⟩,h6⟩,h7⟩,h8⟩,by rw[h9];simpa using h10⟩
theorem left_some {t:Tp}{m:Ma}{z:Int×Int} (h:leftA t m=some z):∃b,balM t.2.2.1 m.1=some b∧m.2.2.1.head?=some (b.2.1,m.2.1)∧(lenM t m.2.2.1).2=0∧z=((lenM t m.2.2.1).1 - alongP t (b.2.1,b.2.2,m.2.1),alongP t (b.2.1,b.2.2,m.2.1)):=by
 unfold leftA at h
 cases hb:balM t.2.2.1 m.1 with
 | none=>rw[hb] at h;cases h
 | some b=>
  rw[hb] at h
  simp only at h
  split at h
  ·rename_i h1
   injection h with h
   exact⟨b,rfl,h1.1,h1.2,h.symm⟩
  ·cases h
end Go.Proofs.YtpapiojicbbheaaGreatDoor

namespace Go.Proofs.YtpapiojicbbheaaGreatDoor
open Go.RowKit
def nextK (t:Tp) (train:Int) (out:List Lk) (may:Rt→Bool) (k:Lk):Option (Lk×Rt):=match rtM t.2.2.2 k.1 with
  | some r=>if (k.2.1==train&&!(out.contains k)&&may r)=true then some (k,r) else none
  | none=>none
def hasB (s:Stp) (r:Rt):Bool:=r.2.1.contains s
def followsB (t:Tp) (gone:List Stp) (r:Rt):Bool:=match gone.getLast?,r.2.1.head? with
  | some g,some h=>(afterM t g).contains h&&!(r.2.1.any fun u=>overB gone u.1)
  | _,_=>false
def chainK (t:Tp) (l:List Lk) (train:Int):Nat→List Lk→List Stp→List Lk×List Stp
  | 0,out,gone=>(out,gone)
  | f+1,out,gone=>match l.findSome? (nextK t train out (followsB t gone)) with
    | none=>(out,gone)
    | some z=>chainK t l train f (out++[z.1]) (gone++z.2.2.1)
def chainM (t:Tp) (l:List Lk) (train:Int) (s:Stp):List Lk:=if checkM t=0 then (match l.findSome? (nextK t train [] (hasB s)) with
  | none=>[]
  | some z=>(chainK t l train 7 [z.1] z.2.2.1).1) else []
theorem nextK_some {t:Tp}{train:Int}{out:List Lk}{may:Rt→Bool}{k:Lk}{z:Lk×Rt} (h:nextK t train out may k=some z):z.1=k∧rtM t.2.2.2 k.1=some z.2∧k.2.1=train∧k∉out∧may z.2=true:=by
 unfold nextK at h
 cases hr:rtM t.2.2.2 k.1 with
 | none=>rw[hr] at h;cases h
 | some r=>
  rw[hr] at h
  simp only at h
  split at h
  ·rename_i hc
   injection h with h
   subst h
   simp only[Bool.and_eq_true,beq_iff_eq,Bool.not_eq_true',List.contains_eq_mem,decide_eq_false_iff_not] at hc
   exact⟨rfl,rfl,hc.1.1,hc.1.2,hc.2⟩
  ·cases h
structure ChI (t:Tp) (l:List Lk) (train:Int) (s:Stp) (out:List Lk) (gone:List Stp):Prop where
  way:∀i k,out[i]?=some k→∃r,rtM t.2.2.2 k.1=some r∧k∈l∧k.2.1=train∧k∉out.take i∧(i=0→hasB s r=true)∧(0<i→followsB t ((out.take i).flatMap fun k=>((rtM t.2.2.2 k.1).map (·.2.1)).getD []) r=true)
  gone_:gone=out.flatMap fun k=>((rtM t.2.2.2 k.1).map (·.2.1)).getD []
theorem ChI.next {t:Tp}{l:List Lk}{train:Int}{s:Stp}{out:List Lk}{gone:List Stp} (h:ChI t l train s out gone) (h0:out≠[]) {z:Lk×Rt} (hz:l.findSome? (nextK t train out (followsB t gone))=some z):ChI t l train s (out++[z.1]) (gone++z.2.2.1):=by
 obtain⟨k,hk,hz⟩:=List.exists_of_findSome?_eq_some hz
 obtain⟨h1,h2,h3,h4,h5⟩:=nextK_some hz
 refine⟨fun i k' hk'=>?_,?_⟩
 ·by_cases hi:i<out.length
  ·rw[List.getElem?_append_left hi] at hk'
   rw[List.take_append_of_le_length (by omega)]
   exact h.way i k' hk'
  ·have hi2:i=out.length:=by
    have:=(List.getElem?_eq_some_iff.1 hk').1
    rw[List.length_append] at this
    simp at this
    omega
   subst hi2
   rw[List.getElem?_append_right (Nat.le_refl _)] at hk'
   simp at hk'
   subst hk'
   rw[List.take_append_of_le_length (Nat.le_refl _),List.take_length,h1]
   refine⟨z.2,h2,hk,h3,h4,fun e=>?_,fun _=>by rw[←h.gone_];exact h5⟩
   exact absurd (List.eq_nil_of_length_eq_zero e) h0
 ·rw[List.flatMap_append,←h.gone_,h1]
  simp[h2]
theorem ChI.loop {t:Tp}{l:List Lk}{train:Int}{s:Stp}:∀{f:Nat}{out:List Lk}{gone:List Stp},ChI t l train s out gone→out≠[]→ChI t l train s (chainK t l train f out gone).1 (chainK t l train f out gone).2∧(chainK t l train f out gone).1.length≤out.length+f
  | 0,out,gone,h,_=>⟨h,Nat.le_refl _⟩
  | f+1,out,gone,h,h0=>by
   unfold chainK
   cases hz:l.findSome? (nextK t train out (followsB t gone)) with
   | none=>exact⟨h,by simp only;omega⟩
   | some z=>
    simp only
    have h1:=h.next h0 hz
    obtain⟨a,b⟩:=ChI.loop (f:=f) h1 (by simp)
    refine⟨a,?_⟩
    rw[List.length_append] at b
    simp at b
    omega
theorem chain_good {t:Tp}{l:List Lk}{train:Int}{s:Stp}:∃gone,ChI t l train s (chainM t l train s) gone∧(chainM t l train s).length≤8∧(chainM t l train s≠[]→checkM t=0):=by
 unfold chainM
 split
 ·rename_i hc
  cases hz:l.findSome? (nextK t train [] (hasB s)) with
  | none=>exact⟨[],⟨fun i k h=>by simp at h,rfl⟩,by simp,fun h=>absurd rfl h⟩
  | some z=>
   simp only
   obtain⟨k,hk,hz⟩:=List.exists_of_findSome?_eq_some hz
   obtain⟨h1,h2,h3,h4,h5⟩:=nextK_some hz
   have h:ChI t l train s [z.1] z.2.2.1:=by
    refine⟨fun i k' hk'=>?_,?_⟩
    ·cases i with
     | zero=>
      simp at hk'
      subst hk'
      rw[h1]
      exact⟨z.2,h2,hk,h3,by simp,fun _=>h5,fun h=>absurd h (by omega)⟩
     | succ i=>simp at hk'
    ·rw[h1];simp[h2]
   obtain⟨a,b⟩:=ChI.loop (f:=7) h (by simp)
   exact⟨_,a,by simpa using b,fun _=>hc⟩
 ·exact⟨[],⟨fun i k h=>by simp at h,rfl⟩,by simp,fun h=>absurd rfl h⟩
end Go.Proofs.YtpapiojicbbheaaGreatDoor

namespace Go.Proofs.YtpapiojicbbheaaGreatDoor
open Go.RowKit
theorem MayA.place {t:Tp}{m:Ma}{z:Int×Int} (h:MayA t m z):∃b,balM t.2.2.1 m.1=some b∧(lenM t m.2.2.1).2=0∧z=((lenM t m.2.2.1).1 - alongP t (b.2.1,b.2.2,m.2.1),alongP t (b.2.1,b.2.2,m.2.1))∧goodM t.1 m.2.2.1∧(lenM t m.2.2.1).1=sumM t.1 m.2.2.1:=by
 obtain⟨b,h1,h2,h3,h4⟩:=left_some h.left
 obtain⟨g1,g2,g3⟩:=good_of h.chk h3
 exact⟨b,h1,h3,h4,g1,g3⟩
theorem ext_ok {t:Tp}{m:Ma}{z:Int×Int} (h:MayA t m z) (hz:0≤z.2) {lo hi:Int} (h0:0≤lo) (h1:lo≤hi) (h2:hi≤endS m.2.2.2.1+m.2.2.2.2) :
    extE t m lo hi=0∧overE t m.2.2.1 (z.2+lo) (z.2+hi)=0:=by
  obtain⟨b,p1,p2,p3,p4,p5⟩:=h.place
  have hf:=h.fits
  have hw:t.1.any wrongB=false:=by
   rw[List.any_eq_false]
   intro v hv
   have:=check_edges h.chk v hv
   unfold wrongB
   simp
   omega
  have ho:overE t m.2.2.1 (z.2+lo) (z.2+hi)=0:=by
   unfold overE
   rw[if_neg (by rw[p2];simp),if_neg]
   rintro(h | h | h | h)
   ·rw[hw] at h;cases h
   ·omega
   ·omega
   ·rw[p3] at h hf
    simp only at h hf
    omega
  refine⟨?_,ho⟩
  unfold extE
  rw[if_pos ⟨may_iff.2 ⟨z,h⟩,h0,h1,h2⟩,h.left]
  exact ho
theorem cut_may {t:Tp}{m:Ma}{z:Int×Int} (h:MayA t m z) {to:Int} (h1:1≤to):∃z',MayA t (cutM m to) z':=by
 unfold cutM
 rw[if_neg (by omega)]
 cases hi:m.2.2.2.1.findIdx? (fun s=>decide (to≤s.1)) with
 | none=>exact⟨z,h⟩
 | some i=>
  obtain⟨c1,c2,c3,c4,c5⟩:=cut_sects h.sects h1 hi
  have e8:=h.eight
  have hl:=h.left
  have hf:=h.fits
  have hg:=h.gap0
  refine⟨z,h.chk,h.few,h.once,by simp only;omega,by simp only;omega,by simp,by simp,c1,?_,by simp only;omega⟩
  unfold leftA at hl ⊢
  exact hl
theorem shrink_all {t:Tp}{m:Ma}{z:Int×Int}{age more to:Int} (h:MayA t m z) (hz:0≤z.2) (hm:age≤more) :
    reachM m.2.2.2.1 more≤reachM m.2.2.2.1 age∧reachM (cutM m to).2.2.2.1 age≤reachM m.2.2.2.1 age∧(0≤to→reachM (cutM m to).2.2.2.1 age≤to)∧(to<1→reachM (cutM m to).2.2.2.1 age=0) ∧
      0≤reachM (cutM m to).2.2.2.1 age∧extE t m 0 (reachM m.2.2.2.1 age)=0∧extE t m 0 (reachM (cutM m to).2.2.2.1 age)=0∧(1≤to→mayMA t (cutM m to)=true):=by
  have ha:=reach_le h.sects age
  have hg:=h.gap0
  have hd:reachM (cutM m to).2.2.2.1 age≤reachM m.2.2.2.1 age∧(0≤to→reachM (cutM m to).2.2.2.1 age≤to)∧(to<1→reachM (cutM m to).2.2.2.1 age=0)∧0≤reachM (cutM m to).2.2.2.1 age:=by
   unfold cutM
   split
   ·have e:reachM [] age=0:=rfl
    simp only[e]
    exact⟨ha.1,fun h=>h,fun _=>trivial,Int.le_refl _⟩
   ·rename_i hto
    cases hi:m.2.2.2.1.findIdx? (fun s=>decide (to≤s.1)) with
    | some i=>
     obtain⟨c1,c2,c3⟩:=cut_reach h.sects (by omega) hi age
     exact⟨c1,fun _=>c2,fun h=>absurd h hto,c3⟩
    | none=>
     simp only
     refine⟨Int.le_refl _,fun _=>?_,fun h=>absurd h hto,ha.1⟩
     have h2:endS m.2.2.2.1<to:=by
      rw[endS_all]
      have hl:=h.some_
      obtain⟨k,hk⟩:∃k,m.2.2.2.1.length=k+1:=⟨m.2.2.2.1.length - 1,by omega⟩
      have hs:m.2.2.2.1[k]?=some m.2.2.2.1[k]:=List.getElem?_eq_getElem (by omega)
      rw[hk,endS_take hs]
      have:=List.findIdx?_eq_none_iff.1 hi _ (List.mem_of_getElem? hs)
      simp at this
      exact this
     omega
  refine⟨reach_age h.sects hm,hd.1,hd.2.1,hd.2.2.1,hd.2.2.2,(ext_ok h hz (Int.le_refl _) ha.1 (by omega)).1,(ext_ok h hz (Int.le_refl _) hd.2.2.2 (by omega)).1,fun h1=>?_⟩
  obtain⟨z',h'⟩:=cut_may h h1
  exact may_iff.2 ⟨z',h'⟩
theorem ext_within {t:Tp}{p:List Stp}{lo d a:Int} (hg:goodM t.1 p) (h:d≤a) {x y:List Sp} (hy:NormOf (overK t.1 lo d p p.length) y) (hx:NormOf (overK t.1 lo a p p.length) x):∀e q,hasL y e q=true→hasL x e q=true:=by
 intro e q hq
 rw[hy.2,overK_has hg e q _ (Nat.le_refl _)] at hq
 rw[hx.2,overK_has hg e q _ (Nat.le_refl _)]
 obtain⟨i,s,h1,h2,h3,h4,h5,h6,h7⟩:=hq
 exact⟨i,s,h1,h2,h3,h4,h5,h6,by omega⟩
end Go.Proofs.YtpapiojicbbheaaGreatDoor

namespace Go.Proofs.YtpapiojicbbheaaGreatDoor
open Go.RowKit
theorem check_bal {t:Tp} (h:checkM t=0) {b:Bl} (hb:b∈t.2.2.1):0≤b.1∧b.1≤16777214∧thereB t.1.length b.2.1=true∧0≤b.2.2∧b.2.2≤edgeM t b.2.1:=by
 have h0:firstE (bErr t) t.2.2.1.length=0:=by
  unfold checkM at h
  split at h
  ·exact absurd h (by decide)
  split at h
  ·exact absurd h (by decide)
  split at h
  ·rename_i h3;exact absurd h h3
  split at h
  ·rename_i h3;exact absurd h h3
  rename_i h3
  simpa using h3
 obtain⟨i,hi⟩:=List.mem_iff_getElem?.1 hb
 have h1:=firstE_all h0 i (List.getElem?_eq_some_iff.1 hi).1
 unfold bErr at h1
 rw[hi] at h1
 simp only at h1
 split at h1
 ·exact absurd h1 (by decide)
 rename_i h2
 have h3:thereB t.1.length b.2.1=true:=by
  cases h4:thereB t.1.length b.2.1 with
  | true=>rfl
  | false=>exact absurd (.inr (.inr (.inl h4))) h2
 refine⟨by omega,by omega,h3,by omega,?_⟩
 unfold edgeM
 omega
theorem bal_mem {l:List Bl}{id:Int}{b:Bl} (h:balM l id=some b):b∈l∧b.1=id:=by
 unfold balM at h
 exact⟨List.mem_of_find?_eq_some h,by simpa using List.find?_some h⟩
theorem MayA.behind {t:Tp}{m:Ma}{z:Int×Int} (h:MayA t m z):0≤z.2:=by
 obtain⟨b,h1,h2,h3,h4⟩:=left_some h.left
 obtain⟨c1,c2,c3,c4,c5⟩:=check_bal h.chk (bal_mem h1).1
 rw[h4]
 exact(along_in (t:=t) (p:=(b.2.1,b.2.2,m.2.1)) c4 c5).1
def goneM (t:Tp):Nat→Stp→Int→List Stp
  | 0,s,_=>[s]
  | f+1,s,n=>if n≤edgeM t s.1 then [s] else match afterM t s with
    | [x]=>s::goneM t f x (n - edgeM t s.1)
    | _=>[s]
theorem gone_in {t:Tp}{f:Nat}{s:Stp}{n:Int} (h:n≤edgeM t s.1):goneM t f s n=[s]:=by
 cases f <;> unfold goneM
 ·rfl
 ·rw[if_pos h]
theorem gone_next {t:Tp}{f:Nat}{s x:Stp}{n:Int} (h:¬n≤edgeM t s.1) (ha:afterM t s=[x]):goneM t (f+1) s n=s::goneM t f x (n - edgeM t s.1):=by
 conv=>lhs;unfold goneM
 rw[if_neg h,ha]
theorem go_on {t:Tp}{f:Nat}{s:Stp}{n:Int} (h:(goM t f s n).2=0) (hn:¬n≤edgeM t s.1):∃g x,f=g+1∧afterM t s=[x]∧(goM t g x (n - edgeM t s.1)).2=0:=by
 cases f with
 | zero=>
  rcases ha:afterM t s with _ | ⟨x,_ | ⟨y,l⟩⟩
  ·rw[goM_end hn ha] at h;exact absurd h (by decide)
  ·rw[goM_long hn ha] at h;exact absurd h (by decide)
  ·rw[goM_fork hn ha] at h;exact absurd h (by decide)
 | succ f=>
  rcases ha:afterM t s with _ | ⟨x,_ | ⟨y,l⟩⟩
  ·rw[goM_end hn ha] at h;exact absurd h (by decide)
  ·rw[goM_next hn ha] at h;exact⟨f,x,rfl,rfl,h⟩
  ·rw[goM_fork hn ha] at h;exact absurd h (by decide)
structure GoneI (t:Tp) (f:Nat) (s:Stp) (n:Int):Prop where
  few:(goneM t f s n).length≤f+1
  head:(goneM t f s n).head?=some s
  in_:∀u∈goneM t f s n,thereB t.1.length u.1=true
  aft:∀k a b,(goneM t f s n)[k]?=some a→(goneM t f s n)[k+1]?=some b→afterM t a=[b]
  last:(goneM t f s n).getLast?=some ((goM t f s n).1.1,(goM t f s n).1.2.2)
  at_:n=plainS t.1 (goneM t f s n) - edgeM t (goM t f s n).1.1+alongP t (goM t f s n).1
theorem gone_good {t:Tp}:∀{f:Nat}{s:Stp}{n:Int},thereB t.1.length s.1=true→(goM t f s n).2=0→GoneI t f s n:=by
 intro f
 induction f with
 | zero=>
  intro s n hs h
  by_cases hn:n≤edgeM t s.1
  ·have e1:=gone_in (t:=t) (f:=0) hn
   have e2:=goM_in (t:=t) (f:=0) hn
   refine⟨by rw[e1];simp,by rw[e1];rfl,by rw[e1];simpa using hs,by rw[e1];intro k a b ha hb;simp at hb,by rw[e1,e2];rfl,?_⟩
   rw[e1,e2]
   simp only
   rw[along_over]
   unfold plainS overP edgeM
   simp
  ·obtain⟨g,x,h1,_⟩:=go_on h hn
   omega
 | succ f ih=>
  intro s n hs h
  by_cases hn:n≤edgeM t s.1
  ·have e1:=gone_in (t:=t) (f:=f+1) hn
   have e2:=goM_in (t:=t) (f:=f+1) hn
   refine⟨by rw[e1];simp,by rw[e1];rfl,by rw[e1];simpa using hs,by rw[e1];intro k a b ha hb;simp at hb,by rw[e1,e2];rfl,?_⟩
   rw[e1,e2]
   simp only
   rw[along_over]
   unfold plainS overP edgeM
   simp
  ·obtain⟨g,x,h1,h2,h3⟩:=go_on h hn
   obtain rfl:f=g:=by omega
   have i:=ih (after_there (t:=t) (s:=s) (x:=x) (by rw[h2];simp)) h3
   have e1:=gone_next (f:=f) hn h2
   have e2:=goM_next (f:=f) hn h2
   refine⟨by rw[e1];have:=i.few;simp;omega,by rw[e1];rfl,by rw[e1];intro u hu;rcases List.mem_cons.1 hu with rfl | hu;exact hs;exact i.in_ u hu,?_,?_,?_⟩
   ·rw[e1]
    intro k a b ha hb
    cases k with
    | zero=>
     have hh:=i.head
     rw[List.head?_eq_getElem?] at hh
     simp only[List.getElem?_cons_zero,Option.some.injEq] at ha
     simp only[List.getElem?_cons_succ] at hb
     rw[hh] at hb
     injection hb with hb
     rw[←ha,←hb,h2]
    | succ k=>
     simp only[List.getElem?_cons_succ] at ha hb
     exact i.aft k a b ha hb
   ·rw[e1,e2,List.getLast?_cons,i.last]
    rfl
   ·rw[e1,e2,plainS_cons]
    have:=i.at_
    have e3:t.1.getD s.1.toNat 0=edgeM t s.1:=rfl
    rw[e3]
    omega
def routeOf (t:Tp) (k:Lk):Rt:=(rtM t.2.2.2 k.1).getD (0,[],0,0)
def partC (t:Tp) (s:Stp) (i:Nat) (k:Lk):List Stp:=if i=0 then (routeOf t k).2.1.drop ((routeOf t k).2.1.idxOf s+1) else (routeOf t k).2.1
def wayC (t:Tp) (s:Stp) (g:List Stp) (c:List Lk):Nat→List Stp
  | 0=>g
  | i+1=>wayC t s g c i++(match c[i]? with | some k=>partC t s i k | none=>[])
def secC (t:Tp) (s:Stp) (g:List Stp) (back:Int) (c:List Lk):Nat→List Sc
  | 0=>[]
  | i+1=>secC t s g back c i++(match c[i]? with | some k=>[(plainS t.1 (wayC t s g c (i+1)) - back,(routeOf t k).2.2.2)] | none=>[])
def gapC (t:Tp) (c:List Lk):Nat→Int
  | 0=>0
  | i+1=>match c[i]? with | some k=>(routeOf t k).2.2.1 | none=>0
def lessS (l:List Sc) (g:Int):List Sc:=match l.getLast? with | some x=>l.dropLast++[(x.1 - g,x.2)] | none=>[]
def endC (ref:Int) (rev:Bool) (n:Int) (P:List Stp) (S:List Sc) (gap:Int):Ma×Int:=
  if 24<P.length∨twiceB P=true then (noMa,2)
  else if endS S≤n∨(1<S.length∧endS S≤endS S.dropLast) then (noMa,141)
  else match S with
    | []=>(noMa,1)
    | x::S'=>if x.1=0 then ((ref,rev,P,S',gap),0) else ((ref,rev,P,x::S',gap),0)
end Go.Proofs.YtpapiojicbbheaaGreatDoor

namespace Go.Proofs.YtpapiojicbbheaaGreatDoor
open Go.RowKit
abbrev psV (p:Ps):Value:=.agg #[.int .i64 p.1,.int .i64 p.2.1,.bool p.2.2]
theorem edge_at {w:World}{B:Nat}{x:TA}{t:Tp}{e:Int} (h:TpAt w B x t) (h0:0≤e) (h1:e<(x.ne:Int)):∃ad k v,x.Ae=some ad∧e=((k:Nat):Int)∧k<x.ne∧w.cell? (ad.add k)=some (.int .i64 v)∧edgeM t e=v:=by
 obtain⟨k,rfl⟩:∃k:Nat,e=k:=⟨e.toNat,by omega⟩
 have hl:=h.e.len
 obtain⟨ad,v,hA,hb,hv,hc⟩:=(int_rd h.e).at1 (show k<x.ne by omega)
 refine⟨ad,k,v,hA,rfl,by omega,hc,?_⟩
 unfold edgeM
 rw[show ((k:Nat):Int).toNat=k by omega,List.getD_eq_getElem?_getD,hv];rfl
set_option maxHeartbeats 4000000 in
set_option maxRecDepth 100000 in
theorem pright_any (x:TA) (t:Tp) (B:Nat) (e a:Int) (r:Bool) (w:World) (h:TpAt w B x t) (hs:TpSmall x t) (hB:B≤w.heap.size) :
    Calls Tryz.prog 137 #[.agg x.cs,.agg #[.int .i64 e,.int .i64 a,.bool r]] w fun en w'=>en=.returned (.bool (rightB t (e,a,r)))∧Keep Never w w':=by
  have HCh:=qh (fun (W:World) (hk:Keep Never w W)=>check_any x t B W (h.keep hk) hs (Nat.le_trans hB hk.size))
  have HE:=qh h
  have HEl:Hid (x.ne=t.1.length):=qh h.e.len
  have HED:=qh (fun (W:World) (hk:Keep Never w W) (i:Int) (h0:0≤i) (h1:i<(x.ne:Int))=>edge_at (h.keep hk) h0 h1)
  obtain⟨Ae,ne,ce,Aj,nj,cj,Ab,nb,cb,Ar,nr,cr⟩:=x
  simp only[TA.cs] at HCh HEl HED ⊢
  clear h hs hB HE
  have HR:Hid (rightB t (e,a,r)=(decide (checkM t=0)&&(decide (0≤e)&&decide (e<(ne:Int)))&&decide (0≤a)&&decide (a≤edgeM t e))):=qh (by rw[HEl.out];rfl)
  obtain⟨ck,hck⟩:∃z,checkM t=z:=⟨_,rfl⟩
  rw[hck] at HR HCh
  clear hck
  obtain⟨w1,hw1⟩:∃V:World,w.alloc (.cells #[.slice Ae ne ce,.slice Aj nj cj,.slice Ab nb cb,.slice Ar nr cr] 27)=V:=⟨_,rfl⟩
  have zw1:w1.heap.size=w.heap.size+1:=by rw[←hw1];simp
  have kw1:Keep Never w w1:=by rw[←hw1];exact(Keep.refl _ _).alloc _
  have bw1:=Blk.new w 27 #[.slice Ae ne ce,.slice Aj nj cj,.slice Ab nb cb,.slice Ar nr cr]
  rw[hw1] at bw1
  obtain⟨w2,hw2⟩:∃V:World,w1.alloc (.cells #[.int .i64 e,.int .i64 a,.bool r] 71)=V:=⟨_,rfl⟩
  have kw2:Keep Never w1 w2:=by rw[←hw2];exact(Keep.refl _ _).alloc _
  have bw2:=Blk.new w1 71 #[.int .i64 e,.int .i64 a,.bool r]
  rw[hw2,zw1] at bw2
  have HB1:=qh (bw1.keep kw2 (fun h=>h))
  have HB2:=qh bw2
  have HK:=qh (kw1.trans kw2)
  clear kw1 kw2 bw1 bw2
  have HC:=qh (fun (W:World) (hk:Keep Never w2 W)=>HCh.out W (HK.out.trans hk))
  clear HCh
  by_cases g0:ck=0
  case neg=>
   have t0:(ck==0)=false:=by simpa using g0
   have HF:Hid (rightB t (e,a,r)=false):=qh (by rw[HR.out,decide_eq_false g0];rfl)
   clear g0
   obtain⟨y0,y1,y2,y3⟩:=bc4 HB1.out
   obtain⟨q0,q1,q2⟩:=bc3 HB2.out
   have HS2:Hid (∀W',Keep Never w2 W'→Keep Never w2 W'∧W'.cell? ⟨w.heap.size,0,none⟩=some (.slice Ae ne ce)∧W'.cell? ⟨w.heap.size,1,none⟩=some (.slice Aj nj cj)∧W'.cell? ⟨w.heap.size,2,none⟩=some (.slice Ab nb cb)∧W'.cell? ⟨w.heap.size,3,none⟩=some (.slice Ar nr cr)∧W'.cell? ⟨w.heap.size+1,0,none⟩=some (.int .i64 e)∧W'.cell? ⟨w.heap.size+1,1,none⟩=some (.int .i64 a)∧W'.cell? ⟨w.heap.size+1,2,none⟩=some (.bool r)):=qh (fun W' h=>⟨h,keepT h y0,keepT h y1,keepT h y2,keepT h y3,keepT h q0,keepT h q1,keepT h q2⟩)
   go_enter Tryz.func137, Tryz.ntmps137
   go_wp2_with fail
   clear y0 y1 y2 y3 q0 q1 q2
   refine wp_region_noPanic ?_
   refine wp_region_held_drew (S:=(fun W'=>Keep Never w2 W'∧W'.cell? ⟨w.heap.size,0,none⟩=some (.slice Ae ne ce)∧W'.cell? ⟨w.heap.size,1,none⟩=some (.slice Aj nj cj)∧W'.cell? ⟨w.heap.size,2,none⟩=some (.slice Ab nb cb)∧W'.cell? ⟨w.heap.size,3,none⟩=some (.slice Ar nr cr)∧W'.cell? ⟨w.heap.size+1,0,none⟩=some (.int .i64 e)∧W'.cell? ⟨w.heap.size+1,1,none⟩=some (.int .i64 a)∧W'.cell? ⟨w.heap.size+1,2,none⟩=some (.bool r))) (by kernel_rfl) ?_ (fun hHeld=>?_)
   ·exact HS2.out _ ((Keep.refl Never w2).drew)
   refine qT 0 ?_
   try simp only[qy]
   refine wpAnyH_ready (rs:=[1]) (by kernel_rfl) (by simp) ?_
   refine AllReadyH.cons (o:=?_) ?_ (fun K hK=>?_) AllReadyH.nil
   rotate_left 1
   ·(simp only[qz];rfl)
   go_simp
   refine(HC.out _ hHeld.1).mono ?_;rintro en w3 ⟨rfl,hk3⟩
   (try go_wp2_with fail)
   refine hK.out _ _ ?_ (fun hHeld=>?_)
   ·(try dsimp only);exact HS2.out _ (hHeld.1.trans hk3)
   clear hK K
   try simp only[qy]
   refine qT 2 ?_
   try simp only[qy]
   refine qT 3 ?_
   try simp only[qy]
   refine qU 4 ?_
   try simp only[qy]
   refine qU 5 ?_
   try simp only[qy]
   refine qU 6 ?_
   try simp only[qy]
   refine qT 7 ?_
   try simp only[qy]
   refine qT 8 ?_
   try simp only[qy]
   refine qU 9 ?_
   try simp only[qy]
   refine qU 10 ?_
   try simp only[qy]
   refine qU 11 ?_
   try simp only[qy]
   refine qU 12 ?_
   try simp only[qy]
   refine qU 13 ?_
   try simp only[qy]
   refine qU 14 ?_
   try simp only[qy]
   refine qT 15 ?_
   try simp only[qy]
   refine qT 16 ?_
   try simp only[qy]
   refine qU 17 ?_
   try simp only[qy]
   refine qU 18 ?_
   try simp only[qy]
   refine qU 19 ?_
   try simp only[qy]
   refine qT 20 ?_
   try simp only[qy]
   refine qT 21 ?_
   try simp only[qy]
   refine qU 22 ?_
   try simp only[qy]
   refine qU 23 ?_
   try simp only[qy]
   refine qU 24 ?_
   try simp only[qy]
   refine qU 25 ?_
   try simp only[qy]
   refine qU 26 ?_
   try simp only[qy]
   refine qU 27 ?_
   try simp only[qy]
   refine qU 28 ?_
   try simp only[qy]
   refine qU 29 ?_
   try simp only[qy]
   refine qU 30 ?_
   try simp only[qy]
   refine qT 31 ?_
   try simp only[qy]
   refine qT 32 ?_
   try simp only[qy]
   refine wpAnyH_done (by kernel_rfl) ?_ _
   refine NoPanic.normal ?_
   have hS:=hHeld
   have HKz:=qh (HK.out.trans hS.1)
   clear hS hHeld
   go_wp2_with fail
   go_ret
   exact⟨by rw[HF.out];rfl,HKz.out⟩
  have t0:(ck==0)=true:=by simpa using g0
  by_cases g1:0≤e
  case neg=>
   have t1:decide (e≥0)=false:=by simpa using g1
   have HF:Hid (rightB t (e,a,r)=false):=qh (by rw[HR.out,decide_eq_false g1];simp)
   clear g0 g1
   obtain⟨y0,y1,y2,y3⟩:=bc4 HB1.out
   obtain⟨q0,q1,q2⟩:=bc3 HB2.out
   have HS2:Hid (∀W',Keep Never w2 W'→Keep Never w2 W'∧W'.cell? ⟨w.heap.size,0,none⟩=some (.slice Ae ne ce)∧W'.cell? ⟨w.heap.size,1,none⟩=some (.slice Aj nj cj)∧W'.cell? ⟨w.heap.size,2,none⟩=some (.slice Ab nb cb)∧W'.cell? ⟨w.heap.size,3,none⟩=some (.slice Ar nr cr)∧W'.cell? ⟨w.heap.size+1,0,none⟩=some (.int .i64 e)∧W'.cell? ⟨w.heap.size+1,1,none⟩=some (.int .i64 a)∧W'.cell? ⟨w.heap.size+1,2,none⟩=some (.bool r)):=qh (fun W' h=>⟨h,keepT h y0,keepT h y1,keepT h y2,keepT h y3,keepT h q0,keepT h q1,keepT h q2⟩)
   go_enter Tryz.func137, Tryz.ntmps137
   go_wp2_with fail
   clear y0 y1 y2 y3 q0 q1 q2
   refine wp_region_noPanic ?_
   refine wp_region_held_drew (S:=(fun W'=>Keep Never w2 W'∧W'.cell? ⟨w.heap.size,0,none⟩=some (.slice Ae ne ce)∧W'.cell? ⟨w.heap.size,1,none⟩=some (.slice Aj nj cj)∧W'.cell? ⟨w.heap.size,2,none⟩=some (.slice Ab nb cb)∧W'.cell? ⟨w.heap.size,3,none⟩=some (.slice Ar nr cr)∧W'.cell? ⟨w.heap.size+1,0,none⟩=some (.int .i64 e)∧W'.cell? ⟨w.heap.size+1,1,none⟩=some (.int .i64 a)∧W'.cell? ⟨w.heap.size+1,2,none⟩=some (.bool r))) (by kernel_rfl) ?_ (fun hHeld=>?_)
   ·exact HS2.out _ ((Keep.refl Never w2).drew)
   refine qT 0 ?_
   try simp only[qy]
   refine wpAnyH_ready (rs:=[1]) (by kernel_rfl) (by simp) ?_
   refine AllReadyH.cons (o:=?_) ?_ (fun K hK=>?_) AllReadyH.nil
   rotate_left 1
   ·(simp only[qz];rfl)
   go_simp
   refine(HC.out _ hHeld.1).mono ?_;rintro en w3 ⟨rfl,hk3⟩
   (try go_wp2_with fail)
   refine hK.out _ _ ?_ (fun hHeld=>?_)
   ·(try dsimp only);exact HS2.out _ (hHeld.1.trans hk3)
   clear hK K
   try simp only[qy]
   refine qT 2 ?_
   try simp only[qy]
   refine qT 3 ?_
   try simp only[qy]
   refine qT 4 ?_
   try simp only[qy]
   refine qT 5 ?_
   try simp only[qy]
   refine qT 6 ?_
   try simp only[qy]
   refine qT 7 ?_
   try simp only[qy]
   refine qT 8 ?_
   try simp only[qy]
   refine qU 9 ?_
   try simp only[qy]
   refine qU 10 ?_
   try simp only[qy]
   refine qU 11 ?_
   try simp only[qy]
   refine qU 12 ?_
   try simp only[qy]
   refine qU 13 ?_
   try simp only[qy]
   refine qU 14 ?_
   try simp only[qy]
   refine qT 15 ?_
   try simp only[qy]
   refine qT 16 ?_
   try simp only[qy]
   refine qU 17 ?_
   try simp only[qy]
   refine qU 18 ?_
   try simp only[qy]
   refine qU 19 ?_
   try simp only[qy]
   refine qT 20 ?_
   try simp only[qy]
   refine qT 21 ?_
   try simp only[qy]
   refine qU 22 ?_
   try simp only[qy]
   refine qU 23 ?_
   try simp only[qy]
   refine qU 24 ?_
   try simp only[qy]
   refine qU 25 ?_
   try simp only[qy]
   refine qU 26 ?_
   try simp only[qy]
   refine qU 27 ?_
   try simp only[qy]
   refine qU 28 ?_
   try simp only[qy]
   refine qU 29 ?_
   try simp only[qy]
   refine qU 30 ?_
   try simp only[qy]
   refine qT 31 ?_
   try simp only[qy]
   refine qT 32 ?_
   try simp only[qy]
   refine wpAnyH_done (by kernel_rfl) ?_ _
   refine NoPanic.normal ?_
   have hS:=hHeld
   have HKz:=qh (HK.out.trans hS.1)
   clear hS hHeld
   go_wp2_with fail
   go_ret
   exact⟨by rw[HF.out];rfl,HKz.out⟩
  have t1:decide (e≥0)=true:=by simpa using g1
  by_cases g2:e<(ne:Int)
  case neg=>
   have t2:decide (e<(ne:Int))=false:=by simpa using g2
   have HF:Hid (rightB t (e,a,r)=false):=qh (by rw[HR.out,decide_eq_false g2];simp)
   clear g0 g1 g2
   obtain⟨y0,y1,y2,y3⟩:=bc4 HB1.out
   obtain⟨q0,q1,q2⟩:=bc3 HB2.out
   have HS2:Hid (∀W',Keep Never w2 W'→Keep Never w2 W'∧W'.cell? ⟨w.heap.size,0,none⟩=some (.slice Ae ne ce)∧W'.cell? ⟨w.heap.size,1,none⟩=some (.slice Aj nj cj)∧W'.cell? ⟨w.heap.size,2,none⟩=some (.slice Ab nb cb)∧W'.cell? ⟨w.heap.size,3,none⟩=some (.slice Ar nr cr)∧W'.cell? ⟨w.heap.size+1,0,none⟩=some (.int .i64 e)∧W'.cell? ⟨w.heap.size+1,1,none⟩=some (.int .i64 a)∧W'.cell? ⟨w.heap.size+1,2,none⟩=some (.bool r)):=qh (fun W' h=>⟨h,keepT h y0,keepT h y1,keepT h y2,keepT h y3,keepT h q0,keepT h q1,keepT h q2⟩)
   go_enter Tryz.func137, Tryz.ntmps137
   go_wp2_with fail
   clear y0 y1 y2 y3 q0 q1 q2
   refine wp_region_noPanic ?_
   refine wp_region_held_drew (S:=(fun W'=>Keep Never w2 W'∧W'.cell? ⟨w.heap.size,0,none⟩=some (.slice Ae ne ce)∧W'.cell? ⟨w.heap.size,1,none⟩=some (.slice Aj nj cj)∧W'.cell? ⟨w.heap.size,2,none⟩=some (.slice Ab nb cb)∧W'.cell? ⟨w.heap.size,3,none⟩=some (.slice Ar nr cr)∧W'.cell? ⟨w.heap.size+1,0,none⟩=some (.int .i64 e)∧W'.cell? ⟨w.heap.size+1,1,none⟩=some (.int .i64 a)∧W'.cell? ⟨w.heap.size+1,2,none⟩=some (.bool r))) (by kernel_rfl) ?_ (fun hHeld=>?_)
   ·exact HS2.out _ ((Keep.refl Never w2).drew)
   refine qT 0 ?_
   try simp only[qy]
   refine wpAnyH_ready (rs:=[1]) (by kernel_rfl) (by simp) ?_
   refine AllReadyH.cons (o:=?_) ?_ (fun K hK=>?_) AllReadyH.nil
   rotate_left 1
   ·(simp only[qz];rfl)
   go_simp
   refine(HC.out _ hHeld.1).mono ?_;rintro en w3 ⟨rfl,hk3⟩
   (try go_wp2_with fail)
   refine hK.out _ _ ?_ (fun hHeld=>?_)
   ·(try dsimp only);exact HS2.out _ (hHeld.1.trans hk3)
   clear hK K
   try simp only[qy]
   refine qT 2 ?_
   try simp only[qy]
   refine qT 3 ?_
   try simp only[qy]
   refine qT 4 ?_
   try simp only[qy]
   refine qT 5 ?_
   try simp only[qy]
   refine qT 6 ?_
   try simp only[qy]
   refine qT 7 ?_
   try simp only[qy]
   refine qT 8 ?_
   try simp only[qy]
   refine qT 9 ?_
   try simp only[qy]
   refine qT 10 ?_
   try simp only[qy]
   refine qT 11 ?_
   try simp only[qy]
   refine qT 12 ?_
   try simp only[qy]
   refine qT 13 ?_
   try simp only[qy]
   refine qT 14 ?_
   try simp only[qy]
   refine qT 15 ?_
   try simp only[qy]
   refine qT 16 ?_
   try simp only[qy]
   refine qU 17 ?_
   try simp only[qy]
   refine qU 18 ?_
   try simp only[qy]
   refine qU 19 ?_
   try simp only[qy]
   refine qT 20 ?_
   try simp only[qy]
   refine qT 21 ?_
   try simp only[qy]
   refine qU 22 ?_
   try simp only[qy]
   refine qU 23 ?_
   try simp only[qy]
   refine qU 24 ?_
   try simp only[qy]
   refine qU 25 ?_
   try simp only[qy]
   refine qU 26 ?_
   try simp only[qy]
   refine qU 27 ?_
   try simp only[qy]
   refine qU 28 ?_
   try simp only[qy]
   refine qU 29 ?_
   try simp only[qy]
   refine qU 30 ?_
   try simp only[qy]
   refine qT 31 ?_
   try simp only[qy]
   refine qT 32 ?_
   try simp only[qy]
   refine wpAnyH_done (by kernel_rfl) ?_ _
   refine NoPanic.normal ?_
   have hS:=hHeld
   have HKz:=qh (HK.out.trans hS.1)
   clear hS hHeld
   go_wp2_with fail
   go_ret
   exact⟨by rw[HF.out];rfl,HKz.out⟩
  have t2:decide (e<(ne:Int))=true:=by simpa using g2
  by_cases g3:0≤a
  case neg=>
   have t3:decide (a≥0)=false:=by simpa using g3
   have HF:Hid (rightB t (e,a,r)=false):=qh (by rw[HR.out,decide_eq_false g3];simp)
   clear g0 g1 g2 g3
   obtain⟨y0,y1,y2,y3⟩:=bc4 HB1.out
   obtain⟨q0,q1,q2⟩:=bc3 HB2.out
   have HS2:Hid (∀W',Keep Never w2 W'→Keep Never w2 W'∧W'.cell? ⟨w.heap.size,0,none⟩=some (.slice Ae ne ce)∧W'.cell? ⟨w.heap.size,1,none⟩=some (.slice Aj nj cj)∧W'.cell? ⟨w.heap.size,2,none⟩=some (.slice Ab nb cb)∧W'.cell? ⟨w.heap.size,3,none⟩=some (.slice Ar nr cr)∧W'.cell? ⟨w.heap.size+1,0,none⟩=some (.int .i64 e)∧W'.cell? ⟨w.heap.size+1,1,none⟩=some (.int .i64 a)∧W'.cell? ⟨w.heap.size+1,2,none⟩=some (.bool r)):=qh (fun W' h=>⟨h,keepT h y0,keepT h y1,keepT h y2,keepT h y3,keepT h q0,keepT h q1,keepT h q2⟩)
   go_enter Tryz.func137, Tryz.ntmps137
   go_wp2_with fail
   clear y0 y1 y2 y3 q0 q1 q2
   refine wp_region_noPanic ?_
   refine wp_region_held_drew (S:=(fun W'=>Keep Never w2 W'∧W'.cell? ⟨w.heap.size,0,none⟩=some (.slice Ae ne ce)∧W'.cell? ⟨w.heap.size,1,none⟩=some (.slice Aj nj cj)∧W'.cell? ⟨w.heap.size,2,none⟩=some (.slice Ab nb cb)∧W'.cell? ⟨w.heap.size,3,none⟩=some (.slice Ar nr cr)∧W'.cell? ⟨w.heap.size+1,0,none⟩=some (.int .i64 e)∧W'.cell? ⟨w.heap.size+1,1,none⟩=some (.int .i64 a)∧W'.cell? ⟨w.heap.size+1,2,none⟩=some (.bool r))) (by kernel_rfl) ?_ (fun hHeld=>?_)
   ·exact HS2.out _ ((Keep.refl Never w2).drew)
   refine qT 0 ?_
   try simp only[qy]
   refine wpAnyH_ready (rs:=[1]) (by kernel_rfl) (by simp) ?_
   refine AllReadyH.cons (o:=?_) ?_ (fun K hK=>?_) AllReadyH.nil
   rotate_left 1
   ·(simp only[qz];rfl)
   go_simp
   refine(HC.out _ hHeld.1).mono ?_;rintro en w3 ⟨rfl,hk3⟩
   (try go_wp2_with fail)
   refine hK.out _ _ ?_ (fun hHeld=>?_)
   ·(try dsimp only);exact HS2.out _ (hHeld.1.trans hk3)
   clear hK K
   try simp only[qy]
   refine qT 2 ?_
   try simp only[qy]
   refine qT 3 ?_
   try simp only[qy]
   refine qT 4 ?_
   try simp only[qy]
   refine qT 5 ?_
   try simp only[qy]
   refine qT 6 ?_
   try simp only[qy]
   refine qT 7 ?_
   try simp only[qy]
   refine qT 8 ?_
   try simp only[qy]
   refine qT 9 ?_
   try simp only[qy]
   refine qT 10 ?_
   try simp only[qy]
   refine qT 11 ?_
   try simp only[qy]
   refine qT 12 ?_
   try simp only[qy]
   refine qT 13 ?_
   try simp only[qy]
   refine qT 14 ?_
   try simp only[qy]
   refine qT 15 ?_
   try simp only[qy]
   refine qT 16 ?_
   try simp only[qy]
   refine qT 17 ?_
   try simp only[qy]
   refine qT 18 ?_
   try simp only[qy]
   refine qT 19 ?_
   try simp only[qy]
   refine qT 20 ?_
   try simp only[qy]
   refine qT 21 ?_
   try simp only[qy]
   refine qU 22 ?_
   try simp only[qy]
   refine qU 23 ?_
   try simp only[qy]
   refine qU 24 ?_
   try simp only[qy]
   refine qU 25 ?_
   try simp only[qy]
   refine qU 26 ?_
   try simp only[qy]
   refine qU 27 ?_
   try simp only[qy]
   refine qU 28 ?_
   try simp only[qy]
   refine qU 29 ?_
   try simp only[qy]
   refine qU 30 ?_
   try simp only[qy]
   refine qT 31 ?_
   try simp only[qy]
   refine qT 32 ?_
   try simp only[qy]
   refine wpAnyH_done (by kernel_rfl) ?_ _
   refine NoPanic.normal ?_
   have hS:=hHeld
   have HKz:=qh (HK.out.trans hS.1)
   clear hS hHeld
   go_wp2_with fail
   go_ret
   exact⟨by rw[HF.out];rfl,HKz.out⟩
  have t3:decide (a≥0)=true:=by simpa using g3
  obtain⟨ad,k,v,hA,he,hk,d0,hv⟩:=HED.out w2 HK.out e g1 g2
  subst hA
  have HV:=qh hv
  rw[hv] at HR
  have hkz:(k:Int)<(ne:Int):=by omega
  have HRb:Hid (rightB t (e,a,r)=decide (a≤v)):=qh (by rw[HR.out,decide_eq_true g0,decide_eq_true g1,decide_eq_true g2,decide_eq_true g3];rfl)
  clear g0 g1 g2 g3 HED HR hv
  subst he
  by_cases g4:a≤v
  ·have t4:decide (a≤v)=true:=by simpa using g4
   have HF:Hid (rightB t (((k:Nat):Int),a,r)=true):=qh (by rw[HRb.out];exact t4)
   clear g4 HRb
   obtain⟨y0,y1,y2,y3⟩:=bc4 HB1.out
   obtain⟨q0,q1,q2⟩:=bc3 HB2.out
   have HS2:Hid (∀W',Keep Never w2 W'→Keep Never w2 W'∧W'.cell? ⟨w.heap.size,0,none⟩=some (.slice (some ad) ne ce)∧W'.cell? ⟨w.heap.size,1,none⟩=some (.slice Aj nj cj)∧W'.cell? ⟨w.heap.size,2,none⟩=some (.slice Ab nb cb)∧W'.cell? ⟨w.heap.size,3,none⟩=some (.slice Ar nr cr)∧W'.cell? ⟨w.heap.size+1,0,none⟩=some (.int .i64 ((k:Nat):Int))∧W'.cell? ⟨w.heap.size+1,1,none⟩=some (.int .i64 a)∧W'.cell? ⟨w.heap.size+1,2,none⟩=some (.bool r)∧W'.cell? (ad.add k)=some (.int .i64 v)):=qh (fun W' h=>⟨h,keepT h y0,keepT h y1,keepT h y2,keepT h y3,keepT h q0,keepT h q1,keepT h q2,keepT h d0⟩)
   go_enter Tryz.func137, Tryz.ntmps137
   go_wp2_with fail
   clear y0 y1 y2 y3 q0 q1 q2 d0
   refine wp_region_noPanic ?_
   refine wp_region_held_drew (S:=(fun W'=>Keep Never w2 W'∧W'.cell? ⟨w.heap.size,0,none⟩=some (.slice (some ad) ne ce)∧W'.cell? ⟨w.heap.size,1,none⟩=some (.slice Aj nj cj)∧W'.cell? ⟨w.heap.size,2,none⟩=some (.slice Ab nb cb)∧W'.cell? ⟨w.heap.size,3,none⟩=some (.slice Ar nr cr)∧W'.cell? ⟨w.heap.size+1,0,none⟩=some (.int .i64 ((k:Nat):Int))∧W'.cell? ⟨w.heap.size+1,1,none⟩=some (.int .i64 a)∧W'.cell? ⟨w.heap.size+1,2,none⟩=some (.bool r)∧W'.cell? (ad.add k)=some (.int .i64 v))) (by kernel_rfl) ?_ (fun hHeld=>?_)
   ·exact HS2.out _ ((Keep.refl Never w2).drew)
   refine qT 0 ?_
   try simp only[qy]
   refine wpAnyH_ready (rs:=[1]) (by kernel_rfl) (by simp) ?_
   refine AllReadyH.cons (o:=?_) ?_ (fun K hK=>?_) AllReadyH.nil
   rotate_left 1
   ·(simp only[qz];rfl)
   go_simp
   refine(HC.out _ hHeld.1).mono ?_;rintro en w3 ⟨rfl,hk3⟩
   (try go_wp2_with fail)
   refine hK.out _ _ ?_ (fun hHeld=>?_)
   ·(try dsimp only);exact HS2.out _ (hHeld.1.trans hk3)
   clear hK K
   try simp only[qy]
   refine qT 2 ?_
   try simp only[qy]
   refine qT 3 ?_
   try simp only[qy]
   refine qT 4 ?_
   try simp only[qy]
   refine qT 5 ?_
   try simp only[qy]
   refine qT 6 ?_
   try simp only[qy]
   refine qT 7 ?_
   try simp only[qy]
   refine qT 8 ?_
   try simp only[qy]
   refine qT 9 ?_
   try simp only[qy]
   refine qT 10 ?_
   try simp only[qy]
   refine qT 11 ?_
   try simp only[qy]
   refine qT 12 ?_
   try simp only[qy]
   refine qT 13 ?_
   try simp only[qy]
   refine qT 14 ?_
   try simp only[qy]
   refine qT 15 ?_
   try simp only[qy]
   refine qT 16 ?_
   try simp only[qy]
   refine qT 17 ?_
   try simp only[qy]
   refine qT 18 ?_
   try simp only[qy]
   refine qT 19 ?_
   try simp only[qy]
   refine qT 20 ?_
   try simp only[qy]
   refine qT 21 ?_
   try simp only[qy]
   refine qT 22 ?_
   try simp only[qy]
   refine qT 23 ?_
   try simp only[qy]
   refine qT 24 ?_
   try simp only[qy]
   refine qT 25 ?_
   try simp only[qy]
   refine qT 26 ?_
   try simp only[qy]
   refine qT 27 ?_
   try simp only[qy]
   refine qT 28 ?_
   try simp only[qy]
   refine qT 29 ?_
   try simp only[qy]
   refine qT 30 ?_
   try simp only[qy]
   refine qT 31 ?_
   try simp only[qy]
   refine qT 32 ?_
   try simp only[qy]
   refine wpAnyH_done (by kernel_rfl) ?_ _
   refine NoPanic.normal ?_
   have hS:=hHeld
   have HKz:=qh (HK.out.trans hS.1)
   clear hS hHeld
   go_wp2_with fail
   go_ret
   exact⟨by rw[HF.out];rfl,HKz.out⟩
  ·have t4:decide (a≤v)=false:=by simpa using g4
   have HF:Hid (rightB t (((k:Nat):Int),a,r)=false):=qh (by rw[HRb.out];exact t4)
   clear g4 HRb
   obtain⟨y0,y1,y2,y3⟩:=bc4 HB1.out
   obtain⟨q0,q1,q2⟩:=bc3 HB2.out
   have HS2:Hid (∀W',Keep Never w2 W'→Keep Never w2 W'∧W'.cell? ⟨w.heap.size,0,none⟩=some (.slice (some ad) ne ce)∧W'.cell? ⟨w.heap.size,1,none⟩=some (.slice Aj nj cj)∧W'.cell? ⟨w.heap.size,2,none⟩=some (.slice Ab nb cb)∧W'.cell? ⟨w.heap.size,3,none⟩=some (.slice Ar nr cr)∧W'.cell? ⟨w.heap.size+1,0,none⟩=some (.int .i64 ((k:Nat):Int))∧W'.cell? ⟨w.heap.size+1,1,none⟩=some (.int .i64 a)∧W'.cell? ⟨w.heap.size+1,2,none⟩=some (.bool r)∧W'.cell? (ad.add k)=some (.int .i64 v)):=qh (fun W' h=>⟨h,keepT h y0,keepT h y1,keepT h y2,keepT h y3,keepT h q0,keepT h q1,keepT h q2,keepT h d0⟩)
   go_enter Tryz.func137, Tryz.ntmps137
   go_wp2_with fail
   clear y0 y1 y2 y3 q0 q1 q2 d0
   refine wp_region_noPanic ?_
   refine wp_region_held_drew (S:=(fun W'=>Keep Never w2 W'∧W'.cell? ⟨w.heap.size,0,none⟩=some (.slice (some ad) ne ce)∧W'.cell? ⟨w.heap.size,1,none⟩=some (.slice Aj nj cj)∧W'.cell? ⟨w.heap.size,2,none⟩=some (.slice Ab nb cb)∧W'.cell? ⟨w.heap.size,3,none⟩=some (.slice Ar nr cr)∧W'.cell? ⟨w.heap.size+1,0,none⟩=some (.int .i64 ((k:Nat):Int))∧W'.cell? ⟨w.heap.size+1,1,none⟩=some (.int .i64 a)∧W'.cell? ⟨w.heap.size+1,2,none⟩=some (.bool r)∧W'.cell? (ad.add k)=some (.int .i64 v))) (by kernel_rfl) ?_ (fun hHeld=>?_)
   ·exact HS2.out _ ((Keep.refl Never w2).drew)
   refine qT 0 ?_
   try simp only[qy]
   refine wpAnyH_ready (rs:=[1]) (by kernel_rfl) (by simp) ?_
   refine AllReadyH.cons (o:=?_) ?_ (fun K hK=>?_) AllReadyH.nil
   rotate_left 1
   ·(simp only[qz];rfl)
   go_simp
   refine(HC.out _ hHeld.1).mono ?_;rintro en w3 ⟨rfl,hk3⟩
   (try go_wp2_with fail)
   refine hK.out _ _ ?_ (fun hHeld=>?_)
   ·(try dsimp only);exact HS2.out _ (hHeld.1.trans hk3)
   clear hK K
   try simp only[qy]
   refine qT 2 ?_
   try simp only[qy]
   refine qT 3 ?_
   try simp only[qy]
   refine qT 4 ?_
   try simp only[qy]
   refine qT 5 ?_
   try simp only[qy]
   refine qT 6 ?_
   try simp only[qy]
   refine qT 7 ?_
   try simp only[qy]
   refine qT 8 ?_
   try simp only[qy]
   refine qT 9 ?_
   try simp only[qy]
   refine qT 10 ?_
   try simp only[qy]
   refine qT 11 ?_
   try simp only[qy]
   refine qT 12 ?_
   try simp only[qy]
   refine qT 13 ?_
   try simp only[qy]
   refine qT 14 ?_
   try simp only[qy]
   refine qT 15 ?_
   try simp only[qy]
   refine qT 16 ?_
   try simp only[qy]
   refine qT 17 ?_
   try simp only[qy]
   refine qT 18 ?_
   try simp only[qy]
   refine qT 19 ?_
   try simp only[qy]
   refine qT 20 ?_
   try simp only[qy]
   refine qT 21 ?_
   try simp only[qy]
   refine qT 22 ?_
   try simp only[qy]
   refine qT 23 ?_
   try simp only[qy]
   refine qT 24 ?_
   try simp only[qy]
   refine qT 25 ?_
   try simp only[qy]
   refine qT 26 ?_
   try simp only[qy]
   refine qT 27 ?_
   try simp only[qy]
   refine qT 28 ?_
   try simp only[qy]
   refine qT 29 ?_
   try simp only[qy]
   refine qT 30 ?_
   try simp only[qy]
   refine qT 31 ?_
   try simp only[qy]
   refine qT 32 ?_
   try simp only[qy]
   refine wpAnyH_done (by kernel_rfl) ?_ _
   refine NoPanic.normal ?_
   have hS:=hHeld
   have HKz:=qh (HK.out.trans hS.1)
   clear hS hHeld
   go_wp2_with fail
   go_ret
   exact⟨by rw[HF.out];rfl,HKz.out⟩
theorem ps3_blk {w:World}{b t:Nat}{u0 u1 u2:Value} (h:Blk w b t #[u0,u1,u2]) (v0 v1 v2:Value):Blk (((w.setCell ⟨b,0,none⟩ v0).setCell ⟨b,1,none⟩ v1).setCell ⟨b,2,none⟩ v2) b t #[v0,v1,v2]:=by
 have:=((h.set_ 0 v0).set_ 1 v1).set_ 2 v2
 simpa using this
theorem ps3_keep {S:Nat→Prop}{w0 w:World}{b:Nat} (h:Keep S w0 w) (hb:S b∨w0.heap.size≤b) (v0 v1 v2:Value):Keep S w0 (((w.setCell ⟨b,0,none⟩ v0).setCell ⟨b,1,none⟩ v1).setCell ⟨b,2,none⟩ v2):=
  ((h.set_ (p:=⟨b,0,none⟩) hb v0).set_ (p:=⟨b,1,none⟩) hb v1).set_ (p:=⟨b,2,none⟩) hb v2
set_option maxRecDepth 100000 in
theorem ps_results {fn:Func}{r:Nat} (h:fn.results=#[.cell r 71]) {w:World}{b:Nat}{v0 v1 v2:Value} (hb:Blk w b 71 #[v0,v1,v2]) (tmps:Array Value) (ht:tmps.getD r undef=.pointer (some ⟨b,0,none⟩)) :
    (results fn tmps).run Tryz.prog w=.ok (.agg #[v0,v1,v2]) w:=by
  have q0:w.cell? ⟨b,0,none⟩=some v0:=hb.cell 0
  have q1:w.cell? ⟨b,1,none⟩=some v1:=hb.cell 1
  have q2:w.cell? ⟨b,2,none⟩=some v2:=hb.cell 2
  have ht':tmps[r]?.getD undef=.pointer (some ⟨b,0,none⟩):=by rw[←Array.getD_eq_getD_getElem?];exact ht
  simp[results,h,ht',go_sem,q0,q1,q2]
set_option maxRecDepth 100000 in
theorem ps_results2 {fn:Func}{r s:Nat} (h:fn.results=#[.cell r 71, .tmp s]) {w:World}{b:Nat}{v0 v1 v2:Value} (hb:Blk w b 71 #[v0,v1,v2]) (tmps:Array Value) (ht:tmps.getD r undef=.pointer (some ⟨b,0,none⟩)) :
    (results fn tmps).run Tryz.prog w=.ok (.tuple #[.agg #[v0,v1,v2],tmps.getD s undef]) w:=by
  have q0:w.cell? ⟨b,0,none⟩=some v0:=hb.cell 0
  have q1:w.cell? ⟨b,1,none⟩=some v1:=hb.cell 1
  have q2:w.cell? ⟨b,2,none⟩=some v2:=hb.cell 2
  have ht':tmps[r]?.getD undef=.pointer (some ⟨b,0,none⟩):=by rw[←Array.getD_eq_getD_getElem?];exact ht
  simp[results,h,ht',go_sem,q0,q1,q2]
def PsRet (p:Ps) (w:World) (e:Ending) (w':World):Prop:=e=.returned (psV p)∧Keep Never w w'
def PsRet2 (p:Ps×Int) (w:World) (e:Ending) (w':World):Prop:=e=.returned (.tuple #[psV p.1,.int .i64 p.2])∧Keep Never w w'
set_option maxHeartbeats 4000000 in
set_option maxRecDepth 100000 in
theorem pover_any (x:TA) (t:Tp) (B:Nat) (e:Int) (r:Bool) (n:Int) (w:World) (h:TpAt w B x t) (h0:0≤e) (h1:e<(x.ne:Int)) (hv1:0≤edgeM t e) (hv2:edgeM t e≤1000000) (hn1:0≤n) (hn2:n≤4398046511104) :
    Calls Tryz.prog 139 #[.agg x.cs,.agg #[.int .i64 e,.bool r],.int .i64 n] w (PsRet (overP t (e,r) n) w):=by
  obtain⟨ad,k,v,hA,he,hk,d0,hv⟩:=edge_at h h0 h1
  have HD:Hid (∀W,Keep Never w W→W.cell? (ad.add k)=some (.int .i64 v)):=qh (fun W hk=>keepT hk d0)
  obtain⟨Ae,ne,ce,Aj,nj,cj,Ab,nb,cb,Ar,nr,cr⟩:=x
  simp only[TA.cs] at hA hk ⊢
  subst hA he
  have hkz:(k:Int)<(ne:Int):=by omega
  rw[hv] at hv1 hv2
  have hw:IntKind.i64.wrap (v - n)=v - n:=IntWalk.i64_in _ (by omega)
  cases r with
  | true=>
   have HF:Hid (overP t (((k:Nat):Int),true) n=(((k:Nat):Int),v - n,true)):=qh (by unfold overP;rw[if_pos rfl];simp only;rw[hv])
   clear h d0 hv h0 h1 hv1 hv2 hn1 hn2
   obtain⟨w1,hw1⟩:∃V:World,w.alloc (.cells #[.slice (some ad) ne ce,.slice Aj nj cj,.slice Ab nb cb,.slice Ar nr cr] 27)=V:=⟨_,rfl⟩
   have zw1:w1.heap.size=w.heap.size+1:=by rw[←hw1];simp
   have kw1:Keep Never w w1:=by rw[←hw1];exact(Keep.refl _ _).alloc _
   have bw1:=Blk.new w 27 #[.slice (some ad) ne ce,.slice Aj nj cj,.slice Ab nb cb,.slice Ar nr cr]
   rw[hw1] at bw1
   obtain⟨w2,hw2⟩:∃V:World,w1.alloc (.cells #[.int .i64 ((k:Nat):Int),.bool true] 30)=V:=⟨_,rfl⟩
   have zw2:w2.heap.size=w.heap.size+1+1:=by rw[←hw2];simp[zw1]
   have kw2:Keep Never w1 w2:=by rw[←hw2];exact(Keep.refl _ _).alloc _
   have bw2:=Blk.new w1 30 #[.int .i64 ((k:Nat):Int),.bool true]
   rw[hw2,zw1] at bw2
   obtain⟨w3,hw3⟩:∃V:World,w2.alloc (.cells #[.int .i64 0,.int .i64 0,.bool false] 71)=V:=⟨_,rfl⟩
   have kw3:Keep Never w2 w3:=by rw[←hw3];exact(Keep.refl _ _).alloc _
   have bw3:=Blk.new w2 71 #[.int .i64 0,.int .i64 0,.bool false]
   rw[hw3,zw2] at bw3
   have HB1:=qh ((bw1.keep kw2 (fun h=>h)).keep kw3 (fun h=>h))
   have HB2:=qh (bw2.keep kw3 (fun h=>h))
   have HB3:=qh bw3
   have HK:=qh ((kw1.trans kw2).trans kw3)
   clear kw1 kw2 kw3 bw1 bw2 bw3
   obtain⟨y0,y1,y2,y3⟩:=bc4 HB1.out
   obtain⟨q0,q1⟩:=bc2 HB2.out
   have d0:=HD.out w3 HK.out
   go_enter Tryz.func139, Tryz.ntmps139
   obtain⟨z0,z1,z2⟩:=bc3 HB3.out
   have zf0:=HB3.out.frozen 0
   have zf1:=HB3.out.frozen 1
   have zf2:=HB3.out.frozen 2
   go_wp2_with fail
   (try simp only[Exit.inBlock,Exit.then])
   have hp:=ps3_keep HK.out (b:=w.heap.size+1+1) (.inr (by omega)) (.int .i64 ((k:Nat):Int)) (.int .i64 (v - n)) (.bool true)
   refine bodyPost_ret (ps_results (fn:=Tryz.f139) (r:=6) rfl (ps3_blk HB3.out (.int .i64 ((k:Nat):Int)) (.int .i64 (v - n)) (.bool true)) _ rfl) rfl ⟨by rw[HF.out],hp⟩
  | false=>
   have HF:Hid (overP t (((k:Nat):Int),false) n=(((k:Nat):Int),n,false)):=qh (by unfold overP;rw[if_neg (by simp)])
   clear h d0 hv h0 h1 hv1 hv2 hn1 hn2
   obtain⟨w1,hw1⟩:∃V:World,w.alloc (.cells #[.slice (some ad) ne ce,.slice Aj nj cj,.slice Ab nb cb,.slice Ar nr cr] 27)=V:=⟨_,rfl⟩
   have zw1:w1.heap.size=w.heap.size+1:=by rw[←hw1];simp
   have kw1:Keep Never w w1:=by rw[←hw1];exact(Keep.refl _ _).alloc _
   have bw1:=Blk.new w 27 #[.slice (some ad) ne ce,.slice Aj nj cj,.slice Ab nb cb,.slice Ar nr cr]
   rw[hw1] at bw1
   obtain⟨w2,hw2⟩:∃V:World,w1.alloc (.cells #[.int .i64 ((k:Nat):Int),.bool false] 30)=V:=⟨_,rfl⟩
   have zw2:w2.heap.size=w.heap.size+1+1:=by rw[←hw2];simp[zw1]
   have kw2:Keep Never w1 w2:=by rw[←hw2];exact(Keep.refl _ _).alloc _
   have bw2:=Blk.new w1 30 #[.int .i64 ((k:Nat):Int),.bool false]
   rw[hw2,zw1] at bw2
   obtain⟨w3,hw3⟩:∃V:World,w2.alloc (.cells #[.int .i64 0,.int .i64 0,.bool false] 71)=V:=⟨_,rfl⟩
   have kw3:Keep Never w2 w3:=by rw[←hw3];exact(Keep.refl _ _).alloc _
   have bw3:=Blk.new w2 71 #[.int .i64 0,.int .i64 0,.bool false]
   rw[hw3,zw2] at bw3
   have HB1:=qh ((bw1.keep kw2 (fun h=>h)).keep kw3 (fun h=>h))
   have HB2:=qh (bw2.keep kw3 (fun h=>h))
   have HB3:=qh bw3
   have HK:=qh ((kw1.trans kw2).trans kw3)
   clear kw1 kw2 kw3 bw1 bw2 bw3
   obtain⟨y0,y1,y2,y3⟩:=bc4 HB1.out
   obtain⟨q0,q1⟩:=bc2 HB2.out
   have d0:=HD.out w3 HK.out
   go_enter Tryz.func139, Tryz.ntmps139
   obtain⟨z0,z1,z2⟩:=bc3 HB3.out
   have zf0:=HB3.out.frozen 0
   have zf1:=HB3.out.frozen 1
   have zf2:=HB3.out.frozen 2
   go_wp2_with fail
   (try simp only[Exit.inBlock,Exit.then])
   have hp:=ps3_keep HK.out (b:=w.heap.size+1+1) (.inr (by omega)) (.int .i64 ((k:Nat):Int)) (.int .i64 n) (.bool false)
   refine bodyPost_ret (ps_results (fn:=Tryz.f139) (r:=6) rfl (ps3_blk HB3.out (.int .i64 ((k:Nat):Int)) (.int .i64 n) (.bool false)) _ rfl) rfl ⟨by rw[HF.out],hp⟩
set_option maxHeartbeats 4000000 in
set_option maxRecDepth 100000 in
theorem palong_any (x:TA) (t:Tp) (B:Nat) (e a:Int) (r:Bool) (w:World) (h:TpAt w B x t) (h0:0≤e) (h1:e<(x.ne:Int)) (hv1:0≤edgeM t e) (hv2:edgeM t e≤1000000) (ha1:0≤a) (ha2:a≤1000000) :
    Calls Tryz.prog 138 #[.agg x.cs,.agg #[.int .i64 e,.int .i64 a,.bool r]] w fun en w'=>en=.returned (.int .i64 (alongP t (e,a,r)))∧Keep Never w w':=by
  obtain⟨ad,k,v,hA,he,hk,d0,hv⟩:=edge_at h h0 h1
  have HD:Hid (∀W,Keep Never w W→W.cell? (ad.add k)=some (.int .i64 v)):=qh (fun W hk=>keepT hk d0)
  obtain⟨Ae,ne,ce,Aj,nj,cj,Ab,nb,cb,Ar,nr,cr⟩:=x
  simp only[TA.cs] at hA hk ⊢
  subst hA he
  have hkz:(k:Int)<(ne:Int):=by omega
  rw[hv] at hv1 hv2
  have hw:IntKind.i64.wrap (v - a)=v - a:=IntWalk.i64_in _ (by omega)
  cases r with
  | true=>
   have HF:Hid (alongP t (((k:Nat):Int),a,true)=v - a):=qh (by unfold alongP;rw[if_pos rfl];simp only;rw[hv])
   clear h d0 hv h0 h1 hv1 hv2 ha1 ha2
   obtain⟨w1,hw1⟩:∃V:World,w.alloc (.cells #[.slice (some ad) ne ce,.slice Aj nj cj,.slice Ab nb cb,.slice Ar nr cr] 27)=V:=⟨_,rfl⟩
   have zw1:w1.heap.size=w.heap.size+1:=by rw[←hw1];simp
   have kw1:Keep Never w w1:=by rw[←hw1];exact(Keep.refl _ _).alloc _
   have bw1:=Blk.new w 27 #[.slice (some ad) ne ce,.slice Aj nj cj,.slice Ab nb cb,.slice Ar nr cr]
   rw[hw1] at bw1
   obtain⟨w2,hw2⟩:∃V:World,w1.alloc (.cells #[.int .i64 ((k:Nat):Int),.int .i64 a,.bool true] 71)=V:=⟨_,rfl⟩
   have kw2:Keep Never w1 w2:=by rw[←hw2];exact(Keep.refl _ _).alloc _
   have bw2:=Blk.new w1 71 #[.int .i64 ((k:Nat):Int),.int .i64 a,.bool true]
   rw[hw2,zw1] at bw2
   have HB1:=qh (bw1.keep kw2 (fun h=>h))
   have HB2:=qh bw2
   have HK:=qh (kw1.trans kw2)
   clear kw1 kw2 bw1 bw2
   obtain⟨y0,y1,y2,y3⟩:=bc4 HB1.out
   obtain⟨q0,q1,q2⟩:=bc3 HB2.out
   have d0:=HD.out w2 HK.out
   go_enter Tryz.func138, Tryz.ntmps138
   go_wp2_with fail
   go_quiet (fail)
   go_wp2_with fail
   go_ret
   exact⟨by rw[HF.out];rfl,HK.out.drewN _⟩
  | false=>
   have HF:Hid (alongP t (((k:Nat):Int),a,false)=a):=qh (by unfold alongP;rw[if_neg (by simp)])
   clear h d0 hv h0 h1 hv1 hv2 ha1 ha2
   obtain⟨w1,hw1⟩:∃V:World,w.alloc (.cells #[.slice (some ad) ne ce,.slice Aj nj cj,.slice Ab nb cb,.slice Ar nr cr] 27)=V:=⟨_,rfl⟩
   have zw1:w1.heap.size=w.heap.size+1:=by rw[←hw1];simp
   have kw1:Keep Never w w1:=by rw[←hw1];exact(Keep.refl _ _).alloc _
   have bw1:=Blk.new w 27 #[.slice (some ad) ne ce,.slice Aj nj cj,.slice Ab nb cb,.slice Ar nr cr]
   rw[hw1] at bw1
   obtain⟨w2,hw2⟩:∃V:World,w1.alloc (.cells #[.int .i64 ((k:Nat):Int),.int .i64 a,.bool false] 71)=V:=⟨_,rfl⟩
   have kw2:Keep Never w1 w2:=by rw[←hw2];exact(Keep.refl _ _).alloc _
   have bw2:=Blk.new w1 71 #[.int .i64 ((k:Nat):Int),.int .i64 a,.bool false]
   rw[hw2,zw1] at bw2
   have HB1:=qh (bw1.keep kw2 (fun h=>h))
   have HB2:=qh bw2
   have HK:=qh (kw1.trans kw2)
   clear kw1 kw2 bw1 bw2
   obtain⟨y0,y1,y2,y3⟩:=bc4 HB1.out
   obtain⟨q0,q1,q2⟩:=bc3 HB2.out
   have d0:=HD.out w2 HK.out
   go_enter Tryz.func138, Tryz.ntmps138
   go_wp2_with fail
   go_ret
   exact⟨by rw[HF.out];rfl,HK.out⟩
end Go.Proofs.YtpapiojicbbheaaGreatDoor
