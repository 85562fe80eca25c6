/- Texts of this claim, together: PmA, PmB, PmC, PmD, PmX, PlnM, PmY. -/
import Derived.Test.YtpapiojicbbheaaGreatDoorTd04
import Derived.Test.YtpapiojicbbheaaGreatDoorTd02
import Derived.Deep.LoopGhost
import Derived.Test.YtpapiojicbbheaaGreatDoorTd05
import Derived.Test.YtpapiojicbbheaaGreatDoorTd03
namespace Go.Proofs.YtpapiojicbbheaaGreatDoor
open Go.RowKit
def idxI {α:Type} [BEq α] (l:List α) (v:α):Int:=if l.contains v=true then ((l.idxOf v:Nat):Int) else -1
theorem idxI_at {α:Type} [BEq α] [LawfulBEq α] {l:List α}{v:α}{k:Nat} (h:v∈l∧l.idxOf v=k):idxI l v=(k:Int):=by unfold idxI;rw[if_pos (by simpa using h.1),h.2]
theorem idxI_no {α:Type} [BEq α] [LawfulBEq α] {l:List α}{v:α} (h:v∉l):idxI l v=-1:=by unfold idxI;rw[if_neg (by simpa using h)]
def sameLk (a b c d e f:Int):Bool:=decide (((a,b,c):Lk)=(d,e,f))
theorem run_eq_lk17 (w:World) (a b c d e f:Int):(binOp .eql 62 (.agg #[.int .i64 a,.int .i64 b,.int .i64 c]) (.agg #[.int .i64 d,.int .i64 e,.int .i64 f])).run Tryz.prog w=.ok (.bool (sameLk a b c d e f)) w:=by
 by_cases h1:a=d
 ·have t1:(a==d)=true:=by simpa using h1
  by_cases h2:b=e
  ·have t2:(b==e)=true:=by simpa using h2
   by_cases h3:c=f
   ·have t3:(c==f)=true:=by simpa using h3
    have hd:sameLk a b c d e f=true:=decide_eq_true (by rw[h1,h2,h3])
    rw[hd]
    clear h1 h2 h3 hd
    go_simp
   ·have t3:(c==f)=false:=by simpa using h3
    have hd:sameLk a b c d e f=false:=decide_eq_false (by simp[h3])
    rw[hd]
    clear h1 h2 h3 hd
    go_simp
  ·have t2:(b==e)=false:=by simpa using h2
   have hd:sameLk a b c d e f=false:=decide_eq_false (by simp[h2])
   rw[hd]
   clear h1 h2 hd
   go_simp
 ·have t1:(a==d)=false:=by simpa using h1
  have hd:sameLk a b c d e f=false:=decide_eq_false (by simp[h1])
  rw[hd]
  clear h1 hd
  go_simp
theorem idxOf17 {α:Type} [BEq α] [LawfulBEq α]:∀{l:List α}{k:Nat}{s:α},l[k]?=some s→s∉l.take k→l.idxOf s=k
  | [],k,s,h,_=>by simp at h
  | y::l,0,s,h,_=>by simp at h;subst h;simp
  | y::l,k+1,s,h,hn=>by
   simp only[List.getElem?_cons_succ] at h
   rw[List.take_succ_cons,List.mem_cons,not_or] at hn
   rw[List.idxOf_cons,idxOf17 h hn.2]
   have:(y==s)=false:=by simpa using fun e:y=s=>hn.1 e.symm
   rw[this];rfl
set_option maxHeartbeats 2000000 in
set_option maxRecDepth 100000 in
theorem sindex_any (A:Option Addr) (n c B:Nat) (l:List Stp) (v:Stp) (w:World) (hr:Rd w B 2 A n (stpCells l)) (hn:n≤1000000000) :
    Calls Tryz.prog 58 #[.slice A n c,.agg #[.int .i64 v.1,.bool v.2]] w fun e w'=>e=.returned (.int .i64 (idxI l v))∧Keep Never w w':=by
  have qe:=run_eq_stp
  have HR:=qh hr
  have HLn:Hid (l.length=n):=qh hr.stp_len
  clear hr
  obtain⟨v1,v2⟩:=v
  simp only
  obtain⟨w1,hw1⟩:∃V:World,w.alloc (.cells #[.int .i64 v1,.bool v2] 30)=V:=⟨_,rfl⟩
  have kw1:Keep Never w w1:=by rw[←hw1];exact(Keep.refl _ _).alloc _
  have bw1:=Blk.new w 30 #[.int .i64 v1,.bool v2]
  rw[hw1] at bw1
  have HB1:=qh bw1
  have HK:=qh kw1
  clear kw1 bw1
  go_enter Tryz.func58, Tryz.ntmps58
  go_wp2_with fail
  clear hw1
  go_loopw [5,8] (fun _ i wr=>∃k:Nat,k≤n∧i=.int .i64 k∧Hid (Keep Never w1 wr∧((v1,v2):Stp)∉l.take k)) (fun _ i _=>n - (intOf i).toNat)
  case atStart=>exact⟨0,by omega,rfl,qh ⟨Keep.refl _ _,by simp⟩⟩
  case round=>
   obtain⟨k,hk,rfl,HH⟩:=hrel
   by_cases h0:k<n
   ·have hkz:(k:Int)<(n:Int):=by omega
    obtain⟨ad,s,hA,hab,hs,c0,c1⟩:=(HR.out.keep (HK.out.trans HH.out.1) (fun _ h=>h.elim)).stp h0
    subst hA
    obtain⟨s1,s2⟩:=s
    simp only at c0 c1
    have HBr:=qh (HB1.out.keep HH.out.1 (fun h=>h))
    obtain⟨y0,y1⟩:=bc2 HBr.out
    have HT:Hid (l.take (k+1)=l.take k++[((s1,s2):Stp)]):=qh (by
     obtain⟨h2,h3⟩:=List.getElem?_eq_some_iff.1 hs
     rw[List.take_succ_eq_append_getElem h2,h3])
    have HSk:=qh hs
    clear hs hab
    by_cases g:((v1,v2):Stp)=(s1,s2)
    ·have tq:sameS v1 v2 s1 s2=true:=decide_eq_true g
     have HF:Hid (((v1,v2):Stp)∈l∧l.idxOf ((v1,v2):Stp)=k):=qh ⟨by rw[g];exact List.mem_of_getElem? HSk.out,idxOf17 (by rw[HSk.out,g]) HH.out.2⟩
     clear g
     go_wp2_with fail
     go_quiet (fail)
     go_wp2_with fail
     go_ret
     exact⟨by rw[idxI_at HF.out];rfl,(HK.out.trans HH.out.1).drewN _⟩
    ·have tq:sameS v1 v2 s1 s2=false:=decide_eq_false g
     have HE:Hid (((v1,v2):Stp)∉l.take (k+1)):=qh (by
      rw[HT.out,List.mem_append,List.mem_singleton]
      rintro(h | h)
      ·exact HH.out.2 h
      ·exact g h)
     clear g
     go_wp2_with fail
     go_quiet (fail)
     go_wp2_with fail
     refine⟨⟨k+1,by omega,by go_num,qh ⟨HH.out.1.drewN _,HE.out⟩⟩,?_⟩
     simp[intOf];try omega
   ·obtain rfl:k=n:=by omega
    have hkz:¬(k:Int)<(k:Int):=by omega
    have HE:Hid (((v1,v2):Stp)∉l):=qh (by have:=HH.out.2;rwa [List.take_of_length_le (by rw[HLn.out];exact Nat.le_refl _)] at this)
    go_wp2_with fail
    go_ret
    exact⟨by rw[idxI_no HE.out];rfl,HK.out.trans HH.out.1⟩
set_option maxHeartbeats 2000000 in
set_option maxRecDepth 100000 in
theorem scontains_any (A:Option Addr) (n c B:Nat) (l:List Stp) (v:Stp) (w:World) (hr:Rd w B 2 A n (stpCells l)) (hn:n≤1000000000) :
    Calls Tryz.prog 43 #[.slice A n c,.agg #[.int .i64 v.1,.bool v.2]] w fun e w'=>e=.returned (.bool (decide (v∈l)))∧Keep Never w w':=by
  have HX:=qh (fun (W:World) (hk:Keep Never w W)=>sindex_any A n c B l v W (hr.keep hk (fun _ h=>h.elim)) hn)
  clear hr
  obtain⟨v1,v2⟩:=v
  simp only at HX ⊢
  obtain⟨w1,hw1⟩:∃V:World,w.alloc (.cells #[.int .i64 v1,.bool v2] 30)=V:=⟨_,rfl⟩
  have kw1:Keep Never w w1:=by rw[←hw1];exact(Keep.refl _ _).alloc _
  have bw1:=Blk.new w 30 #[.int .i64 v1,.bool v2]
  rw[hw1] at bw1
  have HB1:=qh bw1
  have HK:=qh kw1
  obtain⟨y0,y1⟩:=bc2 HB1.out
  clear kw1 bw1
  go_enter Tryz.func43, Tryz.ntmps43
  go_wp2_with fail
  clear hw1 y0 y1
  refine(HX.out w1 HK.out).mono ?_
  rintro en w2 ⟨rfl,hk⟩
  have HK2:=qtr HK hk
  clear hk HX
  obtain⟨z,hz⟩:∃z,idxI l ((v1,v2):Stp)=z:=⟨_,rfl⟩
  rw[hz]
  by_cases g:((v1,v2):Stp)∈l
  ·have t0:decide (z≥0)=true:=by rw[←hz,idxI_at ⟨g,rfl⟩];simp
   have HD:Hid (decide (((v1,v2):Stp)∈l)=true):=qh (decide_eq_true g)
   clear g hz
   go_wp2_with fail
   go_ret
   exact⟨by rw[HD.out];rfl,HK2.out⟩
  ·have t0:decide (z≥0)=false:=by rw[←hz,idxI_no g];rfl
   have HD:Hid (decide (((v1,v2):Stp)∈l)=false):=qh (decide_eq_false g)
   clear g hz
   go_wp2_with fail
   go_ret
   exact⟨by rw[HD.out];rfl,HK2.out⟩
set_option maxHeartbeats 2000000 in
set_option maxRecDepth 100000 in
theorem kindex_any (A:Option Addr) (n c B:Nat) (l:List Lk) (v:Lk) (w:World) (hr:Rd w B 3 A n (spCells l)) (hn:n≤1000000000) :
    Calls Tryz.prog 105 #[.slice A n c,.agg #[.int .i64 v.1,.int .i64 v.2.1,.int .i64 v.2.2]] w fun e w'=>e=.returned (.int .i64 (idxI l v))∧Keep Never w w':=by
  have qe:=run_eq_lk17
  have HR:=qh hr
  have HLn:Hid (l.length=n):=qh hr.sp_len
  clear hr
  obtain⟨v1,v2,v3⟩:=v
  simp only
  obtain⟨w1,hw1⟩:∃V:World,w.alloc (.cells #[.int .i64 v1,.int .i64 v2,.int .i64 v3] 62)=V:=⟨_,rfl⟩
  have kw1:Keep Never w w1:=by rw[←hw1];exact(Keep.refl _ _).alloc _
  have bw1:=Blk.new w 62 #[.int .i64 v1,.int .i64 v2,.int .i64 v3]
  rw[hw1] at bw1
  have HB1:=qh bw1
  have HK:=qh kw1
  clear kw1 bw1
  go_enter Tryz.func105, Tryz.ntmps105
  go_wp2_with fail
  clear hw1
  go_loopw [5,8] (fun _ i wr=>∃k:Nat,k≤n∧i=.int .i64 k∧Hid (Keep Never w1 wr∧((v1,v2,v3):Lk)∉l.take k)) (fun _ i _=>n - (intOf i).toNat)
  case atStart=>exact⟨0,by omega,rfl,qh ⟨Keep.refl _ _,by simp⟩⟩
  case round=>
   obtain⟨k,hk,rfl,HH⟩:=hrel
   by_cases h0:k<n
   ·have hkz:(k:Int)<(n:Int):=by omega
    obtain⟨ad,s,hA,hab,hs,c0,c1,c2⟩:=(HR.out.keep (HK.out.trans HH.out.1) (fun _ h=>h.elim)).sp h0
    subst hA
    obtain⟨s1,s2,s3⟩:=s
    simp only at c0 c1 c2
    have HBr:=qh (HB1.out.keep HH.out.1 (fun h=>h))
    obtain⟨y0,y1,y2⟩:=bc3 HBr.out
    have HT:Hid (l.take (k+1)=l.take k++[((s1,s2,s3):Lk)]):=qh (by
     obtain⟨h2,h3⟩:=List.getElem?_eq_some_iff.1 hs
     rw[List.take_succ_eq_append_getElem h2,h3])
    have HSk:=qh hs
    clear hs hab
    by_cases g:((v1,v2,v3):Lk)=(s1,s2,s3)
    ·have tq:sameLk v1 v2 v3 s1 s2 s3=true:=decide_eq_true g
     have HF:Hid (((v1,v2,v3):Lk)∈l∧l.idxOf ((v1,v2,v3):Lk)=k):=qh ⟨by rw[g];exact List.mem_of_getElem? HSk.out,idxOf17 (by rw[HSk.out,g]) HH.out.2⟩
     clear g
     go_wp2_with fail
     go_quiet (fail)
     go_wp2_with fail
     go_ret
     exact⟨by rw[idxI_at HF.out];rfl,(HK.out.trans HH.out.1).drewN _⟩
    ·have tq:sameLk v1 v2 v3 s1 s2 s3=false:=decide_eq_false g
     have HE:Hid (((v1,v2,v3):Lk)∉l.take (k+1)):=qh (by
      rw[HT.out,List.mem_append,List.mem_singleton]
      rintro(h | h)
      ·exact HH.out.2 h
      ·exact g h)
     clear g
     go_wp2_with fail
     go_quiet (fail)
     go_wp2_with fail
     refine⟨⟨k+1,by omega,by go_num,qh ⟨HH.out.1.drewN _,HE.out⟩⟩,?_⟩
     simp[intOf];try omega
   ·obtain rfl:k=n:=by omega
    have hkz:¬(k:Int)<(k:Int):=by omega
    have HE:Hid (((v1,v2,v3):Lk)∉l):=qh (by have:=HH.out.2;rwa [List.take_of_length_le (by rw[HLn.out];exact Nat.le_refl _)] at this)
    go_wp2_with fail
    go_ret
    exact⟨by rw[idxI_no HE.out];rfl,HK.out.trans HH.out.1⟩
set_option maxHeartbeats 2000000 in
set_option maxRecDepth 100000 in
theorem kcontains_any (A:Option Addr) (n c B:Nat) (l:List Lk) (v:Lk) (w:World) (hr:Rd w B 3 A n (spCells l)) (hn:n≤1000000000) :
    Calls Tryz.prog 41 #[.slice A n c,.agg #[.int .i64 v.1,.int .i64 v.2.1,.int .i64 v.2.2]] w fun e w'=>e=.returned (.bool (decide (v∈l)))∧Keep Never w w':=by
  have HX:=qh (fun (W:World) (hk:Keep Never w W)=>kindex_any A n c B l v W (hr.keep hk (fun _ h=>h.elim)) hn)
  clear hr
  obtain⟨v1,v2,v3⟩:=v
  simp only at HX ⊢
  obtain⟨w1,hw1⟩:∃V:World,w.alloc (.cells #[.int .i64 v1,.int .i64 v2,.int .i64 v3] 62)=V:=⟨_,rfl⟩
  have kw1:Keep Never w w1:=by rw[←hw1];exact(Keep.refl _ _).alloc _
  have bw1:=Blk.new w 62 #[.int .i64 v1,.int .i64 v2,.int .i64 v3]
  rw[hw1] at bw1
  have HB1:=qh bw1
  have HK:=qh kw1
  obtain⟨y0,y1,y2⟩:=bc3 HB1.out
  clear kw1 bw1
  go_enter Tryz.func41, Tryz.ntmps41
  go_wp2_with fail
  clear hw1 y0 y1 y2
  refine(HX.out w1 HK.out).mono ?_
  rintro en w2 ⟨rfl,hk⟩
  have HK2:=qtr HK hk
  clear hk HX
  obtain⟨z,hz⟩:∃z,idxI l ((v1,v2,v3):Lk)=z:=⟨_,rfl⟩
  rw[hz]
  by_cases g:((v1,v2,v3):Lk)∈l
  ·have t0:decide (z≥0)=true:=by rw[←hz,idxI_at ⟨g,rfl⟩];simp
   have HD:Hid (decide (((v1,v2,v3):Lk)∈l)=true):=qh (decide_eq_true g)
   clear g hz
   go_wp2_with fail
   go_ret
   exact⟨by rw[HD.out];rfl,HK2.out⟩
  ·have t0:decide (z≥0)=false:=by rw[←hz,idxI_no g];rfl
   have HD:Hid (decide (((v1,v2,v3):Lk)∈l)=false):=qh (decide_eq_false g)
   clear g hz
   go_wp2_with fail
   go_ret
   exact⟨by rw[HD.out];rfl,HK2.out⟩
end Go.Proofs.YtpapiojicbbheaaGreatDoor

namespace Go.Proofs.YtpapiojicbbheaaGreatDoor
open Go.RowKit
abbrev rtA (r:Rt) (A:Option Addr) (n c:Nat):Value:=.agg #[.int .i64 r.1,.slice A n c,.int .i64 r.2.2.1,.int .i64 r.2.2.2]
theorem after_len (t:Tp) (s:Stp):(afterM t s).length≤2*t.1.length:=by
 unfold afterM
 split
 ·exact listM_len _ _ _
 ·simp
theorem has_dec (s:Stp) (r:Rt):hasB s r=decide (s∈r.2.1):=by unfold hasB;rw[List.contains_eq_mem]
set_option maxHeartbeats 4000000 in
set_option maxRecDepth 100000 in
theorem ch3_any (r:Rt) (A:Option Addr) (n c B:Nat) (s:Stp) (g:Nat) (w:World) (hr:Rd w B 2 A n (stpCells r.2.1)) (hn:n≤100000000) (h0:w.cell? ⟨g,0,none⟩=some (.int .i64 s.1)) (h1:w.cell? ⟨g,1,none⟩=some (.bool s.2)) :
    Calls Tryz.prog 47 #[rtA r A n c,.pointer (some ⟨g,0,none⟩)] w fun e w'=>e=.returned (.bool (hasB s r))∧Keep Never w w':=by
  rw[has_dec]
  obtain⟨r1,rp,r3,r4⟩:=r
  obtain⟨s1,s2⟩:=s
  simp only at hr h0 h1 ⊢
  have HX:=qh (fun (W:World) (hk:Keep Never w W)=>scontains_any A n c B rp (s1,s2) W (hr.keep hk (fun _ h=>h.elim)) (by omega))
  clear hr
  obtain⟨w1,hw1⟩:∃V:World,w.alloc (.cells #[.int .i64 r1,.slice A n c,.int .i64 r3,.int .i64 r4] 64)=V:=⟨_,rfl⟩
  have kw1:Keep Never w w1:=by rw[←hw1];exact(Keep.refl _ _).alloc _
  have bw1:=Blk.new w 64 #[.int .i64 r1,.slice A n c,.int .i64 r3,.int .i64 r4]
  rw[hw1] at bw1
  have HB1:=qh bw1
  have HK:=qh kw1
  obtain⟨y0,y1,y2,y3⟩:=bc4 HB1.out
  clear kw1 bw1
  have d0:=keepT HK.out h0
  have d1:=keepT HK.out h1
  clear h0 h1
  go_enter Tryz.func47, Tryz.ntmps47
  go_wp2_with fail
  refine(HX.out w1 HK.out).mono ?_
  rintro en w2 ⟨rfl,hk⟩
  have HK2:=qtr HK hk
  clear hk HX y0 y1 y2 y3 d0 d1 hw1
  go_wp2_with fail
  go_ret
  exact⟨rfl,HK2.out⟩
set_option maxHeartbeats 4000000 in
set_option maxRecDepth 100000 in
theorem ch21_any (a:Int) (r:Bool) (A:Option Addr) (n c B:Nat) (l:List Stp) (g:Nat) (w:World) (hr:Rd w B 2 A n (stpCells l)) (hn:n≤1000000) (h0:w.cell? ⟨g,0,none⟩=some (.slice A n c)) :
    Calls Tryz.prog 45 #[.agg #[.int .i64 a,.bool r],.pointer (some ⟨g,0,none⟩)] w fun e w'=>e=.returned (.bool (overB l a))∧Keep Never w w':=by
  have HX:=qh (fun (W:World) (hk:Keep Never w W)=>pover17_any A n c B l a W (hr.keep hk (fun _ h=>h.elim)) hn)
  clear hr
  obtain⟨w1,hw1⟩:∃V:World,w.alloc (.cells #[.int .i64 a,.bool r] 30)=V:=⟨_,rfl⟩
  have kw1:Keep Never w w1:=by rw[←hw1];exact(Keep.refl _ _).alloc _
  have bw1:=Blk.new w 30 #[.int .i64 a,.bool r]
  rw[hw1] at bw1
  have HB1:=qh bw1
  have HK:=qh kw1
  obtain⟨y0,y1⟩:=bc2 HB1.out
  clear kw1 bw1
  have d0:=keepT HK.out h0
  clear h0
  go_enter Tryz.func45, Tryz.ntmps45
  go_wp2_with fail
  refine(HX.out w1 HK.out).mono ?_
  rintro en w2 ⟨rfl,hk⟩
  have HK2:=qtr HK hk
  clear hk HX y0 y1 d0 hw1
  go_wp2_with fail
  go_ret
  exact⟨rfl,HK2.out⟩
set_option maxHeartbeats 8000000 in
set_option maxRecDepth 100000 in
theorem ch2_any (r:Rt) (A:Option Addr) (n c B2:Nat) (x:TA) (t:Tp) (B B3:Nat) (gone:List Stp) (Ag:Option Addr) (ng cg bt bg:Nat) (w:World) (hr:Rd w B2 2 A n (stpCells r.2.1)) (hp:r.2.1≠[]) (hn:n≤1000000) (h:TpAt w B x t) (hs:TpSmall x t) (hg:Rd w B3 2 Ag ng (stpCells gone)) (hg0:gone≠[]) (hng:ng≤1000000) (hbt:Blk w bt 27 x.cs) (hbg:Blk w bg 35 #[.slice Ag ng cg]) :
    Calls Tryz.prog 42 #[rtA r A n c,.pointer (some ⟨bt,0,none⟩),.pointer (some ⟨bg,0,none⟩)] w fun e w'=>e=.returned (.bool (followsB t gone r))∧Keep Never w w':=by
  obtain⟨r1,rp,r3,r4⟩:=r
  simp only at hr hp ⊢
  have HX:=qh (fun (W:World) (hk:Keep Never w W) (v:Stp) (A2 n2 c2 B2 l) (h:Rd W B2 2 A2 n2 (stpCells l)) (h2:n2≤1000000000)=>scontains_any A2 n2 c2 B2 l v W h h2)
  have HAf:=qh (fun (W:World) (hk:Keep Never w W) (s:Stp)=>after_any x t B s W (h.keep hk) hs.j hs.e)
  have HCf:=qh (fun (W:World) (hk:Keep Never w W) (h0:W.cell? ⟨bg,0,none⟩=some (.slice Ag ng cg))=>containsfs_any 45 #[.pointer (some ⟨bg,0,none⟩)] (fun u=>overB gone u.1) (enters_of Tryz.func45 (by kernel_rfl) rfl) A n c B2 rp W (hr.keep hk (fun _ h=>h.elim)) (fun V s hV=>ch21_any s.1 s.2 Ag ng cg B3 gone bg V (hg.keep (hk.trans hV) (fun _ h=>h.elim)) hng (keepT hV h0)) (by omega))
  have hTl:∃m,ng=m+1:=⟨ng - 1,by have:=hg.stp_len;have:=List.length_pos_iff.2 hg0;omega⟩
  obtain⟨m,rfl⟩:=hTl
  obtain⟨ag,gl,hAg,_,hgl,f5,f6⟩:=hg.stp (show m<m+1 by omega)
  subst hAg
  have HNe:Hid (t.1.length≤100000000):=qh (by rw[←h.e.len];exact hs.e)
  have HGl:Hid (gone.getLast?=some gl):=qh (by rw[List.getLast?_eq_getElem?,hg.stp_len];exact hgl)
  have hn0:0<n:=by have:=hr.stp_len;have:=List.length_pos_iff.2 hp;omega
  obtain⟨ap,hd,hAp,_,hhd,e0,e1⟩:=hr.stp hn0
  subst hAp
  have ea:ap.add (0*2)=ap:=by rw[Nat.zero_mul];unfold Addr.add;split <;> simp_all
  rw[ea] at e0 e1
  have HHd:Hid (rp.head?=some hd):=qh (by rw[List.head?_eq_getElem?];exact hhd)
  have HF0:Hid (followsB t gone (r1,rp,r3,r4)=((afterM t gl).contains hd&&!(rp.any fun u=>overB gone u.1))):=qh (by unfold followsB;rw[HGl.out];simp only;rw[HHd.out])
  obtain⟨g1,g2⟩:=gl
  obtain⟨h1,h2⟩:=hd
  simp only at f5 f6 e0 e1
  have f0:=hbt.cell 0
  have f1:=hbt.cell 1
  have f2:=hbt.cell 2
  have f3:=hbt.cell 3
  obtain⟨Ae,ne,ce,Aj,nj,cj,Ab,nb,cb,Ar,nr,cr⟩:=x
  simp only[TA.cs] at HAf f0 f1 f2 f3
  have f4:=hbg.cell 0
  have HW0:=qh (show Hid (w.cell? ⟨bt,0,none⟩=some (.slice Ae ne ce)∧w.cell? ⟨bt,1,none⟩=some (.slice Aj nj cj)∧w.cell? ⟨bt,2,none⟩=some (.slice Ab nb cb)∧w.cell? ⟨bt,3,none⟩=some (.slice Ar nr cr)∧w.cell? ⟨bg,0,none⟩=some (.slice (some ag) (m+1) cg)∧w.cell? (ag.add (m*2))=some (.int .i64 g1)∧w.cell? ⟨(ag.add (m*2)).block,(ag.add (m*2)).off+1,none⟩=some (.bool g2)∧w.cell? ap=some (.int .i64 h1)∧w.cell? ⟨ap.block,ap.off+1,none⟩=some (.bool h2)) from qh ⟨f0,f1,f2,f3,f4,f5,f6,e0,e1⟩)
  have hmw:IntKind.i64.wrap ((m:Int)+1 - 1)=(m:Int):=by rw[show (m:Int)+1 - 1=(m:Int) by omega];exact IntWalk.i64_in _ (by omega)
  have hmw2:IntKind.i64.wrap (((m+1:Nat):Int) - 1)=(m:Int):=by rw[show ((m+1:Nat):Int) - 1=(m:Int) by omega];exact IntWalk.i64_in _ (by omega)
  have hmw3:IntKind.i64.wrap (m:Int)=(m:Int):=IntWalk.i64_in _ (by omega)
  have hmz:(m:Int)<(m:Int)+1:=by omega
  have hmq:(0:Int)≤(m:Int)+1:=by omega
  have hmt:((m:Int)+1).toNat=m+1:=by omega
  have hm0:(0:Int)≤(m:Int):=by omega
  clear f0 f1 f2 f3 f4 f5 f6 e0 e1 ea hr hp hg hg0 h hs hbt hbg hgl hhd
  obtain⟨w1,hw1⟩:∃V:World,w.alloc (.cells #[.int .i64 r1,.slice (some ap) n c,.int .i64 r3,.int .i64 r4] 64)=V:=⟨_,rfl⟩
  have kw1:Keep Never w w1:=by rw[←hw1];exact(Keep.refl _ _).alloc _
  have bw1:=Blk.new w 64 #[.int .i64 r1,.slice (some ap) n c,.int .i64 r3,.int .i64 r4]
  rw[hw1] at bw1
  have HB1:=qh bw1
  have HK:=qh kw1
  clear kw1 bw1
  have f0:=keepT HK.out HW0.out.out.1
  have f1:=keepT HK.out HW0.out.out.2.1
  have f2:=keepT HK.out HW0.out.out.2.2.1
  have f3:=keepT HK.out HW0.out.out.2.2.2.1
  have f4:=keepT HK.out HW0.out.out.2.2.2.2.1
  have f5:=keepT HK.out HW0.out.out.2.2.2.2.2.1
  have f6:=keepT HK.out HW0.out.out.2.2.2.2.2.2.1
  have HS2:Hid (∀W',Keep Never w1 W'→Keep Never w1 W'∧W'.cell? ⟨bt,0,none⟩=some (.slice Ae ne ce)∧W'.cell? ⟨bt,1,none⟩=some (.slice Aj nj cj)∧W'.cell? ⟨bt,2,none⟩=some (.slice Ab nb cb)∧W'.cell? ⟨bt,3,none⟩=some (.slice Ar nr cr)∧W'.cell? ⟨bg,0,none⟩=some (.slice (some ag) (m+1) cg)∧W'.cell? (ag.add (m*2))=some (.int .i64 g1)∧W'.cell? ⟨(ag.add (m*2)).block,(ag.add (m*2)).off+1,none⟩=some (.bool g2)):=qh (fun W' h=>⟨h,keepT h f0,keepT h f1,keepT h f2,keepT h f3,keepT h f4,keepT h f5,keepT h f6⟩)
  go_enter Tryz.func42, Tryz.ntmps42
  go_wp2_with fail
  clear f0 f1 f2 f3 f4 f5 f6 hw1
  go_region_held3 (fun W'=>Keep Never w1 W'∧W'.cell? ⟨bt,0,none⟩=some (.slice Ae ne ce)∧W'.cell? ⟨bt,1,none⟩=some (.slice Aj nj cj)∧W'.cell? ⟨bt,2,none⟩=some (.slice Ab nb cb)∧W'.cell? ⟨bt,3,none⟩=some (.slice Ar nr cr)∧W'.cell? ⟨bg,0,none⟩=some (.slice (some ag) (m+1) cg)∧W'.cell? (ag.add (m*2))=some (.int .i64 g1)∧W'.cell? ⟨(ag.add (m*2)).block,(ag.add (m*2)).off+1,none⟩=some (.bool g2))
    (first| assumption | exact HS2.out _ ((Keep.refl Never w1).drew) | exact HS2.out _ (Keep.trans (And.left (by assumption)) hk3) | exact HS2.out _ (Keep.trans ((Keep.refl Never w1).drew) hk3))
    (first
      | (go_at_call 30; refine(HAf.out _ (HK.out.trans (by first | exact And.left (by assumption) | exact(Keep.refl Never w1).drew | exact Keep.refl Never w1)) (g1,g2)).mono ?_;rintro e w3 ⟨A7,n7,c7,rfl,hn7,ho7,hk3⟩;have HO7:=qh ho7;have HN7:=qh hn7;clear ho7 hn7))
  rename_i hS
  have HK3:=qh (HK.out.trans hS.1)
  have HB3:=qh (HB1.out.keep hS.1 (fun h=>h))
  have Hlen:n7≤1000000000:=by have h1:=HN7.out.out;have h2:=after_len t (g1,g2);have h3:=HNe.out;omega
  have HC:=qh (HX.out w3 HK3.out (h1,h2) A7 n7 c7 _ _ HO7.out.rd Hlen)
  have HCg:=qh (fun V hV=>HCf.out V (HK3.out.trans hV) (keepT hV hS.2.2.2.2.2.1))
  have y1:w3.cell? ⟨w.heap.size,1,none⟩=some (.slice (some ap) n c):=HB3.out.cell 1
  have e0:=keepT HK3.out HW0.out.out.2.2.2.2.2.2.2.1
  have e1:=keepT HK3.out HW0.out.out.2.2.2.2.2.2.2.2
  have HS3:=qh hS.2.2.2.2.2.1
  clear hS HX HCf hmw hmw2 hmw3 hmz hmq hmt hm0 hk3 HAf Hlen HS2
  dsimp only at HC
  rw[show decide ((h1,h2)∈afterM t (g1,g2))=(afterM t (g1,g2)).contains (h1,h2) from by rw[List.contains_eq_mem]] at HC
  obtain⟨ca,hca⟩:∃z,(afterM t (g1,g2)).contains (h1,h2)=z:=⟨_,rfl⟩
  obtain⟨cb,hcb⟩:∃z,(rp.any fun u=>overB gone u.1)=z:=⟨_,rfl⟩
  rw[hca,hcb] at HF0
  rw[hca] at HC
  rw[hcb] at HCg
  clear hca hcb
  cases ca with
  | false=>
   go_wp2_with fail
   refine HC.out.mono ?_
   rintro en w4 ⟨rfl,hk⟩
   have HK4:=qtr HK3 hk
   clear hk HC y1 e0 e1
   go_wp2_with fail
   go_ret
   exact⟨by rw[HF0.out];rfl,HK4.out⟩
  | true=>
   go_wp2_with fail
   refine HC.out.mono ?_
   rintro en w4 ⟨rfl,hk⟩
   have HK4:=qtr HK3 hk
   have HC2:=qh (HCg.out w4 hk)
   have y1:w4.cell? ⟨w.heap.size,1,none⟩=some (.slice (some ap) n c):=(HB3.out.keep hk (fun h=>h)).cell 1
   clear hk HC e0 e1 HCg
   go_wp2_with fail
   refine HC2.out.mono ?_
   rintro en w5 ⟨rfl,hk⟩
   have HK5:=qtr HK4 hk
   clear hk HC2 y1
   go_wp2_with fail
   go_ret
   exact⟨by rw[HF0.out];cases cb <;> rfl,HK5.out⟩
end Go.Proofs.YtpapiojicbbheaaGreatDoor

namespace Go.Proofs.YtpapiojicbbheaaGreatDoor
open Go.RowKit
structure ChS (w0 W:World) (x:TA) (bt bl br bo bg:Nat) (Al:Option Addr) (nl cl:Nat) (train:Int) (Ao:Option Addr) (no co:Nat) (Ag:Option Addr) (ng cg:Nat) (out:List Lk) (gone:List Stp):Prop where
  kp:Keep Never w0 W
  ft:Blk W bt 27 x.cs
  fl:Blk W bl 28 #[.slice Al nl cl]
  fr:Blk W br 3 #[.int .i64 train]
  fo:Blk W bo 28 #[.slice Ao no co]
  fg:Blk W bg 35 #[.slice Ag ng cg]
  oo:Own W w0.heap.size 62 3 Ao no co (spCells out)
  og:Own W w0.heap.size 30 2 Ag ng cg (stpCells gone)
  lo:w0.heap.size≤bo∧w0.heap.size≤bg
  ne:bl≠bo
theorem ChS.never {w0 W W':World}{x:TA}{bt bl br bo bg:Nat}{Al:Option Addr}{nl cl:Nat}{train:Int}{Ao:Option Addr}{no co:Nat}{Ag:Option Addr}{ng cg:Nat}{out:List Lk}{gone:List Stp}
    (h:ChS w0 W x bt bl br bo bg Al nl cl train Ao no co Ag ng cg out gone) (hk:Keep Never W W'):ChS w0 W' x bt bl br bo bg Al nl cl train Ao no co Ag ng cg out gone:=
  ⟨h.kp.trans hk,h.ft.keep hk (fun h=>h),h.fl.keep hk (fun h=>h),h.fr.keep hk (fun h=>h),h.fo.keep hk (fun h=>h),h.fg.keep hk (fun h=>h),h.oo.keep hk (fun _ _ h=>h),h.og.keep hk (fun _ _ h=>h),h.lo,h.ne⟩
theorem ChS.out_ {w0 W W2:World}{x:TA}{bt bl br bo bg:Nat}{Al:Option Addr}{nl cl:Nat}{train:Int}{Ao:Option Addr}{no co:Nat}{Ag:Option Addr}{ng cg:Nat}{out:List Lk}{gone:List Stp}{A2:Option Addr}{c2:Nat}{k:Lk}
    (h:ChS w0 W x bt bl br bo bg Al nl cl train Ao no co Ag ng cg out gone) (ho:Own W2 w0.heap.size 62 3 A2 (no+1) c2 (spCells out++[.int .i64 k.1,.int .i64 k.2.1,.int .i64 k.2.2])) (hk:Keep (InRow Ao) W W2) :
    ChS w0 (W2.setCell ⟨bo,0,none⟩ (.slice A2 (no+1) c2)) x bt bl br bo bg Al nl cl train A2 (no+1) c2 Ag ng cg (out++[k]) gone:=by
  have hft:=h.ft.keep hk (fun hi=>h.oo.ne_blk h.ft (by decide) _ hi rfl)
  have hfl:=h.fl.keep hk (fun hi=>h.oo.ne_blk h.fl (by decide) _ hi rfl)
  have hfr:=h.fr.keep hk (fun hi=>h.oo.ne_blk h.fr (by decide) _ hi rfl)
  have hfo:=h.fo.keep hk (fun hi=>h.oo.ne_blk h.fo (by decide) _ hi rfl)
  have hfg:=h.fg.keep hk (fun hi=>h.oo.ne_blk h.fg (by decide) _ hi rfl)
  have hog:=h.og.keep hk (fun q h1 h2=>h.og.ne_own h.oo (by decide) q h1 h2)
  refine⟨(h.kp.then_ hk (fun i hi h1=>by have:=(h.oo.row h1).1;omega)).set_ (p:=⟨bo,0,none⟩) (.inr h.lo.1) _,hft.far (hft.ne_ hfo (by decide)) _,hfl.far h.ne _,hfr.far (hfr.ne_ hfo (by decide)) _,?_,hfg.far (hfg.ne_ hfo (by decide)) _,?_,hog.far (hog.ne_blk hfo (by decide)) _,h.lo,h.ne⟩
  ·have:=hfo.set_ 0 (.slice A2 (no+1) c2)
   simpa using this
  ·rw[spCells_app]
   exact ho.far (ho.ne_blk hfo (by decide)) _
theorem ChS.gone_ {w0 W W2:World}{x:TA}{bt bl br bo bg:Nat}{Al:Option Addr}{nl cl:Nat}{train:Int}{Ao:Option Addr}{no co:Nat}{Ag:Option Addr}{ng cg:Nat}{out:List Lk}{gone:List Stp}{A2:Option Addr}{n2 c2:Nat}{l:List Stp}
    (h:ChS w0 W x bt bl br bo bg Al nl cl train Ao no co Ag ng cg out gone) (ho:Own W2 w0.heap.size 30 2 A2 n2 c2 (stpCells gone++stpCells l)) (hk:Keep (InRow Ag) W W2) :
    ChS w0 (W2.setCell ⟨bg,0,none⟩ (.slice A2 n2 c2)) x bt bl br bo bg Al nl cl train Ao no co A2 n2 c2 out (gone++l):=by
  have hft:=h.ft.keep hk (fun hi=>h.og.ne_blk h.ft (by decide) _ hi rfl)
  have hfl:=h.fl.keep hk (fun hi=>h.og.ne_blk h.fl (by decide) _ hi rfl)
  have hfr:=h.fr.keep hk (fun hi=>h.og.ne_blk h.fr (by decide) _ hi rfl)
  have hfo:=h.fo.keep hk (fun hi=>h.og.ne_blk h.fo (by decide) _ hi rfl)
  have hfg:=h.fg.keep hk (fun hi=>h.og.ne_blk h.fg (by decide) _ hi rfl)
  have hoo:=h.oo.keep hk (fun q h1 h2=>h.og.ne_own h.oo (by decide) q h2 h1)
  refine⟨(h.kp.then_ hk (fun i hi h1=>by have:=(h.og.row h1).1;omega)).set_ (p:=⟨bg,0,none⟩) (.inr h.lo.2) _,hft.far (hft.ne_ hfg (by decide)) _,hfl.far (hfl.ne_ hfg (by decide)) _,hfr.far (hfr.ne_ hfg (by decide)) _,hfo.far (hfo.ne_ hfg (by decide)) _,?_,hoo.far (hoo.ne_blk hfg (by decide)) _,?_,h.lo,h.ne⟩
  ·have:=hfg.set_ 0 (.slice A2 n2 c2)
   simpa using this
  ·rw[stpCells_app]
   exact ho.far (ho.ne_blk hfg (by decide)) _
def ChX (w0 W:World) (x:TA) (bt bl br bo bg:Nat) (Al:Option Addr) (nl cl:Nat) (train:Int) (out:List Lk) (gone:List Stp):Prop:=
  ∃Ao no co Ag ng cg,no=out.length∧ng=gone.length∧ChS w0 W x bt bl br bo bg Al nl cl train Ao no co Ag ng cg out gone
def NextRet (w0:World) (x:TA) (bt bl br bo bg:Nat) (Al:Option Addr) (nl cl:Nat) (train:Int) (out:List Lk) (gone:List Stp) (o:Option (Lk×Rt)) (e:Ending) (w':World):Prop:=
  e=.returned (.bool o.isSome)∧match o with
   | none=>ChX w0 w' x bt bl br bo bg Al nl cl train out gone
   | some z=>ChX w0 w' x bt bl br bo bg Al nl cl train (out++[z.1]) (gone++z.2.2.1)
def PredRo (g:Nat) (lb:Array Value) (t:Tp) (p:Rt→Bool) (w:World):Prop:=
  ∀(W:World) (r:Rt) (A:Option Addr) (n c:Nat),Keep Never w W→r∈t.2.2.2→Rd W W.heap.size 2 A n (stpCells r.2.1)→Calls Tryz.prog g (#[rtA r A n c]++lb) W fun e w'=>e=.returned (.bool (p r))∧Keep Never W w'
theorem find_at17 {α β:Type}{f:α→Option β}{l:List α}{k:Nat}{s:α}{z:β} (h0:∀x∈l.take k,f x=none) (h1:l[k]?=some s) (h2:f s=some z):l.findSome? f=some z:=by
 have e:l=l.take k++s::l.drop (k+1):=by
  obtain⟨hk,hs⟩:=List.getElem?_eq_some_iff.1 h1
  rw[←hs,List.getElem_cons_drop,List.take_append_drop]
 rw[e,List.findSome?_append,List.findSome?_eq_none_iff.2 h0,List.findSome?_cons,h2]
 rfl
theorem find_no17 {α β:Type}{f:α→Option β}{l:List α} (h:∀x∈l,f x=none):l.findSome? f=none:=List.findSome?_eq_none_iff.2 h
theorem take_next {α:Type}{l:List α}{k:Nat}{s:α} (h:l[k]?=some s) {P:α→Prop} (h0:∀x∈l.take k,P x) (hs:P s):∀x∈l.take (k+1),P x:=by
 intro x hx
 rw[List.take_add_one,h] at hx
 rcases List.mem_append.1 hx with hx | hx
 ·exact h0 x hx
 ·simp at hx;subst hx;exact hs
theorem next_none {t:Tp}{train:Int}{out:List Lk}{may:Rt→Bool}{k:Lk} (h:rtM t.2.2.2 k.1=none):nextK t train out may k=none:=by unfold nextK;rw[h]
theorem next_eq {t:Tp}{train:Int}{out:List Lk}{may:Rt→Bool}{k:Lk}{r:Rt} (h:rtM t.2.2.2 k.1=some r):nextK t train out may k=if (k.2.1==train&&!(out.contains k)&&may r)=true then some (k,r) else none:=by unfold nextK;rw[h]
set_option maxHeartbeats 8000000 in
set_option maxRecDepth 100000 in
theorem ch1_any (g:Nat) (lb:Array Value) (p:Rt→Bool) (eg:∀args w,(callFunc g args).run Tryz.prog w=.ok (.enter g args) w) (x:TA) (t:Tp) (B:Nat) (Al:Option Addr) (nl cl:Nat) (l:List Lk) (train:Int) (w0 w:World) (bt bl br bo bg:Nat) (out:List Lk) (gone:List Stp) (h:TpAt w B x t) (hs:TpSmall x t) (hB:B≤w.heap.size) (hl:SpAt w0 B Al nl cl l) (hnl:nl≤1000000) (h8:out.length≤100) (hg9:gone.length≤10000) (hX:ChX w0 w x bt bl br bo bg Al nl cl train out gone) (hm:PredRo g lb t p w) :
    Calls Tryz.prog 40 #[.func (.func g) #[] lb,.pointer (some ⟨bl,0,none⟩),.pointer (some ⟨bt,0,none⟩),.pointer (some ⟨br,0,none⟩),.pointer (some ⟨bo,0,none⟩),.pointer (some ⟨bg,0,none⟩)] w (NextRet w0 x bt bl br bo bg Al nl cl train out gone (l.findSome? (nextK t train out p))):=by
  obtain⟨Ao,no,co,Ag,ng,cg,hno,hng,hS⟩:=hX
  have HRt:=qh (fun (W:World) (hk:Keep Never w W) (id:Int)=>route_own x t B id W (h.keep hk) hs.r hs.p (Nat.le_trans hB hk.size))
  have HCo:=qh (fun (W:World) (k:Lk) (hr:Rd W W.heap.size 3 Ao no (spCells out))=>kcontains_any Ao no co W.heap.size out k W hr (by omega))
  have HL:=qh hl
  have HLn:Hid (l.length=nl):=qh hl.len
  have HM:=qh hm
  have HS0:=qh hS
  have HNo:=qh hno
  have HNg:=qh hng
  have HSp:=qh hs.p
  obtain⟨Ae,ne,ce,Aj,nj,cj,Ab,nb,cb,Ar,nr,cr⟩:=x
  simp only[TA.cs] at HRt
  have hno8:no≤100:=by omega
  have hng9:ng≤10000:=by omega
  clear h hs hl hm hS hno hng
  have xl:w.cell? ⟨bl,0,none⟩=some (.slice Al nl cl):=HS0.out.fl.cell 0
  go_enter Tryz.func40, Tryz.ntmps40
  go_wp2_with fail
  clear xl
  go_loopw [14] (fun si wr=>∃k:Nat,k≤nl∧si=.int .i64 k∧Hid (Keep Never w wr∧∀s∈l.take k,nextK t train out p s=none)) (fun si _=>nl - (intOf si).toNat)
  case atStart=>exact⟨0,by omega,rfl,qh ⟨Keep.refl _ _,by simp⟩⟩
  case round=>
   obtain⟨k,hk,rfl,HH⟩:=hrel
   by_cases h0:k<nl
   ·have hkz:(k:Int)<(nl:Int):=by omega
    have HSr:=qh (HS0.out.never HH.out.1)
    obtain⟨ad,s,hA,_,hs,c0,c1,c2⟩:=(HL.out.keep (HS0.out.kp.trans HH.out.1)).rd.sp h0
    subst hA
    have Hs:=qh hs
    obtain⟨k1,k2,k3⟩:=s
    simp only at c0 c1 c2
    clear hs
    obtain⟨w4,hw4⟩:∃V:World,wr.alloc (.cells #[.int .i64 k1,.int .i64 k2,.int .i64 k3] 62)=V:=⟨_,rfl⟩
    have k4:Keep Never wr w4:=by rw[←hw4];exact(Keep.refl _ _).alloc _
    have B4:=Blk.new wr 62 #[.int .i64 k1,.int .i64 k2,.int .i64 k3]
    rw[hw4] at B4
    obtain⟨bk,hbk⟩:∃q,wr.heap.size=q:=⟨_,rfl⟩
    rw[hbk] at B4
    have HB4:=qh B4
    have HS4:=qh (HSr.out.never k4)
    have HK4:=qh (HH.out.1.trans k4)
    obtain⟨b0,b1,b2⟩:=bc3 HB4.out
    have hw:=HRt.out w4 HK4.out k1
    obtain⟨o,ho⟩:∃z,rtM t.2.2.2 k1=z:=⟨_,rfl⟩
    rw[ho] at hw
    have HC:=qh hw
    have HO:=qh ho
    clear B4 k4 hw ho
    obtain⟨y0,y1,y2,y3⟩:=bc4 HS4.out.ft
    go_wp2_with fail
    refine HC.out.mono ?_
    rintro en w5 ⟨A5,n5,c5,rfl,hz5,ho5,hin5,hk5⟩
    have HS5:=qh (HS4.out.never hk5)
    have HK5:=qtr HK4 hk5
    have HB5:=qkb HB4 hk5
    have HO5:=qh ho5
    clear hk5 HC y0 y1 y2 y3 b0 b1 b2 c0 c1 c2 ho5 hin5
    cases o with
    | none=>
     have HF:Hid (nextK t train out p (k1,k2,k3)=none):=qh (next_none HO.out)
     simp only[Option.getD,Option.isSome] at HO5 ⊢
     obtain⟨e1,e2,e3⟩:=hz5 rfl
     subst e1 e2 e3
     have HK6:=qh (HK5.out.trans ((Keep.refl Never w5).alloc (.cells #[.int .i64 0,.slice none 0 0,.int .i64 0,.int .i64 0] 64)))
     have b1:(w5.alloc (.cells #[.int .i64 0,.slice none 0 0,.int .i64 0,.int .i64 0] 64)).cell? ⟨bk,1,none⟩=some (.int .i64 k2):=(HB5.out.alloc (.cells #[.int .i64 0,.slice none 0 0,.int .i64 0,.int .i64 0] 64)).cell 1
     have xr:(w5.alloc (.cells #[.int .i64 0,.slice none 0 0,.int .i64 0,.int .i64 0] 64)).cell? ⟨br,0,none⟩=some (.int .i64 train):=(HS5.out.fr.alloc (.cells #[.int .i64 0,.slice none 0 0,.int .i64 0,.int .i64 0] 64)).cell 0
     clear hz5
     by_cases g0:k2=train
     ·have t0:(k2 != train)=false:=by simpa using g0
      clear g0
      go_wp2_with fail
      refine⟨⟨k+1,by omega,by go_num,qh ⟨HK6.out,take_next Hs.out HH.out.2 HF.out⟩⟩,?_⟩
      simp[intOf];try omega
     ·have t0:(k2 != train)=true:=by simpa using g0
      clear g0
      go_wp2_with fail
      refine⟨⟨k+1,by omega,by go_num,qh ⟨HK6.out,take_next Hs.out HH.out.2 HF.out⟩⟩,?_⟩
      simp[intOf];try omega
    | some r=>
     obtain⟨r1,rp,r3,r4⟩:=r
     clear hz5
     have HNx:=qh (next_eq (train:=train) (out:=out) (may:=p) (k:=(k1,k2,k3)) HO.out)
     have HRm:Hid (((r1,rp,r3,r4):Rt)∈t.2.2.2):=qh (List.mem_of_find?_eq_some HO.out)
     simp only[Option.getD,Option.isSome] at HO5 ⊢
     have hn5:n5≤100000000:=by have h1:=HSp.out _ HRm.out;have h2:=HO5.out.len;rw[len_stpCells] at h2;simp only at h1;omega
     have HN5:Hid (n5=rp.length):=qh (by have h2:=HO5.out.len;rw[len_stpCells] at h2;omega)
     obtain⟨w6,hw6⟩:∃V:World,w5.alloc (.cells #[.int .i64 r1,.slice A5 n5 c5,.int .i64 r3,.int .i64 r4] 64)=V:=⟨_,rfl⟩
     have k6:Keep Never w5 w6:=by rw[←hw6];exact(Keep.refl _ _).alloc _
     have B6:=Blk.new w5 64 #[.int .i64 r1,.slice A5 n5 c5,.int .i64 r3,.int .i64 r4]
     rw[hw6] at B6
     obtain⟨bq,hbq⟩:∃q,w5.heap.size=q:=⟨_,rfl⟩
     rw[hbq] at B6
     have HB6:=qkb HB5 k6
     have HR6:=qh B6
     have HS6:=qh (HS5.out.never k6)
     have HK6:=qtr HK5 k6
     have HO6:=qko HO5 k6
     obtain⟨b0,b1,b2⟩:=bc3 HB6.out
     have xr:w6.cell? ⟨br,0,none⟩=some (.int .i64 train):=HS6.out.fr.cell 0
     have xo:w6.cell? ⟨bo,0,none⟩=some (.slice Ao no co):=HS6.out.fo.cell 0
     clear k6 B6
     by_cases g0:k2=train
     case neg=>
      have t0:(k2 != train)=true:=by simpa using g0
      have HF:Hid (nextK t train out p (k1,k2,k3)=none):=qh (by rw[HNx.out,if_neg (by simp[g0])])
      clear g0
      go_wp2_with fail
      refine⟨⟨k+1,by omega,by go_num,qh ⟨HK6.out,take_next Hs.out HH.out.2 HF.out⟩⟩,?_⟩
      simp[intOf];try omega
     have t0:(k2 != train)=false:=by simpa using g0
     have HC:=qh (HCo.out w6 (k1,k2,k3) HS6.out.oo.rd)
     dsimp only at HC
     rw[show decide (((k1,k2,k3):Lk)∈out)=out.contains (k1,k2,k3) from by rw[List.contains_eq_mem]] at HC
     obtain⟨cb,hcb⟩:∃z,out.contains ((k1,k2,k3):Lk)=z:=⟨_,rfl⟩
     rw[hcb] at HC HNx
     have HG0:=qh g0
     clear hcb g0
     go_wp2_with fail
     refine HC.out.mono ?_
     rintro en w7 ⟨rfl,hk7⟩
     have HB7:=qkb HB6 hk7
     have HR7:=qkb HR6 hk7
     have HS7:=qh (HS6.out.never hk7)
     have HK7:=qtr HK6 hk7
     have HO7:=qko HO6 hk7
     clear hk7 HC b0 b1 b2 xr xo t0
     cases cb with
     | true=>
      have HF:Hid (nextK t train out p (k1,k2,k3)=none):=qh (by rw[HNx.out,if_neg (by simp)])
      go_wp2_with fail
      refine⟨⟨k+1,by omega,by go_num,qh ⟨HK7.out,take_next Hs.out HH.out.2 HF.out⟩⟩,?_⟩
      simp[intOf];try omega
     | false=>
     have HC:=qh (HM.out w7 (r1,rp,r3,r4) A5 n5 c5 HK7.out HRm.out HO7.out.rd)
     unfold rtA at HC
     dsimp only at HC
     obtain⟨pb,hpb⟩:∃z,p (r1,rp,r3,r4)=z:=⟨_,rfl⟩
     rw[hpb] at HC HNx
     clear hpb
     cases pb with
     | false=>
      have HF:Hid (nextK t train out p (k1,k2,k3)=none):=qh (by rw[HNx.out,if_neg (by simp)])
      obtain⟨q0,q1,q2,q3⟩:=bc4 HR7.out
      go_wp2_with (go_at_fn g;refine HC.out.mono ?_;rintro e w8 ⟨rfl,hk8⟩;have HB8:=qkb HB7 hk8;have HR8:=qkb HR7 hk8;have HS8:=qh (HS7.out.never hk8);have HK8:=qtr HK7 hk8;have HO8:=qko HO7 hk8;clear hk8 q0 q1 q2 q3)
      clear HC
      go_wp2_with fail
      refine⟨⟨k+1,by omega,by go_num,qh ⟨HK8.out,take_next Hs.out HH.out.2 HF.out⟩⟩,?_⟩
      simp[intOf];try omega
     | true=>
      have HF:Hid (nextK t train out p (k1,k2,k3)=some ((k1,k2,k3),(r1,rp,r3,r4))):=qh (by rw[HNx.out,if_pos (by simp[HG0.out])])
      have HFF:Hid (l.findSome? (nextK t train out p)=some ((k1,k2,k3),(r1,rp,r3,r4))):=qh (find_at17 HH.out.2 Hs.out HF.out)
      obtain⟨q0,q1,q2,q3⟩:=bc4 HR7.out
      go_upto_region 6 with(go_at_fn g;refine HC.out.mono ?_;rintro e w8 ⟨rfl,hk8⟩;have HB8:=qkb HB7 hk8;have HR8:=qkb HR7 hk8;have HS8:=qh (HS7.out.never hk8);have HK8:=qtr HK7 hk8;have HO8:=qko HO7 hk8;clear hk8 q0 q1 q2 q3)
      clear HC
      have xo:w8.cell? ⟨bo,0,none⟩=some (.slice Ao no co):=HS8.out.fo.cell 0
      obtain⟨b0,b1,b2⟩:=bc3 HB8.out
      have hz8:w0.heap.size≤w8.heap.size:=HS8.out.kp.size
      go_upto_region 7 with(at_builtin;refine wpList_app _ rfl (.tmp 44) (.tmp 46) _ rfl elemLk w0.heap.size (A:=Ao) (n:=no) (c:=co) (by go_simp) (HS8.out.oo.alloc _) _ (A':=some ⟨_,0,none⟩) (m:=1) (c':=1) (news:=[.int .i64 k1,.int .i64 k2,.int .i64 k3]) (by go_simp) (Rd.of_blk (n:=1) (cs:=[.int .i64 k1,.int .i64 k2,.int .i64 k3]) (Blk.new _ _ _) rfl) (by simp[Value.oneCell']) (by omega) (by unfold maxLen;omega) (by simp;omega) ?_;intro A9 c9 w9 hown hk9 hrow9;have HO9:=qh hown;have HK9:=qh (((Keep.refl (InRow Ao) w8).alloc _).trans hk9);have HF9:=qh (HS8.out.fo.keep HK9.out (fun hi=>HS8.out.oo.ne_blk HS8.out.fo (by decide) _ hi rfl));have xo9:w9.cell? ⟨bo,0,none⟩=some (.slice Ao no co):=HF9.out.cell 0;have xf9:=HF9.out.frozen 0;clear hown hk9 hrow9 xo b0 b1 b2)
      obtain⟨w10,hw10⟩:∃V:World,w9.setCell ⟨bo,0,none⟩ (.slice A9 (no+1) c9)=V:=⟨_,rfl⟩
      rw[hw10]
      have HS10:=qh (HS8.out.out_ (k:=(k1,k2,k3)) HO9.out HK9.out)
      rw[hw10] at HS10
      have kb:Keep (fun q=>q=bo) w9 w10:=by rw[←hw10];exact(Keep.refl (fun q=>q=bo) w9).set_ (p:=⟨bo,0,none⟩) (.inl rfl) _
      have HO9b:=qh (HO8.out.keep HK9.out (fun q h1 h2=>HO8.out.ne_own HS8.out.oo (by decide) q h1 h2))
      have HO10:=qh (HO9b.out.keep kb (fun q h1 h2=>HO9b.out.ne_blk HF9.out (by decide) q h1 h2))
      have HR9:=qh (HR8.out.keep HK9.out (fun hi=>HS8.out.oo.ne_blk HR8.out (by decide) _ hi rfl))
      have HR10:=qh (HR9.out.keep kb (HR9.out.ne_ HF9.out (by decide)))
      have xg:w10.cell? ⟨bg,0,none⟩=some (.slice Ag ng cg):=HS10.out.fg.cell 0
      have q1:w10.cell? ⟨bq,1,none⟩=some (.slice A5 n5 c5):=HR10.out.cell 1
      have hz10:w0.heap.size≤w10.heap.size:=HS10.out.kp.size
      have HRp:=qh HO10.out.rd
      clear hw10 kb xo9 xf9 hz8
      go_wp2_with (at_builtin;refine wpList_app _ rfl (.tmp 48) (.tmp 50) _ rfl elemStp w0.heap.size (A:=Ag) (n:=ng) (c:=cg) (by go_simp) HS10.out.og _ (A':=A5) (m:=n5) (c':=c5) (by go_simp) HRp.out (stpCells_one _) (by omega) (by unfold maxLen;omega) hz10 ?_;intro A11 c11 w11 hown hk11 hrow11;have HO11:=qh hown;have HK11:=qh hk11;have HG11:=qh (HS10.out.fg.keep hk11 (fun hi=>HS10.out.og.ne_blk HS10.out.fg (by decide) _ hi rfl));have xg11:w11.cell? ⟨bg,0,none⟩=some (.slice Ag ng cg):=HG11.out.cell 0;have xf11:=HG11.out.frozen 0;clear hown hk11 hrow11 xg q1)
      go_ret
      refine⟨by rw[HFF.out];rfl,?_⟩
      rw[HFF.out]
      refine⟨A9,no+1,c9,A11,ng+n5,c11,by rw[HNo.out];simp,by rw[HNg.out,HN5.out];simp,?_⟩
      exact HS10.out.gone_ HO11.out HK11.out
   ·obtain rfl:k=nl:=by omega
    have hkz:¬(k:Int)<(k:Int):=by omega
    have HF:Hid (l.findSome? (nextK t train out p)=none):=qh (find_no17 (fun s hs=>HH.out.2 s (by rw[List.take_of_length_le (by rw[HLn.out];exact Nat.le_refl _)];exact hs)))
    go_wp2_with fail
    go_ret
    refine⟨by rw[HF.out];rfl,?_⟩
    rw[HF.out]
    exact⟨Ao,no,co,Ag,ng,cg,HNo.out,HNg.out,HS0.out.never HH.out.1⟩
end Go.Proofs.YtpapiojicbbheaaGreatDoor

namespace Go.Proofs.YtpapiojicbbheaaGreatDoor
open Go.RowKit
theorem chain_path {t:Tp} (hc:checkM t=0) {r:Rt} (hr:r∈t.2.2.2):r.2.1≠[]∧r.2.1.length≤8:=by
 obtain⟨i,hi⟩:=List.mem_iff_getElem?.1 hr
 have hg:=check_good hc hi
 exact⟨(good_of hc hg.err).2.1,hg.few⟩
theorem nextK_mem {t:Tp}{train:Int}{out:List Lk}{may:Rt→Bool}{l:List Lk}{z:Lk×Rt} (h:l.findSome? (nextK t train out may)=some z):z.2∈t.2.2.2:=by
 obtain⟨k,_,hz⟩:=List.exists_of_findSome?_eq_some h
 exact List.mem_of_find?_eq_some (nextK_some hz).2.1
structure ChR (t:Tp) (l:List Lk) (train:Int) (res:List Lk) (k:Nat) (ok:Bool) (out:List Lk) (gone:List Stp):Prop where
  go:ok=true→out≠[]∧gone≠[]∧out.length+k=8∧(chainK t l train k out gone).1=res
  stop:ok=false→out=res
  few:out.length≤8
  len:gone.length≤8*out.length
theorem ChR.start {t:Tp}{l:List Lk}{train:Int}{s:Stp} (hc:checkM t=0):ChR t l train (chainM t l train s) 7 (l.findSome? (nextK t train [] (hasB s))).isSome (match l.findSome? (nextK t train [] (hasB s)) with | none=>[] | some z=>[z.1]) (match l.findSome? (nextK t train [] (hasB s)) with | none=>[] | some z=>z.2.2.1):=by
 unfold chainM
 rw[if_pos hc]
 cases h:l.findSome? (nextK t train [] (hasB s)) with
 | none=>exact⟨fun h=>by simp at h,fun _=>rfl,by simp,by simp⟩
 | some z=>
  obtain⟨h1,h2⟩:=chain_path hc (nextK_mem h)
  exact⟨fun _=>⟨by simp,h1,rfl,rfl⟩,fun h=>by simp at h,by simp,by simpa using h2⟩
theorem ChR.next {t:Tp}{l:List Lk}{train:Int}{res:List Lk}{k:Nat}{out:List Lk}{gone:List Stp} (hc:checkM t=0) (h:ChR t l train res (k+1) true out gone) :
    ChR t l train res k (l.findSome? (nextK t train out (followsB t gone))).isSome (match l.findSome? (nextK t train out (followsB t gone)) with | none=>out | some z=>out++[z.1]) (match l.findSome? (nextK t train out (followsB t gone)) with | none=>gone | some z=>gone++z.2.2.1):=by
  obtain⟨g1,g2,g3,g4⟩:=h.go rfl
  unfold chainK at g4
  have hl:=h.len
  cases hz:l.findSome? (nextK t train out (followsB t gone)) with
  | none=>
   rw[hz] at g4
   exact⟨fun h=>by simp at h,fun _=>g4,h.few,h.len⟩
  | some z=>
   rw[hz] at g4
   obtain⟨h1,h2⟩:=chain_path hc (nextK_mem hz)
   exact⟨fun _=>⟨by simp,by simp[g2],by simp;omega,g4⟩,fun h=>by simp at h,by simp;omega,by simp;omega⟩
theorem ChR.fin {t:Tp}{l:List Lk}{train:Int}{res:List Lk}{k:Nat}{out:List Lk}{gone:List Stp} (h:ChR t l train res k true out gone) (h8:¬out.length<8):out=res:=by
 obtain⟨g1,g2,g3,g4⟩:=h.go rfl
 obtain rfl:k=0:=by omega
 exact g4
set_option maxHeartbeats 8000000 in
set_option maxRecDepth 100000 in
theorem chain_any (x:TA) (t:Tp) (B:Nat) (Al:Option Addr) (nl cl:Nat) (l:List Lk) (train:Int) (s:Stp) (w:World) (h:TpAt w B x t) (hs:TpSmall x t) (hB:B≤w.heap.size) (hl:SpAt w B Al nl cl l) (hnl:nl≤1000000) :
    Calls Tryz.prog 12 #[.agg x.cs,.slice Al nl cl,.int .i64 train,.agg #[.int .i64 s.1,.bool s.2]] w (LksRet (chainM t l train s) w):=by
  have HCh:=qh (fun (W:World) (hk:Keep Never w W)=>check_any x t B W (h.keep hk) hs (Nat.le_trans hB hk.size))
  have HN1:=qh (fun (g:Nat) (lb:Array Value) (p:Rt→Bool) (eg:∀args w,(callFunc g args).run Tryz.prog w=.ok (.enter g args) w) (W:World) (bt bl br bo bg:Nat) (out:List Lk) (gone:List Stp) (hk:Keep Never w W) (h8:out.length≤100) (hg9:gone.length≤10000) (hX:ChX w W x bt bl br bo bg Al nl cl train out gone) (hm:PredRo g lb t p W)=>ch1_any g lb p eg x t B Al nl cl l train w W bt bl br bo bg out gone (h.keep hk) hs (Nat.le_trans hB hk.size) hl hnl h8 hg9 hX hm)
  have HP2:Hid (∀(W:World) (bt bl br bo bg:Nat) (out:List Lk) (gone:List Stp),Keep Never w W→ChX w W x bt bl br bo bg Al nl cl train out gone→gone≠[]→gone.length≤10000→checkM t=0→PredRo 42 #[.pointer (some ⟨bt,0,none⟩),.pointer (some ⟨bg,0,none⟩)] t (followsB t gone) W):=qh (fun W bt bl br bo bg out gone hk hX hg0 hg9 hc V r A n c hV hr hp=>by
   obtain⟨Ao,no,co,Ag,ng,cg,_,hng,hS⟩:=hX
   have hS2:=hS.never hV
   have hpl:=hs.p r hr
   obtain⟨c1,c2⟩:=chain_path hc hr
   exact ch2_any r A n c V.heap.size x t B V.heap.size gone Ag ng cg bt bg V hp c1 (by have:=hp.stp_len;omega) (h.keep (hk.trans hV)) hs (hS2.og.rd) hg0 (by omega) hS2.ft hS2.fg)
  have HSp:=qh hs.p
  have eg1:=enters_of Tryz.func40 (by kernel_rfl) rfl
  have eg3:=enters_of Tryz.func47 (by kernel_rfl) rfl
  have HE2:=qh (enters_of Tryz.func42 (by kernel_rfl) rfl)
  have HE3:=qh eg3
  clear eg3
  obtain⟨s1,s2⟩:=s
  obtain⟨X,hX⟩:∃X,x=X:=⟨_,rfl⟩
  obtain⟨Ae,ne,ce,Aj,nj,cj,Ab,nb,cb,Ar,nr,cr⟩:=x
  simp only[TA.cs] at HCh ⊢
  rw[hX] at HN1 HP2
  have HX:=qh hX
  clear h hs hl hX
  obtain⟨w1,hw1⟩:∃V:World,w.alloc (.cells #[.slice Ae ne ce,.slice Aj nj cj,.slice Ab nb cb,.slice Ar nr cr] 27)=V:=⟨_,rfl⟩
  have zw1:w1.heap.size=w.heap.size+1:=by rw[←hw1];simp
  have kw1:Keep Never w w1:=by rw[←hw1];exact(Keep.refl _ _).alloc _
  have bw1:=Blk.new w 27 #[.slice Ae ne ce,.slice Aj nj cj,.slice Ab nb cb,.slice Ar nr cr]
  rw[hw1] at bw1
  obtain⟨w2,hw2⟩:∃V:World,w1.alloc (.cells #[.slice Al nl cl] 28)=V:=⟨_,rfl⟩
  have zw2:w2.heap.size=w.heap.size+1+1:=by rw[←hw2];simp[zw1]
  have kw2:Keep Never w1 w2:=by rw[←hw2];exact(Keep.refl _ _).alloc _
  have bw2:=Blk.new w1 28 #[.slice Al nl cl]
  rw[hw2,zw1] at bw2
  obtain⟨w3,hw3⟩:∃V:World,w2.alloc (.cells #[.int .i64 train] 3)=V:=⟨_,rfl⟩
  have zw3:w3.heap.size=w.heap.size+1+1+1:=by rw[←hw3];simp[zw2]
  have kw3:Keep Never w2 w3:=by rw[←hw3];exact(Keep.refl _ _).alloc _
  have bw3:=Blk.new w2 3 #[.int .i64 train]
  rw[hw3,zw2] at bw3
  obtain⟨w4,hw4⟩:∃V:World,w3.alloc (.cells #[.int .i64 s1,.bool s2] 30)=V:=⟨_,rfl⟩
  have kw4:Keep Never w3 w4:=by rw[←hw4];exact(Keep.refl _ _).alloc _
  have bw4:=Blk.new w3 30 #[.int .i64 s1,.bool s2]
  rw[hw4,zw3] at bw4
  have HB1:=qh (((bw1.keep kw2 (fun h=>h)).keep kw3 (fun h=>h)).keep kw4 (fun h=>h))
  have HB2:=qh ((bw2.keep kw3 (fun h=>h)).keep kw4 (fun h=>h))
  have HB3:=qh (bw3.keep kw4 (fun h=>h))
  have HB4:=qh bw4
  have HK:=qh (((kw1.trans kw2).trans kw3).trans kw4)
  clear kw1 kw2 kw3 kw4 bw1 bw2 bw3 bw4
  obtain⟨ck,hck⟩:∃z,checkM t=z:=⟨_,rfl⟩
  have HC:=qh (HCh.out w4 HK.out)
  rw[hck] at HC
  have HCk:=qh hck
  clear hck HCh
  obtain⟨y0,y1,y2,y3⟩:=bc4 HB1.out
  go_enter Tryz.func12, Tryz.ntmps12
  go_wp2_with fail
  refine HC.out.mono ?_
  rintro en w5 ⟨rfl,hk5⟩
  have HK5:=qtr HK hk5
  have HT5:=qkb HB1 hk5
  have HL5:=qkb HB2 hk5
  have HR5:=qkb HB3 hk5
  have HS5:=qkb HB4 hk5
  clear hk5 HC y0 y1 y2 y3 HB1 HB2 HB3 HB4 hw1 hw2 hw3 hw4 zw1 zw2 zw3
  by_cases g0:ck=0
  case neg=>
   have t0:(ck != 0)=true:=by simpa using g0
   have HF:Hid (chainM t l train (s1,s2)=[]):=qh (by unfold chainM;rw[if_neg (by rw[HCk.out];exact g0)])
   clear g0
   go_wp2_with fail
   go_ret
   exact⟨none,0,0,rfl,qh (by rw[HF.out];rfl),by rw[HF.out];exact Own.nil _ _ _ _,HK5.out⟩
  have t0:(ck != 0)=false:=by simpa using g0
  have HC0:Hid (checkM t=0):=qh (HCk.out.trans g0)
  clear g0 HCk
  obtain⟨w6,hw6⟩:∃V:World,w5.alloc (.cells #[.slice none 0 0] 28)=V:=⟨_,rfl⟩
  have k6:Keep Never w5 w6:=by rw[←hw6];exact(Keep.refl _ _).alloc _
  have B6:=Blk.new w5 28 #[.slice none 0 0]
  rw[hw6] at B6
  obtain⟨bo,hbo⟩:∃q,w5.heap.size=q:=⟨_,rfl⟩
  rw[hbo] at B6
  have HK6:=qtr HK5 k6
  have HL6:=qkb HL5 k6
  have HT6:=qkb HT5 k6
  have HR6:=qkb HR5 k6
  have HS6:=qkb HS5 k6
  have HO6:=qh B6
  clear k6 B6
  obtain⟨w7,hw7⟩:∃V:World,w6.alloc (.cells #[.slice none 0 0] 35)=V:=⟨_,rfl⟩
  have k7:Keep Never w6 w7:=by rw[←hw7];exact(Keep.refl _ _).alloc _
  have B7:=Blk.new w6 35 #[.slice none 0 0]
  rw[hw7] at B7
  obtain⟨bg,hbg⟩:∃q,w6.heap.size=q:=⟨_,rfl⟩
  rw[hbg] at B7
  have HK7:=qtr HK6 k7
  have HS7:=qkb HS6 k7
  have HX7:Hid (ChX w w7 X w.heap.size (w.heap.size+1) (w.heap.size+1+1) bo bg Al nl cl train [] []):=qh ⟨none,0,0,none,0,0,rfl,rfl,⟨HK7.out,by rw[←HX.out];exact HT6.out.keep k7 (fun h=>h),HL6.out.keep k7 (fun h=>h),HR6.out.keep k7 (fun h=>h),HO6.out.keep k7 (fun h=>h),B7,by simpa[spCells_nil] using Own.nil _ _ _ _,by simpa[stpCells_nil] using Own.nil _ _ _ _,⟨by have:=HK5.out.size;omega,by have:=HK6.out.size;omega⟩,by have:=HL5.out.lt;omega⟩⟩
  clear k7 B7
  have HC:=qh (HN1.out 47 #[.pointer (some ⟨w.heap.size+1+1+1,0,none⟩)] (hasB (s1,s2)) HE3.out w7 w.heap.size (w.heap.size+1) (w.heap.size+1+1) bo bg [] [] HK7.out (by simp) (by simp) HX7.out (fun V r A n c hV hr hp=>ch3_any r A n c V.heap.size (s1,s2) _ V hp (by have h1:=HSp.out r hr;have h2:=hp.stp_len;omega) ((HS7.out.keep hV (fun h=>h)).cell 0) ((HS7.out.keep hV (fun h=>h)).cell 1)))
  have HI0:=qh (ChR.start (l:=l) (train:=train) (s:=(s1,s2)) HC0.out)
  unfold NextRet at HC
  obtain⟨o,ho⟩:∃z,l.findSome? (nextK t train [] (hasB (s1,s2)))=z:=⟨_,rfl⟩
  rw[ho] at HC HI0
  clear ho
  obtain⟨res,hres⟩:∃z,chainM t l train (s1,s2)=z:=⟨_,rfl⟩
  rw[hres] at HI0
  have HRes:=qh hres
  clear hres
  go_wp2_with fail
  refine HC.out.mono ?_
  rintro en w8 ⟨rfl,hx8⟩
  have HI8:Hid (∃out gone,ChR t l train res 7 o.isSome out gone∧ChX w w8 X w.heap.size (w.heap.size+1) (w.heap.size+1+1) bo bg Al nl cl train out gone):=qh (by
   cases o with
   | none=>exact⟨_,_,HI0.out,hx8⟩
   | some z=>exact⟨_,_,HI0.out,hx8⟩)
  clear hx8 HC HI0 hw6 hw7 hbo hbg
  obtain⟨ok,hok⟩:∃z,o.isSome=z:=⟨_,rfl⟩
  rw[hok] at HI8
  (try rw[hok])
  clear hok
  go_wp2_with fail
  go_loopg [13] 7 (fun k okv wr=>∃(ok:Bool) (out:List Lk) (gone:List Stp),okv=.bool ok∧Hid (ChR t l train res k ok out gone∧ChX w wr X w.heap.size (w.heap.size+1) (w.heap.size+1+1) bo bg Al nl cl train out gone))
  case atStart=>
   obtain⟨out,gone,h1,h2⟩:=HI8.out
   exact⟨ok,out,gone,rfl,qh ⟨h1,h2⟩⟩
  case round=>
   obtain⟨ok,out,gone,rfl,HH⟩:=hrel
   obtain⟨Ao,no,co,Ag,ng,cg,hno,hng,hS⟩:=HH.out.2
   have HSr:=qh hS
   have HNo:=qh hno
   have xo:wr.cell? ⟨bo,0,none⟩=some (.slice Ao no co):=hS.fo.cell 0
   clear hS hno hng
   cases ok with
   | false=>
    have HF:Hid (out=res):=qh (HH.out.1.stop rfl)
    go_wp2_with fail
    go_ret
    exact⟨Ao,no,co,rfl,qh (by rw[HRes.out,←HF.out];exact HNo.out),by rw[HRes.out,←HF.out];exact HSr.out.oo,HSr.out.kp⟩
   | true=>
    by_cases g8:no<8
    ·have t8:decide ((no:Int)<8)=true:=by simp;omega
     have t8b:decide (no<8)=true:=by simpa using g8
     have HG:Hid (∃k',gk=k'+1):=qh (by have h1:=(HH.out.1.go rfl).2.2.1;have h2:=HNo.out;exact⟨gk - 1,by omega⟩)
     obtain⟨k',hk'⟩:=HG.out
     subst hk'
     have HI:=qh (HH.out.1.next HC0.out)
     have hgn:=(HH.out.1.go rfl).2.1
     have hfew:=HH.out.1.few
     have hln:=HH.out.1.len
     have HC:=qh (HN1.out 42 #[.pointer (some ⟨w.heap.size,0,none⟩),.pointer (some ⟨bg,0,none⟩)] (followsB t gone) HE2.out wr w.heap.size (w.heap.size+1) (w.heap.size+1+1) bo bg out gone HSr.out.kp (by omega) (by omega) HH.out.2 (HP2.out wr w.heap.size (w.heap.size+1) (w.heap.size+1+1) bo bg out gone HSr.out.kp HH.out.2 hgn (by omega) HC0.out))
     unfold NextRet at HC
     obtain⟨o,ho⟩:∃z,l.findSome? (nextK t train out (followsB t gone))=z:=⟨_,rfl⟩
     rw[ho] at HC HI
     clear ho hgn hfew hln HG g8
     go_wp2_with fail
     refine HC.out.mono ?_
     rintro en w9 ⟨rfl,hx9⟩
     have HI9:Hid (∃out gone,ChR t l train res k' o.isSome out gone∧ChX w w9 X w.heap.size (w.heap.size+1) (w.heap.size+1+1) bo bg Al nl cl train out gone):=qh (by
      cases o with
      | none=>exact⟨_,_,HI.out,hx9⟩
      | some z=>exact⟨_,_,HI.out,hx9⟩)
     obtain⟨ok,hok⟩:∃z,o.isSome=z:=⟨_,rfl⟩
     rw[hok] at HI9
     (try rw[hok])
     clear hok hx9 HC HI xo
     go_wp2_with fail
     go_roundg k'
     case measure=>omega
     case rel=>
      obtain⟨out',gone',h1,h2⟩:=HI9.out
      exact⟨ok,out',gone',rfl,qh ⟨h1,h2⟩⟩
    ·have t8:decide ((no:Int)<8)=false:=by simp;omega
     have t8b:decide (no<8)=false:=by simpa using g8
     have HF:Hid (out=res):=qh (HH.out.1.fin (by rw[←HNo.out];exact g8))
     clear g8
     go_wp2_with fail
     go_ret
     exact⟨Ao,no,co,rfl,qh (by rw[HRes.out,←HF.out];exact HNo.out),by rw[HRes.out,←HF.out];exact HSr.out.oo,HSr.out.kp⟩
end Go.Proofs.YtpapiojicbbheaaGreatDoor

namespace Go.Proofs.YtpapiojicbbheaaGreatDoor
open Go.RowKit
def wayO (t:Tp) (l:List Lk):List Stp:=l.flatMap fun k=>((rtM t.2.2.2 k.1).map (·.2.1)).getD []
theorem way_get (o:Option Rt):(o.getD (0,[],0,0)).2.1=(o.map (·.2.1)).getD []:=by cases o <;> rfl
theorem wayO_next {t:Tp}{l:List Lk}{k:Nat}{x:Lk} (h:l[k]?=some x):wayO t (l.take (k+1))=wayO t (l.take k)++((rtM t.2.2.2 x.1).getD (0,[],0,0)).2.1:=by
 unfold wayO
 rw[List.take_add_one,h,List.flatMap_append,way_get]
 simp
theorem path_eight {t:Tp} (hc:checkM t=0) (id:Int):((rtM t.2.2.2 id).getD (0,[],0,0)).2.1.length≤8:=by
 cases hr:rtM t.2.2.2 id with
 | none=>simp
 | some r=>exact(chain_path hc (List.mem_of_find?_eq_some hr)).2
theorem wayO_len {t:Tp} (hc:checkM t=0) {l:List Lk}:∀k,k≤l.length→(wayO t (l.take k)).length≤8*k
  | 0,_=>by simp[wayO]
  | k+1,h=>by
   have ih:=wayO_len hc (l:=l) k (by omega)
   rw[wayO_next (List.getElem?_eq_getElem (by omega)),List.length_append]
   have:=path_eight hc (l[k]'(by omega)).1
   omega
set_option maxHeartbeats 4000000 in
set_option maxRecDepth 100000 in
theorem rway17_any (x:TA) (t:Tp) (B:Nat) (A:Option Addr) (n c:Nat) (l:List Lk) (w:World) (h:TpAt w B x t) (hs:TpSmall x t) (hB:B≤w.heap.size) (hc:checkM t=0) (hl:SpAt w w.heap.size A n c l) (hn:n≤8) :
    Calls Tryz.prog 49 #[.agg x.cs,.slice A n c] w (StpsRet (wayO t l) w):=by
  have HRt:=qh (fun (W:World) (hk:Keep Never w W) (id:Int)=>rrt_old x t B id W (h.keep hk) hs.r (Nat.le_trans hB hk.size))
  have HCk:=qh hc
  have HBw:=qh hB
  have HL:Hid (n=l.length):=qh hl.len.symm
  have HR:=qh hl.rd
  obtain⟨Ae,ne,ce,Aj,nj,cj,Ab,nb,cb,Aq,nq,cq⟩:=x
  simp only[TA.cs] at HRt ⊢
  clear h hs hB hl hc
  obtain⟨w1,hw1⟩:∃V:World,w.alloc (.cells #[.slice Ae ne ce,.slice Aj nj cj,.slice Ab nb cb,.slice Aq nq cq] 27)=V:=⟨_,rfl⟩
  have kw1:Keep Never w w1:=by rw[←hw1];exact(Keep.refl _ _).alloc _
  have bw1:=Blk.new w 27 #[.slice Ae ne ce,.slice Aj nj cj,.slice Ab nb cb,.slice Aq nq cq]
  rw[hw1] at bw1
  have HB1:=qh bw1
  have HK:=qh kw1
  clear kw1 bw1
  have HT1:=HB1
  have HK1:=HK
  have HBs:Hid (w1.heap.size=w.heap.size+1):=qh (by rw[←hw1];simp)
  clear HB1 HK
  go_enter Tryz.func49, Tryz.ntmps49
  go_wp2_with fail
  clear hw1
  go_loopw [5,6] (fun so si wr=>∃(k no co:Nat) (Ao:Option Addr),k≤n∧si=.int .i64 k∧so=.slice Ao no co∧no≤64∧Hid (Keep Never w wr∧Blk wr w.heap.size 27 #[.slice Ae ne ce,.slice Aj nj cj,.slice Ab nb cb,.slice Aq nq cq]∧Own wr (w.heap.size+1) 30 2 Ao no co (stpCells (wayO t (l.take k)))∧no=(wayO t (l.take k)).length∧∀u∈wayO t (l.take k),in64 u)) (fun _ si _=>n - (intOf si).toNat)
  case atStart=>exact⟨0,0,0,none,by omega,rfl,rfl,by omega,qh ⟨HK1.out,HT1.out,Own.nil _ _ _ _,rfl,by simp[wayO]⟩⟩
  case round=>
   obtain⟨k,no,co,Ao,hk,rfl,rfl,hno,HH⟩:=hrel
   have HKr:=qh HH.out.1
   have HTr:=qh HH.out.2.1
   have HOr:=qh HH.out.2.2.1
   have HNr:=qh HH.out.2.2.2.1
   have H6r:=qh HH.out.2.2.2.2
   clear HH
   by_cases h0:k<n
   case neg=>
    obtain rfl:k=n:=by omega
    have hki:¬(k:Int)<(k:Int):=by omega
    have HF:Hid (l.take k=l):=qh (List.take_of_length_le (by rw[HL.out];exact Nat.le_refl _))
    go_wp2_with fail
    go_ret
    rw[HF.out] at HOr HNr H6r
    exact⟨Ao,no,co,rfl,HNr,HOr.out.less (by omega),H6r,HKr.out⟩
   have hki:(k:Int)<(n:Int):=by omega
   obtain⟨ad,s,hA,_,hs,c0,_,_⟩:=(HR.out.keep HKr.out (fun _ h=>h.elim)).sp h0
   subst hA
   have HNx:=qh (wayO_next (t:=t) hs)
   have HNl:Hid ((wayO t (l.take (k+1))).length≤64):=qh (by have:=wayO_len HCk.out (l:=l) (k+1) (by rw[←HL.out];omega);omega)
   obtain⟨q1,q2,q3⟩:=s
   simp only at c0 HNx
   have hp8:=path_eight HCk.out q1
   have HRr:Hid (∀V,Keep Never wr V→Calls Tryz.prog 50 #[.agg #[.slice Ae ne ce,.slice Aj nj cj,.slice Ab nb cb,.slice Aq nq cq],.int .i64 q1] V (RtRetB B (rtM t.2.2.2 q1) V)):=qh (fun V hV=>HRt.out V (HKr.out.trans hV) q1)
   unfold RtRetB at HRr
   obtain⟨⟨ri,rp,rg,rm⟩,hro⟩:∃z,(rtM t.2.2.2 q1).getD (0,[],0,0)=z:=⟨_,rfl⟩
   rw[hro] at HRr HNx hp8
   simp only at HRr HNx hp8
   have HP8:=qh hp8
   have HBr:Hid (B≤wr.heap.size):=qh (Nat.le_trans HBw.out HKr.out.size)
   obtain⟨y0,y1,y2,y3⟩:=bc4 HTr.out
   have HS2:Hid (∀W',Keep Never wr W'→Keep Never wr W'∧W'.cell? ⟨w.heap.size,0,none⟩=some (.slice Ae ne ce)∧W'.cell? ⟨w.heap.size,1,none⟩=some (.slice Aj nj cj)∧W'.cell? ⟨w.heap.size,2,none⟩=some (.slice Ab nb cb)∧W'.cell? ⟨w.heap.size,3,none⟩=some (.slice Aq nq cq)∧W'.cell? (ad.add (k*3))=some (.int .i64 q1)):=qh (fun W' h=>⟨h,keepT h y0,keepT h y1,keepT h y2,keepT h y3,keepT h c0⟩)
   clear hs hro hp8
   go_upto_region 5 with(fail)
   clear y0 y1 y2 y3 c0
   go_region_held3 (fun W'=>Keep Never wr W'∧W'.cell? ⟨w.heap.size,0,none⟩=some (.slice Ae ne ce)∧W'.cell? ⟨w.heap.size,1,none⟩=some (.slice Aj nj cj)∧W'.cell? ⟨w.heap.size,2,none⟩=some (.slice Ab nb cb)∧W'.cell? ⟨w.heap.size,3,none⟩=some (.slice Aq nq cq)∧W'.cell? (ad.add (k*3))=some (.int .i64 q1))
     (first| assumption | exact HS2.out _ ((Keep.refl Never wr).drew) | exact HS2.out _ (Keep.trans (And.left (by assumption)) hk9) | exact HS2.out _ (Keep.trans ((Keep.refl Never wr).drew) hk9) | exact HS2.out _ (Keep.alloc (And.left (by assumption)) _) | exact HS2.out _ (Keep.alloc (Keep.trans ((Keep.refl Never wr).drew) hk9) _) | exact HS2.out _ (put4_keep (And.left (by assumption)) (.inr (by first | exact Nat.le_refl _ | exact(Keep.size (And.left (by assumption))) | omega)) _ _ _ _))
     (first
       | (go_at_call 50; refine(HRr.out _ (by first | exact And.left (by assumption) | exact(Keep.refl Never wr).drew | exact Keep.refl Never wr | exact Keep.alloc (And.left (by assumption)) _)).mono ?_;rintro en w9 ⟨Ar,nr,cr,rfl,hsl,hk9⟩;have HK9:Hid (Keep Never wr w9):=qh (by first | exact Keep.trans (And.left (by assumption)) hk9 | exact Keep.trans ((Keep.refl Never wr).drew) hk9);have HO9:=qh hsl;have nb9:Hid (Blk w9 wr.heap.size 64 #[.int .i64 0,.slice none 0 0,.int .i64 0,.int .i64 0]):=qh (by first | exact Blk.keep (Blk.new wr 64 #[.int .i64 0,.slice none 0 0,.int .i64 0,.int .i64 0]) hk9 (fun h=>h) | exact Blk.keep (Blk.drew (Blk.new wr 64 #[.int .i64 0,.slice none 0 0,.int .i64 0,.int .i64 0])) hk9 (fun h=>h) | exact Blk.keep (Blk.new wr.drew 64 #[.int .i64 0,.slice none 0 0,.int .i64 0,.int .i64 0]) hk9 (fun h=>h));have n0:w9.cell? ⟨wr.heap.size,0,none⟩=some (.int .i64 0):=nb9.out.cell 0;have m0:=nb9.out.frozen 0;have n1:w9.cell? ⟨wr.heap.size,1,none⟩=some (.slice none 0 0):=nb9.out.cell 1;have m1:=nb9.out.frozen 1;have n2:w9.cell? ⟨wr.heap.size,2,none⟩=some (.int .i64 0):=nb9.out.cell 2;have m2:=nb9.out.frozen 2;have n3:w9.cell? ⟨wr.heap.size,3,none⟩=some (.int .i64 0):=nb9.out.cell 3;have m3:=nb9.out.frozen 3)
       | (go_at_call 50; refine(HRr.out _ (by first | exact And.left (by assumption) | exact(Keep.refl Never wr).drew | exact Keep.refl Never wr | exact Keep.alloc (And.left (by assumption)) _)).mono ?_;rintro en w9 ⟨Ar,nr,cr,rfl,hsl,hk9⟩;have HK9:Hid (Keep Never wr w9):=qh (by first | exact Keep.trans (And.left (by assumption)) hk9 | exact Keep.trans ((Keep.refl Never wr).drew) hk9);have HO9:=qh hsl;have n0:(w9.alloc (.cells #[.int .i64 0,.slice none 0 0,.int .i64 0,.int .i64 0] 64)).cell? ⟨w9.heap.size,0,none⟩=some (.int .i64 0):=(Blk.new w9 64 #[.int .i64 0,.slice none 0 0,.int .i64 0,.int .i64 0]).cell 0;have m0:=(Blk.new w9 64 #[.int .i64 0,.slice none 0 0,.int .i64 0,.int .i64 0]).frozen 0;have n1:(w9.alloc (.cells #[.int .i64 0,.slice none 0 0,.int .i64 0,.int .i64 0] 64)).cell? ⟨w9.heap.size,1,none⟩=some (.slice none 0 0):=(Blk.new w9 64 #[.int .i64 0,.slice none 0 0,.int .i64 0,.int .i64 0]).cell 1;have m1:=(Blk.new w9 64 #[.int .i64 0,.slice none 0 0,.int .i64 0,.int .i64 0]).frozen 1;have n2:(w9.alloc (.cells #[.int .i64 0,.slice none 0 0,.int .i64 0,.int .i64 0] 64)).cell? ⟨w9.heap.size,2,none⟩=some (.int .i64 0):=(Blk.new w9 64 #[.int .i64 0,.slice none 0 0,.int .i64 0,.int .i64 0]).cell 2;have m2:=(Blk.new w9 64 #[.int .i64 0,.slice none 0 0,.int .i64 0,.int .i64 0]).frozen 2;have n3:(w9.alloc (.cells #[.int .i64 0,.slice none 0 0,.int .i64 0,.int .i64 0] 64)).cell? ⟨w9.heap.size,3,none⟩=some (.int .i64 0):=(Blk.new w9 64 #[.int .i64 0,.slice none 0 0,.int .i64 0,.int .i64 0]).cell 3;have m3:=(Blk.new w9 64 #[.int .i64 0,.slice none 0 0,.int .i64 0,.int .i64 0]).frozen 3))
   all_goals
    rename_i hS
    clear hS
    (try clear n0 n1 n2 n3 m0 m1 m2 m3)
    first
    | (obtain⟨w8,hw8⟩:∃V:World,(((w9.setCell ⟨wr.heap.size,0,none⟩ (.int .i64 ri)).setCell ⟨wr.heap.size,1,none⟩ (.slice Ar nr cr)).setCell ⟨wr.heap.size,2,none⟩ (.int .i64 rg)).setCell ⟨wr.heap.size,3,none⟩ (.int .i64 rm)=V:=⟨_,rfl⟩
       rw[hw8]
       obtain⟨b8,hb8⟩:∃q,wr.heap.size=q:=⟨_,rfl⟩
       rw[hb8] at nb9 hw8 ⊢
       have HB8:Hid (Blk w8 b8 64 #[.int .i64 ri,.slice Ar nr cr,.int .i64 rg,.int .i64 rm]):=qh (by rw[←hw8];exact put4_blk nb9.out _ _ _ _)
       have HK8:Hid (Keep Never wr w8):=qh (by rw[←hw8];exact put4_keep HK9.out (.inr (by omega)) _ _ _ _)
       have HO8:=qh (HO9.out.keep (show Keep (fun i=>i=b8) w9 w8 from by rw[←hw8];exact put4_keep (Keep.refl (fun i=>i=b8) w9) (.inl rfl) _ _ _ _) (fun k e=>by have h1:=HBr.out;omega))
       have HN8:Hid (wr.heap.size≤b8):=qh (by omega)
       clear hw8 hb8 nb9 HO9 HK9 hk9)
    | (obtain⟨w8,hw8⟩:∃V:World,w9.alloc (.cells #[.int .i64 ri,.slice Ar nr cr,.int .i64 rg,.int .i64 rm] 64)=V:=⟨_,rfl⟩
       rw[hw8]
       obtain⟨b8,hb8⟩:∃q,w9.heap.size=q:=⟨_,rfl⟩
       rw[hb8]
       have HB8:Hid (Blk w8 b8 64 #[.int .i64 ri,.slice Ar nr cr,.int .i64 rg,.int .i64 rm]):=qh (by rw[←hw8,←hb8];exact Blk.new _ _ _)
       have HK8:Hid (Keep Never wr w8):=qh (by rw[←hw8];exact HK9.out.alloc _)
       have HO8:=qh (HO9.out.keep (show Keep Never w9 w8 from by rw[←hw8];exact(Keep.refl _ _).alloc _) (fun _ h=>h.elim))
       have HN8:Hid (wr.heap.size≤b8):=qh (by rw[←hb8];exact HK9.out.size)
       clear hw8 hb8 HO9 HK9 hk9)
   all_goals
    have hk:=HK8.out
    have HK9:=qtr HKr hk
    have HT9:=qkb HTr hk
    have HO9:=qko HOr hk
    have HS9:=qh (stps_rd HO8.out)
    have hnr:nr≤8:=by have h1:=HS9.out.2.1;have h2:=HP8.out;omega
    have hz9:w.heap.size+1≤w8.heap.size:=by have:=HT9.out.lt;omega
    have o1:w8.cell? ⟨b8,1,none⟩=some (.slice Ar nr cr):=HB8.out.cell 1
    clear hk HK8 HKr HTr HOr HS2 HO8 HRr
    go_wp2_with (at_builtin;refine wpList_app _ rfl (.tmp 25) (.tmp 27) _ rfl elemStp (w.heap.size+1) (A:=Ao) (n:=no) (c:=co) (by go_simp) HO9.out _ (A':=Ar) (m:=nr) (c':=cr) (by go_simp) HS9.out.1 (stpCells_one _) (by omega) (by unfold maxLen;omega) hz9 ?_;intro A10 c10 w10 hown hk10 hrow;have HO10:Hid (Own w10 (w.heap.size+1) 30 2 A10 (no+nr) c10 (stpCells (wayO t (l.take (k+1))))):=qh (by rw[HNx.out,stpCells_app];exact hown);have HT10:=qh (HT9.out.keep hk10 (fun h=>by have:=(HO9.out.row h).1;omega));have HK10:=qh (HK9.out.then_ hk10 (fun i hi h=>by have:=(HO9.out.row h).1;omega));clear hown hk10 hrow)
    refine⟨⟨k+1,no+nr,c10,A10,by omega,by go_num,rfl,by have h1:=HNl.out;rw[HNx.out,List.length_append] at h1;have h2:=HNr.out;have h3:=HS9.out.2.1;omega,qh ⟨HK10.out,HT10.out,HO10.out,by rw[HNx.out,List.length_append,←HNr.out,←HS9.out.2.1],fun u hu=>by rw[HNx.out] at hu;rcases List.mem_append.1 hu with hu | hu;exact H6r.out u hu;exact HS9.out.2.2.2.2.2 u hu⟩⟩,?_⟩
    simp[intOf];try omega
end Go.Proofs.YtpapiojicbbheaaGreatDoor

namespace Go.Proofs.YtpapiojicbbheaaGreatDoor
open Go.RowKit
def chainD (t:Tp) (l:List Lk) (train:Int) (s:Stp):Nat→List Lk→List Lk
  | 0,out=>out
  | f+1,out=>match l.findSome? (nextD t train (wayO t out) s out) with
    | none=>out
    | some k=>chainD t l train s f (out++[k])
theorem wayO_snoc {t:Tp}{out:List Lk}{k:Lk}{r:Rt} (h:rtM t.2.2.2 k.1=some r):wayO t (out++[k])=wayO t out++r.2.1:=by
 unfold wayO
 rw[List.flatMap_append]
 simp[h]
theorem chainD_k {t:Tp}{l:List Lk}{train:Int}{s:Stp}:∀{f:Nat}{out:List Lk},out≠[]→chainD t l train s f out=(chainK t l train f out (wayO t out)).1
  | 0,out,_=>rfl
  | f+1,out,h=>by
   unfold chainD chainK
   rw[next_doc,if_neg h]
   cases hz:l.findSome? (nextK t train out (followsB t (wayO t out))) with
   | none=>rfl
   | some z=>
    obtain⟨k,hk,hz⟩:=List.exists_of_findSome?_eq_some hz
    obtain⟨h1,h2,_⟩:=nextK_some hz
    simp only[Option.map_some]
    rw[chainD_k (by simp),wayO_snoc (by rw[h1];exact h2)]
theorem chainM_d {t:Tp}{l:List Lk}{train:Int}{s:Stp} (hc:checkM t=0):chainM t l train s=chainD t l train s 8 []:=by
 unfold chainM
 rw[if_pos hc]
 unfold chainD
 rw[next_doc,if_pos rfl]
 cases hz:l.findSome? (nextK t train [] (hasB s)) with
 | none=>rfl
 | some z=>
  obtain⟨k,hk,hz⟩:=List.exists_of_findSome?_eq_some hz
  obtain⟨h1,h2,_⟩:=nextK_some hz
  simp only[Option.map_some]
  rw[chainD_k (by simp),wayO_snoc (by rw[h1];exact h2)]
  rfl
structure ChD (t:Tp) (l:List Lk) (train:Int) (s:Stp) (res:List Lk) (k:Nat) (out:List Lk):Prop where
  go:chainD t l train s k out=res
  len:k+out.length=8
  rt:∀x∈out,∃r,rtM t.2.2.2 x.1=some r
theorem ChD.fin {t:Tp}{l:List Lk}{train:Int}{s:Stp}{res:List Lk}{k:Nat}{out:List Lk} (h:ChD t l train s res k out) (h8:¬out.length<8):out=res:=by
 have h1:=h.go
 have h2:=h.len
 obtain rfl:k=0:=by omega
 exact h1
theorem ChD.stop {t:Tp}{l:List Lk}{train:Int}{s:Stp}{res:List Lk}{k:Nat}{out:List Lk} (h:ChD t l train s res k out) (h8:out.length<8) (hf:l.findSome? (nextD t train (wayO t out) s out)=none):out=res:=by
 have h1:=h.go
 have h2:=h.len
 obtain⟨f,rfl⟩:∃f,k=f+1:=⟨k - 1,by omega⟩
 unfold chainD at h1
 rw[hf] at h1
 exact h1
theorem ChD.next {t:Tp}{l:List Lk}{train:Int}{s:Stp}{res:List Lk}{k:Nat}{out:List Lk} (h:ChD t l train s res (k+1) out) {x:Lk} (hf:l.findSome? (nextD t train (wayO t out) s out)=some x) {r:Rt} (hr:rtM t.2.2.2 x.1=some r):ChD t l train s res k (out++[x]):=by
 have h1:=h.go
 have h2:=h.len
 unfold chainD at h1
 rw[hf] at h1
 refine⟨h1,by simp;omega,fun u hu=>?_⟩
 rcases List.mem_append.1 hu with hu | hu
 ·exact h.rt u hu
 ·simp at hu;subst hu;exact⟨r,hr⟩
theorem wayO_some {t:Tp} (hc:checkM t=0) {out:List Lk} (h0:out≠[]) (h:∀x∈out,∃r,rtM t.2.2.2 x.1=some r):wayO t out≠[]:=by
 obtain⟨x,l,rfl⟩:=List.exists_cons_of_ne_nil h0
 obtain⟨r,hr⟩:=h x (by simp)
 have:=(chain_path hc (List.mem_of_find?_eq_some hr)).1
 unfold wayO
 simp[hr,this]
structure ChJ (t:Tp) (l:List Lk) (train:Int) (s:Stp) (out:List Lk) (i:Nat) (fd:Bool) (o:List Lk):Prop where
  no:fd=false→o=out∧(l.take i).findSome? (nextD t train (wayO t out) s out)=none
  yes:fd=true→∃x r,o=out++[x]∧l.findSome? (nextD t train (wayO t out) s out)=some x∧rtM t.2.2.2 x.1=some r
theorem ChJ.start (t:Tp) (l:List Lk) (train:Int) (s:Stp) (out:List Lk):ChJ t l train s out 0 false out:=⟨fun _=>⟨rfl,rfl⟩,fun h=>by cases h⟩
theorem ChJ.pass {t:Tp}{l:List Lk}{train:Int}{s:Stp}{out o:List Lk}{i:Nat}{x:Lk} (h:ChJ t l train s out i false o) (hx:l[i]?=some x) (hn:nextD t train (wayO t out) s out x=none):ChJ t l train s out (i+1) false out:=by
 refine⟨fun _=>⟨rfl,?_⟩,fun h=>by cases h⟩
 rw[List.take_add_one,hx,List.findSome?_append,(h.no rfl).2]
 simp[hn]
theorem ChJ.hit {t:Tp}{l:List Lk}{train:Int}{s:Stp}{out o:List Lk}{i:Nat}{x:Lk}{r:Rt} (h:ChJ t l train s out i false o) (hx:l[i]?=some x) (hn:nextD t train (wayO t out) s out x=some x) (hr:rtM t.2.2.2 x.1=some r) (j:Nat):ChJ t l train s out j true (out++[x]):=by
 refine⟨fun h=>by(exact absurd h (by simp)),fun _=>⟨x,r,rfl,?_,hr⟩⟩
 obtain⟨h2,h3⟩:=List.getElem?_eq_some_iff.1 hx
 have e:l=l.take i++x::l.drop (i+1):=by rw[←h3,List.getElem_cons_drop,List.take_append_drop]
 rw[e,List.findSome?_append,(h.no rfl).2,List.findSome?_cons,hn]
 rfl
def nextB (t:Tp) (way:List Stp) (s:Stp) (out:List Lk) (r:Rt):Bool:=if out=[] then hasB s r else followsB t way r
theorem nextD_off {t:Tp}{train:Int}{way:List Stp}{s:Stp}{out:List Lk}{k:Lk} (h:k.2.1≠train∨rtM t.2.2.2 k.1=none):nextD t train way s out k=none:=by
 unfold nextD
 rcases h with h | h
 ·cases rtM t.2.2.2 k.1 with
  | none=>rfl
  | some r=>simp only;rw[if_neg (fun h1=>h h1.1)]
 ·rw[h]
theorem nextD_is {t:Tp}{train:Int}{way:List Stp}{s:Stp}{out:List Lk}{k:Lk}{r:Rt} (h:k.2.1=train) (hr:rtM t.2.2.2 k.1=some r):nextD t train way s out k=if (nextB t way s out r&&!out.contains k)=true then some k else none:=by
 unfold nextD nextB
 rw[hr]
 simp only
 by_cases h1:k∈out
 ·rw[if_neg (fun h2=>h2.2.2 h1),if_neg (by simp[h1])]
 ·have h2:out.contains k=false:=by simpa using h1
  rw[h2]
  simp only[Bool.not_false,Bool.and_true]
  by_cases h3:(if out=[] then hasB s r else followsB t way r)=true
  ·rw[if_pos ⟨h,h3,h1⟩,if_pos h3]
  ·rw[if_neg (fun h4=>h3 h4.2.1),if_neg h3]
theorem follows_doc {t:Tp}{way:List Stp}{r:Rt}{g h:Stp} (hg:way.getLast?=some g) (hh:r.2.1.head?=some h) (h1:thereB t.1.length g.1=true) (h2:thereB t.1.length h.1=true):followsB t way r=(mayJ t.2.1 g h&&!(way.any fun u=>overB r.2.1 u.1)):=by
 unfold followsB
 rw[hg,hh]
 simp only
 have e1:(afterM t g).contains h=mayJ t.2.1 g h:=by
  rw[Bool.eq_iff_iff]
  simp only[List.contains_eq_mem,decide_eq_true_eq]
  rw[afterM_mem]
  exact⟨fun h=>h.2.2,fun h=>⟨h1,h2,h⟩⟩
 have e2:(r.2.1.any fun u=>overB way u.1)=(way.any fun u=>overB r.2.1 u.1):=by
  rw[Bool.eq_iff_iff,List.any_eq_true,List.any_eq_true]
  constructor
  ·rintro⟨u,hu,hv⟩
   obtain⟨v,hv,e⟩:=over_iff.1 hv
   exact⟨v,hv,over_iff.2 ⟨u,hu,e.symm⟩⟩
  ·rintro⟨u,hu,hv⟩
   obtain⟨v,hv,e⟩:=over_iff.1 hv
   exact⟨v,hv,over_iff.2 ⟨u,hu,e.symm⟩⟩
 rw[e1,e2]
theorem path_there {t:Tp} (hc:checkM t=0) {r:Rt} (hr:r∈t.2.2.2):∀u∈r.2.1,thereB t.1.length u.1=true:=by
 obtain⟨i,hi⟩:=List.mem_iff_getElem?.1 hr
 exact List.all_eq_true.1 (len_way (check_good hc hi).err).1
theorem wayO_there {t:Tp} (hc:checkM t=0) {l:List Lk}:∀u∈wayO t l,thereB t.1.length u.1=true:=by
 intro u hu
 unfold wayO at hu
 obtain⟨k,_,hu⟩:=List.mem_flatMap.1 hu
 cases hr:rtM t.2.2.2 k.1 with
 | none=>rw[hr] at hu;cases hu
 | some r=>
  rw[hr] at hu
  exact path_there hc (List.mem_of_find?_eq_some hr) u hu
end Go.Proofs.YtpapiojicbbheaaGreatDoor

namespace Go.Proofs.YtpapiojicbbheaaGreatDoor
open Go.RowKit
theorem add_zero17 (a:Addr):a.add 0=a:=by unfold Addr.add;split <;> simp_all
set_option maxHeartbeats 8000000 in
set_option maxRecDepth 100000 in
theorem rchain17_any (x:TA) (t:Tp) (B:Nat) (A:Option Addr) (n c:Nat) (l:List Lk) (train:Int) (s:Stp) (w:World) (h:TpAt w B x t) (hs:TpSmall x t) (hB:B≤w.heap.size) (hl:SpAt w B A n c l) (hn:n≤1000000) :
    Calls Tryz.prog 13 #[.agg x.cs,.slice A n c,.int .i64 train,.agg #[.int .i64 s.1,.bool s.2]] w (LksRet (chainM t l train s) w):=by
  have HCh:=qh (fun (W:World) (hk:Keep Never w W)=>rcheck_any x t B W (h.keep hk) hs (Nat.le_trans hB hk.size))
  have HRt:=qh (fun (W:World) (hk:Keep Never w W) (id:Int)=>rrt_old x t B id W (h.keep hk) hs.r (Nat.le_trans hB hk.size))
  have HWy:=qh (fun (hc:checkM t=0) (W:World) (hk:Keep Never w W) (A:Option Addr) (n c:Nat) (l:List Lk) (hl:SpAt W W.heap.size A n c l) (hn:n≤8)=>rway17_any x t B A n c l W (h.keep hk) hs (Nat.le_trans hB hk.size) hc hl hn)
  have HMy:=qh (fun (W:World) (hk:Keep Never w W) (a b:Stp)=>rmayj_any x t B a b W (h.keep hk) hs.j)
  have HBw:=qh hB
  have HL:Hid (n=l.length):=qh hl.len.symm
  have HR:=qh hl.rd
  have hnn:=hn
  obtain⟨Ae,ne,ce,Aj,nj,cj,Ab,nb,cb,Aq,nq,cq⟩:=x
  obtain⟨s1,s2⟩:=s
  simp only[TA.cs] at HCh HRt HWy HMy ⊢
  clear h hs hB hl
  obtain⟨w1,hw1⟩:∃V:World,w.alloc (.cells #[.slice Ae ne ce,.slice Aj nj cj,.slice Ab nb cb,.slice Aq nq cq] 27)=V:=⟨_,rfl⟩
  have zw1:w1.heap.size=w.heap.size+1:=by rw[←hw1];simp
  have kw1:Keep Never w w1:=by rw[←hw1];exact(Keep.refl _ _).alloc _
  have bw1:=Blk.new w 27 #[.slice Ae ne ce,.slice Aj nj cj,.slice Ab nb cb,.slice Aq nq cq]
  rw[hw1] at bw1
  obtain⟨w2,hw2⟩:∃V:World,w1.alloc (.cells #[.int .i64 s1,.bool s2] 30)=V:=⟨_,rfl⟩
  have kw2:Keep Never w1 w2:=by rw[←hw2];exact(Keep.refl _ _).alloc _
  have bw2:=Blk.new w1 30 #[.int .i64 s1,.bool s2]
  rw[hw2,zw1] at bw2
  have HB1:=qh (bw1.keep kw2 (fun h=>h))
  have HB2:=qh bw2
  have HK:=qh (kw1.trans kw2)
  clear kw1 kw2 bw1 bw2
  obtain⟨ck,hck⟩:∃z,checkM t=z:=⟨_,rfl⟩
  have HC:=qh (HCh.out w2 HK.out)
  rw[hck] at HC
  have HCk:=qh hck
  clear hck HCh
  obtain⟨y0,y1,y2,y3⟩:=bc4 HB1.out
  go_enter Tryz.func13, Tryz.ntmps13
  go_wp2_with fail
  refine HC.out.mono ?_
  rintro en w5 ⟨rfl,hk5⟩
  have HK5:=qtr HK hk5
  have HT5:=qkb HB1 hk5
  have HS5:=qkb HB2 hk5
  clear hk5 HC y0 y1 y2 y3 HB1 HB2 HK hw1 hw2 zw1
  by_cases g0:ck=0
  case neg=>
   have t0:(ck != 0)=true:=by simpa using g0
   have HF:Hid (chainM t l train (s1,s2)=[]):=qh (by unfold chainM;rw[if_neg (by rw[HCk.out];exact g0)])
   clear g0
   go_wp2_with fail
   go_ret
   exact⟨none,0,0,rfl,qh (by rw[HF.out];rfl),by rw[HF.out];exact Own.nil _ _ _ _,HK5.out⟩
  have t0:(ck != 0)=false:=by simpa using g0
  have HC0:Hid (checkM t=0):=qh (by rw[HCk.out];exact g0)
  obtain⟨res,hres⟩:∃z,chainM t l train (s1,s2)=z:=⟨_,rfl⟩
  have HI0:Hid (ChD t l train (s1,s2) res 8 []):=qh ⟨by rw[←chainM_d HC0.out];exact hres,rfl,by simp⟩
  have HRes:=qh hres
  clear hres g0 HCk
  go_wp2_with fail
  clear t0
  go_loopg [9] 8 (fun k o wr=>∃(out:List Lk) (no co:Nat) (Ao:Option Addr),o=.slice Ao no co∧no≤8∧Hid (no=out.length∧ChD t l train (s1,s2) res k out∧Keep Never w wr∧Blk wr w.heap.size 27 #[.slice Ae ne ce,.slice Aj nj cj,.slice Ab nb cb,.slice Aq nq cq]∧Blk wr (w.heap.size+1) 30 #[.int .i64 s1,.bool s2]∧Own wr (w.heap.size+2) 62 3 Ao no co (spCells out)))
  case atStart=>
   exact⟨[],0,0,none,rfl,by omega,qh ⟨rfl,HI0.out,HK5.out,HT5.out,HS5.out,Own.nil _ _ _ _⟩⟩
  case round=>
   clear HI0 HK5 HT5 HS5
   obtain⟨out,no,co,Ao,rfl,hno8,HH⟩:=hrel
   have HNo:=qh HH.out.1
   have HD:=qh HH.out.2.1
   have HKr:=qh HH.out.2.2.1
   have HTr:=qh HH.out.2.2.2.1
   have HSr:=qh HH.out.2.2.2.2.1
   have HOr:=qh HH.out.2.2.2.2.2
   clear HH
   by_cases g8:no<8
   case neg=>
    have t8:decide ((no:Int)<8)=false:=by simp;omega
    have t8b:decide (no<8)=false:=by simpa using g8
    have HF:Hid (out=res):=qh (HD.out.fin (by rw[←HNo.out];exact g8))
    clear g8
    go_wp2_with fail
    go_ret
    rw[HF.out,←HRes.out] at HNo HOr
    exact⟨Ao,no,co,rfl,HNo,HOr.out.less (by omega),HKr.out⟩
   have t8:decide ((no:Int)<8)=true:=by simp;omega
   have t8b:decide (no<8)=true:=by simpa using g8
   have HG8:=qh g8
   have HC:=qh (HWy.out HC0.out wr HKr.out Ao no co out (lkAt_own HOr.out) (by omega))
   obtain⟨y0,y1,y2,y3⟩:=bc4 HTr.out
   clear g8
   go_wp2_with fail
   refine HC.out.mono ?_
   rintro en wz ⟨Aw,nw,cw,rfl,hnw,how,h64,hkz⟩
   have HKz:=qtr HKr hkz
   have HTz:=qkb HTr hkz
   have HSz:=qkb HSr hkz
   have HOz:=qko HOr hkz
   have HWz:Hid (Own wz (w.heap.size+2) 30 2 Aw nw cw (stpCells (wayO t out))):=qh (how.less (by have:=HSr.out.lt;omega))
   have HNw:Hid (nw=(wayO t out).length∧nw≤64):=qh ⟨hnw.out,by have h1:=wayO_len HC0.out (l:=out) out.length (Nat.le_refl _);rw[List.take_length] at h1;have h2:=hnw.out;have h3:=HNo.out;omega⟩
   have HJ0:=qh (ChJ.start t l train (s1,s2) out)
   clear HC hkz hnw how h64 HKr HTr HSr HOr y0 y1 y2 y3 t8 t8b
   go_wp2_with fail
   go_loopw [9,10,12] (fun o fb ib wr=>∃(out':List Lk) (fd:Bool) (i na ca:Nat) (Aa:Option Addr),o=.slice Aa na ca∧fb=.bool fd∧ib=.int .i64 i∧i≤n∧na≤8∧Hid (na=out'.length∧ChJ t l train (s1,s2) out i fd out'∧Keep Never w wr∧Blk wr w.heap.size 27 #[.slice Ae ne ce,.slice Aj nj cj,.slice Ab nb cb,.slice Aq nq cq]∧Blk wr (w.heap.size+1) 30 #[.int .i64 s1,.bool s2]∧Own wr (w.heap.size+2) 62 3 Aa na ca (spCells out')∧Own wr (w.heap.size+2) 30 2 Aw nw cw (stpCells (wayO t out)))) (fun _ _ ib _=>n - (intOf ib).toNat)
   case atStart=>exact⟨out,false,0,no,co,Ao,rfl,rfl,rfl,by omega,hno8,qh ⟨HNo.out,HJ0.out,HKz.out,HTz.out,HSz.out,HOz.out,HWz.out⟩⟩
   case round=>
    clear HJ0 HKz HTz HSz HOz HWz
    obtain⟨out',fd,i,na,ca,Aa,rfl,rfl,rfl,hi,hna,HH⟩:=hrel
    have HNa:=qh HH.out.1
    have HJ:=qh HH.out.2.1
    have HKi:=qh HH.out.2.2.1
    have HTi:=qh HH.out.2.2.2.1
    have HSi:=qh HH.out.2.2.2.2.1
    have HOi:=qh HH.out.2.2.2.2.2.1
    have HWi:=qh HH.out.2.2.2.2.2.2
    clear HH
    by_cases h0:i<n
    case neg=>
     obtain rfl:i=n:=by omega
     have hii:¬(i:Int)<(i:Int):=by omega
     cases fd with
     | true=>
      obtain⟨x,r,hx1,hx2,hx3⟩:=HJ.out.yes rfl
      obtain⟨k',hk'⟩:∃k',gk=k'+1:=⟨gk - 1,by have h1:=HD.out.len;have h2:=HNo.out;have h3:=HG8.out;omega⟩
      subst hk'
      have HD2:Hid (ChD t l train (s1,s2) res k' out'):=qh (by rw[hx1];exact HD.out.next hx2 hx3)
      clear hx1 hx2 hx3
      go_wp2_with fail
      go_roundg k'
      case measure=>omega
      case rel=>exact⟨out',na,ca,Aa,rfl,hna,qh ⟨HNa.out,HD2.out,HKi.out,HTi.out,HSi.out,HOi.out⟩⟩
     | false=>
      have HF:Hid (out'=res):=qh (by
       have h1:=HJ.out.no rfl
       rw[List.take_of_length_le (by rw[HL.out];exact Nat.le_refl _)] at h1
       rw[h1.1]
       exact HD.out.stop (by rw[←HNo.out];exact HG8.out) h1.2)
      go_wp2_with fail
      go_ret
      rw[HF.out,←HRes.out] at HNa HOi
      exact⟨Aa,na,ca,rfl,HNa,HOi.out.less (by omega),HKi.out⟩
    have hii:(i:Int)<(n:Int):=by omega
    cases fd with
    | true=>
     obtain⟨x,r,hx1,hx2,hx3⟩:=HJ.out.yes rfl
     obtain⟨k',hk'⟩:∃k',gk=k'+1:=⟨gk - 1,by have h1:=HD.out.len;have h2:=HNo.out;have h3:=HG8.out;omega⟩
     subst hk'
     have HD2:Hid (ChD t l train (s1,s2) res k' out'):=qh (by rw[hx1];exact HD.out.next hx2 hx3)
     clear hx1 hx2 hx3
     go_wp2_with fail
     go_roundg k'
     case measure=>omega
     case rel=>exact⟨out',na,ca,Aa,rfl,hna,qh ⟨HNa.out,HD2.out,HKi.out,HTi.out,HSi.out,HOi.out⟩⟩
    | false=>
    obtain rfl:out'=out:=(HJ.out.no rfl).1
    obtain rfl:na=no:=by rw[HNa.out,HNo.out]
    obtain⟨ad,x,hA,_,hx,c0,c1,c2⟩:=HR.out.sp h0
    subst hA
    have HX:=qh hx
    obtain⟨q1,q2,q3⟩:=x
    simp only at c0 c1 c2
    have HQ1:=qh c1
    have HQ2:=qh c2
    have HQ0:=qh c0
    have c0:=keepT HKi.out c0
    have HRr:Hid (∀V,Keep Never wr V→Calls Tryz.prog 50 #[.agg #[.slice Ae ne ce,.slice Aj nj cj,.slice Ab nb cb,.slice Aq nq cq],.int .i64 q1] V (RtRetB B (rtM t.2.2.2 q1) V)):=qh (fun V hV=>HRt.out V (HKi.out.trans hV) q1)
    unfold RtRetB at HRr
    obtain⟨o,ho⟩:∃z,rtM t.2.2.2 q1=z:=⟨_,rfl⟩
    obtain⟨⟨ri,rp,rg,rm⟩,hro⟩:∃z,o.getD (0,[],0,0)=z:=⟨_,rfl⟩
    rw[ho,hro] at HRr
    simp only at HRr
    have HO:=qh ho
    have HRo:=qh hro
    have HBr:Hid (B≤wr.heap.size):=qh (Nat.le_trans HBw.out HKi.out.size)
    obtain⟨y0,y1,y2,y3⟩:=bc4 HTi.out
    have HS2:Hid (∀W',Keep Never wr W'→Keep Never wr W'∧W'.cell? ⟨w.heap.size,0,none⟩=some (.slice Ae ne ce)∧W'.cell? ⟨w.heap.size,1,none⟩=some (.slice Aj nj cj)∧W'.cell? ⟨w.heap.size,2,none⟩=some (.slice Ab nb cb)∧W'.cell? ⟨w.heap.size,3,none⟩=some (.slice Aq nq cq)∧W'.cell? (ad.add (i*3))=some (.int .i64 q1)):=qh (fun W' h=>⟨h,keepT h y0,keepT h y1,keepT h y2,keepT h y3,keepT h c0⟩)
    clear c1 c2 hx ho hro
    go_upto_region 10 with(fail)
    clear y0 y1 y2 y3 c0
    go_region_held3 (fun W'=>Keep Never wr W'∧W'.cell? ⟨w.heap.size,0,none⟩=some (.slice Ae ne ce)∧W'.cell? ⟨w.heap.size,1,none⟩=some (.slice Aj nj cj)∧W'.cell? ⟨w.heap.size,2,none⟩=some (.slice Ab nb cb)∧W'.cell? ⟨w.heap.size,3,none⟩=some (.slice Aq nq cq)∧W'.cell? (ad.add (i*3))=some (.int .i64 q1))
      (first| assumption | exact HS2.out _ ((Keep.refl Never wr).drew) | exact HS2.out _ (Keep.trans (And.left (by assumption)) hk9) | exact HS2.out _ (Keep.trans ((Keep.refl Never wr).drew) hk9) | exact HS2.out _ (Keep.alloc (And.left (by assumption)) _) | exact HS2.out _ (Keep.alloc (Keep.trans ((Keep.refl Never wr).drew) hk9) _) | exact HS2.out _ (put4_keep (And.left (by assumption)) (.inr (by first | exact Nat.le_refl _ | exact(Keep.size (And.left (by assumption))) | omega)) _ _ _ _))
      (first
        | (go_at_call 50; refine(HRr.out _ (by first | exact And.left (by assumption) | exact(Keep.refl Never wr).drew | exact Keep.refl Never wr | exact Keep.alloc (And.left (by assumption)) _)).mono ?_;rintro en w9 ⟨Ar,nr,cr,rfl,hsl,hk9⟩;have HK9:Hid (Keep Never wr w9):=qh (by first | exact Keep.trans (And.left (by assumption)) hk9 | exact Keep.trans ((Keep.refl Never wr).drew) hk9);have HO9:=qh hsl;have nb9:Hid (Blk w9 wr.heap.size 64 #[.int .i64 0,.slice none 0 0,.int .i64 0,.int .i64 0]):=qh (by first | exact Blk.keep (Blk.new wr 64 #[.int .i64 0,.slice none 0 0,.int .i64 0,.int .i64 0]) hk9 (fun h=>h) | exact Blk.keep (Blk.drew (Blk.new wr 64 #[.int .i64 0,.slice none 0 0,.int .i64 0,.int .i64 0])) hk9 (fun h=>h) | exact Blk.keep (Blk.new wr.drew 64 #[.int .i64 0,.slice none 0 0,.int .i64 0,.int .i64 0]) hk9 (fun h=>h));have n0:w9.cell? ⟨wr.heap.size,0,none⟩=some (.int .i64 0):=nb9.out.cell 0;have m0:=nb9.out.frozen 0;have n1:w9.cell? ⟨wr.heap.size,1,none⟩=some (.slice none 0 0):=nb9.out.cell 1;have m1:=nb9.out.frozen 1;have n2:w9.cell? ⟨wr.heap.size,2,none⟩=some (.int .i64 0):=nb9.out.cell 2;have m2:=nb9.out.frozen 2;have n3:w9.cell? ⟨wr.heap.size,3,none⟩=some (.int .i64 0):=nb9.out.cell 3;have m3:=nb9.out.frozen 3)
        | (go_at_call 50; refine(HRr.out _ (by first | exact And.left (by assumption) | exact(Keep.refl Never wr).drew | exact Keep.refl Never wr | exact Keep.alloc (And.left (by assumption)) _)).mono ?_;rintro en w9 ⟨Ar,nr,cr,rfl,hsl,hk9⟩;have HK9:Hid (Keep Never wr w9):=qh (by first | exact Keep.trans (And.left (by assumption)) hk9 | exact Keep.trans ((Keep.refl Never wr).drew) hk9);have HO9:=qh hsl;have n0:(w9.alloc (.cells #[.int .i64 0,.slice none 0 0,.int .i64 0,.int .i64 0] 64)).cell? ⟨w9.heap.size,0,none⟩=some (.int .i64 0):=(Blk.new w9 64 #[.int .i64 0,.slice none 0 0,.int .i64 0,.int .i64 0]).cell 0;have m0:=(Blk.new w9 64 #[.int .i64 0,.slice none 0 0,.int .i64 0,.int .i64 0]).frozen 0;have n1:(w9.alloc (.cells #[.int .i64 0,.slice none 0 0,.int .i64 0,.int .i64 0] 64)).cell? ⟨w9.heap.size,1,none⟩=some (.slice none 0 0):=(Blk.new w9 64 #[.int .i64 0,.slice none 0 0,.int .i64 0,.int .i64 0]).cell 1;have m1:=(Blk.new w9 64 #[.int .i64 0,.slice none 0 0,.int .i64 0,.int .i64 0]).frozen 1;have n2:(w9.alloc (.cells #[.int .i64 0,.slice none 0 0,.int .i64 0,.int .i64 0] 64)).cell? ⟨w9.heap.size,2,none⟩=some (.int .i64 0):=(Blk.new w9 64 #[.int .i64 0,.slice none 0 0,.int .i64 0,.int .i64 0]).cell 2;have m2:=(Blk.new w9 64 #[.int .i64 0,.slice none 0 0,.int .i64 0,.int .i64 0]).frozen 2;have n3:(w9.alloc (.cells #[.int .i64 0,.slice none 0 0,.int .i64 0,.int .i64 0] 64)).cell? ⟨w9.heap.size,3,none⟩=some (.int .i64 0):=(Blk.new w9 64 #[.int .i64 0,.slice none 0 0,.int .i64 0,.int .i64 0]).cell 3;have m3:=(Blk.new w9 64 #[.int .i64 0,.slice none 0 0,.int .i64 0,.int .i64 0]).frozen 3))
    all_goals
     rename_i hS
     clear hS
     (try clear n0 n1 n2 n3 m0 m1 m2 m3)
     first
     | (obtain⟨w8,hw8⟩:∃V:World,(((w9.setCell ⟨wr.heap.size,0,none⟩ (.int .i64 ri)).setCell ⟨wr.heap.size,1,none⟩ (.slice Ar nr cr)).setCell ⟨wr.heap.size,2,none⟩ (.int .i64 rg)).setCell ⟨wr.heap.size,3,none⟩ (.int .i64 rm)=V:=⟨_,rfl⟩
        rw[hw8]
        obtain⟨b8,hb8⟩:∃q,wr.heap.size=q:=⟨_,rfl⟩
        rw[hb8] at nb9 hw8 ⊢
        have HB8:Hid (Blk w8 b8 64 #[.int .i64 ri,.slice Ar nr cr,.int .i64 rg,.int .i64 rm]):=qh (by rw[←hw8];exact put4_blk nb9.out _ _ _ _)
        have HK8:Hid (Keep Never wr w8):=qh (by rw[←hw8];exact put4_keep HK9.out (.inr (by omega)) _ _ _ _)
        have HO8:=qh (HO9.out.keep (show Keep (fun i=>i=b8) w9 w8 from by rw[←hw8];exact put4_keep (Keep.refl (fun i=>i=b8) w9) (.inl rfl) _ _ _ _) (fun k e=>by have h1:=HBr.out;omega))
        have HN8:Hid (wr.heap.size≤b8):=qh (by omega)
        clear hw8 hb8 nb9 HO9 HK9 hk9)
     | (obtain⟨w8,hw8⟩:∃V:World,w9.alloc (.cells #[.int .i64 ri,.slice Ar nr cr,.int .i64 rg,.int .i64 rm] 64)=V:=⟨_,rfl⟩
        rw[hw8]
        obtain⟨b8,hb8⟩:∃q,w9.heap.size=q:=⟨_,rfl⟩
        rw[hb8]
        have HB8:Hid (Blk w8 b8 64 #[.int .i64 ri,.slice Ar nr cr,.int .i64 rg,.int .i64 rm]):=qh (by rw[←hw8,←hb8];exact Blk.new _ _ _)
        have HK8:Hid (Keep Never wr w8):=qh (by rw[←hw8];exact HK9.out.alloc _)
        have HO8:=qh (HO9.out.keep (show Keep Never w9 w8 from by rw[←hw8];exact(Keep.refl _ _).alloc _) (fun _ h=>h.elim))
        have HN8:Hid (wr.heap.size≤b8):=qh (by rw[←hb8];exact HK9.out.size)
        clear hw8 hb8 HO9 HK9 hk9)
    all_goals
     have hk:=HK8.out
     have HK9:=qtr HKi hk
     have HT9:=qkb HTi hk
     have HS9:=qkb HSi hk
     have HO9:=qko HOi hk
     have HW9:=qko HWi hk
     have HP8:=qh (stps_rd HO8.out)
     have c1:=keepT HK9.out HQ1.out
     clear hk HK8 HKi HTi HSi HOi HWi HS2 HO8 HRr HBr
     by_cases g1:q2=train
     case neg=>
      have t1:(q2 != train)=true:=by simpa using g1
      have HN:=qh (HJ.out.pass HX.out (nextD_off (.inl g1)))
      clear g1
      go_wp2_with fail
      refine⟨⟨out',false,i+1,na,ca,Aa,rfl,rfl,by go_num,by omega,hna,qh ⟨HNa.out,HN.out,HK9.out,HT9.out,HS9.out,HO9.out,HW9.out⟩⟩,?_⟩
      simp[intOf];try omega
     have t1:(q2 != train)=false:=by simpa using g1
     subst g1
     cases o with
     | none=>
      have HN:=qh (HJ.out.pass HX.out (nextD_off (.inr HO.out)))
      go_wp2_with fail
      refine⟨⟨out',false,i+1,na,ca,Aa,rfl,rfl,by go_num,by omega,hna,qh ⟨HNa.out,HN.out,HK9.out,HT9.out,HS9.out,HO9.out,HW9.out⟩⟩,?_⟩
      simp[intOf];try omega
     | some r=>
     obtain rfl:r=(ri,rp,rg,rm):=HRo.out
     have HRr9:=qh HP8.out.1
     have HNr:Hid (nr=rp.length∧nr≤8∧rp≠[]):=qh ⟨HP8.out.2.1,by have h1:=(chain_path HC0.out (List.mem_of_find?_eq_some HO.out)).2;have h2:=HP8.out.2.1;simp only at h1;omega,(chain_path HC0.out (List.mem_of_find?_eq_some HO.out)).1⟩
     have HTh:=qh (path_there HC0.out (List.mem_of_find?_eq_some HO.out))
     simp only at HTh
     clear HRo HP8
     go_wp2_with fail
     clear c1 t1
     go_loopw [15,16] (fun tb jb wv=>∃j:Nat,j≤na∧jb=.int .i64 j∧tb=.bool ((out'.take j).contains (q1,q2,q3))∧Hid (Keep Never w8 wv)) (fun _ jb _=>na - (intOf jb).toNat)
     case atStart=>exact⟨0,by omega,rfl,by simp,qh (Keep.refl _ _)⟩
     case round=>
      obtain⟨j,hj,rfl,rfl,HH⟩:=hrel
      by_cases h1:j<na
      ·have hji:(j:Int)<(na:Int):=by omega
       obtain⟨ao,y,hAo,_,hsy,d0,d1,d2⟩:=((HO9.out.keep HH.out (fun _ _ h=>h)).rd).sp h1
       subst hAo
       have c0:=keepT (HK9.out.trans HH.out) HQ0.out
       have c1:=keepT (HK9.out.trans HH.out) HQ1.out
       have c2:=keepT (HK9.out.trans HH.out) HQ2.out
       obtain⟨v1,v2,v3⟩:=y
       simp only at d0 d1 d2
       have HNx:Hid ((out'.take (j+1)).contains ((q1,q2,q3):Lk)=((out'.take j).contains (q1,q2,q3) || sameLk v1 v2 v3 q1 q2 q3)):=qh (by
        rw[List.take_add_one,hsy,List.contains_append]
        congr 1
        unfold sameLk
        simp[eq_comm])
       have qe:=fun (w:World)=>run_eq_lk17 w v1 v2 v3 q1 q2 q3
       obtain⟨bb,hbb⟩:∃z,sameLk v1 v2 v3 q1 q2 q3=z:=⟨_,rfl⟩
       obtain⟨ba,hba⟩:∃z,(out'.take j).contains ((q1,q2,q3):Lk)=z:=⟨_,rfl⟩
       rw[hbb] at qe HNx
       rw[hba] at HNx ⊢
       clear hsy hbb hba
       cases ba <;>
       ·go_wp2_with fail
        go_quiet (fail)
        go_wp2_with fail
        refine⟨⟨j+1,by omega,by go_num,by rw[HNx.out];first | rfl | simp,qh (HH.out.drewN _)⟩,?_⟩
        simp[intOf];try omega
      ·obtain rfl:j=na:=by omega
       have hji:¬(j:Int)<(j:Int):=by omega
       rw[List.take_of_length_le (by rw[HNa.out];exact Nat.le_refl _)]
       have hk:=HH.out
       have HK10:=qtr HK9 hk
       have HT10:=qkb HT9 hk
       have HS10:=qkb HS9 hk
       have HB10:=qkb HB8 hk
       have HO10:=qko HO9 hk
       have HW10:=qko HW9 hk
       have HR10:=qh (HRr9.out.keep hk (fun _ h=>h.elim))
       obtain⟨tb,htb⟩:∃z,out'.contains ((q1,q2,q3):Lk)=z:=⟨_,rfl⟩
       have HTb:=qh htb
       rw[htb]
       clear hk HH HK9 HT9 HS9 HB8 HO9 HW9 HRr9 htb
       have o1:wr.cell? ⟨b8,1,none⟩=some (.slice Ar nr cr):=HB10.out.cell 1
       obtain⟨z0,z1⟩:=bc2 HS10.out
       have HC:=qh (ramong17_any Ar nr cr B rp (s1,s2) wr HR10.out (by have:=HNr.out.2.1;omega))
       obtain⟨bz,hbz⟩:∃z,decide ((j:Int)>0)=z:=⟨_,rfl⟩
       have hbz2:decide (0<j)=bz:=by rw[←hbz];simp
       have HBz:=qh hbz2
       go_wp2_with fail
       refine HC.out.mono ?_
       rintro en w11 ⟨rfl,hk⟩
       have HK11:=qtr HK10 hk
       have HT11:=qkb HT10 hk
       have HS11:=qkb HS10 hk
       have HB11:=qkb HB10 hk
       have HO11:=qko HO10 hk
       have HW11:=qko HW10 hk
       have HR11:=qh (HR10.out.keep hk (fun _ h=>h.elim))
       clear hk HC o1 z0 z1 HK10 HT10 HS10 HB10 HO10 HW10 HR10
       go_upto_if 84 with(fail)
       clear hbz hbz2
       go_cut [17] (fun sx wx=>sx=.bool (nextB t (wayO t out') (s1,s2) out' (ri,rp,rg,rm))∧Keep Never w11 wx)
       case first=>
        cases bz with
        | false=>
         have HNb:Hid (nextB t (wayO t out') (s1,s2) out' (ri,rp,rg,rm)=decide (((s1,s2):Stp)∈rp)):=qh (by
          have h1:out'=[]:=List.eq_nil_of_length_eq_zero (by rw[←HNa.out];have:=of_decide_eq_false HBz.out;omega)
          unfold nextB hasB
          rw[if_pos h1]
          simp)
         go_wp2_with fail
         go_meet
         exact⟨by rw[HNb.out],Keep.refl Never _⟩
        | true=>
         have hj0:=of_decide_eq_true HBz.out
         have hon:out'≠[]:=fun h=>by have:=HNa.out;rw[h] at this;simp at this;omega
         have hwn:=wayO_some HC0.out hon HD.out.rt
         obtain⟨mw,rfl⟩:∃m,nw=m+1:=⟨nw - 1,by have h1:=HNw.out.1;have h2:=List.length_pos_iff.2 hwn;omega⟩
         obtain⟨aw,g,hAw,_,hg,e0,e1⟩:=HW11.out.rd.stp (show mw<mw+1 by omega)
         obtain⟨ah,h,hAh,_,hh,f0,f1⟩:=HR11.out.stp (k:=0) (by have h1:=HNr.out.1;have h2:=List.length_pos_iff.2 HNr.out.2.2;omega)
         have ea:ah.add 0=ah:=add_zero17 ah
         simp only[Nat.zero_mul,ea] at f0 f1
         have HAw:Hid (Aw=some aw):=qh hAw
         have HAh:Hid (Ar=some ah):=qh hAh
         have hgl:(wayO t out').getLast?=some g:=by rw[List.getLast?_eq_getElem?,←HNw.out.1];simpa using hg
         have hhl:rp.head?=some h:=by rw[List.head?_eq_getElem?];exact hh
         have HFd:Hid (nextB t (wayO t out') (s1,s2) out' (ri,rp,rg,rm)=(mayJ t.2.1 g h&&!((wayO t out').any fun u=>overB rp u.1))):=qh (by
          unfold nextB
          rw[if_neg hon]
          exact follows_doc (r:=(ri,rp,rg,rm)) hgl hhl (wayO_there HC0.out g (List.mem_of_getElem? hg)) (HTh.out h (List.mem_of_getElem? hh)))
         obtain⟨g1v,g2v⟩:=g
         obtain⟨h1v,h2v⟩:=h
         simp only at e0 e1 f0 f1
         obtain⟨mj,hmj⟩:∃z,mayJ t.2.1 (g1v,g2v) (h1v,h2v)=z:=⟨_,rfl⟩
         obtain⟨mm,hmm⟩:∃z,((wayO t out').any fun u=>overB rp u.1)=z:=⟨_,rfl⟩
         have HMy2:Hid (∀V,Keep Never w11 V→Calls Tryz.prog 52 #[.agg #[.slice Ae ne ce,.slice Aj nj cj,.slice Ab nb cb,.slice Aq nq cq],.agg #[.int .i64 g1v,.bool g2v],.agg #[.int .i64 h1v,.bool h2v]] V fun e w'=>e=.returned (.bool mj)∧Keep Never V w'):=qh (fun V hV=>by have:=HMy.out V (HK11.out.trans hV) (g1v,g2v) (h1v,h2v);rw[hmj] at this;exact this)
         have HMt:Hid (∀V,Keep Never w11 V→Calls Tryz.prog 53 #[.slice Aw (mw+1) cw,.slice Ar nr cr] V fun e w'=>e=.returned (.bool mm)∧Keep Never V w'):=qh (fun V hV=>by have:=met17_any Aw (mw+1) cw w11.heap.size (wayO t out') Ar nr cr B rp V (HW11.out.rd.keep hV (fun _ h=>h.elim)) (HR11.out.keep hV (fun _ h=>h.elim)) (by have:=HNw.out.2;omega) (by have:=HNr.out.2.1;omega);rw[hmm] at this;exact this)
         rw[hmj,hmm] at HFd
         subst hAw hAh
         have o1:w11.cell? ⟨b8,1,none⟩=some (.slice (some ah) nr cr):=HB11.out.cell 1
         have hr0:(0:Int)<(nr:Int):=by have h1:=HNr.out.1;have h2:=List.length_pos_iff.2 HNr.out.2.2;omega
         have hr0b:0<nr:=by omega
         have hw64:=HNw.out.2
         have hz5:IntKind.i64.wrap ((mw:Int)+1 - 1)=(mw:Int):=by rw[show (mw:Int)+1 - 1=mw by omega];exact IntWalk.i64_in _ (by omega)
         have hz5b:wrap64 ((mw:Int)+1 - 1)=(mw:Int):=by have:=hz5;rwa [IntWalk.i64_left] at this
         have hz6:IntKind.i64.wrap (mw:Int)=(mw:Int):=IntWalk.i64_in _ (by omega)
         have hza:(mw:Int)<(mw:Int)+1:=by omega
         have hzb:(0:Int)≤(mw:Int)+1:=by omega
         have hzc:((mw:Int)+1).toNat=mw+1:=by omega
         obtain⟨y0,y1,y2,y3⟩:=bc4 HT11.out
         have HS29:Hid (∀W',Keep Never w11 W'→Keep Never w11 W'∧W'.cell? ⟨w.heap.size,0,none⟩=some (.slice Ae ne ce)∧W'.cell? ⟨w.heap.size,1,none⟩=some (.slice Aj nj cj)∧W'.cell? ⟨w.heap.size,2,none⟩=some (.slice Ab nb cb)∧W'.cell? ⟨w.heap.size,3,none⟩=some (.slice Aq nq cq)∧W'.cell? ⟨b8,1,none⟩=some (.slice (some ah) nr cr)∧W'.cell? (aw.add (mw*2))=some (.int .i64 g1v)∧W'.cell? ⟨(aw.add (mw*2)).block,(aw.add (mw*2)).off+1,none⟩=some (.bool g2v)∧W'.cell? ah=some (.int .i64 h1v)∧W'.cell? ⟨ah.block,ah.off+1,none⟩=some (.bool h2v)):=qh (fun W' h=>⟨h,keepT h y0,keepT h y1,keepT h y2,keepT h y3,keepT h o1,keepT h e0,keepT h e1,keepT h f0,keepT h f1⟩)
         clear hmj hmm hgl hhl hg hh ea hon hwn hj0
         go_wp2_with fail
         clear y0 y1 y2 y3 o1 e0 e1 f0 f1
         go_region_held3 (fun W'=>Keep Never w11 W'∧W'.cell? ⟨w.heap.size,0,none⟩=some (.slice Ae ne ce)∧W'.cell? ⟨w.heap.size,1,none⟩=some (.slice Aj nj cj)∧W'.cell? ⟨w.heap.size,2,none⟩=some (.slice Ab nb cb)∧W'.cell? ⟨w.heap.size,3,none⟩=some (.slice Aq nq cq)∧W'.cell? ⟨b8,1,none⟩=some (.slice (some ah) nr cr)∧W'.cell? (aw.add (mw*2))=some (.int .i64 g1v)∧W'.cell? ⟨(aw.add (mw*2)).block,(aw.add (mw*2)).off+1,none⟩=some (.bool g2v)∧W'.cell? ah=some (.int .i64 h1v)∧W'.cell? ⟨ah.block,ah.off+1,none⟩=some (.bool h2v))
           (first| assumption | exact HS29.out _ ((Keep.refl Never w11).drew) | exact HS29.out _ (Keep.trans (And.left (by assumption)) hk21) | exact HS29.out _ (Keep.trans ((Keep.refl Never w11).drew) hk21))
           (first
             | (go_at_call 52; refine(HMy2.out _ (by first | exact And.left (by assumption) | exact(Keep.refl Never w11).drew | exact Keep.refl Never w11)).mono ?_;rintro e w19 ⟨rfl,hk21⟩))
         rename_i hS
         have hk19:=hS.1
         have o1:=hS.2.2.2.2.2.1
         have HC:=qh (HMt.out w19 hk19)
         clear hz5 hz5b hz6 hza hzb hzc HS29 HMy2 HMt hr0 hr0b hw64
         go_wp2_with fail
         refine HC.out.mono ?_
         rintro en w20 ⟨rfl,hk20⟩
         have HKc:=qh (hk19.trans hk20)
         clear hS hk19 hk20 hk21 o1 HC
         cases mj <;> cases mm <;>
         ·go_wp2_with fail
          go_meet
          exact⟨by rw[HFd.out];rfl,HKc.out⟩
       case rest=>
       obtain⟨rfl,hk⟩:=hcut
       rename World=>w12
       have HK12:=qtr HK11 hk
       have HT12:=qkb HT11 hk
       have HS12:=qkb HS11 hk
       have HO12:=qko HO11 hk
       have HW12:=qko HW11 hk
       clear hk HK11 HT11 HS11 HB11 HO11 HW11 HR11
       obtain⟨nb2,hnb2⟩:∃z,nextB t (wayO t out') (s1,s2) out' (ri,rp,rg,rm)=z:=⟨_,rfl⟩
       have hni:=nextD_is (t:=t) (train:=q2) (way:=wayO t out') (s:=(s1,s2)) (out:=out') (k:=(q1,q2,q3)) (r:=(ri,rp,rg,rm)) rfl HO.out
       rw[hnb2,HTb.out] at hni
       have HNi:=qh hni
       rw[hnb2]
       clear hni hnb2
       by_cases hb:(nb2&&!tb)=true
       case neg=>
        have HN:=qh (HJ.out.pass HX.out (by rw[HNi.out,if_neg hb]))
        cases nb2 <;> cases tb <;>
        first
        | exact absurd rfl hb
        | (clear hb
           go_wp2_with fail
           refine⟨⟨out',false,i+1,j,ca,Aa,rfl,rfl,by go_num,by omega,hna,qh ⟨HNa.out,HN.out,HK12.out,HT12.out,HS12.out,HO12.out,HW12.out⟩⟩,?_⟩
           simp[intOf];try omega)
       have HN:=qh (HJ.out.hit (x:=(q1,q2,q3)) (r:=(ri,rp,rg,rm)) HX.out (by rw[HNi.out,if_pos hb]) HO.out (i+1))
       obtain⟨rfl,rfl⟩:nb2=true∧tb=false:=by cases nb2 <;> cases tb <;> simp at hb ⊢
       have c0:=keepT HK12.out HQ0.out
       have c1:=keepT HK12.out HQ1.out
       have c2:=keepT HK12.out HQ2.out
       have hz12:w.heap.size+1<w12.heap.size:=HS12.out.lt
       have hg8:=HG8.out
       clear hb
       go_wp2_with (at_builtin;refine wpList_app _ rfl (.tmp 111) (.tmp 116) _ rfl elemLk (w.heap.size+2) (A:=Aa) (n:=j) (c:=ca) (by go_simp) (HO12.out.alloc _) _ (A':=some ⟨_,0,none⟩) (m:=1) (c':=1) (news:=[.int .i64 q1,.int .i64 q2,.int .i64 q3]) (by go_simp) (Rd.of_blk (n:=1) (cs:=[.int .i64 q1,.int .i64 q2,.int .i64 q3]) (Blk.new _ _ _) rfl) (by simp[Value.oneCell']) (by omega) (by unfold maxLen;omega) (by simp;omega) ?_;intro A13 c13 w13 hown hkr hrow;have HO13:Hid (Own w13 (w.heap.size+2) 62 3 A13 (j+1) c13 (spCells (out'++[(q1,q2,q3)]))):=qh (by rw[spCells_app];exact hown);have HK13:Hid (Keep (InRow Aa) w12 w13):=qh (((Keep.refl _ w12).alloc _).trans hkr);clear hown hkr hrow)
       have hk:=HK13.out
       refine⟨⟨out'++[(q1,q2,q3)],true,i+1,j+1,c13,A13,rfl,rfl,by go_num,by omega,by omega,qh ⟨by rw[List.length_append,←HNa.out];rfl,HN.out,HK12.out.then_ hk (fun i hi h=>by have:=(HO12.out.row h).1;omega),HT12.out.keep hk (fun h=>by have:=(HO12.out.row h).1;omega),HS12.out.keep hk (fun h=>by have:=(HO12.out.row h).1;omega),HO13.out,HW12.out.keep hk (fun q h=>HW12.out.ne_own HO12.out (by decide) q h)⟩⟩,?_⟩
       simp[intOf];try omega
end Go.Proofs.YtpapiojicbbheaaGreatDoor
