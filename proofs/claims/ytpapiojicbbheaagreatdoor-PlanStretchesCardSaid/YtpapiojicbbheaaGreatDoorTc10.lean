/- Texts of this claim, together: PmG, PlnH, PlnJ, PmH. -/
import Derived.Test.YtpapiojicbbheaaGreatDoorTc09
import Derived.Test.YtpapiojicbbheaaGreatDoorTc05
import Derived.Test.YtpapiojicbbheaaGreatDoorTc04
import Derived.Test.YtpapiojicbbheaaGreatDoorTc07
namespace Go.Proofs.YtpapiojicbbheaaGreatDoor
open Go.RowKit
structure PksAt (w:World) (B:Nat) (A:Option Addr) (n c:Nat) (l:List Pk):Prop where
  len:l.length=n
  cap:n≤c
  one:∀i p,l[i]?=some p→∃ad A1 n1 c1,A=some ad∧ad.block<B∧ad.block<w.heap.size∧w.cell? (ad.add (i*2))=some (.int .i64 p.1)∧w.cell? ⟨(ad.add (i*2)).block,(ad.add (i*2)).off+1,none⟩=some (.slice A1 n1 c1)∧Rd w B 1 A1 n1 (p.2.map (.int .i64))∧n1≤c1∧c1≤maxLen∧(∀x∈p.2,i64_ x)∧p.2.length≤8200
theorem PksAt.keepS {S:Nat→Prop}{w w':World}{B n c:Nat}{A:Option Addr}{l:List Pk} (h:PksAt w B A n c l) (hk:Keep S w w') (hS:∀k,S k→B≤k):PksAt w' B A n c l:=by
 refine⟨h.len,h.cap,fun i p hp=>?_⟩
 obtain⟨ad,A1,n1,c1,h1,h2,h2b,h3,h4,h5,h6,h7,h8,h9⟩:=h.one i p hp
 refine⟨ad,A1,n1,c1,h1,h2,Nat.lt_of_lt_of_le h2b hk.size,?_,?_,h5.keep hk hS,h6,h7,h8,h9⟩
 ·exact(hk.cell (cell_lt h3) (fun e=>by have:=hS _ e;rw[block_add] at this;omega)).trans h3
 ·exact(hk.cell (cell_lt h4) (fun e=>by have:=hS _ e;simp only at this;rw[block_add] at this;omega)).trans h4
theorem PksAt.keep {w w':World}{B n c:Nat}{A:Option Addr}{l:List Pk} (h:PksAt w B A n c l) (hk:Keep Never w w'):PksAt w' B A n c l:=h.keepS hk (fun _ h=>h.elim)
def PredPk (B g:Nat) (lb:Array Value) (p:Pk→Bool) (w:World):Prop:=
  ∀(W:World) (x:Pk) (A:Option Addr) (n c:Nat),Keep Never w W→Rd W B 1 A n (x.2.map (.int .i64))→n≤c→c≤maxLen→(∀y∈x.2,i64_ y)→x.2.length≤8200 →
   Calls Tryz.prog g (#[.agg #[.int .i64 x.1,.slice A n c]]++lb) W fun e w'=>e=.returned (.bool (p x))∧Keep Never W w'
def IdxRetP (p:Pk→Bool) (l:List Pk) (w:World) (e:Ending) (w':World):Prop:=
  ((∃(i:Nat) (s:Pk),e=.returned (.int .i64 i)∧l[i]?=some s∧p s=true∧∀x∈l.take i,p x=false)∨(e=.returned (.int .i64 (-1))∧∀x∈l,p x=false))∧Keep Never w w'
set_option maxHeartbeats 1000000 in
set_option maxRecDepth 100000 in
theorem indexfp_any (g:Nat) (lb:Array Value) (p:Pk→Bool) (eg:∀args w,(callFunc g args).run Tryz.prog w=.ok (.enter g args) w) (A:Option Addr) (n c B:Nat) (l:List Pk) (w:World) (hr:PksAt w B A n c l) (hp:PredPk B g lb p w) (hn:n≤100000000000) :
    Calls Tryz.prog 68 #[.slice A n c,.func (.func g) #[] lb] w (IdxRetP p l w):=by
  have HL:=qh hr.len
  have HR:=qh hr
  have HP:=qh hp
  clear hr hp
  go_enter Tryz.func68, Tryz.ntmps68
  go_wp2_with fail
  go_loopw [5,8] (fun _ s8 wr=>∃k:Nat,k≤n∧s8=.int .i64 k∧Hid (Keep Never w wr∧∀x∈l.take k,p x=false)) (fun _ i _=>n - (intOf i).toNat)
  case atStart=>exact⟨0,by omega,rfl,qh ⟨Keep.refl _ _,by simp⟩⟩
  case round=>
   obtain⟨k,hk,rfl,HH⟩:=hrel
   by_cases h0:k<n
   ·have hki:(k:Int)<(n:Int):=by omega
    obtain⟨s,hs⟩:∃s,l[k]?=some s:=⟨_,List.getElem?_eq_getElem (by have:=HL.out;omega)⟩
    obtain⟨ad,A2,n2,d2,hA,_,_,c0,c1,q1,q2,q3,q4,q5⟩:=(HR.out.keep HH.out.1).one k s hs
    subst hA
    have hcall:=HP.out wr s A2 n2 d2 HH.out.1 q1 q2 q3 q4 q5
    clear q1 q2 q3 q4 q5
    have Hs:=qh hs
    have htk:Hid (l.take (k+1)=l.take k++[s]):=qh (by
     obtain⟨h2,h3⟩:=List.getElem?_eq_some_iff.1 hs
     rw[List.take_succ_eq_append_getElem h2,h3])
    clear hs
    obtain⟨s1,s2⟩:=s
    simp only at c0 c1 hcall
    cases hps:p (s1,s2) with
    | true=>
     rw[hps] at hcall
     have Hps:=qh hps
     clear hps
     go_wp2_with (go_at_fn g;refine hcall.mono ?_;rintro e w' ⟨rfl,hk'⟩)
     go_ret
     exact⟨.inl ⟨k,_,rfl,Hs.out,Hps.out,HH.out.2⟩,HH.out.1.trans hk'⟩
    | false=>
     rw[hps] at hcall
     have Hps:=qh hps
     clear hps
     go_wp2_with (go_at_fn g;refine hcall.mono ?_;rintro e w' ⟨rfl,hk'⟩)
     go_roundw
     case measure=>simp[intOf];try omega
     case rel=>
      refine⟨k+1,by omega,by go_num,qh ⟨HH.out.1.trans hk',fun x hx=>?_⟩⟩
      rw[htk.out] at hx
      rcases List.mem_append.1 hx with hx | hx
      ·exact HH.out.2 x hx
      ·simp at hx;subst hx;exact Hps.out
   ·obtain rfl:k=n:=by omega
    have hki:¬(k:Int)<(k:Int):=by omega
    have HN:Hid (∀x∈l,p x=false):=qh (by have:=HH.out.2;rwa [List.take_of_length_le (by have:=HL.out;omega)] at this)
    go_wp2_with fail
    go_ret
    exact⟨.inr ⟨rfl,HN.out⟩,HH.out.1⟩
set_option maxHeartbeats 1000000 in
set_option maxRecDepth 100000 in
theorem containsfp_any (g:Nat) (lb:Array Value) (p:Pk→Bool) (eg:∀args w,(callFunc g args).run Tryz.prog w=.ok (.enter g args) w) (A:Option Addr) (n c B:Nat) (l:List Pk) (w:World) (hr:PksAt w B A n c l) (hp:PredPk B g lb p w) (hn:n≤100000000000) :
    Calls Tryz.prog 66 #[.slice A n c,.func (.func g) #[] lb] w fun e w'=>e=.returned (.bool (l.any p))∧Keep Never w w':=by
  have HI:=qh (indexfp_any g lb p eg A n c B l w hr hp hn)
  clear hr hp
  go_enter Tryz.func66, Tryz.ntmps66
  go_wp2_with fail
  refine HI.out.mono ?_
  rintro e w' ⟨⟨i,s,rfl,h1,h2,h3⟩ | ⟨rfl,h1⟩,hk⟩
  ·have HA:Hid (l.any p=true):=qh (List.any_eq_true.2 ⟨s,List.mem_of_getElem? h1,h2⟩)
   have HK:=qh hk
   have hi:decide ((i:Int)≥0)=true:=by simp
   clear h1 h2 h3 hk
   go_wp2_with fail
   go_ret
   exact⟨by rw[HA.out];rfl,HK.out⟩
  ·have HA:Hid (l.any p=false):=qh (by rw[List.any_eq_false];intro x hx;rw[h1 x hx];simp)
   have HK:=qh hk
   clear h1 hk
   go_wp2_with fail
   go_ret
   exact⟨by rw[HA.out];rfl,HK.out⟩
set_option maxHeartbeats 4000000 in
set_option maxRecDepth 100000 in
theorem rd2_any (id:Int) (A:Option Addr) (n c:Nat) (w:World) :
    Calls Tryz.prog 69 #[.agg #[.int .i64 id,.slice A n c]] w fun e w'=>e=.returned (.bool (id==5))∧Keep Never w w':=by
  obtain⟨w1,hw1⟩:∃V:World,w.alloc (.cells #[.int .i64 id,.slice A n c] 105)=V:=⟨_,rfl⟩
  have kw1:Keep Never w w1:=by rw[←hw1];exact(Keep.refl _ _).alloc _
  have bw1:=Blk.new w 105 #[.int .i64 id,.slice A n c]
  rw[hw1] at bw1
  have HB1:=qh bw1
  have HK:=qh kw1
  have y0:w1.cell? ⟨w.heap.size,0,none⟩=some (.int .i64 id):=HB1.out.cell 0
  clear kw1 bw1
  go_enter Tryz.func69, Tryz.ntmps69
  go_wp2_with fail
  go_ret
  exact⟨rfl,HK.out⟩
set_option maxHeartbeats 4000000 in
set_option maxRecDepth 100000 in
theorem rd1_any (B:Nat) (id:Int) (V:List Int) (A:Option Addr) (n c:Nat) (w:World) (hV:Rd w B 1 A n (V.map (.int .i64))) (hn:V.length=n) (hc:n≤c) (hcm:c≤maxLen) (hb:∀x∈V,i64 x) (h3:V.length≤8200) (hW:Widths w) (hg : 0 < B) (hB:B≤w.heap.size) :
    Calls Tryz.prog 64 #[.agg #[.int .i64 id,.slice A n c]] w fun e w'=>e=.returned (.bool (badP (id,V)))∧Keep Never w w':=by
  have HIt:=qh (fun (W:World) (hk:Keep Never w W)=>Items_any B id V A n c W (hV.keep hk (fun _ h=>h.elim)) hn hc hcm hb h3 (hW.keep hk (fun h=>h)) hg (Nat.le_trans hB hk.size))
  unfold packCells at HIt
  have HBd:Hid (badP (id,V)=match ItemsM id V with | .ok _=>false | .error _=>true):=qh rfl
  obtain⟨r,hr⟩:∃z,ItemsM id V=z:=⟨_,rfl⟩
  rw[hr] at HIt HBd
  clear hV hn hc hcm hb h3 hW hg hr
  obtain⟨w1,hw1⟩:∃V:World,w.alloc (.cells #[.int .i64 id,.slice A n c] 105)=V:=⟨_,rfl⟩
  have kw1:Keep Never w w1:=by rw[←hw1];exact(Keep.refl _ _).alloc _
  have bw1:=Blk.new w 105 #[.int .i64 id,.slice A n c]
  rw[hw1] at bw1
  have HB1:=qh bw1
  have HK:=qh kw1
  obtain⟨y0,y1⟩:=bc2 HB1.out
  clear kw1 bw1
  go_enter Tryz.func64, Tryz.ntmps64
  go_wp2_with fail
  refine(HIt.out w1 HK.out).mono ?_
  rintro en w2 ⟨A2,n2,c2,x,rfl,hk2,hp2⟩
  have HK2:=qtr HK hk2
  have HP2:=qh hp2
  clear hk2 hp2 HIt hw1 y0 y1
  by_cases g:x=0
  ·have t0:(x != 0)=false:=by simpa using g
   have HF:Hid (badP (id,V)=false):=qh (by
    rcases HP2.out with⟨l,h1,_⟩ | ⟨h1,h2,_⟩
    ·rw[HBd.out,h1]
    ·exact absurd g h2)
   clear g
   go_wp2_with fail
   go_ret
   exact⟨by rw[HF.out];rfl,HK2.out⟩
  ·have t0:(x != 0)=true:=by simpa using g
   have HF:Hid (badP (id,V)=true):=qh (by
    rcases HP2.out with⟨l,_,h1,_⟩ | ⟨h1,h2,_⟩
    ·exact absurd h1 g
    ·rw[HBd.out,h1])
   clear g
   go_wp2_with fail
   go_ret
   exact⟨by rw[HF.out];rfl,HK2.out⟩
end Go.Proofs.YtpapiojicbbheaaGreatDoor

namespace Go.Proofs.YtpapiojicbbheaaGreatDoor
open Go.RowKit
theorem stp_front {w:World}{B n k:Nat}{A:Option Addr}{l:List Stp} (h:Rd w B 2 A n (stpCells l)) (hk:k≤n):Rd w B 2 A k (stpCells (l.take k)):=by
 have hl:=h.stp_len
 refine⟨by rw[len_stpCells,List.length_take];omega,fun h0=>?_⟩
 obtain⟨ad,e,hb,hc⟩:=h.2 (by omega)
 refine⟨ad,e,hb,fun j v hj=>hc j v ?_⟩
 have e2:stpCells l=stpCells (l.take k)++stpCells (l.drop k):=by rw[←stpCells_app,List.take_append_drop]
 rw[e2,List.getElem?_append_left (List.getElem?_eq_some_iff.1 hj).1]
 exact hj
theorem twice_step {l:List Stp}{k:Nat}{s:Stp} (hs:l[k]?=some s):twiceAt l k=overB (l.take k) s.1:=by unfold twiceAt;rw[hs]
theorem twice_t {l:List Stp}{k:Nat} (hk:k<l.length) (h:twiceAt l k=true):twiceB l=true:=by
 unfold twiceB;rw[List.any_eq_true];exact⟨k,List.mem_range.2 hk,h⟩
theorem twice_f {l:List Stp} (h:∀k,k<l.length→twiceAt l k=false):twiceB l=false:=by
 unfold twiceB;rw[List.any_eq_false];intro k hk;rw[h k (List.mem_range.1 hk)];simp
set_option maxHeartbeats 4000000 in
set_option maxRecDepth 100000 in
theorem twice_any (A:Option Addr) (n c B:Nat) (l:List Stp) (w:World) (h:Rd w B 2 A n (stpCells l)) (hc:n≤c) (hn:n≤1000000) :
    Calls Tryz.prog 59 #[.slice A n c] w fun en w'=>en=.returned (.bool (twiceB l))∧Keep Never w w':=by
  have HL:=qh h.stp_len
  have HR:=qh h
  have HCap:=qh hc
  clear h hc
  go_enter Tryz.func59, Tryz.ntmps59
  go_wp2_with fail
  go_loopw [7] (fun si wr=>∃k:Nat,k≤n∧si=.int .i64 k∧Hid (Keep Never w wr∧∀j,j<k→twiceAt l j=false)) (fun si _=>n - (intOf si).toNat)
  case atStart=>exact⟨0,by omega,rfl,qh ⟨Keep.refl _ _,fun j hj=>absurd hj (by omega)⟩⟩
  case round=>
   obtain⟨k,hk,rfl,HH⟩:=hrel
   by_cases h0:k<n
   ·have hki:(k:Int)<(n:Int):=by omega
    obtain⟨ad,s,hA,_,hs,c0,c1⟩:=(HR.out.keep HH.out.1 (fun _ h=>h.elim)).stp h0
    subst hA
    have HTw:=qh (twice_step hs)
    have hq:=run_front Tryz.underlying35 Tryz.sizeOf30 (some ad) n c k (by omega) HCap.out
    obtain⟨s1,s2⟩:=s
    simp only at c0 c1
    clear hs
    obtain⟨w4,hw4⟩:∃V:World,wr.alloc (.cells #[.int .i64 s1,.bool s2] 30)=V:=⟨_,rfl⟩
    have k4:Keep Never wr w4:=by rw[←hw4];exact(Keep.refl _ _).alloc _
    have B4:=Blk.new wr 30 #[.int .i64 s1,.bool s2]
    rw[hw4] at B4
    obtain⟨br,hbr⟩:∃q,wr.heap.size=q:=⟨_,rfl⟩
    rw[hbr] at B4
    have HB4:=qh B4
    have HK4:=qh (HH.out.1.trans k4)
    have HOv:=qh (fun V (hV:Keep Never w4 V)=>pover17_any (some ad) k c B (l.take k) s1 V (stp_front (HR.out.keep (HK4.out.trans hV) (fun _ h=>h.elim)) (by omega)) (by omega))
    obtain⟨ob,hob⟩:∃z,overB (l.take k) s1=z:=⟨_,rfl⟩
    rw[hob] at HOv
    have HOb:=qh hob
    have b0:w4.cell? ⟨br,0,none⟩=some (.int .i64 s1):=HB4.out.cell 0
    have HS2:Hid (∀W',Keep Never w4 W'→Keep Never w4 W'∧W'.cell? ⟨br,0,none⟩=some (.int .i64 s1)):=qh (fun W' h=>⟨h,keepT h b0⟩)
    clear hob k4 B4
    go_wp2_with fail
    clear b0
    go_region_held3 (fun W'=>Keep Never w4 W'∧W'.cell? ⟨br,0,none⟩=some (.int .i64 s1))
      (first| assumption | exact HS2.out _ ((Keep.refl Never w4).drew) | exact HS2.out _ (Keep.trans (And.left (by assumption)) hk3) | exact HS2.out _ (Keep.trans ((Keep.refl Never w4).drew) hk3))
      (first
        | (go_at_call 46; refine(HOv.out _ (by first | exact And.left (by assumption) | exact(Keep.refl Never w4).drew | exact Keep.refl Never w4)).mono ?_;rintro e w5 ⟨rfl,hk3⟩))
    all_goals
     rename_i hS
     have HKe:=qh (HK4.out.trans hS.1)
     clear hS
     cases ob with
     | true=>
      have HF:Hid (twiceB l=true):=qh (twice_t (k:=k) (by rw[HL.out];exact h0) (by rw[HTw.out];exact HOb.out))
      go_wp2_with fail
      go_ret
      exact⟨by rw[HF.out];rfl,HKe.out⟩
     | false=>
      go_wp2_with fail
      refine⟨⟨k+1,by omega,by go_num,qh ⟨HKe.out,fun j hj=>?_⟩⟩,?_⟩
      ·rcases Nat.lt_or_ge j k with h | h
       ·exact HH.out.2 j h
       ·obtain rfl:j=k:=by omega
        rw[HTw.out];exact HOb.out
      ·simp[intOf];try omega
   ·obtain rfl:k=n:=by omega
    have hki:¬(k:Int)<(k:Int):=by omega
    have HF:Hid (twiceB l=false):=qh (twice_f (fun j hj=>HH.out.2 j (by rw[HL.out] at hj;exact hj)))
    go_wp2_with fail
    go_ret
    exact⟨by rw[HF.out];rfl,HH.out.1⟩
theorem run_ne_stp (w:World) (x1:Int) (x2:Bool) (y1:Int) (y2:Bool):(binOp .neq 30 (.agg #[.int .i64 x1,.bool x2]) (.agg #[.int .i64 y1,.bool y2])).run Tryz.prog w=.ok (.bool (!sameS x1 x2 y1 y2)) w:=by
 by_cases h1:x1=y1
 ·have t1:(x1==y1)=true:=by simpa using h1
  by_cases h2:x2=y2
  ·have t2:(x2==y2)=true:=by simpa using h2
   have hd:sameS x1 x2 y1 y2=true:=decide_eq_true (by rw[h1,h2])
   rw[hd]
   clear h1 h2 hd
   go_simp
   (try simp[t1,t2])
  ·have t2:(x2==y2)=false:=by simpa using h2
   have hd:sameS x1 x2 y1 y2=false:=decide_eq_false (by intro h;injection h with _ h;exact h2 h)
   rw[hd]
   clear h1 h2 hd
   go_simp
   (try simp[t1,t2])
 ·have t1:(x1==y1)=false:=by simpa using h1
  have hd:sameS x1 x2 y1 y2=false:=decide_eq_false (by intro h;injection h with h _;exact h1 h)
  rw[hd]
  clear h1 hd
  go_simp
  (try simp[t1])
def LeftRet (o:Option (Int×Int)) (w:World) (e:Ending) (w':World):Prop:=e=.returned (.tuple #[.int .i64 (o.getD (0,0)).1,.int .i64 (o.getD (0,0)).2,.bool o.isSome])∧Keep Never w w'
theorem ret3 {fn:Func}{r s u:Nat} (h:fn.results=#[.tmp r,.tmp s,.tmp u]) (tmps:Array Value) (w:World):(results fn tmps).run Tryz.prog w=.ok (.tuple #[tmps.getD r undef,tmps.getD s undef,tmps.getD u undef]) w:=by
 simp[results,h,go_sem]
set_option maxHeartbeats 8000000 in
set_option maxRecDepth 100000 in
theorem pleft_any (x:TA) (t:Tp) (B:Nat) (ref:Int) (rv:Bool) (P:List Stp) (S:List Sc) (g:Int) (Ap:Option Addr) (np cp:Nat) (As:Option Addr) (ns cs:Nat) (w:World) (h:TpAt w B x t) (hs:TpSmall x t) (hp:repStp.Sl w B Ap np cp P) (hck:checkM t=0) (hn:np≤100000000) :
    Calls Tryz.prog 80 #[.agg x.cs,.agg #[.int .i64 ref,.bool rv,.slice Ap np cp,.slice As ns cs,.int .i64 g]] w (LeftRet (leftA t (ref,rv,P,S,g)) w):=by
  have HBa:=qh (fun (W:World) (hk:Keep Never w W)=>bal_any x t B ref W (h.keep hk) hs.b)
  have HLn:=qh (fun (W:World) (hk:Keep Never w W)=>length_any x t B Ap np cp P W (h.keep hk) (hp.keep hk (fun _ h=>h.elim)) hs.j hn)
  have HED:=qh (fun (W:World) (hk:Keep Never w W) (i:Int) (h0:0≤i) (h1:i<(x.ne:Int))=>edge_at (h.keep hk) h0 h1)
  have HEl:Hid (x.ne=t.1.length):=qh h.e.len
  have HPl:Hid (np=P.length):=qh hp.len
  have HP:=qh hp
  have HCk:=qh hck
  have HD:Hid (leftA t (ref,rv,P,S,g)=match balM t.2.2.1 ref with | none=>none | some b=>if P.head?=some (b.2.1,rv)∧(lenM t P).2=0 then some ((lenM t P).1 - alongP t (b.2.1,b.2.2,rv),alongP t (b.2.1,b.2.2,rv)) else none):=qh rfl
  obtain⟨Ae,ne,ce,Aj,nj,cj,Ab,nb,cb,Ar,nr,cr⟩:=x
  simp only[TA.cs] at HBa HLn HED HEl ⊢
  clear h hs hp hck
  obtain⟨w1,hw1⟩:∃V:World,w.alloc (.cells #[.slice Ae ne ce,.slice Aj nj cj,.slice Ab nb cb,.slice Ar nr cr] 27)=V:=⟨_,rfl⟩
  have zw1:w1.heap.size=w.heap.size+1:=by rw[←hw1];simp
  have kw1:Keep Never w w1:=by rw[←hw1];exact(Keep.refl _ _).alloc _
  have bw1:=Blk.new w 27 #[.slice Ae ne ce,.slice Aj nj cj,.slice Ab nb cb,.slice Ar nr cr]
  rw[hw1] at bw1
  obtain⟨w2,hw2⟩:∃V:World,w1.alloc (.cells #[.int .i64 ref,.bool rv,.slice Ap np cp,.slice As ns cs,.int .i64 g] 38)=V:=⟨_,rfl⟩
  have kw2:Keep Never w1 w2:=by rw[←hw2];exact(Keep.refl _ _).alloc _
  have bw2:=Blk.new w1 38 #[.int .i64 ref,.bool rv,.slice Ap np cp,.slice As ns cs,.int .i64 g]
  rw[hw2,zw1] at bw2
  have HB1:=qh (bw1.keep kw2 (fun h=>h))
  have HB2:=qh bw2
  have HK:=qh (kw1.trans kw2)
  clear kw1 kw2 bw1 bw2
  obtain⟨ob,hob⟩:∃z,balM t.2.2.1 ref=z:=⟨_,rfl⟩
  have hC0:=HBa.out w2 HK.out
  unfold BalRet at hC0
  rw[hob] at hC0 HD
  have HC:=qh hC0
  have HOb:=qh hob
  clear hC0 HBa hob
  obtain⟨y0,y1,y2,y3⟩:=bc4 HB1.out
  obtain⟨q0,q1,q2,q3,q4⟩:=bc5 HB2.out
  cases ob with
  | none=>
   have HF:Hid (leftA t (ref,rv,P,S,g)=none):=qh HD.out
   go_enter Tryz.func80, Tryz.ntmps80
   go_wp2_with fail
   refine HC.out.mono ?_
   rintro en w4 ⟨rfl,hk4⟩
   have HK1:=qtr HK hk4
   have Hy1:=qkb HB1 hk4
   have Hq1:=qkb HB2 hk4
   clear y0 y1 y2 y3 q0 q1 q2 q3 q4 hk4 HC hw1 hw2 zw1
   simp only[Option.getD,Option.isSome]
   have HKz:=qh (HK1.out.trans ((Keep.refl Never w4).alloc (.cells #[.int .i64 0,.int .i64 0,.int .i64 0] 94)))
   go_wp2_with fail
   go_quiet (fail)
   go_wp2_with fail
   (try simp only[Exit.inBlock,Exit.then])
   refine bodyPost_ret (ret3 (fn:=Tryz.f80) (r:=4) (s:=5) (u:=6) rfl _ _) rfl ⟨by rw[HF.out];rfl,(HKz.out.drewN _)⟩
  | some b=>
   obtain⟨b1,b2,b3⟩:=b
   simp only at HD
   go_enter Tryz.func80, Tryz.ntmps80
   go_wp2_with fail
   refine HC.out.mono ?_
   rintro en w4 ⟨rfl,hk4⟩
   have HK1:=qtr HK hk4
   have Hy1:=qkb HB1 hk4
   have Hq1:=qkb HB2 hk4
   clear y0 y1 y2 y3 q0 q1 q2 q3 q4 hk4 HC hw1 hw2 zw1
   simp only[Option.getD,Option.isSome]
   obtain⟨w102,hw102⟩:∃V:World,w4.alloc (.cells #[.int .i64 b1,.int .i64 b2,.int .i64 b3] 94)=V:=⟨_,rfl⟩
   have kx:Keep Never w4 w102:=by rw[←hw102];exact(Keep.refl _ _).alloc _
   have bx:=Blk.new w4 94 #[.int .i64 b1,.int .i64 b2,.int .i64 b3]
   rw[hw102] at bx
   obtain⟨bb,hbb⟩:∃q,w4.heap.size=q:=⟨_,rfl⟩
   rw[hbb] at bx
   have HBx2:=qh bx
   have HK2:=qtr HK1 kx
   have Hy2:=qkb Hy1 kx
   have Hq2:=qkb Hq1 kx
   clear kx bx
   by_cases g0:np=0
   ·have HF:Hid (leftA t (ref,rv,P,S,g)=none):=qh (by
     have:P=[]:=List.length_eq_zero_iff.1 (by rw[←HPl.out];exact g0)
     rw[HD.out,this,if_neg (by simp)])
    subst g0
    obtain⟨y0,y1,y2,y3⟩:=bc4 Hy2.out
    obtain⟨q0,q1,q2,q3,q4⟩:=bc5 Hq2.out
    obtain⟨b0,b1,b2⟩:=bc3 HBx2.out
    go_wp2_with fail
    go_quiet (fail)
    go_wp2_with fail
    (try simp only[Exit.inBlock,Exit.then])
    refine bodyPost_ret (ret3 (fn:=Tryz.f80) (r:=4) (s:=5) (u:=6) rfl _ _) rfl ⟨by rw[HF.out];rfl,(HK2.out.drewN _)⟩
   have t0:((np:Int)==0)=false:=by simp;omega
   have hn0:0<np:=by omega
   obtain⟨ad,s,hA,_,hs,c0,c1,_⟩:=stp_at (HP.out.keep HK2.out (fun _ h=>h.elim)) hn0
   subst hA
   have ea:ad.add (0*2)=ad:=by rw[Nat.zero_mul];unfold Addr.add;split <;> simp_all
   rw[ea] at c0 c1
   have hhd:P.head?=some s:=by rw[List.head?_eq_getElem?];exact hs
   have qn:=run_ne_stp
   obtain⟨s1,s2⟩:=s
   simp only at c0 c1
   have HHd:=qh hhd
   clear hs ea hhd g0
   by_cases hq:((s1,s2):Stp)=(b2,rv)
   case neg=>
    have tq:(!sameS s1 s2 b2 rv)=true:=by have:sameS s1 s2 b2 rv=false:=decide_eq_false hq;rw[this];rfl
    have HF:Hid (leftA t (ref,rv,P,S,g)=none):=qh (by rw[HD.out,if_neg (by rintro⟨h,_⟩;rw[HHd.out] at h;exact hq (Option.some.inj h))])
    clear hq
    obtain⟨y0,y1,y2,y3⟩:=bc4 Hy2.out
    obtain⟨q0,q1,q2,q3,q4⟩:=bc5 Hq2.out
    obtain⟨b0,b1,b2⟩:=bc3 HBx2.out
    go_wp2_with fail
    go_quiet (fail)
    go_wp2_with fail
    (try simp only[Exit.inBlock,Exit.then])
    refine bodyPost_ret (ret3 (fn:=Tryz.f80) (r:=4) (s:=5) (u:=6) rfl _ _) rfl ⟨by rw[HF.out];rfl,(HK2.out.drewN _)⟩
   have tq:(!sameS s1 s2 b2 rv)=false:=by have:sameS s1 s2 b2 rv=true:=decide_eq_true hq;rw[this];rfl
   have HD2:Hid (leftA t (ref,rv,P,S,g)=if (lenM t P).2=0 then some ((lenM t P).1 - alongP t (b2,b3,rv),alongP t (b2,b3,rv)) else none):=qh (by
    rw[HD.out]
    by_cases hz:(lenM t P).2=0
    ·rw[if_pos ⟨by rw[HHd.out,hq],hz⟩,if_pos hz]
    ·rw[if_neg (fun h=>hz h.2),if_neg hz])
   clear hq HD
   obtain⟨l1,hl1⟩:∃z,(lenM t P).1=z:=⟨_,rfl⟩
   obtain⟨l2,hl2⟩:∃z,(lenM t P).2=z:=⟨_,rfl⟩
   rw[hl1,hl2] at HD2 HLn
   have HL1:=qh hl1
   have HL2:=qh hl2
   clear hl1 hl2
   obtain⟨y0,y1,y2,y3⟩:=bc4 Hy2.out
   obtain⟨q0,q1,q2,q3,q4⟩:=bc5 Hq2.out
   obtain⟨b0,b1,b2⟩:=bc3 HBx2.out
   go_wp2_with fail
   go_quiet (fail)
   go_wp2_with fail
   refine(HLn.out _ (HK2.out.drewN _)).mono ?_
   rintro en w8 ⟨rfl,hk8⟩
   have hk8:=Keep.drewNL hk8
   have HK3:=qtr HK2 hk8
   have Hy3:=qkb Hy2 hk8
   have Hq3:=qkb Hq2 hk8
   have Hb3:=qkb HBx2 hk8
   clear y0 y1 y2 y3 q0 q1 q2 q3 q4 b0 b1 b2 hk8 qn tq
   by_cases g1:l2=0
   case neg=>
    have t1:(l2 != 0)=true:=by simpa using g1
    have HF:Hid (leftA t (ref,rv,P,S,g)=none):=qh (by rw[HD2.out,if_neg g1])
    clear g1
    go_wp2_with fail
    (try simp only[Exit.inBlock,Exit.then])
    refine bodyPost_ret (ret3 (fn:=Tryz.f80) (r:=4) (s:=5) (u:=6) rfl _ _) rfl ⟨by rw[HF.out];rfl,HK3.out⟩
   have t1:(l2 != 0)=false:=by simpa using g1
   have HL0:Hid ((lenM t P).2=0):=qh (HL2.out.trans g1)
   have HD3:Hid (leftA t (ref,rv,P,S,g)=some (l1 - alongP t (b2,b3,rv),alongP t (b2,b3,rv))):=qh (by rw[HD2.out,if_pos g1])
   clear g1 HD2
   obtain⟨x1,x2,x3,x4,x5⟩:=check_bal HCk.out (bal_mem HOb.out).1
   simp only at x3 x4 x5
   have hsum:=sum_in HCk.out HL0.out (i:=P.length) (Nat.le_refl _)
   rw[List.take_length,←(good_of HCk.out HL0.out).2.2,HL1.out] at hsum
   have hin:=edge_in HCk.out x3
   unfold thereB at x3
   simp only[Bool.and_eq_true,decide_eq_true_eq] at x3
   rw[←HEl.out] at x3
   cases rv with
   | false=>
    have HF:Hid (leftA t (ref,false,P,S,g)=some (l1 - b3,b3)):=qh HD3.out
    have hw:wrap64 (l1 - b3)=l1 - b3:=by have:=IntWalk.i64_in (l1 - b3) (by omega);rwa [IntWalk.i64_left] at this
    clear x1 x2 x3 x4 x5 hsum hin
    obtain⟨y0,y1,y2,y3⟩:=bc4 Hy3.out
    obtain⟨q0,q1,q2,q3,q4⟩:=bc5 Hq3.out
    obtain⟨b0,b1,b2⟩:=bc3 Hb3.out
    go_wp2_with fail
    (try rw[hw])
    (try simp only[Exit.inBlock,Exit.then])
    refine bodyPost_ret (ret3 (fn:=Tryz.f80) (r:=4) (s:=5) (u:=6) rfl _ _) rfl ⟨by rw[HF.out];rfl,HK3.out⟩
   | true=>
    obtain⟨ad2,j,v,hA2,he,hj,d0,hv⟩:=HED.out w8 HK3.out b2 x3.1 x3.2
    subst hA2
    rw[hv] at x5 hin
    have HF:Hid (leftA t (ref,true,P,S,g)=some (l1 - (v - b3),v - b3)):=qh (by rw[HD3.out];unfold alongP;rw[if_pos rfl];simp only[hv])
    have hw0:IntKind.i64.wrap (v - b3)=v - b3:=IntWalk.i64_in _ (by omega)
    have hw:wrap64 (l1 - (v - b3))=l1 - (v - b3):=by have:=IntWalk.i64_in (l1 - (v - b3)) (by omega);rwa [IntWalk.i64_left] at this
    subst he
    have hjz:(j:Int)<(ne:Int):=by omega
    obtain⟨y0,y1,y2,y3⟩:=bc4 Hy3.out
    obtain⟨q0,q1,q2,q3,q4⟩:=bc5 Hq3.out
    obtain⟨b0,b1,b2⟩:=bc3 Hb3.out
    clear x1 x2 x3 x4 x5 hsum hin hv
    go_wp2_with fail
    go_quiet (fail)
    go_wp2_with fail
    (try rw[hw])
    (try simp only[Exit.inBlock,Exit.then])
    refine bodyPost_ret (ret3 (fn:=Tryz.f80) (r:=4) (s:=5) (u:=6) rfl _ _) rfl ⟨by rw[HF.out];rfl,(HK3.out.drewN _)⟩
end Go.Proofs.YtpapiojicbbheaaGreatDoor

namespace Go.Proofs.YtpapiojicbbheaaGreatDoor
open Go.RowKit
theorem may_no {t:Tp}{m:Ma} (h:∀z,MayA t m z→False):mayMA t m=false:=by
 cases hm:mayMA t m with
 | false=>rfl
 | true=>obtain⟨z,hz⟩:=may_iff.1 hm;exact(h z hz).elim
def fitO (o:Option (Int×Int)) (n:Int):Bool:=match o with | some z=>decide (n≤z.1) | none=>false
theorem fits_eq (t:Tp) (m:Ma):fitsB t m=fitO (leftA t m) (endS m.2.2.2.1+m.2.2.2.2):=rfl
theorem may_last {t:Tp}{m:Ma} (h0:checkM t=0) (h1:m.2.2.1.length≤24) (h2:twiceB m.2.2.1=false) (h3:1≤m.2.2.2.1.length) (h4:m.2.2.2.1.length≤8) (h5:0≤m.2.2.2.2) (h6:m.2.2.2.2≤1099511627776) (h7:sectsB m.2.2.2.1=true):mayMA t m=fitsB t m:=by
 unfold mayMA
 simp[h0,h1,h2,h3,h4,h5,h6,h7]
theorem sects_no {l:List Sc}{k:Nat} (hk:k<l.length) (h:sectAt l k=false):sectsB l=false:=by
 unfold sectsB
 rw[List.all_eq_false]
 exact⟨k,List.mem_range.2 hk,by rw[h];simp⟩
theorem sects_yes {l:List Sc} (h:∀k,k<l.length→sectAt l k=true):sectsB l=true:=by
 unfold sectsB
 rw[List.all_eq_true]
 intro k hk
 exact h k (List.mem_range.1 hk)
theorem sectAt_eq {l:List Sc}{k:Nat}{s:Sc} (h:l[k]?=some s):sectAt l k=(decide (endS (l.take k)<s.1)&&decide (s.1≤1099511627776)&&decide (1≤s.2)&&decide (s.2≤1000)):=by unfold sectAt;rw[h]
theorem sects_end {l:List Sc}{k:Nat} (hk:k≤l.length) (h:∀j,j<k→sectAt l j=true):0≤endS (l.take k)∧endS (l.take k)≤1099511627776:=by
 induction k with
 | zero=>simp[endS_nil]
 | succ k ih=>
  obtain⟨h1,h2⟩:=ih (by omega) (fun j hj=>h j (by omega))
  have hs:l[k]?=some l[k]:=List.getElem?_eq_getElem (by omega)
  have h3:=h k (by omega)
  rw[sectAt_eq hs] at h3
  simp only[Bool.and_eq_true,decide_eq_true_eq] at h3
  rw[endS_take hs]
  omega
set_option maxHeartbeats 8000000 in
set_option maxRecDepth 100000 in
theorem may17_any (x:TA) (t:Tp) (B:Nat) (ref:Int) (rv:Bool) (P:List Stp) (S:List Sc) (g:Int) (Ap:Option Addr) (np cp:Nat) (As:Option Addr) (ns cs:Nat) (w:World) (h:TpAt w B x t) (hs:TpSmall x t) (hB:B≤w.heap.size) (hp:repStp.Sl w B Ap np cp P) (hS:ScAt w B As ns cs S) (hnp:np≤1000000) (hns:ns≤1000000) :
    Calls Tryz.prog 22 #[.agg x.cs,.agg #[.int .i64 ref,.bool rv,.slice Ap np cp,.slice As ns cs,.int .i64 g]] w fun en w'=>en=.returned (.bool (mayMA t (ref,rv,P,S,g)))∧Keep Never w w':=by
  have HCh:=qh (fun (W:World) (hk:Keep Never w W)=>check_any x t B W (h.keep hk) hs (Nat.le_trans hB hk.size))
  have HTw:=qh (fun (W:World) (hk:Keep Never w W)=>twice_any Ap np cp B P W ((stps_rd hp).1.keep hk (fun _ h=>h.elim)) hp.cap hnp)
  have HLf:=qh (fun (W:World) (hk:Keep Never w W) (hck:checkM t=0)=>pleft_any x t B ref rv P S g Ap np cp As ns cs W (h.keep hk) hs (hp.keep hk (fun _ h=>h.elim)) hck (by omega))
  have HPl:Hid (np=P.length):=qh hp.len
  have HS:=qh hS
  have HSl:Hid (S.length=ns):=qh hS.len
  obtain⟨Ae,ne,ce,Aj,nj,cj,Ab,nb,cb,Ar,nr,cr⟩:=x
  simp only[TA.cs] at HCh HLf ⊢
  clear h hs hp hS hB
  obtain⟨w1,hw1⟩:∃V:World,w.alloc (.cells #[.slice Ae ne ce,.slice Aj nj cj,.slice Ab nb cb,.slice Ar nr cr] 27)=V:=⟨_,rfl⟩
  have zw1:w1.heap.size=w.heap.size+1:=by rw[←hw1];simp
  have kw1:Keep Never w w1:=by rw[←hw1];exact(Keep.refl _ _).alloc _
  have bw1:=Blk.new w 27 #[.slice Ae ne ce,.slice Aj nj cj,.slice Ab nb cb,.slice Ar nr cr]
  rw[hw1] at bw1
  obtain⟨w2,hw2⟩:∃V:World,w1.alloc (.cells #[.int .i64 ref,.bool rv,.slice Ap np cp,.slice As ns cs,.int .i64 g] 38)=V:=⟨_,rfl⟩
  have kw2:Keep Never w1 w2:=by rw[←hw2];exact(Keep.refl _ _).alloc _
  have bw2:=Blk.new w1 38 #[.int .i64 ref,.bool rv,.slice Ap np cp,.slice As ns cs,.int .i64 g]
  rw[hw2,zw1] at bw2
  have HB1:=qh (bw1.keep kw2 (fun h=>h))
  have HB2:=qh bw2
  have HK:=qh (kw1.trans kw2)
  clear kw1 kw2 bw1 bw2
  obtain⟨ck,hck⟩:∃z,checkM t=z:=⟨_,rfl⟩
  have HC:=qh (HCh.out w2 HK.out)
  rw[hck] at HC
  have HCk:=qh hck
  clear hck HCh
  by_cases g0:ck=0
  case neg=>
   have t0:(ck != 0)=true:=by simpa using g0
   have HF:Hid (mayMA t (ref,rv,P,S,g)=false):=qh (may_no (fun z hz=>by exact g0 (HCk.out.symm.trans hz.chk)))
   clear g0
   obtain⟨y0,y1,y2,y3⟩:=bc4 HB1.out
   obtain⟨q0,q1,q2,q3,q4⟩:=bc5 HB2.out
   go_enter Tryz.func22, Tryz.ntmps22
   go_wp2_with fail
   refine HC.out.mono ?_
   rintro en w4 ⟨rfl,hk4⟩
   have HK1:=qtr HK hk4
   have Hy1:=qkb HB1 hk4
   have Hq1:=qkb HB2 hk4
   clear y0 y1 y2 y3 q0 q1 q2 q3 q4 hk4 HC hw1 hw2 zw1
   obtain⟨y0,y1,y2,y3⟩:=bc4 Hy1.out
   obtain⟨q0,q1,q2,q3,q4⟩:=bc5 Hq1.out
   go_wp2_with fail
   go_ret
   exact⟨by rw[HF.out];rfl,HK1.out⟩
  have t0:(ck != 0)=false:=by simpa using g0
  have HC0:Hid (checkM t=0):=qh (HCk.out.trans g0)
  clear g0
  by_cases g1:np≤24
  case neg=>
   have t1:decide ((np:Int)>24)=true:=by simp;omega
   have t1b:decide (24<np)=true:=by simp;omega
   have HF:Hid (mayMA t (ref,rv,P,S,g)=false):=qh (may_no (fun z hz=>by have h1:=hz.few;have h2:=HPl.out;simp only at h1;omega))
   clear g1
   obtain⟨y0,y1,y2,y3⟩:=bc4 HB1.out
   obtain⟨q0,q1,q2,q3,q4⟩:=bc5 HB2.out
   go_enter Tryz.func22, Tryz.ntmps22
   go_wp2_with fail
   refine HC.out.mono ?_
   rintro en w4 ⟨rfl,hk4⟩
   have HK1:=qtr HK hk4
   have Hy1:=qkb HB1 hk4
   have Hq1:=qkb HB2 hk4
   clear y0 y1 y2 y3 q0 q1 q2 q3 q4 hk4 HC hw1 hw2 zw1
   obtain⟨y0,y1,y2,y3⟩:=bc4 Hy1.out
   obtain⟨q0,q1,q2,q3,q4⟩:=bc5 Hq1.out
   go_wp2_with fail
   go_ret
   exact⟨by rw[HF.out];rfl,HK1.out⟩
  have t1:decide ((np:Int)>24)=false:=by simp;omega
  have t1b:decide (24<np)=false:=by simp;omega
  have HG1:=qh g1
  clear g1
  obtain⟨y0,y1,y2,y3⟩:=bc4 HB1.out
  obtain⟨q0,q1,q2,q3,q4⟩:=bc5 HB2.out
  go_enter Tryz.func22, Tryz.ntmps22
  go_wp2_with fail
  refine HC.out.mono ?_
  rintro en w4 ⟨rfl,hk4⟩
  have HK1:=qtr HK hk4
  have Hy1:=qkb HB1 hk4
  have Hq1:=qkb HB2 hk4
  clear y0 y1 y2 y3 q0 q1 q2 q3 q4 hk4 HC hw1 hw2 zw1
  obtain⟨y0,y1,y2,y3⟩:=bc4 Hy1.out
  obtain⟨q0,q1,q2,q3,q4⟩:=bc5 Hq1.out
  go_wp2_with fail
  obtain⟨tb,htb⟩:∃z,twiceB P=z:=⟨_,rfl⟩
  have hT:=HTw.out w4 HK1.out
  rw[htb] at hT
  have HT:=qh hT
  have HTb:=qh htb
  clear hT htb HTw
  refine HT.out.mono ?_
  rintro en w5 ⟨rfl,hk5⟩
  have HK2:=qtr HK1 hk5
  have Hy2:=qkb Hy1 hk5
  have Hq2:=qkb Hq1 hk5
  clear y0 y1 y2 y3 q0 q1 q2 q3 q4 hk5 HT
  cases tb with
  | true=>
   have HF:Hid (mayMA t (ref,rv,P,S,g)=false):=qh (may_no (fun z hz=>by have h1:=twice_no.2 hz.once;simp only at h1;rw[HTb.out] at h1;exact absurd h1 (by decide)))
   obtain⟨y0,y1,y2,y3⟩:=bc4 Hy2.out
   obtain⟨q0,q1,q2,q3,q4⟩:=bc5 Hq2.out
   go_wp2_with fail
   go_ret
   exact⟨by rw[HF.out];rfl,HK2.out⟩
  | false=>
   by_cases g2:1≤ns
   case neg=>
    have t2a:decide ((ns:Int)<1)=true:=by simp;omega
    have t2b:decide (ns<1)=true:=by simp;omega
    have t2c:decide (ns=0)=true:=by simp;omega
    have HF:Hid (mayMA t (ref,rv,P,S,g)=false):=qh (may_no (fun z hz=>by have h1:=hz.some_;have h2:=HSl.out;simp only at h1;omega))
    clear g2
    obtain⟨y0,y1,y2,y3⟩:=bc4 Hy2.out
    obtain⟨q0,q1,q2,q3,q4⟩:=bc5 Hq2.out
    go_wp2_with fail
    go_ret
    exact⟨by rw[HF.out];rfl,HK2.out⟩
   have t2a:decide ((ns:Int)<1)=false:=by simp;omega
   have t2b:decide (ns<1)=false:=by simp;omega
   have t2c:decide (ns=0)=false:=by simp;omega
   have HG2:=qh g2
   clear g2
   by_cases g3:ns≤8
   case neg=>
    have t3a:decide ((ns:Int)>8)=true:=by simp;omega
    have t3b:decide (8<ns)=true:=by simp;omega
    have HF:Hid (mayMA t (ref,rv,P,S,g)=false):=qh (may_no (fun z hz=>by have h1:=hz.eight;have h2:=HSl.out;simp only at h1;omega))
    clear g3
    obtain⟨y0,y1,y2,y3⟩:=bc4 Hy2.out
    obtain⟨q0,q1,q2,q3,q4⟩:=bc5 Hq2.out
    go_wp2_with fail
    go_ret
    exact⟨by rw[HF.out];rfl,HK2.out⟩
   have t3a:decide ((ns:Int)>8)=false:=by simp;omega
   have t3b:decide (8<ns)=false:=by simp;omega
   have HG3:=qh g3
   clear g3
   by_cases g4:0≤g
   case neg=>
    have t4a:decide (g<0)=true:=by simp;omega
    have HF:Hid (mayMA t (ref,rv,P,S,g)=false):=qh (may_no (fun z hz=>by have h1:=hz.gap0;simp only at h1;omega))
    clear g4
    obtain⟨y0,y1,y2,y3⟩:=bc4 Hy2.out
    obtain⟨q0,q1,q2,q3,q4⟩:=bc5 Hq2.out
    go_wp2_with fail
    go_ret
    exact⟨by rw[HF.out];rfl,HK2.out⟩
   have t4a:decide (g<0)=false:=by simp;omega
   have HG4:=qh g4
   clear g4
   by_cases g5:g≤1099511627776
   case neg=>
    have t5a:decide (g>1099511627776)=true:=by simp;omega
    have HF:Hid (mayMA t (ref,rv,P,S,g)=false):=qh (may_no (fun z hz=>by have h1:=hz.gap1;simp only at h1;omega))
    clear g5
    obtain⟨y0,y1,y2,y3⟩:=bc4 Hy2.out
    obtain⟨q0,q1,q2,q3,q4⟩:=bc5 Hq2.out
    go_wp2_with fail
    go_ret
    exact⟨by rw[HF.out];rfl,HK2.out⟩
   have t5a:decide (g>1099511627776)=false:=by simp;omega
   have HG5:=qh g5
   clear g5
   obtain⟨y0,y1,y2,y3⟩:=bc4 Hy2.out
   obtain⟨q0,q1,q2,q3,q4⟩:=bc5 Hq2.out
   go_wp2_with fail
   clear y0 y1 y2 y3 q0 q1 q2 q3 q4 t0 t1 t1b t2a t2b t2c t3a t3b t4a t5a
   go_loopw [5,50] (fun la si wr=>∃k:Nat,k≤ns∧si=.int .i64 k∧la=.int .i64 (endS (S.take k))∧Hid (Keep Never w5 wr∧∀j,j<k→sectAt S j=true)) (fun _ si _=>ns - (intOf si).toNat)
   case atStart=>exact⟨0,by omega,rfl,rfl,qh ⟨Keep.refl _ _,fun j hj=>absurd hj (by omega)⟩⟩
   case round=>
    obtain⟨k,hk,rfl,rfl,HH⟩:=hrel
    have hkr:=HH.out.1
    have HK3:=qtr HK2 hkr
    have Hy3:=qkb Hy2 hkr
    have Hq3:=qkb Hq2 hkr
    clear hkr
    by_cases h0:k<ns
    ·have hki:(k:Int)<(ns:Int):=by omega
     obtain⟨ad,s,hA,_,hs,c0,c1⟩:=(HS.out.keep HK3.out).rd.sc h0
     have HSa:=qh (sectAt_eq hs)
     have HSn:=qh (endS_take hs)
     obtain⟨s1,s2⟩:=s
     simp only at c0 c1 HSa HSn
     subst hA
     obtain⟨la,hla⟩:∃z,endS (S.take k)=z:=⟨_,rfl⟩
     rw[hla] at HSa ⊢
     clear hs hla
     obtain⟨w8,hw8⟩:∃V:World,wr.alloc (.cells #[.int .i64 s1,.int .i64 s2] 58)=V:=⟨_,rfl⟩
     have k8:Keep Never wr w8:=by rw[←hw8];exact(Keep.refl _ _).alloc _
     have B8:=Blk.new wr 58 #[.int .i64 s1,.int .i64 s2]
     rw[hw8] at B8
     obtain⟨br,hbr⟩:∃q,wr.heap.size=q:=⟨_,rfl⟩
     rw[hbr] at B8
     have HB8:=qh B8
     have HK4:=qtr HK3 k8
     have Hy4:=qkb Hy3 k8
     have Hq4:=qkb Hq3 k8
     clear k8 B8
     obtain⟨b0,b1⟩:=bc2 HB8.out
     by_cases e0:s1≤la
     ·have u0:decide (s1≤la)=true:=by simpa using e0
      have HF:Hid (mayMA t (ref,rv,P,S,g)=false):=qh (may_no (fun z hz=>by have h1:=sects_iff.2 hz.sects;simp only at h1;rw[sects_no (k:=k) (by rw[HSl.out];exact h0) (by rw[HSa.out];simp;omega)] at h1;exact absurd h1 (by decide)))
      clear e0
      go_wp2_with fail
      go_ret
      exact⟨by rw[HF.out];rfl,HK4.out⟩
     have u0:decide (s1≤la)=false:=by simpa using e0
     by_cases e1:s1>1099511627776
     ·have u1:decide (s1>1099511627776)=true:=by simpa using e1
      have HF:Hid (mayMA t (ref,rv,P,S,g)=false):=qh (may_no (fun z hz=>by have h1:=sects_iff.2 hz.sects;simp only at h1;rw[sects_no (k:=k) (by rw[HSl.out];exact h0) (by rw[HSa.out];simp;omega)] at h1;exact absurd h1 (by decide)))
      clear e0 e1
      go_wp2_with fail
      go_ret
      exact⟨by rw[HF.out];rfl,HK4.out⟩
     have u1:decide (s1>1099511627776)=false:=by simpa using e1
     by_cases e2:s2<1
     ·have u2:decide (s2<1)=true:=by simpa using e2
      have HF:Hid (mayMA t (ref,rv,P,S,g)=false):=qh (may_no (fun z hz=>by have h1:=sects_iff.2 hz.sects;simp only at h1;rw[sects_no (k:=k) (by rw[HSl.out];exact h0) (by rw[HSa.out];simp;omega)] at h1;exact absurd h1 (by decide)))
      clear e0 e1 e2
      go_wp2_with fail
      go_ret
      exact⟨by rw[HF.out];rfl,HK4.out⟩
     have u2:decide (s2<1)=false:=by simpa using e2
     by_cases e3:s2>1000
     ·have u3:decide (s2>1000)=true:=by simpa using e3
      have HF:Hid (mayMA t (ref,rv,P,S,g)=false):=qh (may_no (fun z hz=>by have h1:=sects_iff.2 hz.sects;simp only at h1;rw[sects_no (k:=k) (by rw[HSl.out];exact h0) (by rw[HSa.out];simp;omega)] at h1;exact absurd h1 (by decide)))
      clear e0 e1 e2 e3
      go_wp2_with fail
      go_ret
      exact⟨by rw[HF.out];rfl,HK4.out⟩
     have u3:decide (s2>1000)=false:=by simpa using e3
     have HOk:Hid (sectAt S k=true):=qh (by rw[HSa.out];simp;omega)
     clear e0 e1 e2 e3
     go_wp2_with fail
     refine⟨⟨k+1,by omega,by go_num,by rw[HSn.out],qh ⟨HH.out.1.trans (show Keep Never wr w8 from by rw[←hw8];exact(Keep.refl _ _).alloc _),fun j hj=>?_⟩⟩,?_⟩
     ·rcases Nat.lt_or_ge j k with h | h
      ·exact HH.out.2 j h
      ·obtain rfl:j=k:=by omega
       exact HOk.out
     ·simp[intOf];try omega
    ·obtain rfl:k=ns:=by omega
     have hki:¬(k:Int)<(k:Int):=by omega
     have HSt:Hid (S.take k=S):=qh (by rw[List.take_of_length_le (by rw[HSl.out];exact Nat.le_refl _)])
     have HSy:Hid (sectsB S=true):=qh (sects_yes (fun j hj=>HH.out.2 j (by rw[←HSl.out];exact hj)))
     have hen:=sects_end (l:=S) (k:=k) (by rw[HSl.out];exact Nat.le_refl _) HH.out.2
     rw[HSt.out] at hen ⊢
     have HML:Hid (mayMA t (ref,rv,P,S,g)=fitsB t (ref,rv,P,S,g)):=qh (may_last HC0.out (by simp only;have:=HG1.out;have:=HPl.out;omega) HTb.out (by simp only;have:=HG2.out;have:=HSl.out;omega) (by simp only;have:=HG3.out;have:=HSl.out;omega) HG4.out HG5.out HSy.out)
     have hL0:=HLf.out wr HK3.out HC0.out
     unfold LeftRet at hL0
     obtain⟨o,ho⟩:∃z,leftA t (ref,rv,P,S,g)=z:=⟨_,rfl⟩
     rw[ho] at hL0
     have HL:=qh hL0
     obtain⟨la,hla⟩:∃z,endS S=z:=⟨_,rfl⟩
     have HFi:Hid (fitsB t (ref,rv,P,S,g)=fitO o (la+g)):=qh (by rw[fits_eq,ho];simp only;rw[hla])
     rw[hla] at hen ⊢
     have hw:IntKind.i64.wrap (la+g)=la+g:=IntWalk.i64_in _ (by have:=HG4.out;have:=HG5.out;omega)
     have hw':wrap64 (la+g)=la+g:=by have:=hw;rwa [IntWalk.i64_left] at this
     clear hla ho hL0 HLf
     obtain⟨y0,y1,y2,y3⟩:=bc4 Hy3.out
     obtain⟨q0,q1,q2,q3,q4⟩:=bc5 Hq3.out
     go_wp2_with fail
     refine HL.out.mono ?_
     rintro en w9 ⟨rfl,hk9⟩
     have HK4:=qtr HK3 hk9
     have Hy4:=qkb Hy3 hk9
     have Hq4:=qkb Hq3 hk9
     clear y0 y1 y2 y3 q0 q1 q2 q3 q4 hk9 HL
     cases o with
     | none=>
      have HF:Hid (mayMA t (ref,rv,P,S,g)=false):=qh (by rw[HML.out,HFi.out];rfl)
      simp only[Option.getD,Option.isSome]
      obtain⟨y0,y1,y2,y3⟩:=bc4 Hy4.out
      obtain⟨q0,q1,q2,q3,q4⟩:=bc5 Hq4.out
      go_wp2_with fail
      go_ret
      exact⟨by rw[HF.out];rfl,HK4.out⟩
     | some z=>
      obtain⟨z1,z2⟩:=z
      simp only[Option.getD,Option.isSome]
      by_cases e:la+g≤z1
      ·have u0:decide (la+g≤z1)=true:=by simpa using e
       have HF:Hid (mayMA t (ref,rv,P,S,g)=true):=qh (by rw[HML.out,HFi.out];exact u0)
       clear e
       obtain⟨y0,y1,y2,y3⟩:=bc4 Hy4.out
       obtain⟨q0,q1,q2,q3,q4⟩:=bc5 Hq4.out
       go_wp2_with fail
       (try rw[hw'])
       (try rw[u0])
       go_ret
       exact⟨by rw[HF.out];rfl,HK4.out⟩
      ·have u0:decide (la+g≤z1)=false:=by simpa using e
       have HF:Hid (mayMA t (ref,rv,P,S,g)=false):=qh (by rw[HML.out,HFi.out];exact u0)
       clear e
       obtain⟨y0,y1,y2,y3⟩:=bc4 Hy4.out
       obtain⟨q0,q1,q2,q3,q4⟩:=bc5 Hq4.out
       go_wp2_with fail
       (try rw[hw'])
       (try rw[u0])
       go_ret
       exact⟨by rw[HF.out];rfl,HK4.out⟩
theorem reach_stop {l:List Sc}{k:Nat}{s:Sc}{age:Int} (h:∀j x,j<k→l[j]?=some x→age<x.2) (hs:l[k]?=some s) (hage:s.2≤age):reachM l age=endS (l.take k):=by
 rw[reach_take,while_is (j:=k) (fun j x hj hx=>by simpa using h j x hj hx) (fun x hx=>by rw[hs] at hx;injection hx with hx;subst hx;simpa using hage) (by have:=(List.getElem?_eq_some_iff.1 hs).1;omega)]
theorem reach_end {l:List Sc}{age:Int} (h:∀j x,j<l.length→l[j]?=some x→age<x.2):reachM l age=endS l:=by
 rw[reach_take,while_is (j:=l.length) (fun j x hj hx=>by simpa using h j x hj hx) (fun x hx=>by simp at hx) (Nat.le_refl _),List.take_length]
set_option maxHeartbeats 8000000 in
set_option maxRecDepth 100000 in
theorem reach_any (B:Nat) (ref:Int) (rv:Bool) (S:List Sc) (g age:Int) (Ap:Option Addr) (np cp:Nat) (As:Option Addr) (ns cs:Nat) (w:World) (hS:ScAt w B As ns cs S) (hns:ns≤1000000) :
    Calls Tryz.prog 27 #[.agg #[.int .i64 ref,.bool rv,.slice Ap np cp,.slice As ns cs,.int .i64 g],.int .i64 age] w fun en w'=>en=.returned (.int .i64 (reachM S age))∧Keep Never w w':=by
  have HS:=qh hS
  have HSl:Hid (S.length=ns):=qh hS.len
  clear hS
  obtain⟨w1,hw1⟩:∃V:World,w.alloc (.cells #[.int .i64 ref,.bool rv,.slice Ap np cp,.slice As ns cs,.int .i64 g] 38)=V:=⟨_,rfl⟩
  have kw1:Keep Never w w1:=by rw[←hw1];exact(Keep.refl _ _).alloc _
  have bw1:=Blk.new w 38 #[.int .i64 ref,.bool rv,.slice Ap np cp,.slice As ns cs,.int .i64 g]
  rw[hw1] at bw1
  have HB1:=qh bw1
  have HK:=qh kw1
  clear kw1 bw1
  obtain⟨q0,q1,q2,q3,q4⟩:=bc5 HB1.out
  go_enter Tryz.func27, Tryz.ntmps27
  go_wp2_with fail
  clear q0 q1 q2 q3 q4 hw1
  go_loopw [5,11] (fun la si wr=>∃k:Nat,k≤ns∧si=.int .i64 k∧la=.int .i64 (endS (S.take k))∧Hid (Keep Never w wr∧∀j x,j<k→S[j]?=some x→age<x.2)) (fun _ si _=>ns - (intOf si).toNat)
  case atStart=>exact⟨0,by omega,rfl,rfl,qh ⟨HK.out,fun j x hj=>absurd hj (by omega)⟩⟩
  case round=>
   obtain⟨k,hk,rfl,rfl,HH⟩:=hrel
   by_cases h0:k<ns
   ·have hki:(k:Int)<(ns:Int):=by omega
    obtain⟨ad,s,hA,_,hs,c0,c1⟩:=(HS.out.keep HH.out.1).rd.sc h0
    have HSn:=qh (endS_take hs)
    have HSs:=qh hs
    obtain⟨s1,s2⟩:=s
    simp only at c0 c1 HSn
    subst hA
    clear hs
    obtain⟨la,hla⟩:∃z,endS (S.take k)=z:=⟨_,rfl⟩
    have HLa:=qh hla
    rw[hla]
    clear hla
    obtain⟨w8,hw8⟩:∃V:World,wr.alloc (.cells #[.int .i64 s1,.int .i64 s2] 58)=V:=⟨_,rfl⟩
    have k8:Keep Never wr w8:=by rw[←hw8];exact(Keep.refl _ _).alloc _
    have B8:=Blk.new wr 58 #[.int .i64 s1,.int .i64 s2]
    rw[hw8] at B8
    obtain⟨br,hbr⟩:∃q,wr.heap.size=q:=⟨_,rfl⟩
    rw[hbr] at B8
    have HB8:=qh B8
    have HK8:=qh (HH.out.1.trans k8)
    obtain⟨b0,b1⟩:=bc2 HB8.out
    clear B8 k8
    by_cases e:s2≤age
    ·have u0:decide (s2≤age)=true:=by simpa using e
     have HF:Hid (reachM S age=la):=qh (by rw[reach_stop HH.out.2 HSs.out e,HLa.out])
     clear e
     go_wp2_with fail
     go_ret
     exact⟨by rw[HF.out];rfl,HK8.out⟩
    ·have u0:decide (s2≤age)=false:=by simpa using e
     have HN:Hid (age<s2):=qh (by omega)
     clear e
     go_wp2_with fail
     refine⟨⟨k+1,by omega,by go_num,by rw[HSn.out],qh ⟨HK8.out,fun j x hj hx=>?_⟩⟩,?_⟩
     ·rcases Nat.lt_or_ge j k with h | h
      ·exact HH.out.2 j x h hx
      ·obtain rfl:j=k:=by omega
       rw[HSs.out] at hx
       injection hx with hx
       subst hx
       exact HN.out
     ·simp[intOf];try omega
   ·obtain rfl:k=ns:=by omega
    have hki:¬(k:Int)<(k:Int):=by omega
    have HF:Hid (reachM S age=endS (S.take k)):=qh (by rw[List.take_of_length_le (by rw[HSl.out];exact Nat.le_refl _)];exact reach_end (fun j x hj hx=>HH.out.2 j x (by rw[←HSl.out];exact hj) hx))
    go_wp2_with fail
    go_ret
    exact⟨by rw[HF.out];rfl,HH.out.1⟩
end Go.Proofs.YtpapiojicbbheaaGreatDoor

namespace Go.Proofs.YtpapiojicbbheaaGreatDoor
open Go.RowKit
theorem nums_in:∀{tr:List (Int×Int)}{x:Int},x∈nums tr→∃v,(v,x)∈tr∧v≠7
  | [],x,h=>by simp[nums] at h
  | (v,m)::tr,x,h=>by
   unfold nums at h
   by_cases h7:v=7
   ·rw[if_pos h7] at h
    obtain⟨a,h1,h2⟩:=nums_in h
    exact⟨a,List.mem_cons_of_mem _ h1,h2⟩
   ·rw[if_neg h7] at h
    rcases List.mem_cons.1 h with h | h
    ·exact⟨v,by rw[h];simp,h7⟩
    ·obtain⟨a,h1,h2⟩:=nums_in h
     exact⟨a,List.mem_cons_of_mem _ h1,h2⟩
theorem items_num {id:Int}{V:List Int} (h:badP (id,V)=false):(∃l,ItemsM id V=.ok l)∧∀x∈V,0≤x∧x<4294967296:=by
 unfold badP at h
 simp only at h
 cases hi:ItemsM id V with
 | error e=>rw[hi] at h;cases h
 | ok l=>
  refine⟨⟨l,rfl⟩,fun x hx=>?_⟩
  unfold ItemsM at hi
  cases hj:itemsM id V with
  | error e=>rw[hj] at hi;cases hi
  | ok out=>
   obtain⟨T,tr,_,_,_,hV,hm⟩:=itemsM_ok hj
   rw[←hV] at hx
   obtain⟨v,h1,h2⟩:=nums_in hx
   rcases hm _ h1 with h3 | h3
   ·exact absurd h3.1 h2
   ·have hr:_:=vMay_range (v:=v) h3.2
    have hp:(2:Nat) ^ (vWidth v).toNat≤2 ^ 32:=Nat.pow_le_pow_right (by omega) (by omega)
    have e32:(2:Nat) ^ 32=4294967296:=rfl
    exact⟨hr.2.2.1,by have:=hr.2.2.2;simp only at this;omega⟩
def MaRet (r:Ma×Int) (w:World) (e:Ending) (w':World):Prop:=∃y:MX,e=.returned (.tuple #[.agg (y.vs r.1),.int .i64 r.2])∧MaAt w' w'.heap.size y r.1∧Keep Never w w'
set_option maxRecDepth 100000 in
theorem ma_results2 {fn:Func}{r s:Nat} (h:fn.results=#[.cell r 38, .tmp s]) {w:World}{b:Nat}{v0 v1 v2 v3 v4:Value} (hb:Blk w b 38 #[v0,v1,v2,v3,v4]) (tmps:Array Value) (ht:tmps.getD r undef=.pointer (some ⟨b,0,none⟩)) :
    (results fn tmps).run Tryz.prog w=.ok (.tuple #[.agg #[v0,v1,v2,v3,v4],tmps.getD s undef]) w:=by
  have q0:w.cell? ⟨b,0,none⟩=some v0:=hb.cell 0
  have q1:w.cell? ⟨b,1,none⟩=some v1:=hb.cell 1
  have q2:w.cell? ⟨b,2,none⟩=some v2:=hb.cell 2
  have q3:w.cell? ⟨b,3,none⟩=some v3:=hb.cell 3
  have q4:w.cell? ⟨b,4,none⟩=some v4:=hb.cell 4
  have ht':tmps[r]?.getD undef=.pointer (some ⟨b,0,none⟩):=by rw[←Array.getD_eq_getD_getElem?];exact ht
  simp[results,h,ht',go_sem,q0,q1,q2,q3,q4]
abbrev put5 (w:World) (b:Nat) (v0 v1 v2 v3 v4:Value):World:=((((w.setCell ⟨b,0,none⟩ v0).setCell ⟨b,1,none⟩ v1).setCell ⟨b,2,none⟩ v2).setCell ⟨b,3,none⟩ v3).setCell ⟨b,4,none⟩ v4
theorem put5_blk {w:World}{b t:Nat}{u0 u1 u2 u3 u4:Value} (h:Blk w b t #[u0,u1,u2,u3,u4]) (v0 v1 v2 v3 v4:Value):Blk (put5 w b v0 v1 v2 v3 v4) b t #[v0,v1,v2,v3,v4]:=by
 have:=((((h.set_ 0 v0).set_ 1 v1).set_ 2 v2).set_ 3 v3).set_ 4 v4
 simpa using this
theorem put5_own {S:Nat→Prop}{w0 w:World}{b:Nat} (h:Keep S w0 w) (hb:S b∨w0.heap.size≤b) (v0 v1 v2 v3 v4:Value):Keep S w0 (put5 w b v0 v1 v2 v3 v4):=
  ((((h.set_ (p:=⟨b,0,none⟩) hb v0).set_ (p:=⟨b,1,none⟩) hb v1).set_ (p:=⟨b,2,none⟩) hb v2).set_ (p:=⟨b,3,none⟩) hb v3).set_ (p:=⟨b,4,none⟩) hb v4
theorem ma_nil {w:World}:MaAt w w.heap.size ⟨none,0,0,none,0,0⟩ noMa:=⟨Rep.Sl.nil _ _ _,ScAt.nil_ _ _⟩
theorem head_id {l:List Pk}{p:Pk} (h:l[0]?=some p):headId l=p.1∧headV l=p.2:=by
 cases l with
 | nil=>cases h
 | cons x l=>simp at h;subst h;exact⟨rfl,rfl⟩
theorem read_chk {t:Tp}{ref:Int}{rv:Bool}{l:List Pk} (h:checkM t≠0):readM badP t ref rv l=(noMa,1):=by unfold readM;rw[if_pos h]
def readT (t:Tp) (ref:Int) (rv:Bool) (r:Except Int (List Sc×Int)) (y:Except Int (List Stp)):Ma×Int:=match r with
  | .error e=>(noMa,e)
  | .ok z=>match y with
    | .error e=>(noMa,e)
    | .ok P=>if mayMA t (ref,rv,P,z.1,z.2)=true then ((ref,rv,P,z.1,z.2),0) else (noMa,7)
theorem read_bal {t:Tp}{ref:Int}{rv:Bool}{l:List Pk} (h:checkM t=0):readM badP t ref rv l=match balM t.2.2.1 ref with
  | none=>(noMa,4)
  | some b=>if headId l≠15∨l.any badP=true then (noMa,50) else readT t ref rv (secsM rv (headV l)) (wayR t (b.2.1,rv) l):=by
  unfold readM
  rw[if_neg (by simpa using h)]
  cases balM t.2.2.1 ref <;> rfl
theorem way_none {t:Tp}{s:Stp}{l:List Pk} (h:∀x∈l,(x.1==5)=false):wayR t s l=.ok [s]:=by
 unfold wayR
 rw[List.find?_eq_none.2 (fun x hx=>by simpa using h x hx)]
theorem way_some {t:Tp}{s:Stp}{l:List Pk}{i:Nat}{p:Pk} (h:l[i]?=some p) (h5:(p.1==5)=true) (hb:∀x∈l.take i,(x.1==5)=false):wayR t s l=linkedR t [s] p.2:=by
 unfold wayR
 have:l.find? (fun p=>p.1==5)=some p:=by
  obtain⟨h1,h2⟩:=List.getElem?_eq_some_iff.1 h
  rw[←List.take_append_drop i l,List.find?_append,List.find?_eq_none.2 (fun x hx=>by simpa using hb x hx),List.drop_eq_getElem_cons h1,h2]
  simp[h5]
 rw[this]
theorem readT_bad {t:Tp}{ref:Int}{rv:Bool}{e:Int}{y:Except Int (List Stp)}:readT t ref rv (.error e) y=(noMa,e):=rfl
theorem readT_way {t:Tp}{ref:Int}{rv:Bool}{z:List Sc×Int}{e:Int}:readT t ref rv (.ok z) (.error e)=(noMa,e):=rfl
theorem readT_ok {t:Tp}{ref:Int}{rv:Bool}{z:List Sc×Int}{P:List Stp}:readT t ref rv (.ok z) (.ok P)=if mayMA t (ref,rv,P,z.1,z.2)=true then ((ref,rv,P,z.1,z.2),0) else (noMa,7):=rfl
theorem sectsR_len {u:Int}:∀{k:Nat}{a:Int}{v:List Int}{z:List Sc×List Int},sectsR u k a v=.ok z→z.1.length=k
  | 0,a,v,z,h=>by unfold sectsR at h;cases h;rfl
  | k+1,a,v,z,h=>by
   unfold sectsR at h
   by_cases h0:(sectR u a v 0).e≠0
   ·rw[if_pos h0] at h;cases h
   ·rw[if_neg h0] at h
    cases hs:sectsR u k (sectR u a v 0).s.1 (sectR u a v 0).v with
    | error e=>rw[hs] at h;cases h
    | ok q=>
     rw[hs] at h
     have h1:=sectsR_len hs
     obtain⟨l,x⟩:=q
     simp only at h h1
     cases h
     simp[h1]
theorem secs_len {rv:Bool}{v:List Int}{z:List Sc×Int} (h:secsM rv v=.ok z):z.1.length≤8:=by
 unfold secsM at h
 split at h
 ·cases h
 ·unfold secs2 at h
  split at h
  ·cases h
  ·rename_i h8
   unfold secs4 at h
   split at h
   ·cases h
   ·rename_i q hq
    have h1:=sectsR_len hq
    unfold secs3 at h
    split at h
    ·cases h
    ·cases h;simp only;omega
theorem LinkRet.drewL {r:Except Int (List Stp)}{bm base:Nat}{Ap:Option Addr}{v0 v1 v3 v4:Value}{w w':World}{e:Ending} (h:LinkRet r bm base Ap v0 v1 v3 v4 w.drew e w'):LinkRet r bm base Ap v0 v1 v3 v4 w e w':=⟨h.1.drewL,h.2⟩
theorem LinkRet.int {r:Except Int (List Stp)}{bm base:Nat}{Ap:Option Addr}{v0 v1 v3 v4:Value}{w w':World}{e:Ending} (h:LinkRet r bm base Ap v0 v1 v3 v4 w e w'):∃z:Int,e=.returned (.int .i64 z):=by
 cases r with
 | ok P=>exact⟨0,h.2.1⟩
 | error x=>exact⟨x,h.2.2.1⟩
theorem any_not {l:List Pk} (h:l.any badP=false) {i:Nat}{p:Pk} (hi:l[i]?=some p):badP p=false:=by
 cases hb:badP p with
 | false=>rfl
 | true=>rw[List.any_eq_true.2 ⟨p,List.mem_of_getElem? hi,hb⟩] at h;cases h
set_option maxHeartbeats 8000000 in
set_option maxRecDepth 100000 in
theorem read_any (x:TA) (t:Tp) (B:Nat) (ref:Int) (rv:Bool) (A:Option Addr) (n c:Nat) (l:List Pk) (w:World) (h:TpAt w B x t) (hs:TpSmall x t) (hB:B≤w.heap.size) (hl:PksAt w B A n c l) (hn:n≤1000000) (hW:Widths w) (hg : 0 < B) :
    Calls Tryz.prog 18 #[.agg x.cs,.int .i64 ref,.bool rv,.slice A n c] w (MaRet (readM badP t ref rv l) w):=by
  have HCh:=qh (fun (W:World) (hk:Keep Never w W)=>check_any x t B W (h.keep hk) hs (Nat.le_trans hB hk.size))
  have HBa:=qh (fun (W:World) (hk:Keep Never w W)=>bal_any x t B ref W (h.keep hk) hs.b)
  have HCf:=qh (fun (W:World) (hk:Keep Never w W)=>containsfp_any 64 #[] badP (enters_of Tryz.func64 (by kernel_rfl) rfl) A n c B l W (hl.keep hk) (fun V p A2 n2 c2 hV q1 q2 q3 q4 q5=>rd1_any B p.1 p.2 A2 n2 c2 V q1 (by have:=q1.1;simpa using this) q2 q3 q4 q5 (hW.keep (hk.trans hV) (fun h=>h)) hg (Nat.le_trans hB (hk.trans hV).size)) (by omega))
  have HIf:=qh (fun (W:World) (hk:Keep Never w W)=>indexfp_any 69 #[] (fun p=>p.1==5) (enters_of Tryz.func69 (by kernel_rfl) rfl) A n c B l W (hl.keep hk) (fun V p A2 n2 c2 hV q1 q2 q3 q4 q5=>rd2_any p.1 A2 n2 c2 V) (by omega))
  have HLk:=qh (fun (W:World) (hk:Keep Never w W) (bm base:Nat) (v0 v1 v3 v4:Value) (path:List Stp) (Ap:Option Addr) (np cp:Nat) (A:Option Addr) (n c:Nat) (V:List Int) (hck:checkM t=0) (hr:Rd W B 1 A n (V.map (.int .i64))) (hc:n≤c) (hBm:B≤bm) (hbB:B≤base) (hbw:base≤W.heap.size) (hV:∀x∈V,0≤x∧x<4294967296) (hm:Blk W bm 38 #[v0,v1,.slice Ap np cp,v3,v4]) (hnp:np=path.length) (ho:Own W base 30 2 Ap np cp (stpCells path)) (hp0:path≠[]) (hp24:path.length≤24) (hin:∀s∈path,in64 s)=>linked_any B bm base v0 v1 v3 v4 x t path Ap np cp A n c V W (h.keep hk) hs hck hr hc (Nat.le_trans hB hk.size) hBm hbB hbw hV hm hnp ho hp0 hp24 hin)
  have HMy:=qh (fun (W:World) (hk:Keep Never w W) (rv:Bool) (P:List Stp) (S:List Sc) (g:Int) (Ap:Option Addr) (np cp:Nat) (As:Option Addr) (ns cs:Nat) (hp:repStp.Sl W W.heap.size Ap np cp P) (hS:ScAt W W.heap.size As ns cs S) (hnp:np≤1000000) (hns:ns≤1000000)=>may17_any x t W.heap.size ref rv P S g Ap np cp As ns cs W ((h.keep hk).wide (Nat.le_trans hB hk.size)) hs (Nat.le_refl _) hp hS hnp hns)
  have HPk:=qh hl
  have HBw:=qh hB
  have HNe:Hid (t.1.length≤100000000):=qh (by rw[←h.e.len];exact hs.e)
  obtain⟨Ae,ne,ce,Aj,nj,cj,Ab,nb,cb,Ar,nr,cr⟩:=x
  simp only[TA.cs] at HCh HBa HLk HMy ⊢
  clear h hs hl hW hg
  obtain⟨w1,hw1⟩:∃V:World,w.alloc (.cells #[.slice Ae ne ce,.slice Aj nj cj,.slice Ab nb cb,.slice Ar nr cr] 27)=V:=⟨_,rfl⟩
  have zw1:w1.heap.size=w.heap.size+1:=by rw[←hw1];simp
  have kw1:Keep Never w w1:=by rw[←hw1];exact(Keep.refl _ _).alloc _
  have bw1:=Blk.new w 27 #[.slice Ae ne ce,.slice Aj nj cj,.slice Ab nb cb,.slice Ar nr cr]
  rw[hw1] at bw1
  obtain⟨w2,hw2⟩:∃V:World,w1.alloc (.cells #[.int .i64 0,.bool false,.slice none 0 0,.slice none 0 0,.int .i64 0] 38)=V:=⟨_,rfl⟩
  have kw2:Keep Never w1 w2:=by rw[←hw2];exact(Keep.refl _ _).alloc _
  have bw2:=Blk.new w1 38 #[.int .i64 0,.bool false,.slice none 0 0,.slice none 0 0,.int .i64 0]
  rw[hw2,zw1] at bw2
  have HB1:=qh (bw1.keep kw2 (fun h=>h))
  have HB2:=qh bw2
  have HK:=qh (kw1.trans kw2)
  clear kw1 kw2 bw1 bw2
  obtain⟨ck,hck⟩:∃z,checkM t=z:=⟨_,rfl⟩
  have HC:=qh (HCh.out w2 HK.out)
  rw[hck] at HC
  have HCk:=qh hck
  clear hck HCh
  obtain⟨y0,y1,y2,y3⟩:=bc4 HB1.out
  go_enter Tryz.func18, Tryz.ntmps18
  go_wp2_with fail
  refine HC.out.mono ?_
  rintro en w3 ⟨rfl,hk⟩
  have HK3:=qtr HK hk
  have HT3:=qkb HB1 hk
  have HR3:=qkb HB2 hk
  clear hk HC HB1 HB2 y0 y1 y2 y3 hw1 hw2 zw1
  by_cases g0:ck=0
  case neg=>
   have t0:(ck != 0)=true:=by simpa using g0
   have HF:Hid (readM badP t ref rv l=(noMa,1)):=qh (read_chk (by rw[HCk.out];exact g0))
   clear g0
   have r0:w3.cell? ⟨w.heap.size+1,0,none⟩=some (.int .i64 0):=HR3.out.cell 0
   have rf0:=HR3.out.frozen 0
   have r1:w3.cell? ⟨w.heap.size+1,1,none⟩=some (.bool false):=HR3.out.cell 1
   have rf1:=HR3.out.frozen 1
   have r2:w3.cell? ⟨w.heap.size+1,2,none⟩=some (.slice none 0 0):=HR3.out.cell 2
   have rf2:=HR3.out.frozen 2
   have r3:w3.cell? ⟨w.heap.size+1,3,none⟩=some (.slice none 0 0):=HR3.out.cell 3
   have rf3:=HR3.out.frozen 3
   have r4:w3.cell? ⟨w.heap.size+1,4,none⟩=some (.int .i64 0):=HR3.out.cell 4
   have rf4:=HR3.out.frozen 4
   go_wp2_with fail
   (try simp only[Exit.inBlock,Exit.then])
   refine bodyPost_ret (ma_results2 (fn:=Tryz.f18) (r:=8) (s:=9) rfl (put5_blk HR3.out (.int .i64 0) (.bool false) (.slice none 0 0) (.slice none 0 0) (.int .i64 0)) _ rfl) rfl ?_
   rw[HF.out]
   exact⟨⟨none,0,0,none,0,0⟩,rfl,ma_nil,put5_own HK3.out (.inr (by omega)) _ _ _ _ _⟩
  have t0:(ck != 0)=false:=by simpa using g0
  have HC0:Hid (checkM t=0):=qh (HCk.out.trans g0)
  have HD0:=qh (read_bal (ref:=ref) (rv:=rv) (l:=l) HC0.out)
  have hw:=HBa.out w3 HK3.out
  unfold BalRet at hw
  obtain⟨ob,hob⟩:∃z,balM t.2.2.1 ref=z:=⟨_,rfl⟩
  rw[hob] at hw HD0
  have HC:=qh hw
  have HOb:=qh hob
  clear g0 HCk hw hob HBa
  obtain⟨y0,y1,y2,y3⟩:=bc4 HT3.out
  go_wp2_with fail
  refine HC.out.mono ?_
  rintro en w4 ⟨rfl,hk⟩
  have HK4:=qtr HK3 hk
  have HT4:=qkb HT3 hk
  have HR4:=qkb HR3 hk
  clear hk HC HT3 HR3 y0 y1 y2 y3 t0
  cases ob with
  | none=>
   have HF:Hid (readM badP t ref rv l=(noMa,4)):=qh HD0.out
   simp only[Option.getD,Option.isSome]
   have HKz:=qh (HK4.out.alloc (.cells #[.int .i64 0,.int .i64 0,.int .i64 0] 94))
   have HRz:=qh (HR4.out.alloc (.cells #[.int .i64 0,.int .i64 0,.int .i64 0] 94))
   have r0:(w4.alloc (.cells #[.int .i64 0,.int .i64 0,.int .i64 0] 94)).cell? ⟨w.heap.size+1,0,none⟩=some (.int .i64 0):=HRz.out.cell 0
   have rf0:=HRz.out.frozen 0
   have r1:(w4.alloc (.cells #[.int .i64 0,.int .i64 0,.int .i64 0] 94)).cell? ⟨w.heap.size+1,1,none⟩=some (.bool false):=HRz.out.cell 1
   have rf1:=HRz.out.frozen 1
   have r2:(w4.alloc (.cells #[.int .i64 0,.int .i64 0,.int .i64 0] 94)).cell? ⟨w.heap.size+1,2,none⟩=some (.slice none 0 0):=HRz.out.cell 2
   have rf2:=HRz.out.frozen 2
   have r3:(w4.alloc (.cells #[.int .i64 0,.int .i64 0,.int .i64 0] 94)).cell? ⟨w.heap.size+1,3,none⟩=some (.slice none 0 0):=HRz.out.cell 3
   have rf3:=HRz.out.frozen 3
   have r4:(w4.alloc (.cells #[.int .i64 0,.int .i64 0,.int .i64 0] 94)).cell? ⟨w.heap.size+1,4,none⟩=some (.int .i64 0):=HRz.out.cell 4
   have rf4:=HRz.out.frozen 4
   go_wp2_with fail
   (try simp only[Exit.inBlock,Exit.then])
   refine bodyPost_ret (ma_results2 (fn:=Tryz.f18) (r:=8) (s:=9) rfl (put5_blk HRz.out (.int .i64 0) (.bool false) (.slice none 0 0) (.slice none 0 0) (.int .i64 0)) _ rfl) rfl ?_
   rw[HF.out]
   exact⟨⟨none,0,0,none,0,0⟩,rfl,ma_nil,put5_own HKz.out (.inr (by omega)) _ _ _ _ _⟩
  | some b=>
   obtain⟨b1,b2,b3⟩:=b
   simp only[Option.getD,Option.isSome] at HD0 ⊢
   obtain⟨w5,hw5⟩:∃V:World,w4.alloc (.cells #[.int .i64 b1,.int .i64 b2,.int .i64 b3] 94)=V:=⟨_,rfl⟩
   have hk:Keep Never w4 w5:=by rw[←hw5];exact(Keep.refl _ _).alloc _
   have B5:=Blk.new w4 94 #[.int .i64 b1,.int .i64 b2,.int .i64 b3]
   rw[hw5] at B5
   obtain⟨bb,hbb⟩:∃q,w4.heap.size=q:=⟨_,rfl⟩
   rw[hbb] at B5
   have HK5:=qtr HK4 hk
   have HT5:=qkb HT4 hk
   have HR5:=qkb HR4 hk
   have HD5:=qh B5
   have d1:w5.cell? ⟨bb,1,none⟩=some (.int .i64 b2):=HD5.out.cell 1
   clear hk B5 HT4 HR4
   by_cases g1:0<n
   case neg=>
    obtain rfl:n=0:=by omega
    have HF:Hid (readM badP t ref rv l=(noMa,50)):=qh (by
     have:l=[]:=List.length_eq_zero_iff.1 HPk.out.len
     rw[HD0.out,this,if_pos (.inl (by decide))])
    have r0:w5.cell? ⟨w.heap.size+1,0,none⟩=some (.int .i64 0):=HR5.out.cell 0
    have rf0:=HR5.out.frozen 0
    have r1:w5.cell? ⟨w.heap.size+1,1,none⟩=some (.bool false):=HR5.out.cell 1
    have rf1:=HR5.out.frozen 1
    have r2:w5.cell? ⟨w.heap.size+1,2,none⟩=some (.slice none 0 0):=HR5.out.cell 2
    have rf2:=HR5.out.frozen 2
    have r3:w5.cell? ⟨w.heap.size+1,3,none⟩=some (.slice none 0 0):=HR5.out.cell 3
    have rf3:=HR5.out.frozen 3
    have r4:w5.cell? ⟨w.heap.size+1,4,none⟩=some (.int .i64 0):=HR5.out.cell 4
    have rf4:=HR5.out.frozen 4
    go_wp2_with fail
    (try simp only[Exit.inBlock,Exit.then])
    refine bodyPost_ret (ma_results2 (fn:=Tryz.f18) (r:=8) (s:=9) rfl (put5_blk HR5.out (.int .i64 0) (.bool false) (.slice none 0 0) (.slice none 0 0) (.int .i64 0)) _ rfl) rfl ?_
    rw[HF.out]
    exact⟨⟨none,0,0,none,0,0⟩,rfl,ma_nil,put5_own HK5.out (.inr (by omega)) _ _ _ _ _⟩
   have t1:((n:Int)==0)=false:=by simp;omega
   obtain⟨p0,hp0⟩:∃p0,l[0]?=some p0:=⟨_,List.getElem?_eq_getElem (by have:=HPk.out.len;omega)⟩
   obtain⟨ad,A1,n1,c1,hA,hab,_,e0,e1,q1,q2,q3,q4,q5⟩:=(HPk.out.keep HK5.out).one 0 p0 hp0
   subst hA
   have ea:ad.add (0*2)=ad:=by rw[Nat.zero_mul];unfold Addr.add;split <;> simp_all
   rw[ea] at e0 e1
   have HHd:=qh (head_id hp0)
   have HP0:=qh hp0
   have HQ:=qh (⟨q1,q2,q4⟩:Rd w5 B 1 A1 n1 (p0.2.map (.int .i64))∧n1≤c1∧∀x∈p0.2,i64_ x)
   obtain⟨id0,V0⟩:=p0
   simp only at e0 e1 HHd HQ
   rw[HHd.out.1,HHd.out.2] at HD0
   have HAb:=qh hab
   clear hp0 ea q1 q2 q3 q4 q5 hab
   by_cases g2:id0=15
   case neg=>
    have t2:(id0 != 15)=true:=by simpa using g2
    have HF:Hid (readM badP t ref rv l=(noMa,50)):=qh (by rw[HD0.out,if_pos (.inl g2)])
    clear g2
    have r0:w5.cell? ⟨w.heap.size+1,0,none⟩=some (.int .i64 0):=HR5.out.cell 0
    have rf0:=HR5.out.frozen 0
    have r1:w5.cell? ⟨w.heap.size+1,1,none⟩=some (.bool false):=HR5.out.cell 1
    have rf1:=HR5.out.frozen 1
    have r2:w5.cell? ⟨w.heap.size+1,2,none⟩=some (.slice none 0 0):=HR5.out.cell 2
    have rf2:=HR5.out.frozen 2
    have r3:w5.cell? ⟨w.heap.size+1,3,none⟩=some (.slice none 0 0):=HR5.out.cell 3
    have rf3:=HR5.out.frozen 3
    have r4:w5.cell? ⟨w.heap.size+1,4,none⟩=some (.int .i64 0):=HR5.out.cell 4
    have rf4:=HR5.out.frozen 4
    go_wp2_with fail
    (try simp only[Exit.inBlock,Exit.then])
    refine bodyPost_ret (ma_results2 (fn:=Tryz.f18) (r:=8) (s:=9) rfl (put5_blk HR5.out (.int .i64 0) (.bool false) (.slice none 0 0) (.slice none 0 0) (.int .i64 0)) _ rfl) rfl ?_
    rw[HF.out]
    exact⟨⟨none,0,0,none,0,0⟩,rfl,ma_nil,put5_own HK5.out (.inr (by omega)) _ _ _ _ _⟩
   subst g2
   have hw:=HCf.out w5 HK5.out
   obtain⟨ab,hab⟩:∃z,l.any badP=z:=⟨_,rfl⟩
   rw[hab] at hw HD0
   have HAny:=qh hab
   have HC:=qh hw
   clear hw hab HCf
   go_wp2_with fail
   refine HC.out.mono ?_
   rintro en w6 ⟨rfl,hk⟩
   have HK6:=qtr HK5 hk
   have HT6:=qkb HT5 hk
   have HR6:=qkb HR5 hk
   have HD6:=qkb HD5 hk
   have HE1:=qh (keepT hk e1)
   have HQ6:=qh (HQ.out.1.keep hk (fun _ h=>h.elim))
   clear hk HC HT5 HR5 HD5 e0 e1 d1 t1
   cases ab with
   | true=>
    have HF:Hid (readM badP t ref rv l=(noMa,50)):=qh (by rw[HD0.out,if_pos (.inr rfl)])
    have r0:w6.cell? ⟨w.heap.size+1,0,none⟩=some (.int .i64 0):=HR6.out.cell 0
    have rf0:=HR6.out.frozen 0
    have r1:w6.cell? ⟨w.heap.size+1,1,none⟩=some (.bool false):=HR6.out.cell 1
    have rf1:=HR6.out.frozen 1
    have r2:w6.cell? ⟨w.heap.size+1,2,none⟩=some (.slice none 0 0):=HR6.out.cell 2
    have rf2:=HR6.out.frozen 2
    have r3:w6.cell? ⟨w.heap.size+1,3,none⟩=some (.slice none 0 0):=HR6.out.cell 3
    have rf3:=HR6.out.frozen 3
    have r4:w6.cell? ⟨w.heap.size+1,4,none⟩=some (.int .i64 0):=HR6.out.cell 4
    have rf4:=HR6.out.frozen 4
    go_wp2_with fail
    (try simp only[Exit.inBlock,Exit.then])
    refine bodyPost_ret (ma_results2 (fn:=Tryz.f18) (r:=8) (s:=9) rfl (put5_blk HR6.out (.int .i64 0) (.bool false) (.slice none 0 0) (.slice none 0 0) (.int .i64 0)) _ rfl) rfl ?_
    rw[HF.out]
    exact⟨⟨none,0,0,none,0,0⟩,rfl,ma_nil,put5_own HK6.out (.inr (by omega)) _ _ _ _ _⟩
   | false=>
   have HD7:Hid (readM badP t ref rv l=readT t ref rv (secsM rv V0) (wayR t (b2,rv) l)):=qh (by rw[HD0.out,if_neg (by simp)])
   have d1:w6.cell? ⟨bb,1,none⟩=some (.int .i64 b2):=HD6.out.cell 1
   clear HD0
   go_upto_region 10 with(fail)
   obtain⟨w7,hw7⟩:∃V:World,(w6.alloc (.cells #[.int .i64 b2,.bool rv] 30)).alloc (.cells #[.int .i64 ref,.bool rv,.slice (some ⟨w6.heap.size,0,none⟩) 1 1,.slice none 0 0,.int .i64 0] 38)=V:=⟨_,rfl⟩
   rw[hw7]
   have hk:Keep Never w6 w7:=by rw[←hw7];exact((Keep.refl _ _).alloc _).alloc _
   have R7:=(Blk.new w6 30 #[.int .i64 b2,.bool rv]).alloc (.cells #[.int .i64 ref,.bool rv,.slice (some ⟨w6.heap.size,0,none⟩) 1 1,.slice none 0 0,.int .i64 0] 38)
   have M7:=Blk.new (w6.alloc (.cells #[.int .i64 b2,.bool rv] 30)) 38 #[.int .i64 ref,.bool rv,.slice (some ⟨w6.heap.size,0,none⟩) 1 1,.slice none 0 0,.int .i64 0]
   rw[hw7] at R7 M7
   have ez:(w6.alloc (.cells #[.int .i64 b2,.bool rv] 30)).heap.size=w6.heap.size+1:=by simp
   rw[ez] at M7
   have hz7:w7.heap.size=w6.heap.size+2:=by rw[←hw7];simp
   obtain⟨br,hbr⟩:∃q,w6.heap.size=q:=⟨_,rfl⟩
   have hbrw:w.heap.size+1<br:=by rw[←hbr];exact HR6.out.lt
   rw[hbr] at R7 M7 hz7 ⊢
   obtain⟨bm,hbm⟩:∃q,br+1=q:=⟨_,rfl⟩
   rw[hbm] at M7 ⊢
   have HBm:Hid (w.heap.size+1<br∧br<bm∧bm<w7.heap.size):=qh (by omega)
   have HK7:=qtr HK6 hk
   have HT7:=qkb HT6 hk
   have HR7:=qkb HR6 hk
   have HM7:=qh M7
   have HO7:Hid (Own w7 w.heap.size 30 2 (some ⟨br,0,none⟩) 1 1 (stpCells [((b2,rv):Stp)])):=qh (Own.of_blk2 (xs:=[.int .i64 b2,.bool rv]) R7 rfl (by unfold maxLen;omega) (by omega))
   have HE7:=keepT hk HE1.out
   have HB2:Hid (in64 ((b2,rv):Stp)):=qh (in64_there (check_bal HC0.out (bal_mem HOb.out).1).2.2.1 HNe.out)
   have hw:=secs_any B bm ref rv (.slice (some ⟨br,0,none⟩) 1 1) A1 n1 c1 V0 w7 (HQ6.out.keep hk (fun _ h=>h.elim)) HQ.out.2.1 (Nat.le_trans HBw.out HK7.out.size) (by have:=HBm.out;have:=HBw.out;omega) HQ.out.2.2 M7
   obtain⟨sr,hsr⟩:∃z,secsM rv V0=z:=⟨_,rfl⟩
   rw[hsr] at hw HD7
   have HSl:=qh hsr
   have HC:=qh hw
   clear hk R7 M7 hz7 hbr hbrw hbm hw7 hw hsr HT6 HR6 HD6 HE1 HQ6 d1 ez
   go_wp2_with fail
   refine HC.out.mono ?_
   rintro en w8 ⟨hk,hm⟩
   have HK8:=qh (HK7.out.then_ hk (fun i hi (h:i=bm)=>by have:=HBm.out;omega))
   have HT8:=qh (HT7.out.keep hk (fun (h:w.heap.size=bm)=>by have:=HBm.out;omega))
   have HR8:=qh (HR7.out.keep hk (fun (h:w.heap.size+1=bm)=>by have:=HBm.out;omega))
   have HO8:=qh (HO7.out.keep hk (fun q hq (h:q=bm)=>by obtain⟨_,he,rfl⟩:=hq;cases he;have:=HBm.out;simp only at h;omega))
   have HB8:Hid (bm<w8.heap.size):=qh (Nat.lt_of_lt_of_le HBm.out.2.2 hk.size)
   have HI8:=qh (HIf.out w8 HK8.out)
   clear hk HC HT7 HR7 HO7 HE7 HIf
   cases sr with
   | error x=>
    obtain⟨hx0,rfl,_⟩:=hm
    have te:(x==0)=false:=by simpa using hx0
    have te2:(x != 0)=true:=by simpa using hx0
    have HF:Hid (readM badP t ref rv l=(noMa,x)):=qh (by rw[HD7.out,readT_bad])
    clear hx0
    go_wp2_with fail
    refine HI8.out.mono ?_
    rintro en w9 ⟨hc,hk⟩
    have HK9:=qtr HK8 hk
    have HR9:=qkb HR8 hk
    clear hk
    rcases hc with⟨i,s,rfl,_⟩ | ⟨rfl,_⟩
    ·have r0:w9.cell? ⟨w.heap.size+1,0,none⟩=some (.int .i64 0):=HR9.out.cell 0
     have rf0:=HR9.out.frozen 0
     have r1:w9.cell? ⟨w.heap.size+1,1,none⟩=some (.bool false):=HR9.out.cell 1
     have rf1:=HR9.out.frozen 1
     have r2:w9.cell? ⟨w.heap.size+1,2,none⟩=some (.slice none 0 0):=HR9.out.cell 2
     have rf2:=HR9.out.frozen 2
     have r3:w9.cell? ⟨w.heap.size+1,3,none⟩=some (.slice none 0 0):=HR9.out.cell 3
     have rf3:=HR9.out.frozen 3
     have r4:w9.cell? ⟨w.heap.size+1,4,none⟩=some (.int .i64 0):=HR9.out.cell 4
     have rf4:=HR9.out.frozen 4
     go_wp2_with fail
     (try simp only[Exit.inBlock,Exit.then])
     refine bodyPost_ret (ma_results2 (fn:=Tryz.f18) (r:=8) (s:=9) rfl (put5_blk HR9.out (.int .i64 0) (.bool false) (.slice none 0 0) (.slice none 0 0) (.int .i64 0)) _ rfl) rfl ?_
     rw[HF.out]
     exact⟨⟨none,0,0,none,0,0⟩,rfl,ma_nil,put5_own HK9.out (.inr (by omega)) _ _ _ _ _⟩
    ·have r0:w9.cell? ⟨w.heap.size+1,0,none⟩=some (.int .i64 0):=HR9.out.cell 0
     have rf0:=HR9.out.frozen 0
     have r1:w9.cell? ⟨w.heap.size+1,1,none⟩=some (.bool false):=HR9.out.cell 1
     have rf1:=HR9.out.frozen 1
     have r2:w9.cell? ⟨w.heap.size+1,2,none⟩=some (.slice none 0 0):=HR9.out.cell 2
     have rf2:=HR9.out.frozen 2
     have r3:w9.cell? ⟨w.heap.size+1,3,none⟩=some (.slice none 0 0):=HR9.out.cell 3
     have rf3:=HR9.out.frozen 3
     have r4:w9.cell? ⟨w.heap.size+1,4,none⟩=some (.int .i64 0):=HR9.out.cell 4
     have rf4:=HR9.out.frozen 4
     go_wp2_with fail
     (try simp only[Exit.inBlock,Exit.then])
     refine bodyPost_ret (ma_results2 (fn:=Tryz.f18) (r:=8) (s:=9) rfl (put5_blk HR9.out (.int .i64 0) (.bool false) (.slice none 0 0) (.slice none 0 0) (.int .i64 0)) _ rfl) rfl ?_
     rw[HF.out]
     exact⟨⟨none,0,0,none,0,0⟩,rfl,ma_nil,put5_own HK9.out (.inr (by omega)) _ _ _ _ _⟩
   | ok z=>
   obtain⟨zs,zg⟩:=z
   obtain⟨rfl,As,ns,cs,hm8,hns,hos⟩:=hm
   have HNs:Hid (ns≤8):=qh (by rw[hns];exact secs_len HSl.out)
   have HM8:=qh hm8
   have HS8:=qh hos
   clear hm8 hns hos
   go_wp2_with fail
   refine HI8.out.mono ?_
   rintro en w9 ⟨hc,hk⟩
   have HK9:=qtr HK8 hk
   have HT9:=qkb HT8 hk
   have HR9:=qkb HR8 hk
   have HM9:=qkb HM8 hk
   have HO9:=qko HO8 hk
   have HS9:=qko HS8 hk
   clear hk HT8 HR8 HM8 HO8 HS8 HI8
   rcases hc with⟨i,s,rfl,hi,h5,hbf⟩ | ⟨rfl,hall⟩
   case inr=>
    have HF:Hid (readM badP t ref rv l=if mayMA t (ref,rv,[((b2,rv):Stp)],zs,zg)=true then ((ref,rv,[((b2,rv):Stp)],zs,zg),0) else (noMa,7)):=qh (by rw[HD7.out,way_none hall,readT_ok])
    clear hall
    obtain⟨y0,y1,y2,y3⟩:=bc4 HT9.out
    obtain⟨m0,m1,m2,m3,m4⟩:=bc5 HM9.out
    have hw:=HMy.out w9 HK9.out rv ([((b2,rv):Stp)]) zs zg (some ⟨br,0,none⟩) 1 1 As ns cs (stps_own HO9.out ((fun s hs=>by rw[List.mem_singleton.1 hs];exact HB2.out))) (scAt_own HS9.out) (by omega) (by have:=HNs.out;omega)
    obtain⟨my,hmy⟩:∃z,mayMA t (ref,rv,[((b2,rv):Stp)],zs,zg)=z:=⟨_,rfl⟩
    rw[hmy] at hw HF
    have HC:=qh hw
    clear hw hmy
    go_wp2_with fail
    refine HC.out.mono ?_
    rintro en w12 ⟨rfl,hk⟩
    have HK12:=qtr HK9 hk
    have HR12:=qkb HR9 hk
    have HM12:=qkb HM9 hk
    have HO12:=qko HO9 hk
    have HS12:=qko HS9 hk
    clear hk HC y0 y1 y2 y3 m0 m1 m2 m3 m4
    cases my with
    | false=>
     have HG:Hid (readM badP t ref rv l=(noMa,7)):=qh (by rw[HF.out,if_neg (by decide)])
     have r0:w12.cell? ⟨w.heap.size+1,0,none⟩=some (.int .i64 0):=HR12.out.cell 0
     have rf0:=HR12.out.frozen 0
     have r1:w12.cell? ⟨w.heap.size+1,1,none⟩=some (.bool false):=HR12.out.cell 1
     have rf1:=HR12.out.frozen 1
     have r2:w12.cell? ⟨w.heap.size+1,2,none⟩=some (.slice none 0 0):=HR12.out.cell 2
     have rf2:=HR12.out.frozen 2
     have r3:w12.cell? ⟨w.heap.size+1,3,none⟩=some (.slice none 0 0):=HR12.out.cell 3
     have rf3:=HR12.out.frozen 3
     have r4:w12.cell? ⟨w.heap.size+1,4,none⟩=some (.int .i64 0):=HR12.out.cell 4
     have rf4:=HR12.out.frozen 4
     go_wp2_with fail
     (try simp only[Exit.inBlock,Exit.then])
     refine bodyPost_ret (ma_results2 (fn:=Tryz.f18) (r:=8) (s:=9) rfl (put5_blk HR12.out (.int .i64 0) (.bool false) (.slice none 0 0) (.slice none 0 0) (.int .i64 0)) _ rfl) rfl ?_
     rw[HG.out]
     exact⟨⟨none,0,0,none,0,0⟩,rfl,ma_nil,put5_own HK12.out (.inr (by omega)) _ _ _ _ _⟩
    | true=>
     have HG:Hid (readM badP t ref rv l=((ref,rv,[((b2,rv):Stp)],zs,zg),0)):=qh (by rw[HF.out,if_pos rfl])
     obtain⟨m0,m1,m2,m3,m4⟩:=bc5 HM12.out
     have r0:w12.cell? ⟨w.heap.size+1,0,none⟩=some (.int .i64 0):=HR12.out.cell 0
     have rf0:=HR12.out.frozen 0
     have r1:w12.cell? ⟨w.heap.size+1,1,none⟩=some (.bool false):=HR12.out.cell 1
     have rf1:=HR12.out.frozen 1
     have r2:w12.cell? ⟨w.heap.size+1,2,none⟩=some (.slice none 0 0):=HR12.out.cell 2
     have rf2:=HR12.out.frozen 2
     have r3:w12.cell? ⟨w.heap.size+1,3,none⟩=some (.slice none 0 0):=HR12.out.cell 3
     have rf3:=HR12.out.frozen 3
     have r4:w12.cell? ⟨w.heap.size+1,4,none⟩=some (.int .i64 0):=HR12.out.cell 4
     have rf4:=HR12.out.frozen 4
     go_wp2_with fail
     (try simp only[Exit.inBlock,Exit.then])
     refine bodyPost_ret (ma_results2 (fn:=Tryz.f18) (r:=8) (s:=9) rfl (put5_blk HR12.out (.int .i64 ref) (.bool rv) (.slice (some ⟨br,0,none⟩) 1 1) (.slice As ns cs) (.int .i64 zg)) _ rfl) rfl ?_
     have hk5:=put5_own (Keep.refl (fun q=>q=w.heap.size+1) w12) (b:=w.heap.size+1) (.inl rfl) (.int .i64 ref) (.bool rv) (.slice (some ⟨br,0,none⟩) 1 1) (.slice As ns cs) (.int .i64 zg)
     rw[HG.out]
     exact⟨⟨(some ⟨br,0,none⟩),1,1,As,ns,cs⟩,rfl,⟨stps_own (HO12.out.keep hk5 (HO12.out.ne_blk HR12.out (by decide))) ((fun s hs=>by rw[List.mem_singleton.1 hs];exact HB2.out)),scAt_own (HS12.out.keep hk5 (HS12.out.ne_blk HR12.out (by decide)))⟩,put5_own HK12.out (.inr (by omega)) _ _ _ _ _⟩
   case inl=>
   have HD8:Hid (readM badP t ref rv l=readT t ref rv (.ok (zs,zg)) (linkedR t [((b2,rv):Stp)] s.2)):=qh (by rw[HD7.out,way_some hi h5 hbf])
   have hki:(i:Int)<(n:Int):=by obtain⟨h1,_⟩:=List.getElem?_eq_some_iff.1 hi;have:=HPk.out.len;omega
   obtain⟨ad2,A2,n2,c2,hA2,hab2,_,e0,e1,q1,q2,q3,q4,q5⟩:=(HPk.out.keep HK9.out).one i s hi
   cases hA2
   have HNum:=qh (items_num (any_not HAny.out hi)).2
   obtain⟨y0,y1,y2,y3⟩:=bc4 HT9.out
   have HC:=qh (fun (W:World) (hk:Keep Never w9 W)=>HLk.out W (HK9.out.trans hk) bm w.heap.size (.int .i64 ref) (.bool rv) (.slice As ns cs) (.int .i64 zg) [((b2,rv):Stp)] (some ⟨br,0,none⟩) 1 1 A2 n2 c2 s.2 HC0.out (q1.keep hk (fun _ h=>h.elim)) q2 (by have:=HBm.out;have:=HBw.out;omega) HBw.out (Nat.le_trans HK9.out.size hk.size) HNum.out (HM9.out.keep hk (fun h=>h)) rfl (HO9.out.keep hk (fun _ _ h=>h)) (by simp) (by simp) (fun s hs=>by rw[List.mem_singleton.1 hs];exact HB2.out))
   obtain⟨s1,s2⟩:=s
   simp only at e0 e1 HC HD8
   clear hi h5 hbf q1 q2 q3 q4 q5 e0 hab2 HLk HNum
   go_wp2_with fail
   go_cut [14] (fun s14 wc=>∃z:Int,s14=.int .i64 z∧Hid (LinkRet (linkedR t [((b2,rv):Stp)] s2) bm w.heap.size (some ⟨br,0,none⟩) (.int .i64 ref) (.bool rv) (.slice As ns cs) (.int .i64 zg) w9 (.returned (.int .i64 z)) wc))
   case first=>
    go_region_law (go_simp;go_at_call 70; refine(HC.out _ (by first | exact Keep.refl Never w9 | exact(Keep.refl Never w9).drew)).mono ?_;rintro en w10 hr;obtain⟨ez,rfl⟩:=hr.int;have HX:Hid (LinkRet (linkedR t [((b2,rv):Stp)] s2) bm w.heap.size (some ⟨br,0,none⟩) (.int .i64 ref) (.bool rv) (.slice As ns cs) (.int .i64 zg) w9 (.returned (.int .i64 ez)) w10):=qh (by first | exact hr | exact hr.drewL);clear hr)
    all_goals
     go_wp2_with fail
     go_meet
     exact⟨_,rfl,HX⟩
   case rest=>
   obtain⟨z14,rfl,hR⟩:=hcut
   rename World=>w10
   obtain⟨hk,hm⟩:=hR.out
   clear y0 y1 y2 y3 e1 HC hR
   have HK10:=qh (HK9.out.then_ hk (fun i hi (h:i=bm∨InRow (some ⟨br,0,none⟩) i)=>by have:=HBm.out;rcases h with h | ⟨_,h,h2⟩ <;> first | omega | (cases h;simp only at h2;omega)))
   have HT10:=qh (HT9.out.keep hk (fun (h:w.heap.size=bm∨InRow (some ⟨br,0,none⟩) w.heap.size)=>by have:=HBm.out;rcases h with h | ⟨_,h,h2⟩ <;> first | omega | (cases h;simp only at h2;omega)))
   have HR10:=qh (HR9.out.keep hk (fun (h:w.heap.size+1=bm∨InRow (some ⟨br,0,none⟩) (w.heap.size+1))=>by have:=HBm.out;rcases h with h | ⟨_,h,h2⟩ <;> first | omega | (cases h;simp only at h2;omega)))
   have HS10:=qh (HS9.out.keep hk (fun q hq (h:q=bm∨InRow (some ⟨br,0,none⟩) q)=>by have:=HBm.out;have:=(HS9.out.row hq).1;rcases h with h | ⟨_,h,h2⟩ <;> first | omega | (cases h;simp only at h2;omega)))
   clear hk HT9 HR9 HS9 HO9 HM9
   obtain⟨lr,hlr⟩:∃z,linkedR t [((b2,rv):Stp)] s2=z:=⟨_,rfl⟩
   rw[hlr] at hm HD8
   clear hlr
   cases lr with
   | error x=>
    obtain⟨hx0,hxe,_⟩:=hm
    cases hxe
    have te:(z14==0)=false:=by simpa using hx0
    have te2:(z14 != 0)=true:=by simpa using hx0
    have HF:Hid (readM badP t ref rv l=(noMa,z14)):=qh (by rw[HD8.out,readT_way])
    clear hx0
    ·have r0:w10.cell? ⟨w.heap.size+1,0,none⟩=some (.int .i64 0):=HR10.out.cell 0
     have rf0:=HR10.out.frozen 0
     have r1:w10.cell? ⟨w.heap.size+1,1,none⟩=some (.bool false):=HR10.out.cell 1
     have rf1:=HR10.out.frozen 1
     have r2:w10.cell? ⟨w.heap.size+1,2,none⟩=some (.slice none 0 0):=HR10.out.cell 2
     have rf2:=HR10.out.frozen 2
     have r3:w10.cell? ⟨w.heap.size+1,3,none⟩=some (.slice none 0 0):=HR10.out.cell 3
     have rf3:=HR10.out.frozen 3
     have r4:w10.cell? ⟨w.heap.size+1,4,none⟩=some (.int .i64 0):=HR10.out.cell 4
     have rf4:=HR10.out.frozen 4
     go_wp2_with fail
     (try simp only[Exit.inBlock,Exit.then])
     refine bodyPost_ret (ma_results2 (fn:=Tryz.f18) (r:=8) (s:=9) rfl (put5_blk HR10.out (.int .i64 0) (.bool false) (.slice none 0 0) (.slice none 0 0) (.int .i64 0)) _ rfl) rfl ?_
     rw[HF.out]
     exact⟨⟨none,0,0,none,0,0⟩,rfl,ma_nil,put5_own HK10.out (.inr (by omega)) _ _ _ _ _⟩
   | ok P=>
   obtain⟨hxe,Ap,np,cp,hmm,hnp,hoo,hin,h24⟩:=hm
   cases hxe
   have HM10:=qh hmm
   have HO10:=qh hoo
   have HN10:=qh hin
   have hnp24:np≤24:=by omega
   have HF:Hid (readM badP t ref rv l=if mayMA t (ref,rv,P,zs,zg)=true then ((ref,rv,P,zs,zg),0) else (noMa,7)):=qh (by rw[HD8.out,readT_ok])
   clear hmm hoo hin hnp h24
   obtain⟨y0,y1,y2,y3⟩:=bc4 HT10.out
   obtain⟨m0,m1,m2,m3,m4⟩:=bc5 HM10.out
   have hw:=HMy.out w10 HK10.out rv (P) zs zg Ap np cp As ns cs (stps_own HO10.out (HN10.out)) (scAt_own HS10.out) (by omega) (by have:=HNs.out;omega)
   obtain⟨my,hmy⟩:∃z,mayMA t (ref,rv,P,zs,zg)=z:=⟨_,rfl⟩
   rw[hmy] at hw HF
   have HC:=qh hw
   clear hw hmy
   go_wp2_with fail
   refine HC.out.mono ?_
   rintro en w12 ⟨rfl,hk⟩
   have HK12:=qtr HK10 hk
   have HR12:=qkb HR10 hk
   have HM12:=qkb HM10 hk
   have HO12:=qko HO10 hk
   have HS12:=qko HS10 hk
   clear hk HC y0 y1 y2 y3 m0 m1 m2 m3 m4
   cases my with
   | false=>
    have HG:Hid (readM badP t ref rv l=(noMa,7)):=qh (by rw[HF.out,if_neg (by decide)])
    have r0:w12.cell? ⟨w.heap.size+1,0,none⟩=some (.int .i64 0):=HR12.out.cell 0
    have rf0:=HR12.out.frozen 0
    have r1:w12.cell? ⟨w.heap.size+1,1,none⟩=some (.bool false):=HR12.out.cell 1
    have rf1:=HR12.out.frozen 1
    have r2:w12.cell? ⟨w.heap.size+1,2,none⟩=some (.slice none 0 0):=HR12.out.cell 2
    have rf2:=HR12.out.frozen 2
    have r3:w12.cell? ⟨w.heap.size+1,3,none⟩=some (.slice none 0 0):=HR12.out.cell 3
    have rf3:=HR12.out.frozen 3
    have r4:w12.cell? ⟨w.heap.size+1,4,none⟩=some (.int .i64 0):=HR12.out.cell 4
    have rf4:=HR12.out.frozen 4
    go_wp2_with fail
    (try simp only[Exit.inBlock,Exit.then])
    refine bodyPost_ret (ma_results2 (fn:=Tryz.f18) (r:=8) (s:=9) rfl (put5_blk HR12.out (.int .i64 0) (.bool false) (.slice none 0 0) (.slice none 0 0) (.int .i64 0)) _ rfl) rfl ?_
    rw[HG.out]
    exact⟨⟨none,0,0,none,0,0⟩,rfl,ma_nil,put5_own HK12.out (.inr (by omega)) _ _ _ _ _⟩
   | true=>
    have HG:Hid (readM badP t ref rv l=((ref,rv,P,zs,zg),0)):=qh (by rw[HF.out,if_pos rfl])
    obtain⟨m0,m1,m2,m3,m4⟩:=bc5 HM12.out
    have r0:w12.cell? ⟨w.heap.size+1,0,none⟩=some (.int .i64 0):=HR12.out.cell 0
    have rf0:=HR12.out.frozen 0
    have r1:w12.cell? ⟨w.heap.size+1,1,none⟩=some (.bool false):=HR12.out.cell 1
    have rf1:=HR12.out.frozen 1
    have r2:w12.cell? ⟨w.heap.size+1,2,none⟩=some (.slice none 0 0):=HR12.out.cell 2
    have rf2:=HR12.out.frozen 2
    have r3:w12.cell? ⟨w.heap.size+1,3,none⟩=some (.slice none 0 0):=HR12.out.cell 3
    have rf3:=HR12.out.frozen 3
    have r4:w12.cell? ⟨w.heap.size+1,4,none⟩=some (.int .i64 0):=HR12.out.cell 4
    have rf4:=HR12.out.frozen 4
    go_wp2_with fail
    (try simp only[Exit.inBlock,Exit.then])
    refine bodyPost_ret (ma_results2 (fn:=Tryz.f18) (r:=8) (s:=9) rfl (put5_blk HR12.out (.int .i64 ref) (.bool rv) (.slice Ap np cp) (.slice As ns cs) (.int .i64 zg)) _ rfl) rfl ?_
    have hk5:=put5_own (Keep.refl (fun q=>q=w.heap.size+1) w12) (b:=w.heap.size+1) (.inl rfl) (.int .i64 ref) (.bool rv) (.slice Ap np cp) (.slice As ns cs) (.int .i64 zg)
    rw[HG.out]
    exact⟨⟨Ap,np,cp,As,ns,cs⟩,rfl,⟨stps_own (HO12.out.keep hk5 (HO12.out.ne_blk HR12.out (by decide))) (HN10.out),scAt_own (HS12.out.keep hk5 (HS12.out.ne_blk HR12.out (by decide)))⟩,put5_own HK12.out (.inr (by omega)) _ _ _ _ _⟩
end Go.Proofs.YtpapiojicbbheaaGreatDoor
