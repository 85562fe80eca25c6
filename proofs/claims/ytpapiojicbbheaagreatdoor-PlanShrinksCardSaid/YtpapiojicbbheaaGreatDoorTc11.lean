/- Texts of this claim, together: PmK, PmL. -/
import Derived.Test.YtpapiojicbbheaaGreatDoorTc09
import Derived.Test.YtpapiojicbbheaaGreatDoorTc10
import Derived.Test.YtpapiojicbbheaaGreatDoorTc06
namespace Go.Proofs.YtpapiojicbbheaaGreatDoor
open Go.RowKit
set_option maxRecDepth 100000 in
theorem elemPk17:Elem Tryz.prog 44 105 2 32:=⟨Tryz.underlying44,_,_,rfl,rfl,rfl,rfl,rfl,by omega⟩
def PksRet (r:Except Int (List Pk)) (w:World) (e:Ending) (w':World):Prop:=
  Keep Never w w'∧match r with
    | .ok l=>∃A n c,e=.returned (.tuple #[.slice A n c,.int .i64 0])∧PksAt w' w'.heap.size A n c l
    | .error x=>x≠0∧e=.returned (.tuple #[.slice none 0 0,.int .i64 x])
structure SnI (u:Int) (S:List Sc) (res:Option (List Int)) (k:Nat) (last:Int) (v:List Int):Prop where
  eq:res=(secN u last (S.drop k)).map fun z=>v++z
  bnd:0≤last∧last≤32766
  len:v.length=4*k
theorem SnI.start {u:Int}{S:List Sc}:SnI u S (secN u 0 S) 0 0 []:=⟨by simp,by omega,rfl⟩
theorem SnI.bad {u:Int}{S:List Sc}{res:Option (List Int)}{k:Nat}{last:Int}{v:List Int}{s:Sc} (h:SnI u S res k last v) (hs:S[k]?=some s) (hb:(scaledM s.1 u false).2≠0∨(scaledM s.1 u false).1≤last):res=none:=by
 obtain⟨q1,q2⟩:=List.getElem?_eq_some_iff.1 hs
 rw[h.eq,List.drop_eq_getElem_cons q1,q2]
 unfold secN
 rw[if_pos hb];rfl
theorem SnI.next {u:Int}{S:List Sc}{res:Option (List Int)}{k:Nat}{last:Int}{v:List Int}{s:Sc} (h:SnI u S res k last v) (hs:S[k]?=some s) (h0:(scaledM s.1 u false).2=0) (h1:¬(scaledM s.1 u false).1≤last) :
    SnI u S res (k+1) (scaledM s.1 u false).1 (v++[(scaledM s.1 u false).1 - last,1,s.2,0]):=by
  obtain⟨q1,q2⟩:=List.getElem?_eq_some_iff.1 hs
  obtain⟨_,_,_,_,a5,a6⟩:=scaled_ok h0
  refine⟨?_,⟨a6,a5⟩,by rw[List.length_append,h.len];simp;omega⟩
  rw[h.eq,List.drop_eq_getElem_cons q1,q2]
  conv=>lhs;unfold secN
  rw[if_neg (by rintro(e | e);exact e h0;exact h1 e)]
  cases secN u (scaledM s.1 u false).1 (S.drop (k+1)) with
  | none=>rfl
  | some z=>simp
theorem SnI.fin {u:Int}{S:List Sc}{res:Option (List Int)}{last:Int}{v:List Int} (h:SnI u S res S.length last v):res=some v:=by
 rw[h.eq,List.drop_length]
 unfold secN;simp
def p15N (rv:Bool) (u:Int) (n:Nat) (v:List Int) (g:Int):List Int:=[nomI rv,u,0,0,(n:Int) - 1]++v++[0]++gapN u g
theorem packs_no {t:Tp}{m:Ma} (h:mayMA t m=false):packsM17 t m=.error 1:=by unfold packsM17;rw[if_pos h]
theorem packs_far {t:Tp}{m:Ma} (h:mayMA t m=true) (hu:bestM (endS m.2.2.2.1+m.2.2.2.2)<0):packsM17 t m=.error 7:=by
 unfold packsM17;rw[if_neg (by rw[h];decide)];simp only;rw[if_pos hu]
theorem packs_sec {t:Tp}{m:Ma} (h:mayMA t m=true) (hu:¬bestM (endS m.2.2.2.1+m.2.2.2.2)<0) (hv:secN (bestM (endS m.2.2.2.1+m.2.2.2.2)) 0 m.2.2.2.1=none):packsM17 t m=.error 7:=by
 unfold packsM17;rw[if_neg (by rw[h];decide)];simp only;rw[if_neg hu,hv]
theorem packs_go {t:Tp}{ref g:Int}{rv:Bool}{P:List Stp}{S:List Sc}{z:Int×Int}{u:Int}{v:List Int} (h:MayA t (ref,rv,P,S,g) z) (hue:bestM (endS S+g)=u) (hu:¬u<0) (hv:secN u 0 S=some v) :
    packsM17 t (ref,rv,P,S,g)=if P.length=1 then .ok [(15,p15N rv u S.length v g)] else
      (match linksM t ref rv P u with
        | .error e=>.error e
        | .ok q=>.ok [(15,p15N rv u S.length v g),q]):=by
  obtain⟨b,hb,_⟩:=left_some h.left
  obtain⟨b1,_,h2,_⟩:=left_some h.left
  simp only at hb h2
  have hp:P≠[]:=by rintro rfl;cases h2
  unfold packsM17
  rw[if_neg (by rw[may_iff.2 ⟨z,h⟩];decide)]
  simp only
  rw[hue,if_neg hu,hv]
  simp only
  rw[hb]
  match P,hp with
  | [s0],_=>simp[p15N]
  | s0::s1::l,_=>
   simp only[linksM,List.length_cons,List.headD_cons,List.drop_one,List.tail_cons,farP17,hb]
   rw[if_neg (show ¬(l.length+1+1=1) by omega)]
   unfold linkP linkV
   cases linkN t u (l.length+1+1) 1 (edgeM t s0.1) (alongP t (b.2.1,b.2.2,rv)) (s1::l) with
   | error e=>rfl
   | ok w=>
    simp only[p15N]
    by_cases hl:l=[]
    ·subst hl;simp
    ·have:¬(l.length+1+1=2):=by intro e;exact hl (List.eq_nil_of_length_eq_zero (by omega))
     simp[hl]
theorem linkP_len {P:List Stp}{rv:Bool}{u:Int}{q:Pk}{res:Except Int (List Int)} (h:linkP P rv u res=.ok q):∃v,res=.ok v∧q=(5,v++(if P.length=2 then [0] else [])):=by
 unfold linkP at h
 cases res with
 | error e=>cases h
 | ok v=>injection h with h;exact⟨v,rfl,h.symm⟩
theorem linkN_len {t:Tp}{u:Int}{n:Nat}:∀(l:List Stp) (i:Nat) (begin_ at_:Int) (w:List Int),linkN t u n i begin_ at_ l=.ok w→w.length≤8*l.length
  | [],i,begin_,at_,w,hw=>by
   unfold linkN at hw
   injection hw with hw
   subst hw
   simp
  | s::l,i,begin_,at_,w,hw=>by
   obtain⟨b,v,hb,hz,hv,rfl⟩:=linkN_cons hw
   have:=linkN_len l (i+1) _ _ v hv
   have h1:(if i=2 then [(n:Int) - 2] else []).length≤1:=by split <;> simp
   simp only[List.length_append,List.length_cons,List.length_nil]
   omega
theorem linksM_len {t:Tp}{ref:Int}{rv:Bool}{P:List Stp}{u:Int}{q:Pk} (h:linksM t ref rv P u=.ok q):q.2.length≤8*P.length+3:=by
 unfold linksM at h
 obtain⟨v,hv,rfl⟩:=linkP_len h
 unfold linkV at hv
 cases hl:linkN t u P.length 1 (edgeM t (P.headD (0,false)).1) (farP17 t ref rv) (P.drop 1) with
 | error e=>rw[hl] at hv;cases hv
 | ok w=>
  rw[hl] at hv
  injection hv with hv
  have h1:=linkN_len _ _ _ _ _ hl
  rw[List.length_drop] at h1
  have h2:(if P.length=2 then [(0:Int)] else []).length≤1:=by split <;> simp
  subst hv
  simp only[List.length_append,List.length_cons,List.length_nil]
  omega
theorem pks_one {w:World}{n c g:Nat}{A:Option Addr}{l:List Pk} (hl:l.length=n) (hc:n≤c) (hg:A=some ⟨g,0,none⟩) (hlt:g<w.heap.size)
    (h:∀i p,l[i]?=some p→∃A1 n1 c1,w.cell? ⟨g,i*2,none⟩=some (.int .i64 p.1)∧w.cell? ⟨g,i*2+1,none⟩=some (.slice A1 n1 c1)∧Rd w w.heap.size 1 A1 n1 (p.2.map (.int .i64))∧n1≤c1∧c1≤maxLen)
    (hb:l.any badP=false) (h8:∀p∈l,p.2.length≤8200):PksAt w w.heap.size A n c l:=by
  refine⟨hl,hc,fun i p hp=>?_⟩
  obtain⟨A1,n1,c1,h1,h2,h3,h4,h5⟩:=h i p hp
  obtain⟨⟨_,hi⟩,hv⟩:=items_num (id:=p.1) (V:=p.2) (any_not hb hp)
  refine⟨_,A1,n1,c1,hg,hlt,hlt,?_,?_,h3,h4,h5,fun x hx=>by have:=hv x hx;constructor <;> omega,h8 p (List.mem_of_getElem? hp)⟩
  ·have:(⟨g,0,none⟩:Addr).add (i*2)=⟨g,i*2,none⟩:=by unfold Addr.add;split <;> simp_all
   rw[this];exact h1
  ·have:(⟨g,0,none⟩:Addr).add (i*2)=⟨g,i*2,none⟩:=by unfold Addr.add;split <;> simp_all
   rw[this];exact h2
set_option maxHeartbeats 8000000 in
set_option maxRecDepth 100000 in
theorem packets_any (x:TA) (t:Tp) (B:Nat) (ref:Int) (rv:Bool) (P:List Stp) (S:List Sc) (g:Int) (Ap:Option Addr) (np cp:Nat) (As:Option Addr) (ns cs:Nat) (w:World) (h:TpAt w B x t) (hs:TpSmall x t) (hB:B≤w.heap.size) (hp:repStp.Sl w B Ap np cp P) (hS:ScAt w B As ns cs S) (hnp:np≤1000000) (hns:ns≤1000000) :
    Calls Tryz.prog 21 #[.agg x.cs,.agg #[.int .i64 ref,.bool rv,.slice Ap np cp,.slice As ns cs,.int .i64 g]] w (PksRet (packsM17 t (ref,rv,P,S,g)) w):=by
  have HMy:=qh (fun (W:World) (hk:Keep Never w W)=>may17_any x t B ref rv P S g Ap np cp As ns cs W (h.keep hk) hs (Nat.le_trans hB hk.size) (hp.keep hk (fun _ h=>h.elim)) (hS.keep hk) hnp hns)
  have HLk:=qh (fun (W:World) (hk:Keep Never w W) (u:Int) (z:Int×Int) (hm:MayA t (ref,rv,P,S,g) z)=>links_any x t B ref rv P S g u z Ap np cp As ns cs W (h.keep hk) hs (Nat.le_trans hB hk.size) (hp.keep hk (fun _ h=>h.elim)) hm)
  have HSt:=qh hS
  have HSl:Hid (S.length=ns):=qh hS.len
  have HPl:Hid (P.length=np):=qh (stps_rd hp).2.1.symm
  obtain⟨Ae,ne,ce,Aj,nj,cj,Ab,nb,cb,Ar,nr,cr⟩:=x
  simp only[TA.cs] at HMy HLk ⊢
  clear h hs hp hB hS
  obtain⟨w1,hw1⟩:∃V:World,w.alloc (.cells #[.slice Ae ne ce,.slice Aj nj cj,.slice Ab nb cb,.slice Ar nr cr] 27)=V:=⟨_,rfl⟩
  have zw1:w1.heap.size=w.heap.size+1:=by rw[←hw1];simp
  have kw1:Keep Never w w1:=by rw[←hw1];exact(Keep.refl _ _).alloc _
  have bw1:=Blk.new w 27 #[.slice Ae ne ce,.slice Aj nj cj,.slice Ab nb cb,.slice Ar nr cr]
  rw[hw1] at bw1
  obtain⟨w2,hw2⟩:∃V:World,w1.alloc (.cells #[.int .i64 ref,.bool rv,.slice Ap np cp,.slice As ns cs,.int .i64 g] 38)=V:=⟨_,rfl⟩
  have kw2:Keep Never w1 w2:=by rw[←hw2];exact(Keep.refl _ _).alloc _
  have bw2:=Blk.new w1 38 #[.int .i64 ref,.bool rv,.slice Ap np cp,.slice As ns cs,.int .i64 g]
  rw[hw2,zw1] at bw2
  have HB1:=qh (bw1.keep kw2 (fun h=>h))
  have HB2:=qh bw2
  have HK:=qh (kw1.trans kw2)
  clear kw1 kw2 bw1 bw2
  have HT2:=HB1
  have HM2:=HB2
  have HK2:=HK
  have hw:=HMy.out w2 HK.out
  obtain⟨mb,hmb⟩:∃z,mayMA t (ref,rv,P,S,g)=z:=⟨_,rfl⟩
  rw[hmb] at hw
  have HC:=qh hw
  have HMb:=qh hmb
  clear hw hmb HMy HB1 HB2 HK
  obtain⟨y0,y1,y2,y3⟩:=bc4 HT2.out
  obtain⟨m0,m1,m2,m3,m4⟩:=bc5 HM2.out
  go_enter Tryz.func21,Tryz.ntmps21
  go_wp2_with fail
  refine HC.out.mono ?_
  rintro en w3 ⟨rfl,hk⟩
  have HK3:=qtr HK2 hk
  have HT3:=qkb HT2 hk
  have HM3:=qkb HM2 hk
  clear hk HC HT2 HM2 HK2 y0 y1 y2 y3 m0 m1 m2 m3 m4 hw1 hw2 zw1
  cases mb with
  | false=>
   go_wp2_with fail
   go_ret2
   refine⟨HK3.out,?_⟩
   rw[packs_no HMb.out]
   exact⟨by decide,rfl⟩
  | true=>
  obtain⟨z,hmz⟩:=may_iff.1 HMb.out
  have HMz:=qh hmz
  have h1s:=hmz.some_
  have h8s:=hmz.eight
  simp only at h1s h8s
  rw[HSl.out] at h1s h8s
  obtain⟨m,rfl⟩:∃m,ns=m+1:=⟨ns - 1,by omega⟩
  obtain⟨sad,sl,hAs,_,hsl,c0,c1⟩:=(HSt.out.keep HK3.out).rd.sc (show m<m+1 by omega)
  subst hAs
  have HSL:Hid (endS S=sl.1):=qh (by have:=endS_take hsl;rwa [List.take_of_length_le (by rw[HSl.out];exact Nat.le_refl _)] at this)
  have hbig:=hmz.sects.big sl (List.mem_of_getElem? hsl)
  have hlo:=hmz.sects.up m sl hsl
  have hp0:=hmz.sects.pos (j:=m) (by rw[HSl.out];omega)
  have hg0:=hmz.gap0
  have hg1:=hmz.gap1
  simp only at hg0 hg1
  obtain⟨sl1,sl2⟩:=sl
  simp only at c0 c1 HSL hbig hlo hp0
  have hz0:(m:Int)<(m:Int)+1:=by omega
  have hz3:(0:Int)≤(m:Int)+1:=by omega
  have hz4:((m:Int)+1).toNat=m+1:=by omega
  have hz5:IntKind.i64.wrap ((m:Int)+1 - 1)=(m:Int):=by rw[show (m:Int)+1 - 1=m by omega];exact IntWalk.i64_in _ (by omega)
  have hz6:IntKind.i64.wrap (m:Int)=(m:Int):=IntWalk.i64_in _ (by omega)
  have hz7:IntKind.i64.wrap (sl1+g)=sl1+g:=IntWalk.i64_in _ (by omega)
  obtain⟨u,hu⟩:∃u,bestM (sl1+g)=u:=⟨_,rfl⟩
  have HU:Hid (bestM (endS S+g)=u):=qh (by rw[HSL.out,hu])
  have HBst:Hid (∀V,Calls Tryz.prog 25 #[.int .i64 (sl1+g)] V fun e w'=>e=.returned (.int .i64 u)∧Keep Never V w'):=qh (fun V=>by have h:=best_any (sl1+g) V;rw[hu] at h;exact h)
  have m3:w3.cell? ⟨w.heap.size+1,3,none⟩=some (.slice (some sad) (m+1) cs):=HM3.out.cell 3
  have m4:w3.cell? ⟨w.heap.size+1,4,none⟩=some (.int .i64 g):=HM3.out.cell 4
  have HS2:Hid (∀W',Keep Never w3 W'→Keep Never w3 W'∧W'.cell? ⟨w.heap.size+1,3,none⟩=some (.slice (some sad) (m+1) cs)∧W'.cell? ⟨w.heap.size+1,4,none⟩=some (.int .i64 g)∧W'.cell? (sad.add (m*2))=some (.int .i64 sl1)):=qh (fun W' h=>⟨h,keepT h m3,keepT h m4,keepT h c0⟩)
  have HRest:=qh (And.intro hmz (And.intro hbig hg1))
  clear hmz h1s hsl hbig hlo hp0 hg0 hg1 hu c1
  go_wp2_with fail
  clear m3 m4 c0
  go_region_held3 (fun W'=>Keep Never w3 W'∧W'.cell? ⟨w.heap.size+1,3,none⟩=some (.slice (some sad) (m+1) cs)∧W'.cell? ⟨w.heap.size+1,4,none⟩=some (.int .i64 g)∧W'.cell? (sad.add (m*2))=some (.int .i64 sl1))
    (first| assumption | exact HS2.out _ ((Keep.refl Never w3).drew) | exact HS2.out _ (Keep.trans (And.left (by assumption)) hk3) | exact HS2.out _ (Keep.trans ((Keep.refl Never w3).drew) hk3))
    (first
      | (go_at_call 25;refine(HBst.out _).mono ?_;rintro e w5 ⟨rfl,hk3⟩))
  rename_i hS
  have hk:=hS.1
  have HK5:=qtr HK3 hk
  have HT5:=qkb HT3 hk
  have HM5:=qkb HM3 hk
  clear hS hk HS2
  clear hz7
  by_cases hu0:u<0
  case pos=>
   have t0:decide (u<0)=true:=by simpa using hu0
   have HF:Hid (packsM17 t (ref,rv,P,S,g)=.error 7):=qh (packs_far HMb.out (by rw[HU.out];exact hu0))
   clear hu0
   go_wp2_with fail
   go_ret2
   refine⟨HK5.out,?_⟩
   rw[HF.out]
   exact⟨by decide,rfl⟩
  have t0:decide (u<0)=false:=by simpa using hu0
  have HUn:=qh hu0
  clear hu0
  obtain⟨nm,hnm⟩:∃q,nomI rv=q:=⟨_,rfl⟩
  have HNm:=qh hnm
  have HCn:Hid (∀V,Calls Tryz.prog 77 #[.bool rv] V fun e w'=>e=.returned (.int .i64 nm)∧Keep Never V w'):=qh (fun V=>by have h:=nom_any rv V;rw[hnm] at h;exact h)
  clear hnm
  have m1:w5.cell? ⟨w.heap.size+1,1,none⟩=some (.bool rv):=HM5.out.cell 1
  have m3:w5.cell? ⟨w.heap.size+1,3,none⟩=some (.slice (some sad) (m+1) cs):=HM5.out.cell 3
  have HS2:Hid (∀W',Keep Never w5 W'→Keep Never w5 W'∧W'.cell? ⟨w.heap.size+1,1,none⟩=some (.bool rv)∧W'.cell? ⟨w.heap.size+1,3,none⟩=some (.slice (some sad) (m+1) cs)):=qh (fun W' h=>⟨h,keepT h m1,keepT h m3⟩)
  go_wp2_with fail
  clear m1 m3
  go_region_held3 (fun W'=>Keep Never w5 W'∧W'.cell? ⟨w.heap.size+1,1,none⟩=some (.bool rv)∧W'.cell? ⟨w.heap.size+1,3,none⟩=some (.slice (some sad) (m+1) cs))
    (first| assumption | exact HS2.out _ ((Keep.refl Never w5).drew) | exact HS2.out _ (Keep.trans (And.left (by assumption)) hk3) | exact HS2.out _ (Keep.trans ((Keep.refl Never w5).drew) hk3) | exact HS2.out _ (Keep.alloc (And.left (by assumption)) _) | exact HS2.out _ (Keep.alloc (Keep.trans ((Keep.refl Never w5).drew) hk3) _) | exact HS2.out _ (Keep.alloc ((Keep.refl Never w5).drew) _))
    (first
      | (go_at_call 77;refine(HCn.out _).mono ?_;rintro e w6 ⟨rfl,hk3⟩))
  rename_i hS
  have hk:=hS.1
  have hk6:=hk3.size
  obtain⟨w7,hw7⟩:∃V:World,w6.alloc (.cells #[.int .i64 nm,.int .i64 u,.int .i64 0,.int .i64 0,.int .i64 m] 3)=V:=⟨_,rfl⟩
  have hk7:Keep Never w6 w7:=by rw[←hw7];exact(Keep.refl _ _).alloc _
  have B7:=Blk.new w6 3 #[.int .i64 nm,.int .i64 u,.int .i64 0,.int .i64 0,.int .i64 m]
  rw[hw7] at B7
  obtain⟨br,hbr⟩:∃q,w6.heap.size=q:=⟨_,rfl⟩
  rw[hbr] at B7
  rw[hw7,hbr]
  rw[hw7] at hk
  have HK7:=qtr HK5 hk
  have HT7:=qkb HT5 hk
  have HM7:=qkb HM5 hk
  have HO7:Hid (Own w7 w.heap.size 3 1 (some ⟨br,0,none⟩) 5 5 (intCells ([nm,u,0,0,(m:Int)]++[]))):=qh (Own.of_blk2 (xs:=[.int .i64 nm,.int .i64 u,.int .i64 0,.int .i64 0,.int .i64 m]) B7 rfl (by unfold maxLen;omega) (by rw[←hbr];have:=HK5.out.size;simp at hk6;omega))
  clear hS hk hk3 hk6 B7 hw7 hbr HS2 HT5 HM5 HK5 HCn HBst t0
  obtain⟨res,hres⟩:∃z,secN u 0 S=z:=⟨_,rfl⟩
  have HJ0:Hid (SnI u S res 0 0 []):=qh (by rw[←hres];exact SnI.start)
  have HRs:=qh hres
  have hm8:m+1≤8:=h8s
  clear hres h8s
  have m3:w7.cell? ⟨w.heap.size+1,3,none⟩=some (.slice (some sad) (m+1) cs):=HM7.out.cell 3
  go_wp2_with fail
  clear m3
  go_loopw [7,8,49] (fun s7 s8 s49 wr=>∃(k:Nat) (last:Int) (v:List Int) (Ao:Option Addr) (no co:Nat),s7=.slice Ao no co∧s8=.int .i64 last∧s49=.int .i64 k∧k≤m+1∧Hid (SnI u S res k last v∧no=5+v.length∧Own wr w.heap.size 3 1 Ao no co (intCells ([nm,u,0,0,(m:Int)]++v))∧Blk wr w.heap.size 27 #[.slice Ae ne ce,.slice Aj nj cj,.slice Ab nb cb,.slice Ar nr cr]∧Blk wr (w.heap.size+1) 38 #[.int .i64 ref,.bool rv,.slice Ap np cp,.slice (some sad) (m+1) cs,.int .i64 g]∧Keep Never w wr)) (fun _ _ s49 _=>m+1 - (intOf s49).toNat)
  case atStart=>exact⟨0,0,[],_,5,5,rfl,rfl,rfl,by omega,qh ⟨HJ0.out,rfl,HO7.out,HT7.out,HM7.out,HK7.out⟩⟩
  case round=>
   clear HO7 HT7 HM7 HK7 HJ0
   obtain⟨k,last,v,Ao,no,co,rfl,rfl,rfl,hk,HH⟩:=hrel
   have HJ:=qh HH.out.1
   have HNo:=qh HH.out.2.1
   have HOr:=qh HH.out.2.2.1
   have HTr:=qh HH.out.2.2.2.1
   have HMr:=qh HH.out.2.2.2.2.1
   have HKr:=qh HH.out.2.2.2.2.2
   have hno:no≤40:=by have h1:=HNo.out;have h2:=HJ.out.len;omega
   clear HH
   have hzr:=HKr.out.size
   by_cases h0:k<m+1
   case neg=>
    obtain rfl:k=m+1:=by omega
    have hki:¬(m:Int)+1<(m:Int)+1:=by omega
    have HF:Hid (secN u 0 S=some v):=qh (by rw[HRs.out];have h1:=HJ.out;rw[←HSl.out] at h1;exact h1.fin)
    have HVl:=qh HJ.out.len
    go_upto_region 18 with(at_builtin;refine wpList_app _ rfl (.tmp 77) (.tmp 78) _ rfl elemInt17 w.heap.size (A:=Ao) (n:=no) (c:=co) (by go_simp) (HOr.out.alloc _) _ (A':=some ⟨_,0,none⟩) (m:=1) (c':=1) (by go_simp) (Rd.of_blk (n:=1) (cs:=[.int .i64 0]) (Blk.new _ _ _) rfl) (by simp[Value.oneCell']) (by omega) (by unfold maxLen;omega) (by simp;omega) ?_;intro A20 c20 w20 hown hk hrow;have hk20:Keep (InRow Ao) wr w20:=((Keep.refl _ wr).alloc _).trans hk;have HO20:=qh hown;clear hown hk hrow)
    have hk:=hk20
    have HT20:=qh (HTr.out.keep hk (fun h=>HOr.out.ne_blk HTr.out (by decide) _ h rfl))
    have HM20:=qh (HMr.out.keep hk (fun h=>HOr.out.ne_blk HMr.out (by decide) _ h rfl))
    have HK20:=qh (HKr.out.then_ hk (fun i hi h=>by have:=(HOr.out.row h).1;omega))
    clear hk hk20 HTr HMr HOr HKr hzr HJ
    have m4:w20.cell? ⟨w.heap.size+1,4,none⟩=some (.int .i64 g):=HM20.out.cell 4
    obtain⟨sc,hsc⟩:∃z,scaledM g u false=z:=⟨_,rfl⟩
    have HSc:=qh hsc
    have hc:=scaled_any g u false w20
    rw[hsc] at hc
    obtain⟨gv,ge⟩:=sc
    simp only at hc
    have HC:=qh hc
    clear hc hsc
    go_wp2_with fail
    refine HC.out.mono ?_
    rintro en w21 ⟨rfl,hk⟩
    have HK21:=qtr HK20 hk
    have HT21:=qkb HT20 hk
    have HM21:=qkb HM20 hk
    have HO21:=qko HO20 hk
    clear hk HC m4 HT20 HM20 HK20 HO20
    have hzr:=HK21.out.size
    obtain⟨pv,hpv⟩:∃z,p15N rv u S.length v g=z:=⟨_,rfl⟩
    have HPv:=qh hpv
    have HPe:Hid (pv=[nm,u,0,0,(m:Int)]++v++[0]++gapN u g):=qh (by rw[←hpv];unfold p15N;rw[HNm.out,HSl.out,show ((m+1:Nat):Int) - 1=(m:Int) by omega])
    clear hpv
    by_cases g1:0<gv
    ·have t1:decide (gv>0)=true:=by simpa using g1
     have HGa:Hid (gapN u g=[1,gv,0,0]):=qh (by unfold gapN;rw[HSc.out];simp only;rw[if_pos g1])
     clear g1
     go_upto_region 22 with(at_builtin;refine wpList_app _ rfl (.tmp 89) (.tmp 91) _ rfl elemInt17 w.heap.size (A:=A20) (n:=(no+1)) (c:=c20) (by go_simp) (HO21.out.alloc _) _ (A':=some ⟨_,0,none⟩) (m:=4) (c':=4) (by go_simp) (Rd.of_blk (n:=4) (cs:=[.int .i64 1,.int .i64 gv,.int .i64 0,.int .i64 0]) (Blk.new _ _ _) rfl) (by simp[Value.oneCell']) (by omega) (by unfold maxLen;omega) (by simp;omega) ?_;intro A22 c22 w22 hown hk hrow;have hk22:Keep (InRow A20) w21 w22:=((Keep.refl _ w21).alloc _).trans hk;have HO22:=qh hown;clear hown hk hrow)
     have hk:=hk22
     have HT22:=qh (HT21.out.keep hk (fun h=>HO21.out.ne_blk HT21.out (by decide) _ h rfl))
     have HM22:=qh (HM21.out.keep hk (fun h=>HO21.out.ne_blk HM21.out (by decide) _ h rfl))
     have HK22:=qh (HK21.out.then_ hk (fun i hi h=>by have:=(HO21.out.row h).1;omega))
     have HP22:Hid (Own w22 w.heap.size 3 1 A22 (no+1+4) c22 (intCells pv)):=qh (by rw[HPe.out,HGa.out,intCells_app,intCells_app];exact HO22.out)
     have HPn:Hid (pv.length=no+1+4∧pv.length≤8200):=qh (by rw[HPe.out,HGa.out];have:=HNo.out;simp;omega)
     have HO22:=HP22
     clear hk hk22 hzr HT21 HM21 HK21 HO21 HP22
     have hz22:=HK22.out.size
     obtain⟨w23,hw23⟩:∃V:World,w22.alloc (.cells #[.int .i64 15,.slice A22 (no+1+4) c22] 105)=V:=⟨_,rfl⟩
     have hk:Keep Never w22 w23:=by rw[←hw23];exact(Keep.refl _ _).alloc _
     have B23:=Blk.new w22 105 #[.int .i64 15,.slice A22 (no+1+4) c22]
     rw[hw23] at B23
     obtain⟨bpk,hbpk⟩:∃q,w22.heap.size=q:=⟨_,rfl⟩
     rw[hbpk] at B23
     have HK23:=qtr HK22 hk
     have HT23:=qkb HT22 hk
     have HM23:=qkb HM22 hk
     have HO23:=qko HO22 hk
     have HB23:=qh B23
     have HBz:Hid (w.heap.size≤bpk):=qh (by rw[←hbpk];exact hz22)
     clear hk B23 hz22 HT22 HM22 HK22 HO22
     by_cases g3:np=1
     case pos=>
      have t3:((np:Int)==1)=true:=by simp;omega
      have t3b:(np==1)=true:=by simp;omega
      have HG:Hid (packsM17 t (ref,rv,P,S,g)=.ok [(15,pv)]):=qh (by rw[packs_go HMz.out HU.out (by have:=HUn.out;omega) HF.out,if_pos (by rw[HPl.out];exact g3),HPv.out])
      have m2:w23.cell? ⟨w.heap.size+1,2,none⟩=some (.slice Ap np cp):=HM23.out.cell 2
      clear g3
      go_wp2_with fail
      go_ret2
      refine⟨HK23.out,?_⟩
      rw[HG.out]
      refine⟨_,1,1,rfl,pks_one rfl (Nat.le_refl _) rfl HB23.out.lt (fun i p hp=>?_) (packs_good HG.out) (fun p hp=>?_)⟩
      ·match i,hp with
       | 0,hp=>
        simp only[List.getElem?_cons_zero,Option.some.injEq] at hp
        subst hp
        exact⟨_,_,_,HB23.out.cell 0,HB23.out.cell 1,HO23.out.rd,HO23.out.cap_le,by rcases HO23.out.form with⟨_,_,h,_⟩ | ⟨_,_,_,_,_,_,h,_⟩;unfold maxLen;omega;exact h⟩
       | i+1,hp=>simp at hp
      ·simp only[List.mem_singleton] at hp
       subst hp
       exact HPn.out.2
     have t3:((np:Int)==1)=false:=by simp;omega
     have t3b:(np==1)=false:=by simp;omega
     have HGo:Hid (packsM17 t (ref,rv,P,S,g)=(match linksM t ref rv P u with | .error e=>.error e | .ok q=>.ok [(15,pv),q])):=qh (by rw[packs_go HMz.out HU.out (by have:=HUn.out;omega) HF.out,if_neg (by rw[HPl.out];exact g3),HPv.out])
     have hw:=HLk.out w23 HK23.out u z HMz.out
     obtain⟨lr,hlr⟩:∃y,linksM t ref rv P u=y:=⟨_,rfl⟩
     rw[hlr] at hw
     have HLr:=qh hlr
     obtain⟨y0,y1,y2,y3⟩:=bc4 HT23.out
     obtain⟨m0,m1,m2,m3,m4⟩:=bc5 HM23.out
     unfold PkRet at hw
     clear g3 hlr
     cases lr with
     | error x=>
      simp only at hw
      have HC:=qh hw
      have HG:Hid (packsM17 t (ref,rv,P,S,g)=.error x):=qh (by rw[HGo.out,HLr.out])
      clear hw
      go_wp2_with fail
      refine HC.out.mono ?_
      rintro en w24 ⟨hk,hx,rfl⟩
      have HK24:=qtr HK23 hk
      have HT24:=qkb HT23 hk
      have HM24:=qkb HM23 hk
      have HO24:=qko HO23 hk
      have HB24:=qkb HB23 hk
      have t4:(x != 0)=true:=by simpa using hx
      have HX:=qh hx
      clear hk hx HC y0 y1 y2 y3 m0 m1 m2 m3 m4 hw23 hbpk HT23 HM23 HK23 HO23 HB23
      go_wp2_with fail
      go_ret2
      refine⟨HK24.out.alloc _,?_⟩
      rw[HG.out]
      exact⟨HX.out,rfl⟩
     | ok q=>
      obtain⟨q1,q2⟩:=q
      simp only at hw
      have HC:=qh hw
      have HG:Hid (packsM17 t (ref,rv,P,S,g)=.ok [(15,pv),(q1,q2)]):=qh (by rw[HGo.out,HLr.out])
      clear hw
      go_wp2_with fail
      refine HC.out.mono ?_
      rintro en w24 ⟨hk,A2,n2,c2,rfl,hn2,ho⟩
      have HK24:=qtr HK23 hk
      have HT24:=qkb HT23 hk
      have HM24:=qkb HM23 hk
      have HO24:=qko HO23 hk
      have HB24:=qkb HB23 hk
      have HOq24:=qh (ho.less HK23.out.size)
      have HN2:=qh hn2
      clear hk hn2 ho HC y0 y1 y2 y3 m0 m1 m2 m3 m4 hw23 hbpk HT23 HM23 HK23 HO23 HB23
      obtain⟨w25,hw25⟩:∃V:World,w24.alloc (.cells #[.int .i64 q1,.slice A2 n2 c2] 105)=V:=⟨_,rfl⟩
      have hk:Keep Never w24 w25:=by rw[←hw25];exact(Keep.refl _ _).alloc _
      have B25:=Blk.new w24 105 #[.int .i64 q1,.slice A2 n2 c2]
      rw[hw25] at B25
      obtain⟨bq,hbq⟩:∃q,w24.heap.size=q:=⟨_,rfl⟩
      rw[hbq] at B25
      have HK25:=qtr HK24 hk
      have HT25:=qkb HT24 hk
      have HM25:=qkb HM24 hk
      have HO25:=qko HO24 hk
      have HB25:=qkb HB24 hk
      have HOq25:=qko HOq24 hk
      have HD25:=qh B25
      have hz25:=HK25.out.size
      obtain⟨b0,b1⟩:=bc2 HD25.out
      have HOk25:Hid (Own w25 w.heap.size 105 2 (some ⟨bpk,0,none⟩) 1 1 [.int .i64 15,.slice A22 (no+1+4) c22]):=qh (Own.of_blk2 (xs:=[.int .i64 15,.slice A22 (no+1+4) c22]) HB25.out rfl (by unfold maxLen;omega) HBz.out)
      clear hk B25 HT24 HM24 HK24 HO24 HB24 HOq24
      go_wp2_with (at_builtin;refine wpList_app _ rfl (.tmp 114) (.tmp 116) _ rfl elemPk17 w.heap.size (A:=some ⟨bpk,0,none⟩) (n:=1) (c:=1) (by go_simp) (HOk25.out.alloc _) _ (A':=some ⟨_,0,none⟩) (m:=1) (c':=1) (by go_simp) (Rd.of_blk (n:=1) (cs:=[.int .i64 q1,.slice A2 n2 c2]) (Blk.new _ _ _) rfl) (by simp[Value.oneCell']) (by omega) (by unfold maxLen;omega) (by simp;omega) ?_;intro A26 c26 w26 hown hk hrow;have hk26:Keep (InRow (some ⟨bpk,0,none⟩)) w25 w26:=((Keep.refl _ w25).alloc _).trans hk;have HO26:=qh hown;have HK26:=qh hk26;clear hown hk hrow hk26)
      go_ret2
      refine⟨HK25.out.then_ HK26.out (fun i hi h=>by have:=(HOk25.out.row h).1;omega),?_⟩
      rw[HG.out]
      rcases HO26.out.form with⟨_,h9,_⟩ | ⟨gb,cur,h9,_,hblk,_⟩
      ·exact absurd h9 (by omega)
      ·subst h9
       refine⟨_,1+1,c26,rfl,pks_one rfl HO26.out.cap_le rfl hblk.lt (fun i p hp=>?_) (packs_good HG.out) (fun p hp=>?_)⟩
       ·match i,hp with
        | 0,hp=>
         simp only[List.getElem?_cons_zero,Option.some.injEq] at hp
         subst hp
         exact⟨_,_,_,HO26.out.cell0 (j:=0) rfl,HO26.out.cell0 (j:=1) rfl,(HO25.out.keep HK26.out (fun q h=>HO25.out.ne_own HOk25.out (by decide) q h)).rd,HO25.out.cap_le,by rcases HO25.out.form with⟨_,_,h,_⟩ | ⟨_,_,_,_,_,_,h,_⟩;unfold maxLen;omega;exact h⟩
        | 1,hp=>
         simp only[List.getElem?_cons_succ,List.getElem?_cons_zero,Option.some.injEq] at hp
         subst hp
         exact⟨_,_,_,HO26.out.cell0 (j:=2) rfl,HO26.out.cell0 (j:=3) rfl,(HOq25.out.keep HK26.out (fun q h=>HOq25.out.ne_own HOk25.out (by decide) q h)).rd,HOq25.out.cap_le,by rcases HOq25.out.form with⟨_,_,h,_⟩ | ⟨_,_,_,_,_,_,h,_⟩;unfold maxLen;omega;exact h⟩
        | i+2,hp=>simp at hp
       ·rcases List.mem_cons.1 hp with rfl | hp
        ·exact HPn.out.2
        ·simp only[List.mem_singleton] at hp
         subst hp
         have h1:=linksM_len HLr.out
         have h2:=HMz.out.few
         simp only at h1 h2
         show q2.length≤8200
         omega
    ·have t1:decide (gv>0)=false:=by simpa using g1
     have HGa:Hid (gapN u g=[0,0]):=qh (by unfold gapN;rw[HSc.out];simp only;rw[if_neg g1])
     clear g1
     go_upto_region 22 with(at_builtin;refine wpList_app _ rfl (.tmp 93) (.tmp 94) _ rfl elemInt17 w.heap.size (A:=A20) (n:=(no+1)) (c:=c20) (by go_simp) (HO21.out.alloc _) _ (A':=some ⟨_,0,none⟩) (m:=2) (c':=2) (by go_simp) (Rd.of_blk (n:=2) (cs:=[.int .i64 0,.int .i64 0]) (Blk.new _ _ _) rfl) (by simp[Value.oneCell']) (by omega) (by unfold maxLen;omega) (by simp;omega) ?_;intro A22 c22 w22 hown hk hrow;have hk22:Keep (InRow A20) w21 w22:=((Keep.refl _ w21).alloc _).trans hk;have HO22:=qh hown;clear hown hk hrow)
     have hk:=hk22
     have HT22:=qh (HT21.out.keep hk (fun h=>HO21.out.ne_blk HT21.out (by decide) _ h rfl))
     have HM22:=qh (HM21.out.keep hk (fun h=>HO21.out.ne_blk HM21.out (by decide) _ h rfl))
     have HK22:=qh (HK21.out.then_ hk (fun i hi h=>by have:=(HO21.out.row h).1;omega))
     have HP22:Hid (Own w22 w.heap.size 3 1 A22 (no+1+2) c22 (intCells pv)):=qh (by rw[HPe.out,HGa.out,intCells_app,intCells_app];exact HO22.out)
     have HPn:Hid (pv.length=no+1+2∧pv.length≤8200):=qh (by rw[HPe.out,HGa.out];have:=HNo.out;simp;omega)
     have HO22:=HP22
     clear hk hk22 hzr HT21 HM21 HK21 HO21 HP22
     have hz22:=HK22.out.size
     obtain⟨w23,hw23⟩:∃V:World,w22.alloc (.cells #[.int .i64 15,.slice A22 (no+1+2) c22] 105)=V:=⟨_,rfl⟩
     have hk:Keep Never w22 w23:=by rw[←hw23];exact(Keep.refl _ _).alloc _
     have B23:=Blk.new w22 105 #[.int .i64 15,.slice A22 (no+1+2) c22]
     rw[hw23] at B23
     obtain⟨bpk,hbpk⟩:∃q,w22.heap.size=q:=⟨_,rfl⟩
     rw[hbpk] at B23
     have HK23:=qtr HK22 hk
     have HT23:=qkb HT22 hk
     have HM23:=qkb HM22 hk
     have HO23:=qko HO22 hk
     have HB23:=qh B23
     have HBz:Hid (w.heap.size≤bpk):=qh (by rw[←hbpk];exact hz22)
     clear hk B23 hz22 HT22 HM22 HK22 HO22
     by_cases g3:np=1
     case pos=>
      have t3:((np:Int)==1)=true:=by simp;omega
      have t3b:(np==1)=true:=by simp;omega
      have HG:Hid (packsM17 t (ref,rv,P,S,g)=.ok [(15,pv)]):=qh (by rw[packs_go HMz.out HU.out (by have:=HUn.out;omega) HF.out,if_pos (by rw[HPl.out];exact g3),HPv.out])
      have m2:w23.cell? ⟨w.heap.size+1,2,none⟩=some (.slice Ap np cp):=HM23.out.cell 2
      clear g3
      go_wp2_with fail
      go_ret2
      refine⟨HK23.out,?_⟩
      rw[HG.out]
      refine⟨_,1,1,rfl,pks_one rfl (Nat.le_refl _) rfl HB23.out.lt (fun i p hp=>?_) (packs_good HG.out) (fun p hp=>?_)⟩
      ·match i,hp with
       | 0,hp=>
        simp only[List.getElem?_cons_zero,Option.some.injEq] at hp
        subst hp
        exact⟨_,_,_,HB23.out.cell 0,HB23.out.cell 1,HO23.out.rd,HO23.out.cap_le,by rcases HO23.out.form with⟨_,_,h,_⟩ | ⟨_,_,_,_,_,_,h,_⟩;unfold maxLen;omega;exact h⟩
       | i+1,hp=>simp at hp
      ·simp only[List.mem_singleton] at hp
       subst hp
       exact HPn.out.2
     have t3:((np:Int)==1)=false:=by simp;omega
     have t3b:(np==1)=false:=by simp;omega
     have HGo:Hid (packsM17 t (ref,rv,P,S,g)=(match linksM t ref rv P u with | .error e=>.error e | .ok q=>.ok [(15,pv),q])):=qh (by rw[packs_go HMz.out HU.out (by have:=HUn.out;omega) HF.out,if_neg (by rw[HPl.out];exact g3),HPv.out])
     have hw:=HLk.out w23 HK23.out u z HMz.out
     obtain⟨lr,hlr⟩:∃y,linksM t ref rv P u=y:=⟨_,rfl⟩
     rw[hlr] at hw
     have HLr:=qh hlr
     obtain⟨y0,y1,y2,y3⟩:=bc4 HT23.out
     obtain⟨m0,m1,m2,m3,m4⟩:=bc5 HM23.out
     unfold PkRet at hw
     clear g3 hlr
     cases lr with
     | error x=>
      simp only at hw
      have HC:=qh hw
      have HG:Hid (packsM17 t (ref,rv,P,S,g)=.error x):=qh (by rw[HGo.out,HLr.out])
      clear hw
      go_wp2_with fail
      refine HC.out.mono ?_
      rintro en w24 ⟨hk,hx,rfl⟩
      have HK24:=qtr HK23 hk
      have HT24:=qkb HT23 hk
      have HM24:=qkb HM23 hk
      have HO24:=qko HO23 hk
      have HB24:=qkb HB23 hk
      have t4:(x != 0)=true:=by simpa using hx
      have HX:=qh hx
      clear hk hx HC y0 y1 y2 y3 m0 m1 m2 m3 m4 hw23 hbpk HT23 HM23 HK23 HO23 HB23
      go_wp2_with fail
      go_ret2
      refine⟨HK24.out.alloc _,?_⟩
      rw[HG.out]
      exact⟨HX.out,rfl⟩
     | ok q=>
      obtain⟨q1,q2⟩:=q
      simp only at hw
      have HC:=qh hw
      have HG:Hid (packsM17 t (ref,rv,P,S,g)=.ok [(15,pv),(q1,q2)]):=qh (by rw[HGo.out,HLr.out])
      clear hw
      go_wp2_with fail
      refine HC.out.mono ?_
      rintro en w24 ⟨hk,A2,n2,c2,rfl,hn2,ho⟩
      have HK24:=qtr HK23 hk
      have HT24:=qkb HT23 hk
      have HM24:=qkb HM23 hk
      have HO24:=qko HO23 hk
      have HB24:=qkb HB23 hk
      have HOq24:=qh (ho.less HK23.out.size)
      have HN2:=qh hn2
      clear hk hn2 ho HC y0 y1 y2 y3 m0 m1 m2 m3 m4 hw23 hbpk HT23 HM23 HK23 HO23 HB23
      obtain⟨w25,hw25⟩:∃V:World,w24.alloc (.cells #[.int .i64 q1,.slice A2 n2 c2] 105)=V:=⟨_,rfl⟩
      have hk:Keep Never w24 w25:=by rw[←hw25];exact(Keep.refl _ _).alloc _
      have B25:=Blk.new w24 105 #[.int .i64 q1,.slice A2 n2 c2]
      rw[hw25] at B25
      obtain⟨bq,hbq⟩:∃q,w24.heap.size=q:=⟨_,rfl⟩
      rw[hbq] at B25
      have HK25:=qtr HK24 hk
      have HT25:=qkb HT24 hk
      have HM25:=qkb HM24 hk
      have HO25:=qko HO24 hk
      have HB25:=qkb HB24 hk
      have HOq25:=qko HOq24 hk
      have HD25:=qh B25
      have hz25:=HK25.out.size
      obtain⟨b0,b1⟩:=bc2 HD25.out
      have HOk25:Hid (Own w25 w.heap.size 105 2 (some ⟨bpk,0,none⟩) 1 1 [.int .i64 15,.slice A22 (no+1+2) c22]):=qh (Own.of_blk2 (xs:=[.int .i64 15,.slice A22 (no+1+2) c22]) HB25.out rfl (by unfold maxLen;omega) HBz.out)
      clear hk B25 HT24 HM24 HK24 HO24 HB24 HOq24
      go_wp2_with (at_builtin;refine wpList_app _ rfl (.tmp 114) (.tmp 116) _ rfl elemPk17 w.heap.size (A:=some ⟨bpk,0,none⟩) (n:=1) (c:=1) (by go_simp) (HOk25.out.alloc _) _ (A':=some ⟨_,0,none⟩) (m:=1) (c':=1) (by go_simp) (Rd.of_blk (n:=1) (cs:=[.int .i64 q1,.slice A2 n2 c2]) (Blk.new _ _ _) rfl) (by simp[Value.oneCell']) (by omega) (by unfold maxLen;omega) (by simp;omega) ?_;intro A26 c26 w26 hown hk hrow;have hk26:Keep (InRow (some ⟨bpk,0,none⟩)) w25 w26:=((Keep.refl _ w25).alloc _).trans hk;have HO26:=qh hown;have HK26:=qh hk26;clear hown hk hrow hk26)
      go_ret2
      refine⟨HK25.out.then_ HK26.out (fun i hi h=>by have:=(HOk25.out.row h).1;omega),?_⟩
      rw[HG.out]
      rcases HO26.out.form with⟨_,h9,_⟩ | ⟨gb,cur,h9,_,hblk,_⟩
      ·exact absurd h9 (by omega)
      ·subst h9
       refine⟨_,1+1,c26,rfl,pks_one rfl HO26.out.cap_le rfl hblk.lt (fun i p hp=>?_) (packs_good HG.out) (fun p hp=>?_)⟩
       ·match i,hp with
        | 0,hp=>
         simp only[List.getElem?_cons_zero,Option.some.injEq] at hp
         subst hp
         exact⟨_,_,_,HO26.out.cell0 (j:=0) rfl,HO26.out.cell0 (j:=1) rfl,(HO25.out.keep HK26.out (fun q h=>HO25.out.ne_own HOk25.out (by decide) q h)).rd,HO25.out.cap_le,by rcases HO25.out.form with⟨_,_,h,_⟩ | ⟨_,_,_,_,_,_,h,_⟩;unfold maxLen;omega;exact h⟩
        | 1,hp=>
         simp only[List.getElem?_cons_succ,List.getElem?_cons_zero,Option.some.injEq] at hp
         subst hp
         exact⟨_,_,_,HO26.out.cell0 (j:=2) rfl,HO26.out.cell0 (j:=3) rfl,(HOq25.out.keep HK26.out (fun q h=>HOq25.out.ne_own HOk25.out (by decide) q h)).rd,HOq25.out.cap_le,by rcases HOq25.out.form with⟨_,_,h,_⟩ | ⟨_,_,_,_,_,_,h,_⟩;unfold maxLen;omega;exact h⟩
        | i+2,hp=>simp at hp
       ·rcases List.mem_cons.1 hp with rfl | hp
        ·exact HPn.out.2
        ·simp only[List.mem_singleton] at hp
         subst hp
         have h1:=linksM_len HLr.out
         have h2:=HMz.out.few
         simp only at h1 h2
         show q2.length≤8200
         omega
   have hki:(k:Int)<(m:Int)+1:=by omega
   obtain⟨s,hs,c0,c1⟩:=sc_cell ((HSt.out.keep HKr.out).rd) h0
   have HS:=qh hs
   obtain⟨s1,s2⟩:=s
   simp only at c0 c1
   clear hs
   go_upto_region 11 with(fail)
   obtain⟨w9,hw9⟩:∃V:World,wr.alloc (.cells #[.int .i64 s1,.int .i64 s2] 58)=V:=⟨_,rfl⟩
   have hk:Keep Never wr w9:=by rw[←hw9];exact(Keep.refl _ _).alloc _
   have B9:=Blk.new wr 58 #[.int .i64 s1,.int .i64 s2]
   rw[hw9] at B9
   obtain⟨bl,hbl⟩:∃q,wr.heap.size=q:=⟨_,rfl⟩
   rw[hbl] at B9
   rw[hw9,hbl]
   have HK9:=qtr HKr hk
   have HT9:=qkb HTr hk
   have HM9:=qkb HMr hk
   have HO9:=qko HOr hk
   have HL9:=qh B9
   have l0:w9.cell? ⟨bl,0,none⟩=some (.int .i64 s1):=HL9.out.cell 0
   obtain⟨sc,hsc⟩:∃z,scaledM s1 u false=z:=⟨_,rfl⟩
   have HSc:Hid (scaledM ((s1,s2):Sc).1 u false=sc):=qh hsc
   have hc:=scaled_any s1 u false w9
   rw[hsc] at hc
   obtain⟨sv,se⟩:=sc
   simp only at hc
   have HC:=qh hc
   clear hk hc hsc B9 c0 c1 hw9 hbl HTr HMr HKr HOr hzr
   go_wp2_with fail
   refine HC.out.mono ?_
   rintro en w10 ⟨rfl,hk⟩
   have HK10:=qtr HK9 hk
   have HT10:=qkb HT9 hk
   have HM10:=qkb HM9 hk
   have HO10:=qko HO9 hk
   have HL10:=qkb HL9 hk
   clear hk HC HT9 HM9 HK9 HO9 HL9 l0
   by_cases g1:se=0
   case neg=>
    have t1:(se != 0)=true:=by simpa using g1
    have HF:Hid (res=none):=qh (HJ.out.bad HS.out (.inl (by rw[HSc.out];exact g1)))
    have HG:Hid (packsM17 t (ref,rv,P,S,g)=.error 7):=qh (packs_sec HMb.out (by rw[HU.out];have:=HUn.out;omega) (by rw[HU.out,HRs.out,HF.out]))
    clear g1
    go_wp2_with fail
    go_ret2
    refine⟨HK10.out,?_⟩
    rw[HG.out]
    exact⟨by decide,rfl⟩
   have t1:(se != 0)=false:=by simpa using g1
   by_cases g2:sv≤last
   case pos=>
    have t2:decide (sv≤last)=true:=by simpa using g2
    have HF:Hid (res=none):=qh (HJ.out.bad HS.out (.inr (by rw[HSc.out];exact g2)))
    have HG:Hid (packsM17 t (ref,rv,P,S,g)=.error 7):=qh (packs_sec HMb.out (by rw[HU.out];have:=HUn.out;omega) (by rw[HU.out,HRs.out,HF.out]))
    clear g1 g2
    go_wp2_with fail
    go_ret2
    refine⟨HK10.out,?_⟩
    rw[HG.out]
    exact⟨by decide,rfl⟩
   have t2:decide (sv≤last)=false:=by simpa using g2
   have hnx:=HJ.out.next HS.out (by rw[HSc.out];exact g1) (by rw[HSc.out];exact g2)
   rw[HSc.out] at hnx
   simp only at hnx
   have hlb:=HJ.out.bnd
   have hsb:=hnx.bnd
   have HNx:=qh hnx
   have hws:IntKind.i64.wrap (sv - last)=sv - last:=IntWalk.i64_in _ (by omega)
   have hws2:wrap64 (sv - last)=sv - last:=by have:=hws;rwa [IntWalk.i64_left] at this
   have l1:w10.cell? ⟨bl,1,none⟩=some (.int .i64 s2):=HL10.out.cell 1
   have hzr:=HK10.out.size
   clear g1 g2 hnx hlb hsb
   go_upto_region 15 with(at_builtin;refine wpList_app _ rfl (.tmp 67) (.tmp 73) _ rfl elemInt17 w.heap.size (A:=Ao) (n:=no) (c:=co) (by go_simp) (HO10.out.alloc _) _ (A':=some ⟨_,0,none⟩) (m:=4) (c':=4) (by go_simp) (Rd.of_blk (n:=4) (cs:=[.int .i64 (sv - last),.int .i64 1,.int .i64 s2,.int .i64 0]) (Blk.new _ _ _) rfl) (by simp[Value.oneCell']) (by omega) (by unfold maxLen;omega) (by simp;omega) ?_;intro A14 c14 w14 hown hk hrow;have hk14:Keep (InRow Ao) w10 w14:=((Keep.refl _ w10).alloc _).trans hk;have HO14:=qh hown;clear hown hk hrow)
   have hk:=hk14
   have HT14:=qh (HT10.out.keep hk (fun h=>HO10.out.ne_blk HT10.out (by decide) _ h rfl))
   have HM14:=qh (HM10.out.keep hk (fun h=>HO10.out.ne_blk HM10.out (by decide) _ h rfl))
   have HK14:=qh (HK10.out.then_ hk (fun i hi h=>by have:=(HO10.out.row h).1;omega))
   clear hk hk14 l1 hws hws2 t1 t2 hzr HT10 HM10 HK10 HO10 HL10
   go_wp2_with fail
   refine⟨⟨k+1,sv,v++[sv - last,1,s2,0],A14,no+4,c14,rfl,rfl,by go_num,by omega,qh ⟨HNx.out,by have:=HNo.out;simp;omega,by rw[←List.append_assoc,intCells_app];exact HO14.out,HT14.out,HM14.out,HK14.out⟩⟩,?_⟩
   simp[intOf];try omega
end Go.Proofs.YtpapiojicbbheaaGreatDoor

namespace Go.Proofs.YtpapiojicbbheaaGreatDoor
open Go.RowKit
end Go.Proofs.YtpapiojicbbheaaGreatDoor
