/- Texts of this claim, together: PmF, PmI, VarsD, BitsM, VarsW, PackD, PackP. -/
import Derived.Test.YtpapiojicbbheaaGreatDoorTc06
import Derived.Test.YtpapiojicbbheaaGreatDoorTc02
import Derived.Test.YtpapiojicbbheaaGreatDoorTc05
import Derived.Test.YtpapiojicbbheaaGreatDoorTc00
import Derived.Great.Walk
import Derived.Lib.Walk
import Derived.Lib.Bytealg
import Derived.Lib.IndexBytes
import Derived.Lib.CutLaws
import Derived.Deep.Draws
namespace Go.Proofs.YtpapiojicbbheaaGreatDoor
open Go.RowKit
theorem drop_head (v:List Int) (k:Nat):(v.drop k).headD 0=v.getD k 0:=by
 rw[List.getD_eq_getElem?_getD,←List.head?_drop]
 cases v.drop k <;> rfl
theorem onek_any (p B:Nat) (v:List Int) (k:Nat) (u x:Int) (w:World) (h:RAt w B p (v.drop k) u x) (hp:B≤p) :
    Calls Tryz.prog 120 #[.pointer (some ⟨p,0,none⟩)] w fun e w'=>e=.returned (.int .i64 (v.getD k 0))∧RAt w' B p (v.drop (k+1)) u x∧Keep (fun q=>q=p) w w':=by
  have h1:=ro_any p B (v.drop k) u x w h hp
  unfold OneRet at h1
  rw[drop_head,List.tail_drop] at h1
  exact h1
def linked1 (t:Tp) (path:List Stp) (v:List Int):Except Int (List Stp):=
  if v.getD 1 0≠1 then .error 20 else match stepL t path v with
  | .error e=>.error e
  | .ok p=>linksR t (v.getD 7 0).toNat p (v.drop 8)
theorem linked_eq (t:Tp) (path:List Stp) (v:List Int):linkedR t path v=linked1 t path (v.drop 2):=rfl
structure LkI (t:Tp) (res:Except Int (List Stp)) (i:Nat) (my:Int) (v:List Int) (path:List Stp):Prop where
  fst:i=0→my=1∧res=linked1 t path v
  nxt:0<i→(i:Int)≤my∧res=linksR t (my - i).toNat path v
  num:∀x∈v,0≤x∧x<4294967296
  few:i<9000000000∧my<4294967300
  ne:path≠[]
  p24:path.length≤24
  in_:∀s∈path,in64 s
theorem LkI.getD {t:Tp}{res:Except Int (List Stp)}{i:Nat}{my:Int}{v:List Int}{path:List Stp} (h:LkI t res i my v path) (k:Nat):0≤v.getD k 0∧v.getD k 0<4294967296:=by
 rw[List.getD_eq_getElem?_getD]
 cases hk:v[k]? with
 | none=>simp
 | some x=>exact h.num x (List.mem_of_getElem? hk)
def myN (i:Nat) (my:Int) (v:List Int):Int:=if i=0 then my+v.getD 7 0 else my
def vN (i:Nat) (v:List Int):List Int:=if i=0 then v.drop 8 else v.drop 7
theorem LkI.bad {t:Tp}{res:Except Int (List Stp)}{i:Nat}{my:Int}{v:List Int}{path:List Stp} (h:LkI t res i my v path) (hi:(i:Int)<my) (h1:v.getD 1 0≠1):res=.error 20:=by
 by_cases h0:i=0
 ·rw[(h.fst h0).2];unfold linked1;rw[if_pos h1]
 ·obtain⟨_,e⟩:=h.nxt (by omega)
  rw[e,show (my - (i:Int)).toNat=(my - (i:Int) - 1).toNat+1 by omega]
  unfold linksR;rw[if_pos h1]
theorem LkI.err {t:Tp}{res:Except Int (List Stp)}{i:Nat}{my:Int}{v:List Int}{path:List Stp} (h:LkI t res i my v path) (hi:(i:Int)<my) (h1:v.getD 1 0=1) {e:Int} (hs:stepL t path v=.error e):res=.error e:=by
 by_cases h0:i=0
 ·rw[(h.fst h0).2];unfold linked1;rw[if_neg (by simpa using h1),hs]
 ·obtain⟨_,e2⟩:=h.nxt (by omega)
  rw[e2,show (my - (i:Int)).toNat=(my - (i:Int) - 1).toNat+1 by omega]
  unfold linksR;rw[if_neg (by simpa using h1),hs]
theorem LkI.next {t:Tp}{res:Except Int (List Stp)}{i:Nat}{my:Int}{v:List Int}{path P:List Stp} (h:LkI t res i my v path) (hi:(i:Int)<my) (h1:v.getD 1 0=1) (hs:stepL t path v=.ok P) (hP:P≠[]) (h24:P.length≤24) (hin:∀s∈P,in64 s) :
    LkI t res (i+1) (myN i my v) (vN i v) P:=by
  have h7:=h.getD 7
  have hf:=h.few
  unfold myN vN
  by_cases h0:i=0
  ·obtain⟨e1,e2⟩:=h.fst h0
   rw[if_pos h0,if_pos h0]
   refine⟨fun h=>absurd h (by omega),fun _=>⟨by omega,?_⟩,fun x hx=>h.num x (List.mem_of_mem_drop hx),by omega,hP,h24,hin⟩
   rw[e2];unfold linked1;rw[if_neg (by simpa using h1),hs]
   simp only
   rw[show (my+v.getD 7 0 - ((i+1:Nat):Int)).toNat=(v.getD 7 0).toNat by omega]
  ·obtain⟨e1,e2⟩:=h.nxt (by omega)
   rw[if_neg h0,if_neg h0]
   refine⟨fun h=>absurd h (by omega),fun _=>⟨by omega,?_⟩,fun x hx=>h.num x (List.mem_of_mem_drop hx),by omega,hP,h24,hin⟩
   rw[e2,show (my - (i:Int)).toNat=(my - ((i+1:Nat):Int)).toNat+1 by omega]
   conv=>lhs;unfold linksR
   rw[if_neg (by simpa using h1),hs]
theorem LkI.fin {t:Tp}{res:Except Int (List Stp)}{i:Nat}{my:Int}{v:List Int}{path:List Stp} (h:LkI t res i my v path) (hi:¬(i:Int)<my):res=.ok path:=by
 by_cases h0:i=0
 ·have:=(h.fst h0).1;omega
 ·obtain⟨e1,e2⟩:=h.nxt (by omega)
  rw[e2,show (my - (i:Int)).toNat=0 by omega];rfl
theorem step_none {t:Tp}{path:List Stp}{v:List Int} (h:balM t.2.2.1 (idL v)=none):stepL t path v=.error 4:=by unfold stepL;rw[h]
theorem step_some {t:Tp}{path:List Stp}{v:List Int}{b:Bl}{last:Stp} (h:balM t.2.2.1 (idL v)=some b) (hl:path.getLast?=some last):stepL t path v=if b.2.1=last.1 then .ok path else
    if (afterM t last).contains (b.2.1,decide (v.getD 4 0=0))=false then .error 141 else
    if overB path b.2.1=true∨path.length=24 then .error 2 else .ok (path++[(b.2.1,decide (v.getD 4 0=0))]):=by unfold stepL;rw[h,hl]
def LinkRet (r:Except Int (List Stp)) (bm base:Nat) (Ap:Option Addr) (v0 v1 v3 v4:Value) (w:World) (e:Ending) (w':World):Prop:=
  Keep (fun q=>q=bm∨InRow Ap q) w w'∧match r with
    | .ok P=>e=.returned (.int .i64 0)∧∃A n c,Blk w' bm 38 #[v0,v1,.slice A n c,v3,v4]∧n=P.length∧Own w' base 30 2 A n c (stpCells P)∧(∀s∈P,in64 s)∧P.length≤24
    | .error x=>x≠0∧e=.returned (.int .i64 x)∧∃A n c,Blk w' bm 38 #[v0,v1,.slice A n c,v3,v4]
theorem TpAt.keepS {S:Nat→Prop}{w w':World}{B:Nat}{x:TA}{t:Tp} (h:TpAt w B x t) (hk:Keep S w w') (hS:∀k,S k→B≤k):TpAt w' B x t:=⟨h.e.keep hk hS,h.j.keep hk hS,h.b.keep hk hS,h.r.keep hk hS⟩
set_option maxHeartbeats 8000000 in
set_option maxRecDepth 100000 in
theorem linked_any (B bm base:Nat) (v0 v1 v3 v4:Value) (x:TA) (t:Tp) (path:List Stp) (Ap:Option Addr) (np cp:Nat) (A:Option Addr) (n c:Nat) (V:List Int) (w:World) (h:TpAt w B x t) (hs:TpSmall x t) (hck:checkM t=0) (hr:Rd w B 1 A n (V.map (.int .i64))) (hc:n≤c) (hB:B≤w.heap.size) (hBm:B≤bm) (hbB:B≤base) (hbw:base≤w.heap.size) (hV:∀x∈V,0≤x∧x<4294967296) (hm:Blk w bm 38 #[v0,v1,.slice Ap np cp,v3,v4]) (hnp:np=path.length) (ho:Own w base 30 2 Ap np cp (stpCells path)) (hp0:path≠[]) (hp24:path.length≤24) (hin:∀s∈path,in64 s) :
    Calls Tryz.prog 70 #[.agg x.cs,.pointer (some ⟨bm,0,none⟩),.slice A n c] w (LinkRet (linkedR t path V) bm base Ap v0 v1 v3 v4 w):=by
  have HO1:=qh (fun (W:World) (v:List Int) (k:Nat) (hW:RAt W B (w.heap.size+1) (v.drop k) 0 0)=>onek_any (w.heap.size+1) B v k 0 0 W hW (by omega))
  have hSB:∀k,(k=bm∨InRow Ap k)→B≤k:=fun k hk=>hk.elim (fun e=>by omega) (fun e=>by have:=(ho.row e).1;omega)
  have HBa:=qh (fun (W:World) (hk:Keep (fun q=>q=bm∨InRow Ap q) w W) (id:Int)=>bal_any x t B id W (h.keepS hk hSB) hs.b)
  have HAf:=qh (fun (W:World) (hk:Keep (fun q=>q=bm∨InRow Ap q) w W) (s:Stp)=>after_any x t B s W (h.keepS hk hSB) hs.j hs.e)
  have HNe:Hid (t.1.length≤100000000):=qh (by rw[←h.e.len];exact hs.e)
  have HCk:=qh hck
  have HBm:Hid (B≤bm∧bm<w.heap.size∧B≤base∧base≤w.heap.size∧B≤w.heap.size):=qh ⟨hBm,hm.lt,hbB,hbw,hB⟩
  have HI0:Hid (LkI t (linkedR t path V) 0 1 (V.drop 2) path):=qh ⟨fun _=>⟨rfl,linked_eq t path V⟩,fun h=>absurd h (by omega),fun x hx=>hV x (List.mem_of_mem_drop hx),by omega,hp0,hp24,hin⟩
  obtain⟨res,hres⟩:∃z,linkedR t path V=z:=⟨_,rfl⟩
  rw[hres] at HI0 ⊢
  clear hres hSB
  have HMz:=qh hm
  have HOz:=qh ho
  have HNp:Hid (np=path.length):=qh hnp
  have hr0:=hr
  obtain⟨Ae,ne,ce,Aj,nj,cj,Ab,nb,cb,Ar,nr,cr⟩:=x
  simp only[TA.cs] at HBa HAf ⊢
  clear h hs hck hm ho hnp hin hV hr
  obtain⟨w1,hw1⟩:∃V:World,w.alloc (.cells #[.slice Ae ne ce,.slice Aj nj cj,.slice Ab nb cb,.slice Ar nr cr] 27)=V:=⟨_,rfl⟩
  have zw1:w1.heap.size=w.heap.size+1:=by rw[←hw1];simp
  have kw1:Keep Never w w1:=by rw[←hw1];exact(Keep.refl _ _).alloc _
  have bw1:=Blk.new w 27 #[.slice Ae ne ce,.slice Aj nj cj,.slice Ab nb cb,.slice Ar nr cr]
  rw[hw1] at bw1
  obtain⟨w2,hw2⟩:∃V:World,w1.alloc (.cells #[.slice A n c,.int .i64 0,.int .i64 0] 165)=V:=⟨_,rfl⟩
  have kw2:Keep Never w1 w2:=by rw[←hw2];exact(Keep.refl _ _).alloc _
  have bw2:=Blk.new w1 165 #[.slice A n c,.int .i64 0,.int .i64 0]
  rw[hw2,zw1] at bw2
  have HB1:=qh (bw1.keep kw2 (fun h=>h))
  have HB2:=qh bw2
  have HK:=qh (kw1.trans kw2)
  clear kw1 kw2 bw1 bw2
  have HA2:Hid (RAt w2 B (w.heap.size+1) (V.drop 0) 0 0):=qh ⟨A,n,c,HB2.out,by rw[List.drop_zero];exact hr0.keep HK.out (fun _ h=>h.elim),hc⟩
  have HT2:=qh HB1.out
  have HM2:=qh (HMz.out.keep HK.out (fun h=>h))
  have HO2:=qh (HOz.out.keep HK.out (fun _ _ h=>h))
  have HK2:Hid (Keep (fun q=>q=bm∨InRow Ap q) w w2):=qh (HK.out.mono (fun _ _ h=>False.elim h))
  clear hr0 HB1 HB2 HMz HOz
  go_enter Tryz.func70, Tryz.ntmps70
  go_wp2_with fail
  clear hw1 hw2 zw1
  obtain⟨z0,hz0⟩:∃z,V.getD 0 0=z:=⟨_,rfl⟩
  obtain⟨z1,hz1⟩:∃z,V.getD 1 0=z:=⟨_,rfl⟩
  have HXz0:=qh hz0
  have HXz1:=qh hz1
  clear hz0 hz1
  have hw:=HO1.out w2 V 0 HA2.out
  rw[HXz0.out] at hw
  go_wp2_with fail
  refine hw.mono ?_
  rintro en w3 ⟨rfl,hr,hk⟩
  have HA3:=qh hr
  have HT3:=qh (HT2.out.keep hk (HA2.out.not HT2.out (by decide)))
  have HM3:=qh (HM2.out.keep hk (HA2.out.not HM2.out (by decide)))
  have HO3:=qh (HO2.out.keep hk (fun q h1 h2=>HA2.out.row HO2.out (by decide) q h1 h2))
  have HK3:=qh (HK2.out.then_ hk (fun i hi h=>by have h2:i=w.heap.size+1:=h;omega))
  clear hr hk hw
  have hw:=HO1.out w3 V 1 HA3.out
  rw[HXz1.out] at hw
  go_wp2_with fail
  refine hw.mono ?_
  rintro en w4 ⟨rfl,hr,hk⟩
  have HA4:=qh hr
  have HT4:=qh (HT3.out.keep hk (HA3.out.not HT3.out (by decide)))
  have HM4:=qh (HM3.out.keep hk (HA3.out.not HM3.out (by decide)))
  have HO4:=qh (HO3.out.keep hk (fun q h1 h2=>HA3.out.row HO3.out (by decide) q h1 h2))
  have HK4:=qh (HK3.out.then_ hk (fun i hi h=>by have h2:i=w.heap.size+1:=h;omega))
  clear hr hk hw
  have HA4b:Hid (RAt w4 B (w.heap.size+1) ((V.drop 2).drop 0) 0 0):=qh (by rw[List.drop_zero];exact HA4.out)
  obtain⟨v,hv⟩:∃z,V.drop 2=z:=⟨_,rfl⟩
  rw[hv] at HA4b HI0
  clear hv HA4
  go_wp2_with fail
  go_loopw [8,9] (fun tm ti wr=>∃(i:Nat) (my:Int) (v:List Int) (path:List Stp) (A:Option Addr) (n c:Nat),tm=.int .i64 my∧ti=.int .i64 i∧n≤24∧Hid (LkI t res i my v path∧RAt wr B (w.heap.size+1) (v.drop 0) 0 0∧Blk wr w.heap.size 27 #[.slice Ae ne ce,.slice Aj nj cj,.slice Ab nb cb,.slice Ar nr cr]∧Blk wr bm 38 #[v0,v1,.slice A n c,v3,v4]∧n=path.length∧Own wr base 30 2 A n c (stpCells path)∧Keep (fun q=>q=bm∨InRow Ap q) w wr∧(∀q,InRow A q→InRow Ap q∨w.heap.size≤q))) (fun tm ti _=>if intOf ti=0 then 9000000000 else (intOf tm - intOf ti).toNat)
  case atStart=>exact⟨0,1,v,path,Ap,np,cp,rfl,rfl,by have:=HNp.out;omega,qh ⟨HI0.out,HA4b.out,HT4.out,HM4.out,HNp.out,HO4.out,HK4.out,fun q h=>.inl h⟩⟩
  case round=>
   clear HA4b HT4 HM4 HO4 HK4 HI0 HNp hp24 hp0 HK
   rename List Stp=>path0
   obtain⟨i,my,v,path,Aw,nw,cw,rfl,rfl,hnw,HH⟩:=hrel
   have HIr:=qh HH.out.1
   have HAr:=qh HH.out.2.1
   have HTr:=qh HH.out.2.2.1
   have HMr:=qh HH.out.2.2.2.1
   have HNr:=qh HH.out.2.2.2.2.1
   have HOr:=qh HH.out.2.2.2.2.2.1
   have HKr:=qh HH.out.2.2.2.2.2.2.1
   have HWr:=qh HH.out.2.2.2.2.2.2.2
   clear HH
   by_cases h0:(i:Int)<my
   case neg=>
    have t0:decide ((i:Int)<my)=false:=by simpa using h0
    have HF:Hid (res=.ok path):=qh (HIr.out.fin h0)
    clear h0
    go_wp2_with fail
    go_ret
    refine⟨HKr.out,?_⟩
    rw[HF.out]
    exact⟨rfl,Aw,nw,cw,HMr.out,HNr.out,HOr.out,HIr.out.in_,HIr.out.p24⟩
   have t0:decide ((i:Int)<my)=true:=by simpa using h0
   have HI:=qh h0
   clear h0
   obtain⟨x0,hx0⟩:∃z,v.getD 0 0=z:=⟨_,rfl⟩
   have HXx0:=qh hx0
   have HZx0:=qh (HIr.out.getD 0)
   rw[hx0] at HZx0
   clear hx0
   obtain⟨x1,hx1⟩:∃z,v.getD 1 0=z:=⟨_,rfl⟩
   have HXx1:=qh hx1
   have HZx1:=qh (HIr.out.getD 1)
   rw[hx1] at HZx1
   clear hx1
   obtain⟨x2,hx2⟩:∃z,v.getD 2 0=z:=⟨_,rfl⟩
   have HXx2:=qh hx2
   have HZx2:=qh (HIr.out.getD 2)
   rw[hx2] at HZx2
   clear hx2
   obtain⟨x3,hx3⟩:∃z,v.getD 3 0=z:=⟨_,rfl⟩
   have HXx3:=qh hx3
   have HZx3:=qh (HIr.out.getD 3)
   rw[hx3] at HZx3
   clear hx3
   obtain⟨x4,hx4⟩:∃z,v.getD 4 0=z:=⟨_,rfl⟩
   have HXx4:=qh hx4
   have HZx4:=qh (HIr.out.getD 4)
   rw[hx4] at HZx4
   clear hx4
   obtain⟨x5,hx5⟩:∃z,v.getD 5 0=z:=⟨_,rfl⟩
   have HXx5:=qh hx5
   have HZx5:=qh (HIr.out.getD 5)
   rw[hx5] at HZx5
   clear hx5
   obtain⟨x6,hx6⟩:∃z,v.getD 6 0=z:=⟨_,rfl⟩
   have HXx6:=qh hx6
   have HZx6:=qh (HIr.out.getD 6)
   rw[hx6] at HZx6
   clear hx6
   obtain⟨x7,hx7⟩:∃z,v.getD 7 0=z:=⟨_,rfl⟩
   have HXx7:=qh hx7
   have HZx7:=qh (HIr.out.getD 7)
   rw[hx7] at HZx7
   clear hx7
   have hw:=HO1.out wr v 0 HAr.out
   rw[HXx0.out] at hw
   go_wp2_with fail
   refine hw.mono ?_
   rintro en w5 ⟨rfl,hr,hk⟩
   have HA5:=qh hr
   have HT5:=qh (HTr.out.keep hk (HAr.out.not HTr.out (by decide)))
   have HM5:=qh (HMr.out.keep hk (HAr.out.not HMr.out (by decide)))
   have HO5:=qh (HOr.out.keep hk (fun q h1 h2=>HAr.out.row HOr.out (by decide) q h1 h2))
   have HK5:=qh (HKr.out.then_ hk (fun i hi h=>by have h2:i=w.heap.size+1:=h;omega))
   clear hr hk hw
   have hw:=HO1.out w5 v 1 HA5.out
   rw[HXx1.out] at hw
   go_wp2_with fail
   refine hw.mono ?_
   rintro en w6 ⟨rfl,hr,hk⟩
   have HA6:=qh hr
   have HT6:=qh (HT5.out.keep hk (HA5.out.not HT5.out (by decide)))
   have HM6:=qh (HM5.out.keep hk (HA5.out.not HM5.out (by decide)))
   have HO6:=qh (HO5.out.keep hk (fun q h1 h2=>HA5.out.row HO5.out (by decide) q h1 h2))
   have HK6:=qh (HK5.out.then_ hk (fun i hi h=>by have h2:i=w.heap.size+1:=h;omega))
   clear hr hk hw
   by_cases g1:x1=1
   case neg=>
    have t1:(x1 != 1)=true:=by simpa using g1
    have HF:Hid (res=.error 20):=qh (HIr.out.bad HI.out (by rw[HXx1.out];exact g1))
    clear g1
    go_wp2_with fail
    go_ret
    refine⟨HK6.out,?_⟩
    rw[HF.out]
    exact⟨by decide,rfl,_,_,_,HM6.out⟩
   have t1:(x1 != 1)=false:=by simpa using g1
   have HG1:Hid (v.getD 1 0=1):=qh (HXx1.out.trans g1)
   clear g1
   have hw:=HO1.out w6 v 2 HA6.out
   rw[HXx2.out] at hw
   go_wp2_with fail
   refine hw.mono ?_
   rintro en w7 ⟨rfl,hr,hk⟩
   have HA7:=qh hr
   have HT7:=qh (HT6.out.keep hk (HA6.out.not HT6.out (by decide)))
   have HM7:=qh (HM6.out.keep hk (HA6.out.not HM6.out (by decide)))
   have HO7:=qh (HO6.out.keep hk (fun q h1 h2=>HA6.out.row HO6.out (by decide) q h1 h2))
   have HK7:=qh (HK6.out.then_ hk (fun i hi h=>by have h2:i=w.heap.size+1:=h;omega))
   clear hr hk hw
   have hs1:wrap64 (x2*16384)=x2*16384:=by have h1:=HZx2.out;have h2:IntKind.i64.wrap (x2*16384)=x2*16384:=IntWalk.i64_in _ (by omega);rwa [IntWalk.i64_left] at h2
   have hs2:IntKind.i64.wrap (x2*16384)=x2*16384:=by have h1:=HZx2.out;exact IntWalk.i64_in _ (by omega)
   go_wp2_with fail
   clear hs1 hs2
   have hw:=HO1.out w7 v 3 HA7.out
   rw[HXx3.out] at hw
   refine hw.mono ?_
   rintro en w8 ⟨rfl,hr,hk⟩
   have HA8:=qh hr
   have HT8:=qh (HT7.out.keep hk (HA7.out.not HT7.out (by decide)))
   have HM8:=qh (HM7.out.keep hk (HA7.out.not HM7.out (by decide)))
   have HO8:=qh (HO7.out.keep hk (fun q h1 h2=>HA7.out.row HO7.out (by decide) q h1 h2))
   have HK8:=qh (HK7.out.then_ hk (fun i hi h=>by have h2:i=w.heap.size+1:=h;omega))
   clear hr hk hw
   obtain⟨y2,hy2⟩:∃z,x2*16384=z:=⟨_,rfl⟩
   (try rw[hy2])
   obtain⟨id,hid⟩:∃z,bits .or .i64 y2 x3=z:=⟨_,rfl⟩
   have HId:Hid (idL v=id):=qh (by unfold idL orV;rw[HXx2.out,HXx3.out,hy2,hid])
   clear hy2
   go_wp2_with fail
   clear hid
   have hw:=HO1.out w8 v 4 HA8.out
   rw[HXx4.out] at hw
   refine hw.mono ?_
   rintro en w9 ⟨rfl,hr,hk⟩
   have HA9:=qh hr
   have HT9:=qh (HT8.out.keep hk (HA8.out.not HT8.out (by decide)))
   have HM9:=qh (HM8.out.keep hk (HA8.out.not HM8.out (by decide)))
   have HO9:=qh (HO8.out.keep hk (fun q h1 h2=>HA8.out.row HO8.out (by decide) q h1 h2))
   have HK9:=qh (HK8.out.then_ hk (fun i hi h=>by have h2:i=w.heap.size+1:=h;omega))
   clear hr hk hw
   obtain⟨bv,hbv⟩:∃z,(x4==0)=z:=⟨_,rfl⟩
   have HBv:Hid (decide (v.getD 4 0=0)=bv):=qh (by rw[HXx4.out,←hbv];rfl)
   go_upto_region 14 with(fail)
   obtain⟨w10,hw10⟩:∃V:World,w9.alloc (.cells #[.int .i64 0,.bool bv] 30)=V:=⟨_,rfl⟩
   rw[hw10]
   have hk:Keep Never w9 w10:=by rw[←hw10];exact(Keep.refl _ _).alloc _
   have B10:=Blk.new w9 30 #[.int .i64 0,.bool bv]
   rw[hw10] at B10
   obtain⟨bst,hbst⟩:∃q,w9.heap.size=q:=⟨_,rfl⟩
   rw[hbst] at B10 ⊢
   have HA10:=qh (HA9.out.never hk)
   have HT10:=qkb HT9 hk
   have HM10:=qkb HM9 hk
   have HO10:=qko HO9 hk
   have HK10:=qh (HK9.out.then_ hk (fun _ _ h=>False.elim h))
   have HS10:=qh B10
   have HBs:Hid (w.heap.size≤bst):=qh (by rw[←hbst];exact HK9.out.size)
   have HNs:Hid (∀q,InRow Aw q→q≠bst):=qh (fun q h e=>by have:=(HO9.out.row h).2;omega)
   clear hk B10 hw10 hbst hbv
   have hw:=HO1.out w10 v 5 HA10.out
   rw[HXx5.out] at hw
   go_wp2_with fail
   refine hw.mono ?_
   rintro en w11 ⟨rfl,hr,hk⟩
   have HA11:=qh hr
   have HT11:=qh (HT10.out.keep hk (HA10.out.not HT10.out (by decide)))
   have HM11:=qh (HM10.out.keep hk (HA10.out.not HM10.out (by decide)))
   have HS11:=qh (HS10.out.keep hk (HA10.out.not HS10.out (by decide)))
   have HO11:=qh (HO10.out.keep hk (fun q h1 h2=>HA10.out.row HO10.out (by decide) q h1 h2))
   have HK11:=qh (HK10.out.then_ hk (fun i hi h=>by have h2:i=w.heap.size+1:=h;omega))
   clear hr hk hw
   have hw:=HO1.out w11 v 6 HA11.out
   rw[HXx6.out] at hw
   go_wp2_with fail
   refine hw.mono ?_
   rintro en w12 ⟨rfl,hr,hk⟩
   have HA12:=qh hr
   have HT12:=qh (HT11.out.keep hk (HA11.out.not HT11.out (by decide)))
   have HM12:=qh (HM11.out.keep hk (HA11.out.not HM11.out (by decide)))
   have HS12:=qh (HS11.out.keep hk (HA11.out.not HS11.out (by decide)))
   have HO12:=qh (HO11.out.keep hk (fun q h1 h2=>HA11.out.row HO11.out (by decide) q h1 h2))
   have HK12:=qh (HK11.out.then_ hk (fun i hi h=>by have h2:i=w.heap.size+1:=h;omega))
   clear hr hk hw
   by_cases g0:i=0
   ·subst g0
    have hmy1:=HIr.out.few.2
    have hx7:=HZx7.out
    have hi0:=HI.out
    have hwm:wrap64 (my+x7)=my+x7:=by have h2:IntKind.i64.wrap (my+x7)=my+x7:=IntWalk.i64_in _ (by omega);rwa [IntWalk.i64_left] at h2
    have hwm2:IntKind.i64.wrap (my+x7)=my+x7:=IntWalk.i64_in _ (by omega)
    have HMy:Hid (myN 0 my v=my+x7):=qh (by unfold myN;rw[if_pos rfl,HXx7.out])
    have HVn:Hid (vN 0 v=v.drop 8):=qh rfl
    have HMs:Hid ((my+x7 - 1).toNat<9000000000):=qh (by omega)
    clear hmy1 hx7 hi0
    have hw:=HO1.out w12 v 7 HA12.out
    rw[HXx7.out] at hw
    go_wp2_with fail
    refine hw.mono ?_
    rintro en w13 ⟨rfl,hr,hk⟩
    have HA13:=qh hr
    have HT13:=qh (HT12.out.keep hk (HA12.out.not HT12.out (by decide)))
    have HM13:=qh (HM12.out.keep hk (HA12.out.not HM12.out (by decide)))
    have HS13:=qh (HS12.out.keep hk (HA12.out.not HS12.out (by decide)))
    have HO13:=qh (HO12.out.keep hk (fun q h1 h2=>HA12.out.row HO12.out (by decide) q h1 h2))
    have HK13:=qh (HK12.out.then_ hk (fun i hi h=>by have h2:i=w.heap.size+1:=h;omega))
    clear hr hk hw
    go_upto_region 18 with(fail)
    (try rw[hwm])
    obtain⟨my2,hmy2⟩:∃z,my+x7=z:=⟨_,rfl⟩
    rw[hmy2] at HMy HMs
    (try rw[hmy2])
    clear hmy2 hwm hwm2
    have hw:=HBa.out w13 HK13.out id
    unfold BalRet at hw
    obtain⟨ob,hob⟩:∃z,balM t.2.2.1 id=z:=⟨_,rfl⟩
    rw[hob] at hw
    have HC:=qh hw
    have HOb:=qh hob
    clear hw hob
    obtain⟨y0,y1,y2,y3⟩:=bc4 HT13.out
    go_wp2_with fail
    refine HC.out.mono ?_
    rintro en w20 ⟨rfl,hk⟩
    have HA20:=qh (HA13.out.never hk)
    have HT20:=qkb HT13 hk
    have HM20:=qkb HM13 hk
    have HS20:=qkb HS13 hk
    have HO20:=qko HO13 hk
    have HK20:=qh (HK13.out.then_ hk (fun _ _ h=>False.elim h))
    clear hk HC y0 y1 y2 y3
    cases ob with
    | none=>
     simp only[Option.getD,Option.isSome]
     have HF:Hid (res=.error 4):=qh (HIr.out.err HI.out HG1.out (step_none (by rw[HId.out];exact HOb.out)))
     have HKz:=qh (HK20.out.alloc (.cells #[.int .i64 0,.int .i64 0,.int .i64 0] 94))
     have HMz:=qh (HM20.out.alloc (.cells #[.int .i64 0,.int .i64 0,.int .i64 0] 94))
     go_wp2_with fail
     go_ret
     refine⟨HKz.out,?_⟩
     rw[HF.out]
     exact⟨by decide,rfl,_,_,_,HMz.out⟩
    | some b=>
     simp only[Option.getD,Option.isSome]
     obtain⟨b1,b2,b3⟩:=b
     obtain⟨w21,hw21⟩:∃V:World,w20.alloc (.cells #[.int .i64 b1,.int .i64 b2,.int .i64 b3] 94)=V:=⟨_,rfl⟩
     have hk:Keep Never w20 w21:=by rw[←hw21];exact(Keep.refl _ _).alloc _
     have B21:=Blk.new w20 94 #[.int .i64 b1,.int .i64 b2,.int .i64 b3]
     rw[hw21] at B21
     obtain⟨bb,hbb⟩:∃q,w20.heap.size=q:=⟨_,rfl⟩
     rw[hbb] at B21
     have HA21:=qh (HA20.out.never hk)
     have HT21:=qkb HT20 hk
     have HM21:=qkb HM20 hk
     have HS21:=qkb HS20 hk
     have HO21:=qko HO20 hk
     have HK21:=qh (HK20.out.then_ hk (fun _ _ h=>False.elim h))
     have HD21:=qh B21
     clear hk B21
     have hl:path≠[]:=HIr.out.ne
     obtain⟨q,hq⟩:∃q,nw=q+1:=⟨nw - 1,by have h1:=HNr.out;have h2:=List.length_pos_iff.2 hl;omega⟩
     subst hq
     obtain⟨ad,last,hA,_,hlt,f5,f6⟩:=HO21.out.rd.stp (show q<q+1 by omega)
     subst hA
     have HLa:Hid (path.getLast?=some last):=qh (by rw[List.getLast?_eq_getElem?,←HNr.out];exact hlt)
     have HSt:=qh (step_some (by rw[HId.out];exact HOb.out) HLa.out)
     obtain⟨l1,l2⟩:=last
     simp only at f5 f6 HSt
     rw[HBv.out] at HSt
     have m2:w21.cell? ⟨bm,2,none⟩=some (.slice (some ad) (q+1) cw):=HM21.out.cell 2
     have hmw:IntKind.i64.wrap ((q:Int)+1 - 1)=(q:Int):=by rw[show (q:Int)+1 - 1=(q:Int) by omega];exact IntWalk.i64_in _ (by omega)
     have hmw3:IntKind.i64.wrap (q:Int)=(q:Int):=IntWalk.i64_in _ (by omega)
     have hmz:(q:Int)<(q:Int)+1:=by omega
     have hmq:(0:Int)≤(q:Int)+1:=by omega
     have hmt:((q:Int)+1).toNat=q+1:=by omega
     have hm0:(0:Int)≤(q:Int):=by omega
     have d1:w21.cell? ⟨bb,1,none⟩=some (.int .i64 b2):=HD21.out.cell 1
     have m2a:=fun o=>keepT ((Keep.refl Never w21).alloc o) m2
     have f5a:=fun o=>keepT ((Keep.refl Never w21).alloc o) f5
     have f6a:=fun o=>keepT ((Keep.refl Never w21).alloc o) f6
     clear hl hlt
     go_upto_region 21 with(fail)
     go_cut [14] (fun s14 wc=>∃bl,s14=.pointer (some ⟨bl,0,none⟩)∧Hid (Keep Never w21 wc∧Blk wc bl 30 #[.int .i64 l1,.bool l2]∧w21.heap.size≤bl))
     case first=>
      go_region_law (fail)
      all_goals
       go_wp2_with fail
       go_meet
       refine⟨_,rfl,qh ⟨?_,?_,?_⟩⟩
       ·first
          | exact((Keep.refl _ _).drew).alloc _
          | exact((Keep.refl _ _).alloc _).drew
          | exact(Keep.refl _ _).alloc _
       ·exact Blk.new _ _ _
       ·first
          | exact Nat.le_refl _
          | exact(Keep.refl Never w21).drew.size
     case rest=>
     obtain⟨bl,rfl,hR⟩:=hcut
     rename World=>w22
     have hk:=hR.out.1
     clear f5 f6 m2 f5a f6a m2a hmw hmw3 hmz hmq hmt hm0 d1
     have HA22:=qh (HA21.out.never hk)
     have HT22:=qkb HT21 hk
     have HM22:=qkb HM21 hk
     have HS22:=qkb HS21 hk
     have HD22:=qkb HD21 hk
     have HO22:=qko HO21 hk
     have HK22:=qh (HK21.out.then_ hk (fun _ _ h=>False.elim h))
     have HL22:=qh hR.out.2.1
     have HBl:Hid (w.heap.size≤bl∧bl≠bst):=qh ⟨Nat.le_trans HK21.out.size hR.out.2.2,by have h1:=HS21.out.lt;have h2:=hR.out.2.2;omega⟩
     clear hk hR
     have l0:w22.cell? ⟨bl,0,none⟩=some (.int .i64 l1):=HL22.out.cell 0
     have d1:w22.cell? ⟨bb,1,none⟩=some (.int .i64 b2):=HD22.out.cell 1
     by_cases g2:b2=l1
     ·have t2:(b2==l1)=true:=by simpa using g2
      have HEq:Hid (stepL t path v=.ok path):=qh (by rw[HSt.out,if_pos g2])
      clear g2
      have HNx0:=HIr.out.next HI.out HG1.out (P:=path) HEq.out HIr.out.ne HIr.out.p24 HIr.out.in_
      rw[HMy.out] at HNx0
      have HNx:=qh HNx0
      have HRx:=HA22.out
      rw[←HVn.out] at HRx
      have HRy:=qh HRx
      clear HNx0 HRx
      go_wp2_with fail
      refine⟨⟨_,my2,_,path,(some ad),(q+1),cw,rfl,by go_num,by omega,qh ⟨HNx.out,by rw[List.drop_zero];exact HRy.out,HT22.out,HM22.out,HNr.out,HO22.out,HK22.out,HWr.out⟩⟩,?_⟩
      simp[intOf];have:=HMs.out;omega
     have t2:(b2==l1)=false:=by simpa using g2
     have HNq:=qh g2
     have s0:w22.cell? ⟨bst,0,none⟩=some (.int .i64 0):=HS22.out.cell 0
     have sf0:=HS22.out.frozen 0
     clear g2
     go_upto_region 24 with(fail)
     obtain⟨w23,hw23⟩:∃V:World,w22.setCell ⟨bst,0,none⟩ (.int .i64 b2)=V:=⟨_,rfl⟩
     rw[hw23]
     have hk:Keep (fun z=>z=bst) w22 w23:=by rw[←hw23];exact put1_keep _
     have HA23:=qh (HA22.out.keep hk (fun k (h:k=bst)=>by rw[h];exact⟨by have:=HBs.out;have:=HBm.out;omega,HA22.out.not HS22.out (by decide)⟩))
     have HT23:=qh (HT22.out.keep hk (fun (h:_=bst)=>HT22.out.ne_ HS22.out (by decide) h))
     have HM23:=qh (HM22.out.keep hk (fun (h:_=bst)=>HM22.out.ne_ HS22.out (by decide) h))
     have HL23:=qh (HL22.out.keep hk (fun (h:_=bst)=>HBl.out.2 h))
     have HS23:Hid (Blk w23 bst 30 #[.int .i64 b2,.bool bv]):=qh (by rw[←hw23];have:=HS22.out.set_ 0 (.int .i64 b2);simpa using this)
     have HO23:=qh (HO22.out.keep hk (fun z h1 (h2:z=bst)=>HNs.out z h1 h2))
     have HK23:=qh (HK22.out.then_ hk (fun z hz (h:z=bst)=>by have:=HBs.out;omega))
     clear hk hw23 s0 sf0 l0 d1
     obtain⟨y0,y1,y2,y3⟩:=bc4 HT23.out
     obtain⟨l0,l1f⟩:=bc2 HL23.out
     obtain⟨s0,s1⟩:=bc2 HS23.out
     have HS2:Hid (∀W',Keep Never w23 W'→Keep Never w23 W'∧W'.cell? ⟨w.heap.size,0,none⟩=some (.slice Ae ne ce)∧W'.cell? ⟨w.heap.size,1,none⟩=some (.slice Aj nj cj)∧W'.cell? ⟨w.heap.size,2,none⟩=some (.slice Ab nb cb)∧W'.cell? ⟨w.heap.size,3,none⟩=some (.slice Ar nr cr)∧W'.cell? ⟨bl,0,none⟩=some (.int .i64 l1)∧W'.cell? ⟨bl,1,none⟩=some (.bool l2)∧W'.cell? ⟨bst,0,none⟩=some (.int .i64 b2)∧W'.cell? ⟨bst,1,none⟩=some (.bool bv)):=qh (fun W' h=>⟨h,keepT h y0,keepT h y1,keepT h y2,keepT h y3,keepT h l0,keepT h l1f,keepT h s0,keepT h s1⟩)
     have HLa2:=qh (fun (n7:Nat) (h:n7=(afterM t (l1,l2)).length)=>(show n7≤1000000000 by have h2:=after_len t (l1,l2);have h3:=HNe.out;omega))
     clear y0 y1 y2 y3 l0 l1f s0 s1
     go_region_held3 (fun W'=>Keep Never w23 W'∧W'.cell? ⟨w.heap.size,0,none⟩=some (.slice Ae ne ce)∧W'.cell? ⟨w.heap.size,1,none⟩=some (.slice Aj nj cj)∧W'.cell? ⟨w.heap.size,2,none⟩=some (.slice Ab nb cb)∧W'.cell? ⟨w.heap.size,3,none⟩=some (.slice Ar nr cr)∧W'.cell? ⟨bl,0,none⟩=some (.int .i64 l1)∧W'.cell? ⟨bl,1,none⟩=some (.bool l2)∧W'.cell? ⟨bst,0,none⟩=some (.int .i64 b2)∧W'.cell? ⟨bst,1,none⟩=some (.bool bv))
       (first| assumption | exact HS2.out _ ((Keep.refl Never w23).drew) | exact HS2.out _ (Keep.trans (And.left (by assumption)) hk3) | exact HS2.out _ (Keep.trans ((Keep.refl Never w23).drew) hk3))
       (first
         | (go_at_call 30; refine(HAf.out _ (HK23.out.then_ (by first | exact And.left (by assumption) | exact(Keep.refl Never w23).drew | exact Keep.refl Never w23) (fun _ _ h=>False.elim h)) (l1,l2)).mono ?_;rintro e w30 ⟨A7,n7,c7,rfl,hn7,ho7,hk3⟩;have HR7:=qh ho7.rd;have HN7:=qh (HLa2.out n7 hn7.out);clear ho7 hn7)
         | (go_at_call 43; refine(scontains_any A7 n7 c7 _ _ (b2,bv) _ HR7.out HN7.out).mono ?_;rintro e w31 ⟨rfl,hk3⟩))
     rename_i hS
     have hk:=hS.1
     have HA31:=qh (HA23.out.never hk)
     have HT31:=qkb HT23 hk
     have HM31:=qkb HM23 hk
     have HS31:=qkb HS23 hk
     have HO31:=qko HO23 hk
     have HK31:=qh (HK23.out.then_ hk (fun _ _ h=>False.elim h))
     clear hS hk HS2 hk3
     rw[show decide (((b2,bv):Stp)∈afterM t (l1,l2))=(afterM t (l1,l2)).contains (b2,bv) from by rw[List.contains_eq_mem]]
     obtain⟨ca,hca⟩:∃z,(afterM t (l1,l2)).contains (b2,bv)=z:=⟨_,rfl⟩
     rw[hca] at HSt ⊢
     clear hca
     cases ca with
     | false=>
      have HF:Hid (res=.error 141):=qh (HIr.out.err HI.out HG1.out (by rw[HSt.out,if_neg HNq.out,if_pos rfl]))
      go_wp2_with fail
      go_ret
      refine⟨HK31.out,?_⟩
      rw[HF.out]
      exact⟨by decide,rfl,_,_,_,HM31.out⟩
     | true=>
      have HSt2:Hid (stepL t path v=if overB path b2=true∨path.length=24 then .error 2 else .ok (path++[(b2,bv)])):=qh (by rw[HSt.out,if_neg HNq.out,if_neg (by simp)])
      clear HSt
      have m2:w31.cell? ⟨bm,2,none⟩=some (.slice (some ad) (q+1) cw):=HM31.out.cell 2
      have s0:w31.cell? ⟨bst,0,none⟩=some (.int .i64 b2):=HS31.out.cell 0
      have HS2:Hid (∀W',Keep Never w31 W'→Keep Never w31 W'∧W'.cell? ⟨bm,2,none⟩=some (.slice (some ad) (q+1) cw)∧W'.cell? ⟨bst,0,none⟩=some (.int .i64 b2)):=qh (fun W' h=>⟨h,keepT h m2,keepT h s0⟩)
      have HRp:=qh (fun V (h:Keep Never w31 V)=>HO31.out.rd.keep h (fun _ h=>h.elim))
      obtain⟨ov,hov⟩:∃z,overB path b2=z:=⟨_,rfl⟩
      have HOv:=qh (fun V (h:Keep Never w31 V)=>pover17_any (some ad) (q+1) cw _ path b2 V (HRp.out V h) (by omega))
      rw[hov] at HOv HSt2
      go_upto_region 26 with(fail)
      clear m2 s0 hov
      go_region_held3 (fun W'=>Keep Never w31 W'∧W'.cell? ⟨bm,2,none⟩=some (.slice (some ad) (q+1) cw)∧W'.cell? ⟨bst,0,none⟩=some (.int .i64 b2))
        (first| assumption | exact HS2.out _ ((Keep.refl Never w31).drew) | exact HS2.out _ (Keep.trans (And.left (by assumption)) hk3) | exact HS2.out _ (Keep.trans ((Keep.refl Never w31).drew) hk3))
        (first
          | (go_at_call 46; refine(HOv.out _ (by first | exact And.left (by assumption) | exact(Keep.refl Never w31).drew | exact Keep.refl Never w31)).mono ?_;rintro e w32 ⟨rfl,hk3⟩))
      rename_i hS
      have hk:=hS.1
      have HA33:=qh (HA31.out.never hk)
      have HT33:=qkb HT31 hk
      have HM33:=qkb HM31 hk
      have HS33:=qkb HS31 hk
      have HO33:=qko HO31 hk
      have HK33:=qh (HK31.out.then_ hk (fun _ _ h=>False.elim h))
      clear hS hk HS2 hk3
      cases ov with
      | true=>
       have HF:Hid (res=.error 2):=qh (HIr.out.err HI.out HG1.out (by rw[HSt2.out,if_pos (.inl rfl)]))
       go_wp2_with fail
       go_ret
       refine⟨HK33.out,?_⟩
       rw[HF.out]
       exact⟨by decide,rfl,_,_,_,HM33.out⟩
      | false=>
       rename World=>w33
       have m2:w33.cell? ⟨bm,2,none⟩=some (.slice (some ad) (q+1) cw):=HM33.out.cell 2
       by_cases g5:q+1=24
       case pos=>
        have u1:((q:Int)+1==24)=true:=by simp;omega
        have u2:(((q+1:Nat):Int)==24)=true:=by simp;omega
        have HF:Hid (res=.error 2):=qh (HIr.out.err HI.out HG1.out (by rw[HSt2.out,if_pos (.inr (by rw[←HNr.out];exact g5))]))
        clear g5
        go_wp2_with fail
        go_ret
        refine⟨HK33.out,?_⟩
        rw[HF.out]
        exact⟨by decide,rfl,_,_,_,HM33.out⟩
       have u1:((q:Int)+1==24)=false:=by simp;omega
       have u2:(((q+1:Nat):Int)==24)=false:=by simp;omega
       have HEq:Hid (stepL t path v=.ok (path++[(b2,bv)])):=qh (by rw[HSt2.out,if_neg (by rintro(h | h);exact absurd h (by decide);exact g5 (by rw[HNr.out];exact h))])
       have hq24:q+2≤24:=by omega
       have HB2:Hid (in64 ((b2,bv):Stp)):=qh (in64_there (check_bal HCk.out (bal_mem HOb.out).1).2.2.1 HNe.out)
       clear g5
       obtain⟨s0,s1⟩:=bc2 HS33.out
       have m2a:=fun o=>keepT ((Keep.refl Never w33).alloc o) m2
       have hz33:w.heap.size≤w33.heap.size:=HK33.out.size
       have hb33:base≤w33.heap.size:=by have:=HBm.out;omega
       go_upto_region 29 with(fail)
       go_region_law (refine step_app _ rfl (.tmp 106) (.tmp 108) _ rfl elemStp (base) (A:=(some ad)) (n:=(q+1)) (c:=cw) (by go_simp) (HO33.out.alloc _) _ (A':=some ⟨_,0,none⟩) (m:=1) (c':=1) (news:=[.int .i64 b2,.bool bv]) (by go_simp) (Rd.of_blk (n:=1) (cs:=[.int .i64 b2,.bool bv]) (Blk.new _ _ _) rfl) (by simp[Value.oneCell']) (by omega) (by unfold maxLen;omega) (by simp;omega) ?_;intro A16 c16 w16 hown hk hrow;have hk16:Keep (InRow (some ad)) w33 w16:=(by first | exact(((Keep.refl (InRow (some ad)) w33).alloc _).drew).trans hk | exact(((Keep.refl (InRow (some ad)) w33).drew).alloc _).trans hk | exact((Keep.refl (InRow (some ad)) w33).alloc _).trans hk);have HO16:=qh hown;have HA16:=qh (HA33.out.keep hk16 (fun k h=>⟨by have h1:=(HO33.out.row h).1;have:=HBm.out;omega,HA33.out.row HO33.out (by decide) k h⟩));have HT16:=qh (HT33.out.keep hk16 (fun hi=>HO33.out.ne_blk HT33.out (by decide) _ hi rfl));have HM16:=qh (HM33.out.keep hk16 (fun hi=>HO33.out.ne_blk HM33.out (by decide) _ hi rfl));have HK16:=qh (HK33.out.then_ hk16 (fun k hk hi=>by rcases HWr.out k hi with h | h;exact .inr h;omega));have HWx:Hid (∀k,InRow A16 k→InRow Ap k∨w.heap.size≤k):=qh (fun k h=>by rcases hrow.out k h with h | h;exact HWr.out k h;right;rw[h];first | exact Nat.le_trans hz33 (Keep.size ((Keep.refl Never w33).alloc _)) | exact Nat.le_trans hz33 (Keep.size (((Keep.refl Never w33).alloc _).drew)) | exact Nat.le_trans hz33 (Keep.size (((Keep.refl Never w33).drew).alloc _)));have m2:w16.cell? ⟨bm,2,none⟩=some (.slice (some ad) (q+1) cw):=HM16.out.cell 2;have mf2:=HM16.out.frozen 2;clear hk16;clear hown hk hrow)
       all_goals
        obtain⟨w40,hw40⟩:∃V:World,w16.setCell ⟨bm,2,none⟩ (.slice A16 (q+1+1) c16)=V:=⟨_,rfl⟩
        have hk17:Keep (fun z=>z=bm) w16 w40:=by rw[←hw40];exact put1_keep _
        have HA40:=qh (HA16.out.keep hk17 (fun k (h:k=bm)=>by rw[h];exact⟨HBm.out.1,HA16.out.not HM16.out (by decide)⟩))
        have HT40:=qh (HT16.out.keep hk17 (fun h=>HT16.out.ne_ HM16.out (by decide) h))
        have HM40:Hid (Blk w40 bm 38 #[v0,v1,.slice A16 (q+1+1) c16,v3,v4]):=qh (by rw[←hw40];have:=HM16.out.set_ 2 (.slice A16 (q+1+1) c16);simpa using this)
        have HO40:Hid (Own w40 base 30 2 A16 (q+1+1) c16 (stpCells (path++[(b2,bv)]))):=qh (by rw[←hw40,stpCells_app];exact HO16.out.far (HO16.out.ne_blk HM16.out (by decide)) _)
        have HK40:=qh (HK16.out.then_ hk17 (fun _ _ h=>.inl h))
        (try rw[hw40])
        clear hk17 m2 m2a s0 s1 hz33 hb33
        have HNx0:=HIr.out.next HI.out HG1.out (P:=(path++[(b2,bv)])) HEq.out (by simp) (by have h1:=HNr.out;simp;omega) (fun s hs=>by rcases List.mem_append.1 hs with h | h;exact HIr.out.in_ s h;simp at h;subst h;exact HB2.out)
        rw[HMy.out] at HNx0
        have HNx:=qh HNx0
        have HRx:=HA40.out
        rw[←HVn.out] at HRx
        have HRy:=qh HRx
        clear HNx0 HRx
        go_wp2_with fail
        (try rw[hw40])
        refine⟨⟨_,my2,_,(path++[(b2,bv)]),A16,(q+1+1),c16,rfl,by go_num,by omega,qh ⟨HNx.out,by rw[List.drop_zero];exact HRy.out,HT40.out,HM40.out,(by have h1:=HNr.out;simp;omega),HO40.out,HK40.out,HWx.out⟩⟩,?_⟩
        simp[intOf];have:=HMs.out;omega
   ·have ti:((i:Int)==0)=false:=by simp;omega
    have HMy:Hid (myN i my v=my):=qh (by unfold myN;rw[if_neg g0])
    have HVn:Hid (vN i v=v.drop 7):=qh (by unfold vN;rw[if_neg g0])
    have HMs:Hid ((if ((i:Int)+1)=0 then 9000000000 else (my - ((i:Int)+1)).toNat)<(if (i:Int)=0 then 9000000000 else (my - (i:Int)).toNat)):=qh (by have:=HI.out;rw[if_neg (by omega),if_neg (by omega)];omega)
    clear g0
    go_upto_region 18 with(fail)
    have hw:=HBa.out w12 HK12.out id
    unfold BalRet at hw
    obtain⟨ob,hob⟩:∃z,balM t.2.2.1 id=z:=⟨_,rfl⟩
    rw[hob] at hw
    have HC:=qh hw
    have HOb:=qh hob
    clear hw hob
    obtain⟨y0,y1,y2,y3⟩:=bc4 HT12.out
    go_wp2_with fail
    refine HC.out.mono ?_
    rintro en w20 ⟨rfl,hk⟩
    have HA20:=qh (HA12.out.never hk)
    have HT20:=qkb HT12 hk
    have HM20:=qkb HM12 hk
    have HS20:=qkb HS12 hk
    have HO20:=qko HO12 hk
    have HK20:=qh (HK12.out.then_ hk (fun _ _ h=>False.elim h))
    clear hk HC y0 y1 y2 y3
    cases ob with
    | none=>
     simp only[Option.getD,Option.isSome]
     have HF:Hid (res=.error 4):=qh (HIr.out.err HI.out HG1.out (step_none (by rw[HId.out];exact HOb.out)))
     have HKz:=qh (HK20.out.alloc (.cells #[.int .i64 0,.int .i64 0,.int .i64 0] 94))
     have HMz:=qh (HM20.out.alloc (.cells #[.int .i64 0,.int .i64 0,.int .i64 0] 94))
     go_wp2_with fail
     go_ret
     refine⟨HKz.out,?_⟩
     rw[HF.out]
     exact⟨by decide,rfl,_,_,_,HMz.out⟩
    | some b=>
     simp only[Option.getD,Option.isSome]
     obtain⟨b1,b2,b3⟩:=b
     obtain⟨w21,hw21⟩:∃V:World,w20.alloc (.cells #[.int .i64 b1,.int .i64 b2,.int .i64 b3] 94)=V:=⟨_,rfl⟩
     have hk:Keep Never w20 w21:=by rw[←hw21];exact(Keep.refl _ _).alloc _
     have B21:=Blk.new w20 94 #[.int .i64 b1,.int .i64 b2,.int .i64 b3]
     rw[hw21] at B21
     obtain⟨bb,hbb⟩:∃q,w20.heap.size=q:=⟨_,rfl⟩
     rw[hbb] at B21
     have HA21:=qh (HA20.out.never hk)
     have HT21:=qkb HT20 hk
     have HM21:=qkb HM20 hk
     have HS21:=qkb HS20 hk
     have HO21:=qko HO20 hk
     have HK21:=qh (HK20.out.then_ hk (fun _ _ h=>False.elim h))
     have HD21:=qh B21
     clear hk B21
     have hl:path≠[]:=HIr.out.ne
     obtain⟨q,hq⟩:∃q,nw=q+1:=⟨nw - 1,by have h1:=HNr.out;have h2:=List.length_pos_iff.2 hl;omega⟩
     subst hq
     obtain⟨ad,last,hA,_,hlt,f5,f6⟩:=HO21.out.rd.stp (show q<q+1 by omega)
     subst hA
     have HLa:Hid (path.getLast?=some last):=qh (by rw[List.getLast?_eq_getElem?,←HNr.out];exact hlt)
     have HSt:=qh (step_some (by rw[HId.out];exact HOb.out) HLa.out)
     obtain⟨l1,l2⟩:=last
     simp only at f5 f6 HSt
     rw[HBv.out] at HSt
     have m2:w21.cell? ⟨bm,2,none⟩=some (.slice (some ad) (q+1) cw):=HM21.out.cell 2
     have hmw:IntKind.i64.wrap ((q:Int)+1 - 1)=(q:Int):=by rw[show (q:Int)+1 - 1=(q:Int) by omega];exact IntWalk.i64_in _ (by omega)
     have hmw3:IntKind.i64.wrap (q:Int)=(q:Int):=IntWalk.i64_in _ (by omega)
     have hmz:(q:Int)<(q:Int)+1:=by omega
     have hmq:(0:Int)≤(q:Int)+1:=by omega
     have hmt:((q:Int)+1).toNat=q+1:=by omega
     have hm0:(0:Int)≤(q:Int):=by omega
     have d1:w21.cell? ⟨bb,1,none⟩=some (.int .i64 b2):=HD21.out.cell 1
     have m2a:=fun o=>keepT ((Keep.refl Never w21).alloc o) m2
     have f5a:=fun o=>keepT ((Keep.refl Never w21).alloc o) f5
     have f6a:=fun o=>keepT ((Keep.refl Never w21).alloc o) f6
     clear hl hlt
     go_upto_region 21 with(fail)
     go_cut [14] (fun s14 wc=>∃bl,s14=.pointer (some ⟨bl,0,none⟩)∧Hid (Keep Never w21 wc∧Blk wc bl 30 #[.int .i64 l1,.bool l2]∧w21.heap.size≤bl))
     case first=>
      go_region_law (fail)
      all_goals
       go_wp2_with fail
       go_meet
       refine⟨_,rfl,qh ⟨?_,?_,?_⟩⟩
       ·first
          | exact((Keep.refl _ _).drew).alloc _
          | exact((Keep.refl _ _).alloc _).drew
          | exact(Keep.refl _ _).alloc _
       ·exact Blk.new _ _ _
       ·first
          | exact Nat.le_refl _
          | exact(Keep.refl Never w21).drew.size
     case rest=>
     obtain⟨bl,rfl,hR⟩:=hcut
     rename World=>w22
     have hk:=hR.out.1
     clear f5 f6 m2 f5a f6a m2a hmw hmw3 hmz hmq hmt hm0 d1
     have HA22:=qh (HA21.out.never hk)
     have HT22:=qkb HT21 hk
     have HM22:=qkb HM21 hk
     have HS22:=qkb HS21 hk
     have HD22:=qkb HD21 hk
     have HO22:=qko HO21 hk
     have HK22:=qh (HK21.out.then_ hk (fun _ _ h=>False.elim h))
     have HL22:=qh hR.out.2.1
     have HBl:Hid (w.heap.size≤bl∧bl≠bst):=qh ⟨Nat.le_trans HK21.out.size hR.out.2.2,by have h1:=HS21.out.lt;have h2:=hR.out.2.2;omega⟩
     clear hk hR
     have l0:w22.cell? ⟨bl,0,none⟩=some (.int .i64 l1):=HL22.out.cell 0
     have d1:w22.cell? ⟨bb,1,none⟩=some (.int .i64 b2):=HD22.out.cell 1
     by_cases g2:b2=l1
     ·have t2:(b2==l1)=true:=by simpa using g2
      have HEq:Hid (stepL t path v=.ok path):=qh (by rw[HSt.out,if_pos g2])
      clear g2
      have HNx0:=HIr.out.next HI.out HG1.out (P:=path) HEq.out HIr.out.ne HIr.out.p24 HIr.out.in_
      rw[HMy.out] at HNx0
      have HNx:=qh HNx0
      have HRx:=HA22.out
      rw[←HVn.out] at HRx
      have HRy:=qh HRx
      clear HNx0 HRx
      have hwi:wrap64 ((i:Int)+1)=((i+1:Nat):Int):=by have h1:=HIr.out.few;have h3:=HI.out;have h2:IntKind.i64.wrap ((i:Int)+1)=(i:Int)+1:=IntWalk.i64_in _ (by omega);rw[IntWalk.i64_left] at h2;rw[h2];push_cast;rfl
      have hwi2:IntKind.i64.wrap ((i:Int)+1)=((i+1:Nat):Int):=by have h1:=HIr.out.few;have h3:=HI.out;rw[show IntKind.i64.wrap ((i:Int)+1)=(i:Int)+1 from IntWalk.i64_in _ (by omega)];push_cast;rfl
      go_wp2_with fail
      clear hwi hwi2
      refine⟨⟨_,my,_,path,(some ad),(q+1),cw,rfl,by go_num,by omega,qh ⟨HNx.out,by rw[List.drop_zero];exact HRy.out,HT22.out,HM22.out,HNr.out,HO22.out,HK22.out,HWr.out⟩⟩,?_⟩
      exact HMs.out
     have t2:(b2==l1)=false:=by simpa using g2
     have HNq:=qh g2
     have s0:w22.cell? ⟨bst,0,none⟩=some (.int .i64 0):=HS22.out.cell 0
     have sf0:=HS22.out.frozen 0
     clear g2
     go_upto_region 24 with(fail)
     obtain⟨w23,hw23⟩:∃V:World,w22.setCell ⟨bst,0,none⟩ (.int .i64 b2)=V:=⟨_,rfl⟩
     rw[hw23]
     have hk:Keep (fun z=>z=bst) w22 w23:=by rw[←hw23];exact put1_keep _
     have HA23:=qh (HA22.out.keep hk (fun k (h:k=bst)=>by rw[h];exact⟨by have:=HBs.out;have:=HBm.out;omega,HA22.out.not HS22.out (by decide)⟩))
     have HT23:=qh (HT22.out.keep hk (fun (h:_=bst)=>HT22.out.ne_ HS22.out (by decide) h))
     have HM23:=qh (HM22.out.keep hk (fun (h:_=bst)=>HM22.out.ne_ HS22.out (by decide) h))
     have HL23:=qh (HL22.out.keep hk (fun (h:_=bst)=>HBl.out.2 h))
     have HS23:Hid (Blk w23 bst 30 #[.int .i64 b2,.bool bv]):=qh (by rw[←hw23];have:=HS22.out.set_ 0 (.int .i64 b2);simpa using this)
     have HO23:=qh (HO22.out.keep hk (fun z h1 (h2:z=bst)=>HNs.out z h1 h2))
     have HK23:=qh (HK22.out.then_ hk (fun z hz (h:z=bst)=>by have:=HBs.out;omega))
     clear hk hw23 s0 sf0 l0 d1
     obtain⟨y0,y1,y2,y3⟩:=bc4 HT23.out
     obtain⟨l0,l1f⟩:=bc2 HL23.out
     obtain⟨s0,s1⟩:=bc2 HS23.out
     have HS2:Hid (∀W',Keep Never w23 W'→Keep Never w23 W'∧W'.cell? ⟨w.heap.size,0,none⟩=some (.slice Ae ne ce)∧W'.cell? ⟨w.heap.size,1,none⟩=some (.slice Aj nj cj)∧W'.cell? ⟨w.heap.size,2,none⟩=some (.slice Ab nb cb)∧W'.cell? ⟨w.heap.size,3,none⟩=some (.slice Ar nr cr)∧W'.cell? ⟨bl,0,none⟩=some (.int .i64 l1)∧W'.cell? ⟨bl,1,none⟩=some (.bool l2)∧W'.cell? ⟨bst,0,none⟩=some (.int .i64 b2)∧W'.cell? ⟨bst,1,none⟩=some (.bool bv)):=qh (fun W' h=>⟨h,keepT h y0,keepT h y1,keepT h y2,keepT h y3,keepT h l0,keepT h l1f,keepT h s0,keepT h s1⟩)
     have HLa2:=qh (fun (n7:Nat) (h:n7=(afterM t (l1,l2)).length)=>(show n7≤1000000000 by have h2:=after_len t (l1,l2);have h3:=HNe.out;omega))
     clear y0 y1 y2 y3 l0 l1f s0 s1
     go_region_held3 (fun W'=>Keep Never w23 W'∧W'.cell? ⟨w.heap.size,0,none⟩=some (.slice Ae ne ce)∧W'.cell? ⟨w.heap.size,1,none⟩=some (.slice Aj nj cj)∧W'.cell? ⟨w.heap.size,2,none⟩=some (.slice Ab nb cb)∧W'.cell? ⟨w.heap.size,3,none⟩=some (.slice Ar nr cr)∧W'.cell? ⟨bl,0,none⟩=some (.int .i64 l1)∧W'.cell? ⟨bl,1,none⟩=some (.bool l2)∧W'.cell? ⟨bst,0,none⟩=some (.int .i64 b2)∧W'.cell? ⟨bst,1,none⟩=some (.bool bv))
       (first| assumption | exact HS2.out _ ((Keep.refl Never w23).drew) | exact HS2.out _ (Keep.trans (And.left (by assumption)) hk3) | exact HS2.out _ (Keep.trans ((Keep.refl Never w23).drew) hk3))
       (first
         | (go_at_call 30; refine(HAf.out _ (HK23.out.then_ (by first | exact And.left (by assumption) | exact(Keep.refl Never w23).drew | exact Keep.refl Never w23) (fun _ _ h=>False.elim h)) (l1,l2)).mono ?_;rintro e w30 ⟨A7,n7,c7,rfl,hn7,ho7,hk3⟩;have HR7:=qh ho7.rd;have HN7:=qh (HLa2.out n7 hn7.out);clear ho7 hn7)
         | (go_at_call 43; refine(scontains_any A7 n7 c7 _ _ (b2,bv) _ HR7.out HN7.out).mono ?_;rintro e w31 ⟨rfl,hk3⟩))
     rename_i hS
     have hk:=hS.1
     have HA31:=qh (HA23.out.never hk)
     have HT31:=qkb HT23 hk
     have HM31:=qkb HM23 hk
     have HS31:=qkb HS23 hk
     have HO31:=qko HO23 hk
     have HK31:=qh (HK23.out.then_ hk (fun _ _ h=>False.elim h))
     clear hS hk HS2 hk3
     rw[show decide (((b2,bv):Stp)∈afterM t (l1,l2))=(afterM t (l1,l2)).contains (b2,bv) from by rw[List.contains_eq_mem]]
     obtain⟨ca,hca⟩:∃z,(afterM t (l1,l2)).contains (b2,bv)=z:=⟨_,rfl⟩
     rw[hca] at HSt ⊢
     clear hca
     cases ca with
     | false=>
      have HF:Hid (res=.error 141):=qh (HIr.out.err HI.out HG1.out (by rw[HSt.out,if_neg HNq.out,if_pos rfl]))
      go_wp2_with fail
      go_ret
      refine⟨HK31.out,?_⟩
      rw[HF.out]
      exact⟨by decide,rfl,_,_,_,HM31.out⟩
     | true=>
      have HSt2:Hid (stepL t path v=if overB path b2=true∨path.length=24 then .error 2 else .ok (path++[(b2,bv)])):=qh (by rw[HSt.out,if_neg HNq.out,if_neg (by simp)])
      clear HSt
      have m2:w31.cell? ⟨bm,2,none⟩=some (.slice (some ad) (q+1) cw):=HM31.out.cell 2
      have s0:w31.cell? ⟨bst,0,none⟩=some (.int .i64 b2):=HS31.out.cell 0
      have HS2:Hid (∀W',Keep Never w31 W'→Keep Never w31 W'∧W'.cell? ⟨bm,2,none⟩=some (.slice (some ad) (q+1) cw)∧W'.cell? ⟨bst,0,none⟩=some (.int .i64 b2)):=qh (fun W' h=>⟨h,keepT h m2,keepT h s0⟩)
      have HRp:=qh (fun V (h:Keep Never w31 V)=>HO31.out.rd.keep h (fun _ h=>h.elim))
      obtain⟨ov,hov⟩:∃z,overB path b2=z:=⟨_,rfl⟩
      have HOv:=qh (fun V (h:Keep Never w31 V)=>pover17_any (some ad) (q+1) cw _ path b2 V (HRp.out V h) (by omega))
      rw[hov] at HOv HSt2
      go_upto_region 26 with(fail)
      clear m2 s0 hov
      go_region_held3 (fun W'=>Keep Never w31 W'∧W'.cell? ⟨bm,2,none⟩=some (.slice (some ad) (q+1) cw)∧W'.cell? ⟨bst,0,none⟩=some (.int .i64 b2))
        (first| assumption | exact HS2.out _ ((Keep.refl Never w31).drew) | exact HS2.out _ (Keep.trans (And.left (by assumption)) hk3) | exact HS2.out _ (Keep.trans ((Keep.refl Never w31).drew) hk3))
        (first
          | (go_at_call 46; refine(HOv.out _ (by first | exact And.left (by assumption) | exact(Keep.refl Never w31).drew | exact Keep.refl Never w31)).mono ?_;rintro e w32 ⟨rfl,hk3⟩))
      rename_i hS
      have hk:=hS.1
      have HA33:=qh (HA31.out.never hk)
      have HT33:=qkb HT31 hk
      have HM33:=qkb HM31 hk
      have HS33:=qkb HS31 hk
      have HO33:=qko HO31 hk
      have HK33:=qh (HK31.out.then_ hk (fun _ _ h=>False.elim h))
      clear hS hk HS2 hk3
      cases ov with
      | true=>
       have HF:Hid (res=.error 2):=qh (HIr.out.err HI.out HG1.out (by rw[HSt2.out,if_pos (.inl rfl)]))
       go_wp2_with fail
       go_ret
       refine⟨HK33.out,?_⟩
       rw[HF.out]
       exact⟨by decide,rfl,_,_,_,HM33.out⟩
      | false=>
       rename World=>w33
       have m2:w33.cell? ⟨bm,2,none⟩=some (.slice (some ad) (q+1) cw):=HM33.out.cell 2
       by_cases g5:q+1=24
       case pos=>
        have u1:((q:Int)+1==24)=true:=by simp;omega
        have u2:(((q+1:Nat):Int)==24)=true:=by simp;omega
        have HF:Hid (res=.error 2):=qh (HIr.out.err HI.out HG1.out (by rw[HSt2.out,if_pos (.inr (by rw[←HNr.out];exact g5))]))
        clear g5
        go_wp2_with fail
        go_ret
        refine⟨HK33.out,?_⟩
        rw[HF.out]
        exact⟨by decide,rfl,_,_,_,HM33.out⟩
       have u1:((q:Int)+1==24)=false:=by simp;omega
       have u2:(((q+1:Nat):Int)==24)=false:=by simp;omega
       have HEq:Hid (stepL t path v=.ok (path++[(b2,bv)])):=qh (by rw[HSt2.out,if_neg (by rintro(h | h);exact absurd h (by decide);exact g5 (by rw[HNr.out];exact h))])
       have hq24:q+2≤24:=by omega
       have HB2:Hid (in64 ((b2,bv):Stp)):=qh (in64_there (check_bal HCk.out (bal_mem HOb.out).1).2.2.1 HNe.out)
       clear g5
       obtain⟨s0,s1⟩:=bc2 HS33.out
       have m2a:=fun o=>keepT ((Keep.refl Never w33).alloc o) m2
       have hz33:w.heap.size≤w33.heap.size:=HK33.out.size
       have hb33:base≤w33.heap.size:=by have:=HBm.out;omega
       go_upto_region 29 with(fail)
       go_region_law (refine step_app _ rfl (.tmp 106) (.tmp 108) _ rfl elemStp (base) (A:=(some ad)) (n:=(q+1)) (c:=cw) (by go_simp) (HO33.out.alloc _) _ (A':=some ⟨_,0,none⟩) (m:=1) (c':=1) (news:=[.int .i64 b2,.bool bv]) (by go_simp) (Rd.of_blk (n:=1) (cs:=[.int .i64 b2,.bool bv]) (Blk.new _ _ _) rfl) (by simp[Value.oneCell']) (by omega) (by unfold maxLen;omega) (by simp;omega) ?_;intro A16 c16 w16 hown hk hrow;have hk16:Keep (InRow (some ad)) w33 w16:=(by first | exact(((Keep.refl (InRow (some ad)) w33).alloc _).drew).trans hk | exact(((Keep.refl (InRow (some ad)) w33).drew).alloc _).trans hk | exact((Keep.refl (InRow (some ad)) w33).alloc _).trans hk);have HO16:=qh hown;have HA16:=qh (HA33.out.keep hk16 (fun k h=>⟨by have h1:=(HO33.out.row h).1;have:=HBm.out;omega,HA33.out.row HO33.out (by decide) k h⟩));have HT16:=qh (HT33.out.keep hk16 (fun hi=>HO33.out.ne_blk HT33.out (by decide) _ hi rfl));have HM16:=qh (HM33.out.keep hk16 (fun hi=>HO33.out.ne_blk HM33.out (by decide) _ hi rfl));have HK16:=qh (HK33.out.then_ hk16 (fun k hk hi=>by rcases HWr.out k hi with h | h;exact .inr h;omega));have HWx:Hid (∀k,InRow A16 k→InRow Ap k∨w.heap.size≤k):=qh (fun k h=>by rcases hrow.out k h with h | h;exact HWr.out k h;right;rw[h];first | exact Nat.le_trans hz33 (Keep.size ((Keep.refl Never w33).alloc _)) | exact Nat.le_trans hz33 (Keep.size (((Keep.refl Never w33).alloc _).drew)) | exact Nat.le_trans hz33 (Keep.size (((Keep.refl Never w33).drew).alloc _)));have m2:w16.cell? ⟨bm,2,none⟩=some (.slice (some ad) (q+1) cw):=HM16.out.cell 2;have mf2:=HM16.out.frozen 2;clear hk16;clear hown hk hrow)
       all_goals
        obtain⟨w40,hw40⟩:∃V:World,w16.setCell ⟨bm,2,none⟩ (.slice A16 (q+1+1) c16)=V:=⟨_,rfl⟩
        have hk17:Keep (fun z=>z=bm) w16 w40:=by rw[←hw40];exact put1_keep _
        have HA40:=qh (HA16.out.keep hk17 (fun k (h:k=bm)=>by rw[h];exact⟨HBm.out.1,HA16.out.not HM16.out (by decide)⟩))
        have HT40:=qh (HT16.out.keep hk17 (fun h=>HT16.out.ne_ HM16.out (by decide) h))
        have HM40:Hid (Blk w40 bm 38 #[v0,v1,.slice A16 (q+1+1) c16,v3,v4]):=qh (by rw[←hw40];have:=HM16.out.set_ 2 (.slice A16 (q+1+1) c16);simpa using this)
        have HO40:Hid (Own w40 base 30 2 A16 (q+1+1) c16 (stpCells (path++[(b2,bv)]))):=qh (by rw[←hw40,stpCells_app];exact HO16.out.far (HO16.out.ne_blk HM16.out (by decide)) _)
        have HK40:=qh (HK16.out.then_ hk17 (fun _ _ h=>.inl h))
        (try rw[hw40])
        clear hk17 m2 m2a s0 s1 hz33 hb33
        have HNx0:=HIr.out.next HI.out HG1.out (P:=(path++[(b2,bv)])) HEq.out (by simp) (by have h1:=HNr.out;simp;omega) (fun s hs=>by rcases List.mem_append.1 hs with h | h;exact HIr.out.in_ s h;simp at h;subst h;exact HB2.out)
        rw[HMy.out] at HNx0
        have HNx:=qh HNx0
        have HRx:=HA40.out
        rw[←HVn.out] at HRx
        have HRy:=qh HRx
        clear HNx0 HRx
        have hwi:wrap64 ((i:Int)+1)=((i+1:Nat):Int):=by have h1:=HIr.out.few;have h3:=HI.out;have h2:IntKind.i64.wrap ((i:Int)+1)=(i:Int)+1:=IntWalk.i64_in _ (by omega);rw[IntWalk.i64_left] at h2;rw[h2];push_cast;rfl
        have hwi2:IntKind.i64.wrap ((i:Int)+1)=((i+1:Nat):Int):=by have h1:=HIr.out.few;have h3:=HI.out;rw[show IntKind.i64.wrap ((i:Int)+1)=(i:Int)+1 from IntWalk.i64_in _ (by omega)];push_cast;rfl
        go_wp2_with fail
        (try rw[hw40])
        clear hwi hwi2
        refine⟨⟨_,my,_,(path++[(b2,bv)]),A16,(q+1+1),c16,rfl,by go_num,by omega,qh ⟨HNx.out,by rw[List.drop_zero];exact HRy.out,HT40.out,HM40.out,(by have h1:=HNr.out;simp;omega),HO40.out,HK40.out,HWx.out⟩⟩,?_⟩
        exact HMs.out
end Go.Proofs.YtpapiojicbbheaaGreatDoor

namespace Go.Proofs.YtpapiojicbbheaaGreatDoor
open Go.RowKit
set_option maxHeartbeats 1000000 in
set_option maxRecDepth 100000 in
theorem pbalF_any (a b c:Int) (id:Int) (g:Nat) (w:World) (h:w.cell? ⟨g,0,none⟩=some (.int .i64 id)):Calls Tryz.prog 173 #[.agg #[.int .i64 a,.int .i64 b,.int .i64 c],.pointer (some ⟨g,0,none⟩)] w fun e w'=>e=.returned (.bool (b==id))∧Keep Never w w':=by
 obtain⟨w1,hw1⟩:∃W:World,w.alloc (.cells #[.int .i64 a,.int .i64 b,.int .i64 c] 94)=W:=⟨_,rfl⟩
 have k1:Keep Never w w1:=by rw[←hw1];exact(Keep.refl _ _).alloc _
 have b1:=Blk.new w 94 #[.int .i64 a,.int .i64 b,.int .i64 c]
 rw[hw1] at b1
 have c0:=b1.cell 0
 have c1:=b1.cell 1
 have d0:=keepT k1 h
 have HK:=qh k1
 clear k1 b1 h
 by_cases e1:b=id
 ·have t1:(b==id)=true:=by simpa using e1
  have HF:=qh t1
  clear e1
  go_enter Tryz.func173, Tryz.ntmps173
  go_wp2_with fail
  go_ret
  exact⟨by rw[HF.out];rfl,HK.out⟩
 ·have t1:(b==id)=false:=by simpa using e1
  have HF:=qh t1
  clear e1
  go_enter Tryz.func173, Tryz.ntmps173
  go_wp2_with fail
  go_ret
  exact⟨by rw[HF.out];rfl,HK.out⟩
set_option maxRecDepth 100000 in
theorem pbal_results {w:World}{b:Nat}{v0 v1 v2:Value} (hb:Blk w b 94 #[v0,v1,v2]) (tmps:Array Value) (ht:tmps.getD 4 undef=.pointer (some ⟨b,0,none⟩)) :
    (results Tryz.f132 tmps).run Tryz.prog w=.ok (.tuple #[.agg #[v0,v1,v2],tmps.getD 5 undef]) w:=by
  have q0:w.cell? ⟨b,0,none⟩=some v0:=hb.cell 0
  have q1:w.cell? ⟨b,1,none⟩=some v1:=hb.cell 1
  have q2:w.cell? ⟨b,2,none⟩=some v2:=hb.cell 2
  have ht':tmps[4]?.getD undef=.pointer (some ⟨b,0,none⟩):=by rw[←Array.getD_eq_getD_getElem?];exact ht
  simp[results,ht',go_sem,q0,q1,q2]
set_option maxHeartbeats 4000000 in
set_option maxRecDepth 100000 in
theorem first_any (x:TA) (t:Tp) (B:Nat) (id:Int) (w:World) (ht:TpAt w B x t) (hn:x.nb≤100000000) :
    Calls Tryz.prog 132 #[.agg x.cs,.int .i64 id] w (BalRet (firstB t id) w):=by
  have HR:=qh (bl_rd ht.b)
  obtain⟨Ae,ne,ce,Aj,nj,cj,Ab,nb,cb,Ar,nr,cr⟩:=x
  simp only[TA.cs] at HR hn ⊢
  obtain⟨w1,hw1⟩:∃W:World,w.alloc (.cells #[.slice Ae ne ce,.slice Aj nj cj,.slice Ab nb cb,.slice Ar nr cr] 27)=W:=⟨_,rfl⟩
  obtain⟨w2,hw2⟩:∃W:World,w1.alloc (.cells #[.int .i64 id] 3)=W:=⟨_,rfl⟩
  obtain⟨w3,hw3⟩:∃W:World,w2.alloc (.cells #[.int .i64 0,.int .i64 0,.int .i64 0] 94)=W:=⟨_,rfl⟩
  have z1:w1.heap.size=w.heap.size+1:=by rw[←hw1];simp
  have z2:w2.heap.size=w.heap.size+1+1:=by rw[←hw2,←z1];simp
  have k1:Keep Never w w1:=by rw[←hw1];exact(Keep.refl _ _).alloc _
  have k2:Keep Never w1 w2:=by rw[←hw2];exact(Keep.refl _ _).alloc _
  have k3:Keep Never w2 w3:=by rw[←hw3];exact(Keep.refl _ _).alloc _
  have b1:=Blk.new w 27 #[.slice Ae ne ce,.slice Aj nj cj,.slice Ab nb cb,.slice Ar nr cr]
  rw[hw1] at b1
  have b2:=Blk.new w1 3 #[.int .i64 id]
  rw[hw2,z1] at b2
  have b3:=Blk.new w2 94 #[.int .i64 0,.int .i64 0,.int .i64 0]
  rw[hw3,z2] at b3
  have HB1:=qh ((b1.keep k2 (fun h=>h)).keep k3 (fun h=>h))
  have HB3:=qh b3
  have HK:=qh ((k1.trans k2).trans k3)
  have y2:w3.cell? ⟨w.heap.size,2,none⟩=some (.slice Ab nb cb):=HB1.out.cell 2
  have v0:w3.cell? ⟨w.heap.size+1,0,none⟩=some (.int .i64 id):=(b2.keep k3 (fun h=>h)).cell 0
  have HC:=qh (indexfb_any 173 #[.pointer (some ⟨w.heap.size+1,0,none⟩)] (fun s=>s.2.1==id) (enters_of Tryz.func173 (by kernel_rfl) rfl) Ab nb cb B t.2.2.1 w3 (HR.out.keep HK.out (fun _ h=>h.elim)) (fun W s hk=>pbalF_any s.1 s.2.1 s.2.2 id _ W (keepT hk v0)) (by omega))
  clear k1 k2 k3 b1 b2 b3 ht v0
  go_enter Tryz.func132, Tryz.ntmps132
  go_wp2_with fail
  refine HC.out.mono ?_
  rintro e w4 ⟨⟨i,s,rfl,h1,h2,h3⟩ | ⟨rfl,h1⟩,hk4⟩
  ·have HM:Hid (firstB t id=some s):=qh (find_idx h1 h2 h3)
   have HK4:=qtr HK hk4
   have hin:i<nb:=by have:=HR.out.sp_len;have:=(List.getElem?_eq_some_iff.1 h1).1;omega
   have hiz:(i:Int)<(nb:Int):=by omega
   have hi0:¬(i:Int)<0:=by omega
   obtain⟨ad,s',hA,_,hs,c0,c1,c2⟩:=(HR.out.keep HK4.out (fun _ h=>h.elim)).sp hin
   subst hA
   rw[h1] at hs
   injection hs with hs
   subst hs
   have hb1:=HB1.out.keep hk4 (fun h=>h)
   have y2:w4.cell? ⟨w.heap.size,2,none⟩=some (.slice (some ad) nb cb):=hb1.cell 2
   have HB4:=qkb HB3 hk4
   have f0:=HB4.out.frozen 0
   have f1:=HB4.out.frozen 1
   have f2:=HB4.out.frozen 2
   obtain⟨g0,g1,g2⟩:=bc3 HB4.out
   obtain⟨s1,s2,s3⟩:=s
   simp only at c0 c1 c2
   have HBz:=qh (put3_blk HB4.out (.int .i64 s1) (.int .i64 s2) (.int .i64 s3))
   have HKz:=qh (put3_keep HK4.out (show w.heap.size≤w.heap.size+1+1 by omega) (.int .i64 s1) (.int .i64 s2) (.int .i64 s3))
   clear h1 h2 h3 hk4 hb1 HC
   go_wp2_with fail
   (try simp only[Exit.inBlock,Exit.then])
   refine bodyPost_ret (pbal_results HBz.out _ rfl) rfl ⟨by rw[HM.out];rfl,HKz.out⟩
  ·have HM:Hid (firstB t id=none):=qh (find_no h1)
   have HK4:=qtr HK hk4
   have HB4:=qkb HB3 hk4
   have f0:=HB4.out.frozen 0
   have f1:=HB4.out.frozen 1
   have f2:=HB4.out.frozen 2
   obtain⟨g0,g1,g2⟩:=bc3 HB4.out
   have HBz:=qh (put3_blk HB4.out (.int .i64 0) (.int .i64 0) (.int .i64 0))
   have HKz:=qh (put3_keep HK4.out (show w.heap.size≤w.heap.size+1+1 by omega) (.int .i64 0) (.int .i64 0) (.int .i64 0))
   clear h1 hk4 HC y2
   go_wp2_with fail
   (try simp only[Exit.inBlock,Exit.then])
   refine bodyPost_ret (pbal_results HBz.out _ rfl) rfl ⟨by rw[HM.out];rfl,HKz.out⟩
end Go.Proofs.YtpapiojicbbheaaGreatDoor

namespace Go.Proofs.YtpapiojicbbheaaGreatDoor
def wtab:List Int:=[8,10,32,1,24,8,2,13,2,24,10,14,1,15,2,2,15,15,2,15,7,2,4,3,8,7,10,5,15,1,10,15,15,1,10,15,1,15,7,1,15,10,15,7,15,1,2,6,15,1,8,15,7,1,4,7,15,2,7,15,15,1,1,14,32,1,8,10,8,8,15,3,15,1,24,32,15,12,7,8,7,2,8,8,15,7,8,2,4,16,15,2,7,2,5,15]
end Go.Proofs.YtpapiojicbbheaaGreatDoor

namespace Go.Proofs.YtpapiojicbbheaaGreatDoor
open Go.RowKit
theorem ret_int {k:IntKind}{a b:Int} (h:a=b):Ending.returned (.int k a)=.returned (.int k b):=by rw[h]
theorem pow_pos' (k:Nat):1≤((2 ^ k:Nat):Int):=by
 have:=Nat.one_le_two_pow (n:=k);omega
theorem pow_le32 {k:Nat} (hk:k≤32):((2 ^ k:Nat):Int)≤4294967296:=by
 have:2 ^ k≤2 ^ 32:=Nat.pow_le_pow_right (by omega) hk
 have h:(2:Nat) ^ 32=4294967296:=by decide
 omega
theorem shift_nat (x k:Nat):(x:Int) / 2 ^ k=((x / 2 ^ k:Nat):Int):=by
 rw[Int.natCast_ediv,Int.natCast_pow];rfl
theorem shift_big {x k:Nat} (h:2 ^ k≤x):((x:Int) / 2 ^ k != 0)=true:=by
 have:=Nat.div_pos h (Nat.two_pow_pos k)
 rw[shift_nat,bne_iff_ne];omega
theorem shift_small {x k:Nat} (h:x<2 ^ k):((x:Int) / 2 ^ k != 0)=false:=by
 have:=Nat.div_eq_of_lt h
 rw[shift_nat,this];rfl
theorem wraps_i64 (n:Int) (h₀:0≤n) (h₁:n<2 ^ 63):IntKind.i64.wrap n=n:=IntWalk.i64_in _ ⟨by omega,by omega⟩
end Go.Proofs.YtpapiojicbbheaaGreatDoor

namespace Go.Proofs.YtpapiojicbbheaaGreatDoor
open Go.RowKit
def Widths (w:World):Prop:=∀i,i<96→w.cell? ⟨0, i,none⟩=some (.int .i64 (wtab.getD i 0))
theorem Widths.keep {w w':World}{S:Nat→Prop} (h:Widths w) (hk:Keep S w w') (hS:¬S 0):Widths w':=
  fun i hi=>(hk.cell (cell_lt (h i hi)) hS).trans (h i hi)
def vWidth (v:Int):Int:=if 0≤v∧v<96 then wtab.getD v.toNat 0 else 0
theorem wtab_range:∀i,i<96→1≤wtab.getD i 0∧wtab.getD i 0≤32:=by decide
theorem vWidth_range (v:Int):0≤vWidth v∧vWidth v≤32:=by
 unfold vWidth
 split
 ·have:=wtab_range v.toNat (by omega);omega
 ·omega
set_option maxHeartbeats 400000 in
theorem vwidth_any (v:Int) (w:World) (hw:Widths w) :
    Calls Tryz.prog 160 #[.int .i64 v] w fun e w'=>e=.returned (.int .i64 (vWidth v))∧w=w':=by
  by_cases h:0≤v∧v<96
  ·obtain⟨k,rfl⟩:∃k:Nat,v=k:=⟨v.toNat,by omega⟩
   have hc:=hw k (by omega)
   have he:vWidth k=wtab.getD k 0:=by rw[vWidth,if_pos h,Int.toNat_natCast]
   rw[he]
   obtain⟨h1,h2⟩:=h
   generalize wtab.getD k 0=x at *
   clear hw he
   go_enter Tryz.func160, Tryz.ntmps160
   go_wp2
   go_ret
   exact⟨rfl,rfl⟩
  ·have he:vWidth v=0:=by rw[vWidth,if_neg h]
   rw[he]
   clear hw he
   have h:v<0∨96≤v:=by omega
   rcases h with h | h
   all_goals
    go_enter Tryz.func160, Tryz.ntmps160
    go_wp2
    go_ret
    exact⟨rfl,rfl⟩
def vSpecial (v:Int):Int:=if v=20∨v=52∨v=58 then 127 else if v=38∨v=43 then 126 else 0
set_option maxHeartbeats 400000 in
theorem vspecial_any (v:Int) (w:World) :
    Calls Tryz.prog 191 #[.int .i64 v] w fun e w'=>e=.returned (.int .i64 (vSpecial v))∧w=w':=by
  go_enter Tryz.func191, Tryz.ntmps191
  go_wp2
  all_goals
   go_ret
   refine⟨ret_int ?_,rfl⟩
   simp only[beq_iff_eq,beq_eq_false_iff_ne,ne_eq] at *
   unfold vSpecial
   (repeat' split) <;> omega
def vMost (v:Int):Int:=
  if v=81 then 1 else if v=6∨v=8∨v=14∨v=15∨v=21∨v=46∨v=57∨v=71∨v=87 then 2 else if v=23 then 4 else if v=22 then 14
  else if v=20∨v=25∨v=38∨v=43∨v=52∨v=55∨v=58∨v=78∨v=85 then 120 else ((2 ^ (vWidth v).toNat:Nat):Int) - 1
set_option maxHeartbeats 1000000 in
theorem vmost_any (v:Int) (w:World) (hw:Widths w) :
    Calls Tryz.prog 192 #[.int .i64 v] w fun e w'=>e=.returned (.int .i64 (vMost v))∧w=w':=by
  have hr:=vWidth_range v
  obtain⟨k,hk⟩:∃k:Nat,vWidth v=k:=⟨(vWidth v).toNat,by omega⟩
  rw[hk] at hr
  have Hw:=qh hw
  have HK:=qh hk
  clear hw hk
  have hp:=pow_pos' k
  have hp2:=pow_le32 (k:=k) (by omega)
  go_enter Tryz.func192, Tryz.ntmps192
  go_wp2_with (go_at_call 160; refine(vwidth_any v _ Hw.out).mono ?_;rw[HK.out];rintro e w' ⟨rfl,rfl⟩)
  all_goals
   go_ret
   refine⟨ret_int ?_,rfl⟩
   simp only[beq_iff_eq,beq_eq_false_iff_ne,ne_eq] at *
   unfold vMost
   first
    | ((repeat' split) <;> omega)
    | skip
  repeat rw[if_neg (by omega)]
  have e:(2:Int) ^ k=((2 ^ k:Nat):Int):=(Int.natCast_pow 2 k).symm
  rw[HK.out,Int.toNat_natCast,e,IntWalk.wrap64_in ((2 ^ k:Nat):Int) ⟨by omega,by omega⟩,IntWalk.wrap64_in _ ⟨by omega,by omega⟩]
theorem vMost_range (v:Int):0≤vMost v∧vMost v≤4294967295:=by
 have h1:=vWidth_range v
 have h2:=pow_pos' (vWidth v).toNat
 have h3:=pow_le32 (k:=(vWidth v).toNat) (by omega)
 unfold vMost
 (repeat' split) <;> omega
theorem vSpecial_range (v:Int):0≤vSpecial v∧vSpecial v≤127:=by
 unfold vSpecial
 (repeat' split) <;> omega
def vMay (v n:Int):Bool:=decide (vWidth v≠0∧0≤n∧n<((2 ^ (vWidth v).toNat:Nat):Int)∧(n≤vMost v∨(0<vSpecial v∧vSpecial v≤n)))
set_option maxHeartbeats 1000000 in
theorem vmay_any (v n:Int) (hn:n≤9223372036854775807) (w:World) (hw:Widths w) :
    Calls Tryz.prog 162 #[.int .i64 v,.int .i64 n] w fun e w'=>e=.returned (.bool (vMay v n))∧w=w':=by
  have hr:=vWidth_range v
  obtain⟨k,hk⟩:∃k:Nat,vWidth v=k:=⟨(vWidth v).toNat,by omega⟩
  obtain⟨m,hm⟩:∃m,vMost v=m:=⟨_,rfl⟩
  obtain⟨s,hs⟩:∃s,vSpecial v=s:=⟨_,rfl⟩
  have hm1:=vMost_range v
  have hs1:=vSpecial_range v
  have hmay:vMay v n=decide ((k:Int)≠0∧0≤n∧n<((2 ^ k:Nat):Int)∧(n≤m∨(0<s∧s≤n))):=by rw[vMay,hk,hm,hs,Int.toNat_natCast]
  rw[hk] at hr
  rw[hm] at hm1
  rw[hs] at hs1
  have HW:∀W,W=w→Calls Tryz.prog 160 #[.int .i64 v] W fun e w'=>e=.returned (.int .i64 k)∧W=w':=by rintro W rfl;have:=vwidth_any v W hw;rwa [hk] at this
  have HM:∀W,W=w→Calls Tryz.prog 192 #[.int .i64 v] W fun e w'=>e=.returned (.int .i64 m)∧W=w':=by rintro W rfl;have:=vmost_any v W hw;rwa [hm] at this
  have HS:∀W,W=w→Calls Tryz.prog 191 #[.int .i64 v] W fun e w'=>e=.returned (.int .i64 s)∧W=w':=by rintro W rfl;have:=vspecial_any v W;rwa [hs] at this
  have hHW:=qh HW
  have hHM:=qh HM
  have hHS:=qh HS
  clear HW HM HS hw hk hm hs
  by_cases h0:(k:Int)=0
  ·have hf:Hid (vMay v n=false):=by show _=false;rw[hmay,decide_eq_false_iff_not];omega
   have hk0:((k:Int)==0)=true:=by simpa using h0
   clear hmay h0
   go_enter Tryz.func162, Tryz.ntmps162
   go_wp2_with (first| (go_at_call 160; refine(hHW.out _ rfl).mono ?_;rintro e w' ⟨rfl,rfl⟩) | (go_at_call 191; refine(hHS.out _ rfl).mono ?_;rintro e w' ⟨rfl,rfl⟩) | (go_at_call 192; refine(hHM.out _ rfl).mono ?_;rintro e w' ⟨rfl,rfl⟩))
   go_ret
   exact⟨by rw[hf.out];rfl,rfl⟩
  have hk0:((k:Int)==0)=false:=by simpa using h0
  by_cases h1:n<0
  ·have hf:Hid (vMay v n=false):=by show _=false;rw[hmay,decide_eq_false_iff_not];omega
   clear hmay h0
   go_enter Tryz.func162, Tryz.ntmps162
   go_wp2_with (first| (go_at_call 160; refine(hHW.out _ rfl).mono ?_;rintro e w' ⟨rfl,rfl⟩) | (go_at_call 191; refine(hHS.out _ rfl).mono ?_;rintro e w' ⟨rfl,rfl⟩) | (go_at_call 192; refine(hHM.out _ rfl).mono ?_;rintro e w' ⟨rfl,rfl⟩))
   go_ret
   exact⟨by rw[hf.out];rfl,rfl⟩
  obtain⟨x,rfl⟩:∃x:Nat,n=x:=⟨n.toNat,by omega⟩
  by_cases h2:x<2 ^ k
  ·have hsh:=shift_small h2
   by_cases h3:(x:Int)≤m
   ·have hf:Hid (vMay v x=true):=by show _=true;rw[hmay,decide_eq_true_eq];omega
    clear hmay h2
    go_enter Tryz.func162, Tryz.ntmps162
    go_wp2_with (first| (go_at_call 160; refine(hHW.out _ rfl).mono ?_;rintro e w' ⟨rfl,rfl⟩) | (go_at_call 191; refine(hHS.out _ rfl).mono ?_;rintro e w' ⟨rfl,rfl⟩) | (go_at_call 192; refine(hHM.out _ rfl).mono ?_;rintro e w' ⟨rfl,rfl⟩))
    go_ret
    exact⟨by rw[hf.out];rfl,rfl⟩
   ·have hlo:decide ((x:Int)≤m)=false:=by simpa using h3
    by_cases h4:0<s
    ·by_cases h5:s≤(x:Int)
     ·have hf:Hid (vMay v x=true):=by show _=true;rw[hmay,decide_eq_true_eq];omega
      clear hmay h2
      go_enter Tryz.func162, Tryz.ntmps162
      go_wp2_with (first| (go_at_call 160; refine(hHW.out _ rfl).mono ?_;rintro e w' ⟨rfl,rfl⟩) | (go_at_call 191; refine(hHS.out _ rfl).mono ?_;rintro e w' ⟨rfl,rfl⟩) | (go_at_call 192; refine(hHM.out _ rfl).mono ?_;rintro e w' ⟨rfl,rfl⟩))
      go_ret
      exact⟨by rw[hf.out];rfl,rfl⟩
     ·have hf:Hid (vMay v x=false):=by show _=false;rw[hmay,decide_eq_false_iff_not];omega
      have hlo5:decide (s≤(x:Int))=false:=by simpa using h5
      clear hmay h2
      go_enter Tryz.func162, Tryz.ntmps162
      go_wp2_with (first| (go_at_call 160; refine(hHW.out _ rfl).mono ?_;rintro e w' ⟨rfl,rfl⟩) | (go_at_call 191; refine(hHS.out _ rfl).mono ?_;rintro e w' ⟨rfl,rfl⟩) | (go_at_call 192; refine(hHM.out _ rfl).mono ?_;rintro e w' ⟨rfl,rfl⟩))
      go_ret
      exact⟨by rw[hf.out];rfl,rfl⟩
    ·have hlo4:decide (0<s)=false:=by simpa using h4
     have hf:Hid (vMay v x=false):=by show _=false;rw[hmay,decide_eq_false_iff_not];omega
     clear hmay h2
     go_enter Tryz.func162, Tryz.ntmps162
     go_wp2_with (first| (go_at_call 160; refine(hHW.out _ rfl).mono ?_;rintro e w' ⟨rfl,rfl⟩) | (go_at_call 191; refine(hHS.out _ rfl).mono ?_;rintro e w' ⟨rfl,rfl⟩) | (go_at_call 192; refine(hHM.out _ rfl).mono ?_;rintro e w' ⟨rfl,rfl⟩))
     go_ret
     exact⟨by rw[hf.out];rfl,rfl⟩
  ·have hsh:=shift_big (x:=x) (k:=k) (by omega)
   have hf:Hid (vMay v x=false):=by show _=false;rw[hmay,decide_eq_false_iff_not];omega
   clear hmay h0 h2
   go_enter Tryz.func162, Tryz.ntmps162
   go_wp2_with (first| (go_at_call 160; refine(hHW.out _ rfl).mono ?_;rintro e w' ⟨rfl,rfl⟩) | (go_at_call 191; refine(hHS.out _ rfl).mono ?_;rintro e w' ⟨rfl,rfl⟩) | (go_at_call 192; refine(hHM.out _ rfl).mono ?_;rintro e w' ⟨rfl,rfl⟩))
   go_ret
   exact⟨by rw[hf.out];rfl,rfl⟩
end Go.Proofs.YtpapiojicbbheaaGreatDoor

namespace Go.Proofs.YtpapiojicbbheaaGreatDoor
open Go.RowKit
inductive Parts where
  | nil
  | cons (v wh:Int) (l r:Parts)
namespace Parts
def app:Parts→Parts→Parts
  | .nil,m=>m
  | .cons v wh l r,m=>.cons v wh l (r.app m)
def len:Parts→Nat
  | .nil=>0
  | .cons _ _ _ r=>r.len+1
theorem app_nil:∀t:Parts,t.app .nil=t
  | .nil=>rfl
  | .cons v wh l r=>by rw[app,app_nil r]
theorem app_assoc:∀a b c:Parts,(a.app b).app c=a.app (b.app c)
  | .nil,_,_=>rfl
  | .cons v wh l r,b,c=>by simp only[app];rw[app_assoc r b c]
theorem len_app:∀a b:Parts,(a.app b).len=a.len+b.len
  | .nil,b=>by simp[app,len]
  | .cons v wh l r,b=>by simp only[app,len];rw[len_app r b];omega
end Parts
def row:List Int→Parts
  | []=>.nil
  | v::l=>.cons v 0 .nil (row l)
def andP (l:List Parts):Parts:=l.foldr Parts.app .nil
theorem andP_snoc (l:List Parts) (t:Parts):andP (l++[t])=(andP l).app t:=by
 induction l with
 | nil=>simp[andP,Parts.app,Parts.app_nil]
 | cons a l ih=>simp only[andP,List.cons_append,List.foldr_cons] at ih ⊢;rw[ih,Parts.app_assoc]
def some_ (wh:Int) (l:Parts):Parts:=.cons 0 wh l .nil
def pReport (p:Parts):Parts:=andP [row [7,8,4],p,row [13,14,15,16,17,18],some_ 3 (row [19]),row [20,21,22,23],some_ 2 (row [24])]
def pLink:Parts:=andP [row [44,12],some_ 2 (row [10]),row [11,45,46,47]]
def pTimer:Parts:=andP [row [29],some_ 2 (row [30,31])]
def pSection:Parts:=andP [row [28],pTimer]
def pAuthority:Parts:=andP [row [6,7,8,25,26,27],some_ 1 pSection,row [32],pTimer,row [33],some_ 2 (row [34,35]),row [36],some_ 2 (row [37,38]),row [39],some_ 2 (row [40,41,42,43])]
def pHead:Parts:=row [6,7,8]
def pOne:Parts:=andP [row [51,52,53,27],some_ 1 (row [54,55])]
def pSpeeds:Parts:=andP [pHead,pOne,row [27],some_ 1 pOne]
def pRepeated (l:Parts):Parts:=andP [l,row [27],some_ 1 l]
def ptree (id:Int):Option Parts:=
  if id=0 then some (pReport .nil)
  else if id=1 then some (pReport (row [74]))
  else if id=3 then some (andP [pHead,row [84,27],some_ 1 (row [10]),row [85,87,86]])
  else if id=5 then some (andP [pHead,pRepeated pLink])
  else if id=11 then some (andP [row [7,75,76,77,78,79,80,81,27],some_ 1 (row [82]),row [27],some_ 1 (row [83])])
  else if id=15 then some (pAuthority)
  else if id=21 then some (andP [pHead,pRepeated (row [48,49,50])])
  else if id=27 then some (pSpeeds)
  else if id=42 then some (row [6,7,62,10,63,64,64,65])
  else if id=57 then some (row [6,7,66,67,68])
  else if id=58 then some (andP [pHead,row [69,70,71,27],some_ 1 (row [72,73])])
  else if id=80 then some (andP [pHead,pRepeated (row [56,57,58,59,60,61])])
  else none
abbrev Val (σ:Type):=Int→σ→Except Int (Int×σ)
def iterE {σ:Type} (f:σ→Except Int σ):Nat→σ→Except Int σ
  | 0,s=>.ok s
  | n+1,s=>match f s with | .error e=>.error e | .ok s'=>iterE f n s'
def walkL {σ:Type} (val:Val σ):Parts→Int→σ→Except Int σ
  | .nil,_,s=>.ok s
  | .cons v wh l r,last,s=>
   if wh=0 then match val v s with | .error e=>.error e | .ok (n,s')=>walkL val r n s'
   else if wh=1 then match iterE (walkL val l 0) last.toNat s with | .error e=>.error e | .ok s'=>walkL val r last s'
   else if last=1∨wh=3∧last=2 then match walkL val l 0 s with | .error e=>.error e | .ok s'=>walkL val r last s'
   else walkL val r last s
theorem iter_inv {σ:Type}{I:σ→σ→Prop} (hr:∀s,I s s) (ht:∀a b c,I a b→I b c→I a c) {f:σ→Except Int σ} (h:∀s s',f s=.ok s'→I s s'):∀(n:Nat) (s s':σ),iterE f n s=.ok s'→I s s':=by
 intro n
 induction n with
 | zero=>intro s s' hs;injection hs with hs;subst hs;exact hr s
 | succ n ih=>
  intro s s' hs
  simp only[iterE] at hs
  cases hf:f s with
  | error e=>rw[hf] at hs;cases hs
  | ok s1=>rw[hf] at hs;exact ht _ _ _ (h _ _ hf) (ih _ _ hs)
theorem walk_inv {σ:Type}{I:σ→σ→Prop} (hr:∀s,I s s) (ht:∀a b c,I a b→I b c→I a c) {val:Val σ} (h:∀v s n s',val v s=.ok (n,s')→I s s') :
    ∀(T:Parts) (last:Int) (s s':σ),walkL val T last s=.ok s'→I s s':=by
  intro T
  induction T with
  | nil=>intro last s s' hs;injection hs with hs;subst hs;exact hr s
  | cons v wh l r ihl ihr=>
   intro last s s' hs
   simp only[walkL] at hs
   by_cases h0:wh=0
   ·rw[if_pos h0] at hs
    rcases hf:val v s with e | ⟨n,s1⟩
    ·rw[hf] at hs;cases hs
    ·rw[hf] at hs;exact ht _ _ _ (h _ _ _ _ hf) (ihr _ _ _ hs)
   ·rw[if_neg h0] at hs
    by_cases h1:wh=1
    ·rw[if_pos h1] at hs
     cases hf:iterE (walkL val l 0) last.toNat s with
     | error e=>rw[hf] at hs;cases hs
     | ok s1=>rw[hf] at hs;exact ht _ _ _ (iter_inv hr ht (fun a b=>ihl 0 a b) _ _ _ hf) (ihr _ _ _ hs)
    ·rw[if_neg h1] at hs
     by_cases h2:last=1∨wh=3∧last=2
     ·rw[if_pos h2] at hs
      cases hf:walkL val l 0 s with
      | error e=>rw[hf] at hs;cases hs
      | ok s1=>rw[hf] at hs;exact ht _ _ _ (ihl _ _ _ hf) (ihr _ _ _ hs)
     ·rw[if_neg h2] at hs
      exact ihr _ _ _ hs
end Go.Proofs.YtpapiojicbbheaaGreatDoor

namespace Go.Proofs.YtpapiojicbbheaaGreatDoor
open Go.RowKit
def RdD (w:World) (D:Nat→Prop) (size:Nat) (A:Option Addr) (n:Nat) (xs:List Value):Prop:=
  xs.length=n*size∧(0<n→∃ad,A=some ad∧D ad.block∧∀j u,xs[j]?=some u→w.cell? (ad.add j)=some u)
theorem RdD.keep {w w':World}{D D':Nat→Prop}{size n:Nat}{A:Option Addr}{xs:List Value}{S:Nat→Prop} (h:RdD w D size A n xs) (hs:0<size) (hk:Keep S w w') (hS:∀k,k<w.heap.size→D k→¬S k∧D' k):RdD w' D' size A n xs:=
  ⟨h.1,fun hn=>by
   obtain⟨ad,e,hb,hc⟩:=h.2 hn
   have hl:0<xs.length:=by rw[h.1];exact Nat.mul_pos hn hs
   have h0:=cell_lt (hc 0 _ (List.getElem?_eq_getElem hl))
   rw[block_add] at h0
   obtain⟨h1,h2⟩:=hS _ h0 hb
   refine⟨ad,e,h2,fun j u hu=>?_⟩
   rw[hk.cell (by rw[block_add];exact h0) (by rw[block_add];exact h1)]
   exact hc j u hu⟩
theorem RdD.rd {w:World}{D:Nat→Prop}{size n:Nat}{A:Option Addr}{xs:List Value} (h:RdD w D size A n xs) (hs:0<size):Rd w w.heap.size size A n xs:=
  ⟨h.1,fun hn=>by
   obtain⟨ad,e,hb,hc⟩:=h.2 hn
   have hl:0<xs.length:=by rw[h.1];exact Nat.mul_pos hn hs
   have:=cell_lt (hc 0 _ (List.getElem?_eq_getElem hl))
   exact⟨ad,e,by rwa [block_add] at this,hc⟩⟩
def PRows (w:World) (D:Nat→Prop):Parts→List Value→Prop
  | .nil,xs=>xs=[]
  | .cons v wh l r,xs=>∃A n c ys zs,xs=.int .i64 v::.int .i64 wh::.slice A n c::zs∧n=l.len∧n≤c∧c≤maxLen∧RdD w D 3 A n ys∧PRows w D l ys∧PRows w D r zs
theorem PRows.keep {w w':World}{D D':Nat→Prop}{S:Nat→Prop} (hk:Keep S w w') (hS:∀k,k<w.heap.size→D k→¬S k∧D' k):∀{T:Parts}{xs:List Value},PRows w D T xs→PRows w' D' T xs:=by
 intro T
 induction T with
 | nil=>intro xs h;exact h
 | cons v wh l r ihl ihr=>
  rintro xs ⟨A,n,c,ys,zs,rfl,h1,h2,h3,h4,h5,h6⟩
  exact⟨A,n,c,ys,zs,rfl,h1,h2,h3,h4.keep (by omega) hk hS,ihl h5,ihr h6⟩
theorem PRows.app {w:World}{D:Nat→Prop}{T':Parts}{ys:List Value} (h':PRows w D T' ys):∀{T:Parts}{xs:List Value},PRows w D T xs→PRows w D (T.app T') (xs++ys):=by
 intro T
 induction T with
 | nil=>intro xs h;rw[show xs=[] from h];exact h'
 | cons v wh l r _ ihr=>
  rintro xs ⟨A,n,c,ys',zs,rfl,h1,h2,h3,h4,h5,h6⟩
  exact⟨A,n,c,ys',zs++ys,rfl,h1,h2,h3,h4,h5,ihr h6⟩
theorem PRows.one {w:World}{D:Nat→Prop}:∀{T:Parts}{xs:List Value},PRows w D T xs→∀u∈xs,u.oneCell'=true:=by
 intro T
 induction T with
 | nil=>intro xs h u hu;rw[show xs=[] from h] at hu;cases hu
 | cons v wh l r _ ihr=>
  rintro xs ⟨A,n,c,ys',zs,rfl,h1,h2,h3,h4,h5,h6⟩ u hu
  simp only[List.mem_cons] at hu
  rcases hu with rfl | rfl | rfl | hu
  ·rfl
  ·rfl
  ·rfl
  ·exact ihr h6 u hu
def PSl (w:World) (D:Nat→Prop) (A:Option Addr) (n c:Nat) (T:Parts):Prop:=n=T.len∧n≤c∧c≤maxLen∧∃xs,RdD w D 3 A n xs∧PRows w D T xs
def Fr (H:Nat):Nat→Prop:=fun k=>H≤k
def Frw (H:Nat) (w:World):Nat→Prop:=fun k=>H≤k∧k<w.heap.size
namespace PSl
variable {w w':World}{D D':Nat→Prop}{H H' n c:Nat}{A:Option Addr}{T:Parts}
theorem nil (w:World) (D:Nat→Prop):PSl w D none 0 0 .nil:=⟨rfl,Nat.le_refl _,by unfold maxLen;omega,[],⟨rfl,fun h=>absurd h (by omega)⟩,rfl⟩
theorem keep {S:Nat→Prop} (h:PSl w D A n c T) (hk:Keep S w w') (hS:∀k,k<w.heap.size→D k→¬S k∧D' k):PSl w' D' A n c T:=by
 obtain⟨h1,h2,h3,xs,h4,h5⟩:=h
 exact⟨h1,h2,h3,xs,h4.keep (by omega) hk hS,h5.keep hk hS⟩
theorem keepN (h:PSl w D A n c T) (hk:Keep Never w w'):PSl w' D A n c T:=h.keep hk (fun _ _ h=>⟨fun h=>h.elim,h⟩)
theorem less (h:PSl w (Fr H) A n c T) (hH:H'≤H):PSl w (Fr H') A n c T:=h.keep (Keep.refl Never w) (fun _ _ h=>⟨fun h=>h.elim,Nat.le_trans hH h⟩)
theorem some_ (h:PSl w D A n c T) (h0:T.len≠0):A≠none:=by
 obtain⟨h1,_,_,xs,⟨_,h2⟩,_⟩:=h
 obtain⟨ad,e,_⟩:=h2 (by omega)
 rw[e];exact fun h=>by cases h
end PSl
set_option maxRecDepth 100000 in
theorem elemP:Elem Tryz.prog 204 240 3 40:=⟨Tryz.underlying204, _,_,rfl,rfl,rfl,rfl,rfl,by omega⟩
def PRet (w:World) (H:Nat) (T:Parts) (e:Ending) (w':World):Prop:=∃A n c,e=.returned (.slice A n c)∧PSl w' (Fr H) A n c T∧Keep Never w w'
theorem PSl.of_own {w:World}{D:Nat→Prop}{base n c:Nat}{A:Option Addr}{T:Parts}{xs:List Value} (h:Own w base 240 3 A n c xs) (hp:PRows w D T xs) (hn:n=T.len) (hH:∀k,base≤k→D k):PSl w D A n c T:=by
 refine⟨hn,h.cap_le,?_,xs,⟨h.len,fun h0=>?_⟩,hp⟩
 ·rcases h.form with⟨_,_,rfl,_⟩ | ⟨_,_,_,_,_,_,hc,_⟩
  ·unfold maxLen;omega
  ·exact hc
 ·obtain⟨ad,e,_,hc⟩:=h.rd.2 h0
  exact⟨ad,e,hH _ (h.row (k:=ad.block) ⟨ad,e,rfl⟩).1,hc⟩
def rowCells (l:List Int):List Value:=l.flatMap fun v=>[.int .i64 v,.int .i64 0,.slice none 0 0]
theorem rows_row (w:World) (D:Nat→Prop):∀l:List Int,PRows w D (row l) (rowCells l)
  | []=>rfl
  | v::l=>⟨none,0,0,[],rowCells l,rfl,rfl,Nat.le_refl _,by unfold maxLen;omega,⟨rfl,fun h=>absurd h (by omega)⟩,rfl,rows_row w D l⟩
theorem row_len (l:List Int):(row l).len=l.length:=by
 induction l with
 | nil=>rfl
 | cons v l ih=>simp[row,Parts.len,ih]
set_option maxHeartbeats 1000000 in
theorem row_any (l:List Int) (hl:l.length≤1000) (A:Option Addr) (n c B:Nat) (w:World) (hn:l.length=n) (hr:Rd w B 1 A n (l.map (.int .i64))) :
    Calls Tryz.prog 194 #[.slice A n c] w (PRet w w.heap.size (row l)):=by
  have HR:=qh hr
  have HN:=qh hn
  have hn2:n≤1000:=by omega
  clear hr hn hl
  go_enter Tryz.func194, Tryz.ntmps194
  go_wp2
  go_loopw [3,5,8] (fun v _ i wr=>∃(k m c3:Nat) (A3:Option Addr),k≤n∧i=.int .i64 k∧v=.slice A3 m c3∧Hid (m=k∧Own wr w.heap.size 240 3 A3 m c3 (rowCells (l.take k))∧Keep Never w wr))
    (fun _ _ i _=>n - (intOf i).toNat)
  case atStart=>exact⟨0,0,0,none,by omega,rfl,rfl,⟨rfl,Own.nil _ _ _ _,Keep.refl _ _⟩⟩
  case round=>
   obtain⟨k,m,c3,A3,hk,rfl,rfl,HH⟩:=hrel
   by_cases h0:k<n
   ·obtain⟨ad,x,rfl,_,hx,hcell⟩:=(HR.out.keep HH.out.2.2 (by intro k h;cases h)).at1 h0
    have HX:=qh hx
    have hm:m≤1000:=by have:=HH.out.1;omega
    clear hx
    go_wp2_with (at_builtin;refine wpList_app _ rfl (.tmp 12) (.tmp 15) _ rfl elemP w.heap.size rfl (HH.out.2.1.alloc _) _ rfl (Rd.of_blk (n:=1) (cs:=[.int .i64 x,.int .i64 0,.slice none 0 0]) (Blk.new _ _ _) rfl) (by simp[Value.oneCell']) (by omega) (by unfold maxLen;omega) (by have:=HH.out.2.2.size;simp;omega) ?_;intro A5 c5 w5 hown5 hk5 hrow5;have HO:=qh hown5;have HK:=qh hk5;clear hown5 hk5)
    go_roundw
    case rel=>
     obtain⟨e1,o1,k1⟩:=HH.out
     have hkk:Keep Never w w5:=(k1.alloc _).then_ HK.out (fun z hz hr=>by have:=(o1.row hr).1;omega)
     have e2:l.take (k+1)=l.take k++[x]:=by
      obtain⟨h2,h3⟩:=List.getElem?_eq_some_iff.1 HX.out
      rw[List.take_succ_eq_append_getElem h2,h3]
     refine⟨k+1,m+1,c5,A5,by omega,by go_num,rfl,⟨by omega,?_,hkk⟩⟩
     have:=HO.out
     rwa [e2,show rowCells (l.take k++[x])=rowCells (l.take k)++[.int .i64 x,.int .i64 0,.slice none 0 0] by simp[rowCells]]
    case measure=>simp[intOf];omega
   ·obtain rfl:k=n:=by omega
    go_wp2
    go_ret
    obtain⟨e1,o1,k1⟩:=HH.out
    rw[List.take_of_length_le (by rw[HN.out];exact Nat.le_refl _)] at o1
    exact⟨_,_,_,rfl,PSl.of_own o1 (rows_row _ _ l) (by rw[row_len,HN.out];exact e1) (fun _ h=>h),k1⟩
structure PStack (H:Nat) (w0 w:World) (L:List (Value×Parts)):Prop where
  keep:Keep Never w0 w
  base:H≤w0.heap.size
  all:∀x∈L,∃A n c,x.1=.slice A n c∧PSl w (Fr H) A n c x.2
theorem PStack.start {H:Nat}{w:World} (h:H≤w.heap.size):PStack H w w []:=⟨Keep.refl _ _,h,by simp⟩
theorem PStack.next {H:Nat}{w0 w w':World}{L:List (Value×Parts)} (h:PStack H w0 w L) (hk:Keep Never w w'):PStack H w0 w' L:=
  ⟨h.keep.trans hk,h.base,fun x hx=>by obtain⟨A,n,c,e,hp⟩:=h.all x hx;exact⟨A,n,c,e,hp.keepN hk⟩⟩
theorem PStack.push {H:Nat}{w0 w w':World}{L:List (Value×Parts)}{A:Option Addr}{n c H':Nat}{T:Parts} (h:PStack H w0 w L) (hk:Keep Never w w') (hp:PSl w' (Fr H') A n c T) (hH:H≤H'):PStack H w0 w' ((.slice A n c,T)::L):=
  ⟨h.keep.trans hk,h.base,fun x hx=>by
   rcases List.mem_cons.1 hx with rfl | hx
   ·exact⟨A,n,c,rfl,hp.less hH⟩
   ·exact(h.next hk).all x hx⟩
theorem PStack.call {H:Nat}{w0 w W:World}{L:List (Value×Parts)}{f:Nat}{args:Array Value}{T:Parts} (HS:Hid (PStack H w0 w L)) (hk:Keep Never w W) (h:Calls Tryz.prog f args W (PRet W W.heap.size T)) :
    Calls Tryz.prog f args W fun e w'=>∃A n c,e=.returned (.slice A n c)∧Hid (PStack H w0 w' ((.slice A n c,T)::L)):=by
  refine h.mono ?_
  rintro e w' ⟨A,n,c,rfl,h1,h2⟩
  have h3:=HS.out
  exact⟨A,n,c,rfl,qh (h3.push (hk.trans h2) h1 (Nat.le_trans h3.base (Nat.le_trans h3.keep.size hk.size)))⟩
theorem row_st {H:Nat}{w0 w:World}{L:List (Value×Parts)} (HS:Hid (PStack H w0 w L)) {cs:Array Value}{n c:Nat} (l:List Int) (hl:cs=(l.map (.int .i64)).toArray) (hn:l.length=n) (h1:l.length≤1000) :
    Calls Tryz.prog 194 #[.slice (some ⟨w.heap.size,0,none⟩) n c] (w.alloc (.cells cs 3)) fun e w'=>∃A m d,e=.returned (.slice A m d)∧Hid (PStack H w0 w' ((.slice A m d,row l)::L)):=by
  subst hl
  exact PStack.call HS ((Keep.refl _ _).alloc _) (row_any l h1 _ _ _ _ _ hn (Rd.of_blk (Blk.new _ _ _) (by simp[hn])))
def isPart (w:World) (D:Nat→Prop) (T:Parts) (v:Value):Prop:=∃A n c,v=.slice A n c∧PSl w D A n c T
theorem andP_take {Ts:List Parts}{k:Nat}{T:Parts} (h:Ts[k]?=some T):andP (Ts.take (k+1))=(andP (Ts.take k)).app T:=by
 obtain⟨h2,h3⟩:=List.getElem?_eq_some_iff.1 h
 rw[List.take_succ_eq_append_getElem h2,h3,andP_snoc]
theorem andP_take_len (Ts:List Parts):∀k,(andP (Ts.take k)).len≤(andP Ts).len:=by
 induction Ts with
 | nil=>intro k;simp[andP]
 | cons T Ts ih=>
  intro k
  cases k with
  | zero=>simp[andP,Parts.len]
  | succ k=>
   have:=ih k
   simp only[List.take_succ_cons,andP,List.foldr_cons,Parts.len_app] at this ⊢
   omega
set_option maxHeartbeats 1000000 in
theorem and_any (Ts:List Parts) (A:Option Addr) (n c B H:Nat) (w:World) (hn:Ts.length=n) (vals:List Value) (hr:Rd w B 1 A n vals) (hv:All2 (isPart w (Fr H)) Ts vals) (hlen:(andP Ts).len≤1000) (h16:n≤1000) (hH:H≤w.heap.size) :
    Calls Tryz.prog 195 #[.slice A n c] w (PRet w H (andP Ts)):=by
  have HR:=qh hr
  have HN:=qh hn
  have HV:=qh hv
  have HL:=qh hlen
  clear hr hn hv hlen
  go_enter Tryz.func195, Tryz.ntmps195
  go_wp2
  go_loopw [3,5,8] (fun v _ i wr=>∃(k m c3:Nat) (A3:Option Addr) (xs:List Value),k≤n∧i=.int .i64 k∧v=.slice A3 m c3∧Hid (m=(andP (Ts.take k)).len∧Own wr w.heap.size 240 3 A3 m c3 xs∧PRows wr (Frw H w) (andP (Ts.take k)) xs∧Keep Never w wr))
    (fun _ _ i _=>n - (intOf i).toNat)
  case atStart=>exact⟨0,0,0,none,[],by omega,rfl,rfl,⟨rfl,Own.nil _ _ _ _,rfl,Keep.refl _ _⟩⟩
  case round=>
   obtain⟨k,m,c3,A3,xs,hk,rfl,rfl,HH⟩:=hrel
   by_cases h0:k<n
   ·have hT:Ts[k]?=some (Ts[k]'(by rw[HN.out];exact h0)):=List.getElem?_eq_getElem _
    generalize Ts[k]'(by rw[HN.out];exact h0)=T at hT
    obtain⟨v,hv,A',m',c',rfl,hp⟩:=HV.out.at_ hT
    have HT:=qh hT
    obtain⟨ad,hA,_,hcc⟩:=(HR.out.keep HH.out.2.2.2 (by intro k h;cases h)).2 (by omega)
    have hcell:=hcc k _ hv
    obtain⟨hm',hc1,hc2,ys,hys,hpr⟩:=hp
    have HP:=qh hpr
    have HY:=qh hys
    have HM:=qh hm'
    subst hA
    have hb:m+m'≤1000:=by
     have h1:=andP_take_len Ts (k+1)
     have h2:=HL.out
     rw[andP_take hT,Parts.len_app] at h1
     have:=HH.out.1
     omega
    clear hT hcc hv hm' hys hpr
    go_wp2_with (at_builtin;refine wpList_app _ rfl (.tmp 12) (.tmp 13) _ rfl elemP w.heap.size rfl HH.out.2.1 _ rfl ((HY.out.keep (by omega) HH.out.2.2.2 (D':=Fr H) (fun _ _ h=>⟨fun h=>h.elim,h⟩)).rd (by omega)) (HP.out.one) (by omega) (by unfold maxLen;omega) (by have:=HH.out.2.2.2.size;omega) ?_;intro A5 c5 w5 hown5 hk5 hrow5;have HO:=qh hown5;have HK:=qh hk5;clear hown5 hk5)
    go_roundw
    case rel=>
     obtain⟨e1,o1,p1,k1⟩:=HH.out
     have hkk:Keep Never w w5:=k1.then_ HK.out (fun z hz hr=>by have:=(o1.row hr).1;omega)
     refine⟨k+1,m+m',c5,A5,_,by omega,by go_num,rfl,⟨?_,HO.out,?_,hkk⟩⟩
     ·rw[andP_take HT.out,Parts.len_app,←e1,←HM.out]
     ·rw[andP_take HT.out]
      refine PRows.app (HP.out.keep hkk (fun k hk h=>⟨fun h=>h.elim,h,hk⟩)) (p1.keep HK.out (fun k hk h=>⟨fun hr=>?_,h⟩))
      have:=(o1.row hr).1
      have:=h.2
      omega
    case measure=>simp[intOf];omega
   ·obtain rfl:k=n:=by omega
    go_wp2
    go_ret
    obtain⟨e1,o1,p1,k1⟩:=HH.out
    rw[List.take_of_length_le (by rw[HN.out];exact Nat.le_refl _)] at p1 e1
    exact⟨_,_,_,rfl,PSl.of_own o1 (p1.keep (Keep.refl Never _) (D':=Fr H) (fun _ _ h=>⟨fun h=>h.elim,h.1⟩)) e1 (fun _ h=>Nat.le_trans hH h),k1⟩
theorem All2.of_idx {α:Type}{R:α→Value→Prop}{L:List (Value×α)} (h:∀x∈L,R x.2 x.1):∀(is:List Nat) (z:Value×α),R z.2 z.1→All2 R (is.map fun i=>(L.getD i z).2) (is.map fun i=>(L.getD i z).1)
  | [],_,_=>trivial
  | i::is,z,hz=>⟨by
   show R (L.getD i z).2 (L.getD i z).1
   rw[List.getD_eq_getElem?_getD]
   cases hi:L[i]? with
   | none=>exact hz
   | some x=>exact h x (List.mem_of_getElem? hi),All2.of_idx h is z hz⟩
def zPart:Value×Parts:=(.slice none 0 0,.nil)
theorem and_st {H:Nat}{w0 w:World}{L:List (Value×Parts)} (HS:Hid (PStack H w0 w L)) {cs:Array Value}{n c:Nat} (is:List Nat) (T:Parts) (hl:cs=(is.map fun i=>(L.getD i zPart).1).toArray) (hn:is.length=n) (hT:andP (is.map fun i=>(L.getD i zPart).2)=T) (h16:is.length≤1000) (h1:T.len≤1000) :
    Calls Tryz.prog 195 #[.slice (some ⟨w.heap.size,0,none⟩) n c] (w.alloc (.cells cs 204)) fun e w'=>∃A m d,e=.returned (.slice A m d)∧Hid (PStack H w0 w' ((.slice A m d,T)::L)):=by
  subst hl
  subst hT
  have hk:Keep Never w (w.alloc (.cells (is.map fun i=>(L.getD i zPart).1).toArray 204)):=(Keep.refl _ _).alloc _
  have h2:=HS.out.next hk
  refine(and_any (is.map fun i=>(L.getD i zPart).2) _ _ _ _ H _ (by simp[hn]) _ (Rd.of_blk (Blk.new _ _ _) (by simp[hn])) (All2.of_idx (R:=isPart _ (Fr H)) (fun x hx=>h2.all x hx) is zPart ⟨none,0,0,rfl,PSl.nil _ _⟩) h1 (by omega) (by have:=h2.base;have:=h2.keep.size;omega)).mono ?_
  rintro e w' ⟨A,m,d,rfl,h3,h4⟩
  exact⟨A,m,d,rfl,qh (h2.push h4 h3 (Nat.le_refl _))⟩
theorem RdD.of_blk {w:World}{g:Nat}{t:TypeId}{cs:List Value}{D:Nat→Prop} (h:Blk w g t cs.toArray) (hD:D g) {size n:Nat} (hl:cs.length=n*size):RdD w D size (some ⟨g,0,none⟩) n cs:=by
 refine⟨hl,fun _=>⟨_,rfl,hD,fun j u hu=>?_⟩⟩
 have hadd:(⟨g,0,none⟩:Addr).add j=⟨g,j,none⟩:=by unfold Addr.add;split <;> simp_all
 rw[hadd,h.cell]
 simpa using hu
set_option maxHeartbeats 400000 in
theorem some_any (wh:Int) (A:Option Addr) (n c H:Nat) (w:World) (T:Parts) (h:PSl w (Fr H) A n c T) (hH:H≤w.heap.size) :
    Calls Tryz.prog 197 #[.int .i64 wh,.slice A n c] w (PRet w H (some_ wh T)):=by
  have HP:=qh h
  clear h
  go_enter Tryz.func197, Tryz.ntmps197
  go_wp2
  go_ret
  obtain⟨h1,h2,h3,xs,h4,h5⟩:=HP.out
  have hk:Keep Never w (w.alloc (.cells #[.int .i64 0,.int .i64 wh,.slice A n c] 240)):=(Keep.refl _ _).alloc _
  exact⟨_,_,_,rfl,⟨rfl,Nat.le_refl _,by unfold maxLen;omega,_,RdD.of_blk (Blk.new w 240 #[.int .i64 0,.int .i64 wh,.slice A n c]) hH rfl,
    ⟨A,n,c,xs,[],rfl,h1,h2,h3,h4.keep (by omega) hk (fun _ _ h=>⟨fun h=>h.elim,h⟩),h5.keep hk (fun _ _ h=>⟨fun h=>h.elim,h⟩),rfl⟩⟩,hk⟩
theorem PStack.at_ {H:Nat}{w0 w:World}{L:List (Value×Parts)} (h2:PStack H w0 w L) (i:Nat):∃A n c,(L.getD i zPart).1=.slice A n c∧PSl w (Fr H) A n c (L.getD i zPart).2:=by
 rw[List.getD_eq_getElem?_getD]
 cases hi:L[i]? with
 | none=>exact⟨none,0,0,rfl,PSl.nil _ _⟩
 | some y=>exact h2.all _ (List.mem_of_getElem? hi)
theorem some_st {H:Nat}{w0 w:World}{L:List (Value×Parts)} (HS:Hid (PStack H w0 w L)) {wh:Int}{A:Option Addr}{n c:Nat} (i:Nat) (T:Parts) (hv:L.getD i zPart=(.slice A n c,T)) :
    Calls Tryz.prog 197 #[.int .i64 wh,.slice A n c] w fun e w'=>∃A m d,e=.returned (.slice A m d)∧Hid (PStack H w0 w' ((.slice A m d,some_ wh T)::L)):=by
  have h2:=HS.out
  obtain⟨A',n',c',e,hp⟩:=PStack.at_ h2 i
  rw[hv] at e hp
  injection e with e1 e2 e3
  subst e1;subst e2;subst e3
  refine(some_any wh A n c H w _ hp (by have:=h2.base;have:=h2.keep.size;omega)).mono ?_
  rintro e w' ⟨A,m,d,rfl,h3,h4⟩
  exact⟨A,m,d,rfl,qh (h2.push h4 h3 (Nat.le_refl _))⟩
theorem PStack.ret {H:Nat}{w0 w:World}{L:List (Value×Parts)}{A:Option Addr}{n c:Nat}{T:Parts} (h:Hid (PStack H w0 w ((.slice A n c,T)::L))):PRet w0 H T (.returned (.slice A n c)) w:=by
 obtain⟨A',n',c',e,hp⟩:=h.out.all _ (List.mem_cons_self ..)
 injection e with e1 e2 e3
 subst e1;subst e2;subst e3
 exact⟨A,n,c,rfl,hp,h.out.keep⟩
end Go.Proofs.YtpapiojicbbheaaGreatDoor
