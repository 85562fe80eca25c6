/- Texts of this claim, together: PlcD, PlcE, PlnD, SclA, PlnE, LckB, LckC, LckG, PlnF, PlnG, SclB, PlnK. -/
import Derived.Test.YtpapiojicbbheaaGreatDoorTc04
import Derived.Test.YtpapiojicbbheaaGreatDoorTc02
import Derived.WalkMore
import Derived.Test.YtpapiojicbbheaaGreatDoorTc00
import Derived.IntWalk
import Derived.Test.YtpapiojicbbheaaGreatDoorTc03
import Derived.Deep.DeepCutAuto
import Derived.Test.YtpapiojicbbheaaGreatDoorTc01
import Derived.Deep.RegionLawGrows
namespace Go.Proofs.YtpapiojicbbheaaGreatDoor
open Go.RowKit
theorem edge_in {t:Tp} (hc:checkM t=0) {e:Int} (h:thereB t.1.length e=true):1≤edgeM t e∧edgeM t e≤1000000:=by
 unfold thereB at h
 simp only[Bool.and_eq_true,decide_eq_true_eq] at h
 have hl:e.toNat<t.1.length:=by omega
 have hg:edgeM t e=t.1[e.toNat]:=by unfold edgeM;rw[List.getD_eq_getElem?_getD,List.getElem?_eq_getElem hl];rfl
 rw[hg]
 exact check_edges hc _ (List.getElem_mem hl)
structure WkI (w5:World) (bs:Nat) (t:Tp) (r:Ps×Int) (f:Nat) (s:Stp) (m:Int) (W:World):Prop where
  far:Keep (fun q=>q=bs) w5 W
  st:Blk W bs 30 #[.int .i64 s.1,.bool s.2]
  go:goM t f s m=r
  there:thereB t.1.length s.1=true
  pos:0≤m
  top:m≤2199023255552
set_option maxHeartbeats 8000000 in
set_option maxRecDepth 100000 in
theorem pwalk_any (x:TA) (t:Tp) (B:Nat) (e a:Int) (r:Bool) (n:Int) (w:World) (h:TpAt w B x t) (hs:TpSmall x t) (hB:B≤w.heap.size) :
    Calls Tryz.prog 91 #[.agg x.cs,.agg #[.int .i64 e,.int .i64 a,.bool r],.int .i64 n] w (PsRet2 (walkP t (e,a,r) n) w):=by
  have HRi:=qh (fun (W:World) (hk:Keep Never w W)=>pright_any x t B e a r W (h.keep hk) hs (Nat.le_trans hB hk.size))
  have HTp:=qh h
  have HEl:Hid (x.ne=t.1.length):=qh h.e.len
  have HAl:=qh (fun (W:World) (hk:Keep Never w W)=>palong_any x t B e a r W (h.keep hk))
  have HOv:=qh (fun (W:World) (hk:Keep Never w W) (e:Int) (r:Bool) (n:Int)=>pover_any x t B e r n W (h.keep hk))
  have HAf:=qh (fun (W:World) (hk:Keep Never w W) (s:Stp)=>after_any x t B s W (h.keep hk) hs.j hs.e)
  have HED:=qh (fun (W:World) (hk:Keep Never w W) (i:Int) (h0:0≤i) (h1:i<(x.ne:Int))=>edge_at (h.keep hk) h0 h1)
  obtain⟨Ae,ne,ce,Aj,nj,cj,Ab,nb,cb,Ar,nr,cr⟩:=x
  simp only[TA.cs] at HRi HTp HEl HAl HOv HAf HED ⊢
  clear h hs hB
  obtain⟨w1,hw1⟩:∃V:World,w.alloc (.cells #[.slice Ae ne ce,.slice Aj nj cj,.slice Ab nb cb,.slice Ar nr cr] 27)=V:=⟨_,rfl⟩
  have zw1:w1.heap.size=w.heap.size+1:=by rw[←hw1];simp
  have kw1:Keep Never w w1:=by rw[←hw1];exact(Keep.refl _ _).alloc _
  have bw1:=Blk.new w 27 #[.slice Ae ne ce,.slice Aj nj cj,.slice Ab nb cb,.slice Ar nr cr]
  rw[hw1] at bw1
  obtain⟨w2,hw2⟩:∃V:World,w1.alloc (.cells #[.int .i64 e,.int .i64 a,.bool r] 71)=V:=⟨_,rfl⟩
  have zw2:w2.heap.size=w.heap.size+1+1:=by rw[←hw2];simp[zw1]
  have kw2:Keep Never w1 w2:=by rw[←hw2];exact(Keep.refl _ _).alloc _
  have bw2:=Blk.new w1 71 #[.int .i64 e,.int .i64 a,.bool r]
  rw[hw2,zw1] at bw2
  obtain⟨w3,hw3⟩:∃V:World,w2.alloc (.cells #[.int .i64 0,.int .i64 0,.bool false] 71)=V:=⟨_,rfl⟩
  have kw3:Keep Never w2 w3:=by rw[←hw3];exact(Keep.refl _ _).alloc _
  have bw3:=Blk.new w2 71 #[.int .i64 0,.int .i64 0,.bool false]
  rw[hw3,zw2] at bw3
  have HB1:=qh ((bw1.keep kw2 (fun h=>h)).keep kw3 (fun h=>h))
  have HB2:=qh (bw2.keep kw3 (fun h=>h))
  have HB3:=qh bw3
  have HK:=qh ((kw1.trans kw2).trans kw3)
  clear kw1 kw2 kw3 bw1 bw2 bw3
  obtain⟨y0,y1,y2,y3⟩:=bc4 HB1.out
  obtain⟨q0,q1,q2⟩:=bc3 HB2.out
  have HC:=qh (HRi.out w3 HK.out)
  clear HRi
  cases hr:rightB t (e,a,r) with
  | false=>
   have HF:Hid (walkP t (e,a,r) n=(noP,1)):=qh (by unfold walkP;rw[if_neg (by rw[hr];simp)])
   rw[hr] at HC
   clear hr
   go_enter Tryz.func91, Tryz.ntmps91
   go_wp2_with fail
   go_step3
   go_wp2_with fail
   refine HC.out.mono ?_
   rintro en w4 ⟨rfl,hk4⟩
   have HK4:=qtr HK hk4
   have HT4:=qkb HB1 hk4
   have HP4:=qkb HB2 hk4
   have HZ4:=qkb HB3 hk4
   clear hk4 HC HB1 HB2 HB3 y0 y1 y2 y3 q0 q1 q2 hw1 hw2 hw3 zw1 zw2
   obtain⟨z0,z1,z2⟩:=bc3 HZ4.out
   have zf0:=HZ4.out.frozen 0
   have zf1:=HZ4.out.frozen 1
   have zf2:=HZ4.out.frozen 2
   go_wp2_with fail
   (try simp only[Exit.inBlock,Exit.then])
   (try rw[Exit.noGoto_ret])
   have hp:=ps3_keep HK4.out (b:=w.heap.size+1+1) (.inr (by omega)) (.int .i64 0) (.int .i64 0) (.bool false)
   refine bodyPost_ret (ps_results2 (fn:=Tryz.f91) (r:=6) (s:=7) rfl (ps3_blk HZ4.out (.int .i64 0) (.int .i64 0) (.bool false)) _ rfl) rfl ⟨by rw[HF.out];rfl,hp⟩
  | true=>
   rw[hr] at HC
   by_cases g0:0≤n
   case neg=>
    have t0:decide (n<0)=true:=by simp;omega
    have HF:Hid (walkP t (e,a,r) n=(noP,1)):=qh (by unfold walkP;rw[if_neg (by rintro⟨_,h,_⟩;exact g0 h)])
    clear hr g0
    go_enter Tryz.func91, Tryz.ntmps91
    go_wp2_with fail
    go_step3
    go_wp2_with fail
    refine HC.out.mono ?_
    rintro en w4 ⟨rfl,hk4⟩
    have HK4:=qtr HK hk4
    have HT4:=qkb HB1 hk4
    have HP4:=qkb HB2 hk4
    have HZ4:=qkb HB3 hk4
    clear hk4 HC HB1 HB2 HB3 y0 y1 y2 y3 q0 q1 q2 hw1 hw2 hw3 zw1 zw2
    obtain⟨z0,z1,z2⟩:=bc3 HZ4.out
    have zf0:=HZ4.out.frozen 0
    have zf1:=HZ4.out.frozen 1
    have zf2:=HZ4.out.frozen 2
    go_wp2_with fail
    (try simp only[Exit.inBlock,Exit.then])
    (try rw[Exit.noGoto_ret])
    have hp:=ps3_keep HK4.out (b:=w.heap.size+1+1) (.inr (by omega)) (.int .i64 0) (.int .i64 0) (.bool false)
    refine bodyPost_ret (ps_results2 (fn:=Tryz.f91) (r:=6) (s:=7) rfl (ps3_blk HZ4.out (.int .i64 0) (.int .i64 0) (.bool false)) _ rfl) rfl ⟨by rw[HF.out];rfl,hp⟩
   have t0:decide (n<0)=false:=by simp;omega
   by_cases g1:n≤1099511627776
   case neg=>
    have t1:decide (n>1099511627776)=true:=by simp;omega
    have HF:Hid (walkP t (e,a,r) n=(noP,1)):=qh (by unfold walkP;rw[if_neg (by rintro⟨_,_,h⟩;exact g1 h)])
    clear hr g0 g1
    go_enter Tryz.func91, Tryz.ntmps91
    go_wp2_with fail
    go_step3
    go_wp2_with fail
    refine HC.out.mono ?_
    rintro en w4 ⟨rfl,hk4⟩
    have HK4:=qtr HK hk4
    have HT4:=qkb HB1 hk4
    have HP4:=qkb HB2 hk4
    have HZ4:=qkb HB3 hk4
    clear hk4 HC HB1 HB2 HB3 y0 y1 y2 y3 q0 q1 q2 hw1 hw2 hw3 zw1 zw2
    obtain⟨z0,z1,z2⟩:=bc3 HZ4.out
    have zf0:=HZ4.out.frozen 0
    have zf1:=HZ4.out.frozen 1
    have zf2:=HZ4.out.frozen 2
    go_wp2_with fail
    (try simp only[Exit.inBlock,Exit.then])
    (try rw[Exit.noGoto_ret])
    have hp:=ps3_keep HK4.out (b:=w.heap.size+1+1) (.inr (by omega)) (.int .i64 0) (.int .i64 0) (.bool false)
    refine bodyPost_ret (ps_results2 (fn:=Tryz.f91) (r:=6) (s:=7) rfl (ps3_blk HZ4.out (.int .i64 0) (.int .i64 0) (.bool false)) _ rfl) rfl ⟨by rw[HF.out];rfl,hp⟩
   have t1:decide (n>1099511627776)=false:=by simp;omega
   go_enter Tryz.func91, Tryz.ntmps91
   go_wp2_with fail
   go_step3
   go_wp2_with fail
   refine HC.out.mono ?_
   rintro en w4 ⟨rfl,hk4⟩
   have HK4:=qtr HK hk4
   have HT4:=qkb HB1 hk4
   have HP4:=qkb HB2 hk4
   have HZ4:=qkb HB3 hk4
   clear hk4 HC HB1 HB2 HB3 y0 y1 y2 y3 q0 q1 q2 hw1 hw2 hw3 zw1 zw2
   obtain⟨r1,r2,r3,r4⟩:=right_iff.1 hr
   simp only at r2 r3 r4
   have HCk:=qh r1
   have hin:=edge_in r1 r2
   have hth:=r2
   unfold thereB at hth
   simp only[Bool.and_eq_true,decide_eq_true_eq] at hth
   rw[←HEl.out] at hth
   have hal:=along_in (t:=t) (p:=(e,a,r)) r3 r4
   simp only at hal
   have HW:Hid (goM t 40 (e,r) (n+alongP t (e,a,r))=walkP t (e,a,r) n):=qh (by unfold walkP;rw[if_pos ⟨hr,g0,g1⟩])
   have HTh:=qh r2
   obtain⟨w5,hw5⟩:∃V:World,w4.alloc (.cells #[.int .i64 e,.bool r] 30)=V:=⟨_,rfl⟩
   have K5:Keep Never w4 w5:=by rw[←hw5];exact(Keep.refl _ _).alloc _
   have B5:=Blk.new w4 30 #[.int .i64 e,.bool r]
   rw[hw5] at B5
   obtain⟨bs,hbs⟩:∃q,w4.heap.size=q:=⟨_,rfl⟩
   rw[hbs] at B5
   have HK5:=qtr HK4 K5
   have HT5:=qkb HT4 K5
   have HP5:=qkb HP4 K5
   have HZ5:=qkb HZ4 K5
   have HS5:=qh B5
   have HLo:Hid (w.heap.size+2<bs):=qh (by rw[←hbs];exact HZ4.out.lt)
   have HC:=qh (HAl.out w5 HK5.out hth.1 hth.2 (by omega) hin.2 r3 (by omega))
   obtain⟨al,hal'⟩:∃z,alongP t (e,a,r)=z:=⟨_,rfl⟩
   rw[hal'] at HC HW hal
   have hw:IntKind.i64.wrap (n+al)=n+al:=IntWalk.i64_in _ (by omega)
   have HN0:Hid (0≤n+al∧n+al≤2199023255552):=qh (by omega)
   obtain⟨p0,p1,p2⟩:=bc3 HP4.out
   obtain⟨y0,y1,y2,y3⟩:=bc4 HT5.out
   obtain⟨q0,q1,q2⟩:=bc3 HP5.out
   clear K5 B5 HT4 HP4 HZ4 hr g0 g1 r1 r2 r3 r4 hin hth hal hal' HAl
   go_wp2_with fail
   refine HC.out.mono ?_
   clear hw5 hbs
   rintro en w6 ⟨rfl,hk6⟩
   have HI6:Hid (WkI w5 bs t (walkP t (e,a,r) n) 40 (e,r) (n+al) w6):=qh ⟨hk6.mono (fun _ _ h=>h.elim),HS5.out.keep hk6 (fun h=>h),HW.out,HTh.out,HN0.out.1,HN0.out.2⟩
   have HK56:=qh hk6
   obtain⟨s0,s1⟩:=bc2 HI6.out.st
   clear hk6 HC p0 p1 p2 q0 q1 q2 y0 y1 y2 y3
   have y0:w6.cell? ⟨w.heap.size,0,none⟩=some (.slice Ae ne ce):=(HT5.out.keep HK56.out (fun h=>h)).cell 0
   have hw':wrap64 (n+al)=n+al:=by have:=hw;rwa [IntWalk.i64_left] at this
   go_wp2_with fail
   (try rw[hw'])
   obtain⟨m0,hm0⟩:∃z,n+al=z:=⟨_,rfl⟩
   rw[hm0] at HI6
   rw[hm0]
   clear hm0 hw hw' s0 s1 y0 HW HN0
   go_step3
   go_wp2_with fail
   go_loopw [2,9,10,11,46,50,54] (fun m er l _ _ _ _ wr=>∃(f:Nat) (s:Stp) (mm:Int),f≤40∧m=.int .i64 mm∧er=.int .i64 0∧l=.int .i64 ((40 - f:Nat):Int)∧Hid (WkI w5 bs t (walkP t (e,a,r) n) f s mm wr)) (fun _ _ l _ _ _ _ _=>40 - (intOf l).toNat)
   case atStart=>exact⟨40,(e,r),m0,by omega,rfl,rfl,rfl,HI6⟩
   case round=>
    obtain⟨f,s,mm,hf,rfl,rfl,rfl,HH⟩:=hrel
    have HTr:=qh (HT5.out.keep HH.out.far (by have:=HLo.out;omega))
    have HZr:=qh (HZ5.out.keep HH.out.far (by have:=HLo.out;omega))
    have HKr:=qh (HK5.out.then_ HH.out.far (fun i hi e=>by have:=HLo.out;omega))
    have HSr:=qh HH.out.st
    have HGo:=qh HH.out.go
    have hpos:=HH.out.pos
    have htop:=HH.out.top
    obtain⟨es,er⟩:=s
    have hin:=edge_in HCk.out HH.out.there
    have hth:=HH.out.there
    unfold thereB at hth
    simp only[Bool.and_eq_true,decide_eq_true_eq] at hth
    rw[←HEl.out] at hth
    obtain⟨ad,k,v,hA,he,hk,d0,hv⟩:=HED.out wr HKr.out es hth.1 hth.2
    subst hA
    subst he
    simp only at hin HSr HGo hth
    rw[hv] at hin
    have hkz:(k:Int)<(ne:Int):=by omega
    have HV:=qh hv
    obtain⟨y0,y1,y2,y3⟩:=bc4 HTr.out
    obtain⟨s0,s1⟩:=bc2 HSr.out
    by_cases g:mm≤v
    ·have t2:decide (mm≤v)=true:=by simpa using g
     have HF:Hid (walkP t (e,a,r) n=(overP t (((k:Nat):Int),er) mm,0)):=qh (by rw[←HGo.out];exact goM_in (by rw[hv];exact g))
     have HC:=qh (HOv.out wr HKr.out ((k:Nat):Int) er mm hth.1 hth.2 (by rw[hv];omega) (by rw[hv];omega) hpos (by omega))
     clear g hv hth hin hpos htop
     go_wp2_with fail
     refine HC.out.mono ?_
     rintro en w7 ⟨rfl,hk7⟩
     have HK7:=qtr HKr hk7
     have HZ7:=qkb HZr hk7
     clear hk7 HC y0 y1 y2 y3 s0 s1
     obtain⟨⟨o1,o2,o3⟩,hov⟩:∃z,overP t (((k:Nat):Int),er) mm=z:=⟨_,rfl⟩
     rw[hov] at HF
     rw[hov]
     clear hov
     obtain⟨z0,z1,z2⟩:=bc3 HZ7.out
     have zf0:=HZ7.out.frozen 0
     have zf1:=HZ7.out.frozen 1
     have zf2:=HZ7.out.frozen 2
     go_wp2_with fail
     (try simp only[Exit.inBlock,Exit.then])
     (try rw[Exit.noGoto_ret])
     have hp:=ps3_keep HK7.out (b:=w.heap.size+1+1) (.inr (by omega)) (.int .i64 o1) (.int .i64 o2) (.bool o3)
     refine bodyPost_ret (ps_results2 (fn:=Tryz.f91) (r:=6) (s:=7) rfl (ps3_blk HZ7.out (.int .i64 o1) (.int .i64 o2) (.bool o3)) _ rfl) rfl ⟨by rw[HF.out];rfl,hp⟩
    ·have t2:decide (mm≤v)=false:=by simpa using g
     have HC:=qh (HAf.out wr HKr.out (((k:Nat):Int),er))
     dsimp only at HC
     have HG:Hid (¬mm≤edgeM t ((k:Nat):Int)):=qh (by rw[hv];exact g)
     clear hv hth
     go_wp2_with fail
     refine HC.out.mono ?_
     rintro en w7 ⟨A7,n7,c7,rfl,hn7,ho7,hk7⟩
     have HK7:=qtr HKr hk7
     have HKa:=qh hk7
     have HT7:=qkb HTr hk7
     have HZ7:=qkb HZr hk7
     have HS7:=qkb HSr hk7
     have HFa:=qh (HH.out.far.then_ hk7 (fun _ _ h=>h.elim))
     have Ho7:=qh ho7
     have Hth:=qh HH.out.there
     clear ho7 hk7 HC y0 y1 y2 y3 s0 s1 HTr HZr HSr HKr
     rcases hl:afterM t (((k:Nat):Int),er) with _ | ⟨x,_ | ⟨y,l⟩⟩
     ·have HF:Hid (walkP t (e,a,r) n=(noP,141)):=qh (by rw[←HGo.out];exact goM_end (by have:=HG.out;simp only;omega) hl)
      rw[hl] at hn7
      obtain rfl:n7=0:=hn7.out
      clear hl hn7
      obtain⟨z0,z1,z2⟩:=bc3 HZ7.out
      have zf0:=HZ7.out.frozen 0
      have zf1:=HZ7.out.frozen 1
      have zf2:=HZ7.out.frozen 2
      go_wp2_with fail
      (try simp only[Exit.inBlock,Exit.then])
      (try rw[Exit.noGoto_ret])
      have hp:=ps3_keep HK7.out (b:=w.heap.size+1+1) (.inr (by omega)) (.int .i64 0) (.int .i64 0) (.bool false)
      refine bodyPost_ret (ps_results2 (fn:=Tryz.f91) (r:=6) (s:=7) rfl (ps3_blk HZ7.out (.int .i64 0) (.int .i64 0) (.bool false)) _ rfl) rfl ⟨by rw[HF.out];rfl,hp⟩
     ·rw[hl] at hn7 Ho7
      obtain rfl:n7=1:=hn7.out
      have hmem:x∈afterM t (((k:Nat):Int),er):=by rw[hl];simp
      have Hx:=qh (after_there hmem)
      cases f with
      | zero=>
       have HF:Hid (walkP t (e,a,r) n=(noP,2)):=qh (by rw[←HGo.out];exact goM_long (by have:=HG.out;simp only;omega) hl)
       clear hl hn7 hmem
       obtain⟨z0,z1,z2⟩:=bc3 HZ7.out
       have zf0:=HZ7.out.frozen 0
       have zf1:=HZ7.out.frozen 1
       have zf2:=HZ7.out.frozen 2
       go_wp2_with fail
       (try simp only[Exit.inBlock,Exit.then])
       (try rw[Exit.noGoto_ret])
       have hp:=ps3_keep HK7.out (b:=w.heap.size+1+1) (.inr (by omega)) (.int .i64 0) (.int .i64 0) (.bool false)
       refine bodyPost_ret (ps_results2 (fn:=Tryz.f91) (r:=6) (s:=7) rfl (ps3_blk HZ7.out (.int .i64 0) (.int .i64 0) (.bool false)) _ rfl) rfl ⟨by rw[HF.out];rfl,hp⟩
      | succ f=>
       have HG2:Hid (goM t f x (mm - v)=walkP t (e,a,r) n):=qh (by rw[←HGo.out,goM_next (by have:=HG.out;simp only;omega) hl];simp only[HV.out])
       have t6:(((40 - (f+1):Nat):Int)==40)=false:=by simp;omega
       have hvm:v<mm:=by omega
       have hw6:IntKind.i64.wrap (mm - v)=mm - v:=IntWalk.i64_in _ (by omega)
       have HB7:Hid (0≤mm - v∧mm - v≤2199023255552):=qh (by omega)
       obtain⟨ad2,x',hA2,hb2,hx',c0,c1⟩:=Ho7.out.rd.stp (k:=0) (by omega)
       obtain rfl:x=x':=by simpa using hx'
       subst hA2
       obtain⟨x0,x1⟩:=x
       simp only[Nat.zero_mul] at c0 c1
       have ea:ad2.add 0=ad2:=by unfold Addr.add;split <;> simp_all
       have c0':=c0
       have c1':=c1
       rw[ea] at c0' c1'
       have d7:=keepT HKa.out d0
       obtain⟨y0,y1,y2,y3⟩:=bc4 HT7.out
       obtain⟨s0,s1⟩:=bc2 HS7.out
       have sf0:=HS7.out.frozen 0
       have sf1:=HS7.out.frozen 1
       clear hl hn7 hmem hx' g hin hpos htop d0
       go_wp2_with fail
       have b8:Blk ((w7.setCell ⟨bs,0,none⟩ (.int .i64 x0)).setCell ⟨bs,1,none⟩ (.bool x1)) bs 30 #[.int .i64 x0,.bool x1]:=by have:=(HS7.out.set_ 0 (.int .i64 x0)).set_ 1 (.bool x1);simpa using this
       refine⟨⟨f,(x0,x1),mm - v,by omega,rfl,rfl,by rw[show ((39 - f:Nat):Int)+1=((40 - f:Nat):Int) by omega],qh ⟨(HFa.out.set_ (p:=⟨bs,0,none⟩) (.inl rfl) _).set_ (p:=⟨bs,1,none⟩) (.inl rfl) _,b8,HG2.out,Hx.out,HB7.out.1,HB7.out.2⟩⟩,?_⟩
       simp[intOf];try omega
     ·have HF:Hid (walkP t (e,a,r) n=(noP,140)):=qh (by rw[←HGo.out];exact goM_fork (by have:=HG.out;simp only;omega) hl)
      rw[hl] at hn7
      have hn2:n7=l.length+2:=hn7.out
      have t3:((n7:Int)==0)=false:=by simp;omega
      have t4:decide ((n7:Int)>1)=true:=by simp;omega
      have t5:decide (1<n7)=true:=by simp;omega
      clear hl hn7 hn2
      obtain⟨z0,z1,z2⟩:=bc3 HZ7.out
      have zf0:=HZ7.out.frozen 0
      have zf1:=HZ7.out.frozen 1
      have zf2:=HZ7.out.frozen 2
      go_wp2_with fail
      (try simp only[Exit.inBlock,Exit.then])
      (try rw[Exit.noGoto_ret])
      have hp:=ps3_keep HK7.out (b:=w.heap.size+1+1) (.inr (by omega)) (.int .i64 0) (.int .i64 0) (.bool false)
      refine bodyPost_ret (ps_results2 (fn:=Tryz.f91) (r:=6) (s:=7) rfl (ps3_blk HZ7.out (.int .i64 0) (.int .i64 0) (.bool false)) _ rfl) rfl ⟨by rw[HF.out];rfl,hp⟩
end Go.Proofs.YtpapiojicbbheaaGreatDoor

namespace Go.Proofs.YtpapiojicbbheaaGreatDoor
open Go.RowKit
def locP (t:Tp) (id:Int) (rev:Bool) (n:Int):Ps×Int:=if checkM t=0 then (match balM t.2.2.1 id with | none=>(noP,4) | some b=>walkP t (b.2.1,b.2.2,rev) n) else (noP,1)
set_option maxHeartbeats 8000000 in
set_option maxRecDepth 100000 in
theorem plocate_any (x:TA) (t:Tp) (B:Nat) (id:Int) (r:Bool) (n:Int) (w:World) (h:TpAt w B x t) (hs:TpSmall x t) (hB:B≤w.heap.size) :
    Calls Tryz.prog 54 #[.agg x.cs,.int .i64 id,.bool r,.int .i64 n] w (PsRet2 (locP t id r n) w):=by
  have HCh:=qh (fun (W:World) (hk:Keep Never w W)=>check_any x t B W (h.keep hk) hs (Nat.le_trans hB hk.size))
  have HBa:=qh (fun (W:World) (hk:Keep Never w W)=>bal_any x t B id W (h.keep hk) hs.b)
  have HWk:=qh (fun (W:World) (hk:Keep Never w W) (e a:Int)=>pwalk_any x t B e a r n W (h.keep hk) hs (Nat.le_trans hB hk.size))
  obtain⟨Ae,ne,ce,Aj,nj,cj,Ab,nb,cb,Ar,nr,cr⟩:=x
  simp only[TA.cs] at HCh HBa HWk ⊢
  clear h hs hB
  obtain⟨w1,hw1⟩:∃V:World,w.alloc (.cells #[.slice Ae ne ce,.slice Aj nj cj,.slice Ab nb cb,.slice Ar nr cr] 27)=V:=⟨_,rfl⟩
  have zw1:w1.heap.size=w.heap.size+1:=by rw[←hw1];simp
  have kw1:Keep Never w w1:=by rw[←hw1];exact(Keep.refl _ _).alloc _
  have bw1:=Blk.new w 27 #[.slice Ae ne ce,.slice Aj nj cj,.slice Ab nb cb,.slice Ar nr cr]
  rw[hw1] at bw1
  obtain⟨w2,hw2⟩:∃V:World,w1.alloc (.cells #[.int .i64 0,.int .i64 0,.bool false] 71)=V:=⟨_,rfl⟩
  have kw2:Keep Never w1 w2:=by rw[←hw2];exact(Keep.refl _ _).alloc _
  have bw2:=Blk.new w1 71 #[.int .i64 0,.int .i64 0,.bool false]
  rw[hw2,zw1] at bw2
  have HB1:=qh (bw1.keep kw2 (fun h=>h))
  have HB2:=qh bw2
  have HK:=qh (kw1.trans kw2)
  clear kw1 kw2 bw1 bw2
  obtain⟨y0,y1,y2,y3⟩:=bc4 HB1.out
  have HC:=qh (HCh.out w2 HK.out)
  obtain⟨ck,hck⟩:∃z,checkM t=z:=⟨_,rfl⟩
  rw[hck] at HC
  go_enter Tryz.func54, Tryz.ntmps54
  go_wp2_with fail
  refine HC.out.mono ?_
  rintro en w4 ⟨rfl,hk4⟩
  have HK4:=qtr HK hk4
  have HT4:=qkb HB1 hk4
  have HZ4:=qkb HB2 hk4
  clear hk4 HC HCh HB1 HB2 y0 y1 y2 y3 hw1 hw2 zw1
  by_cases g:ck=0
  case neg=>
   have t0:(ck != 0)=true:=by simpa using g
   have HF:Hid (locP t id r n=(noP,1)):=qh (by unfold locP;rw[if_neg (by rw[hck];exact g)])
   clear g hck
   obtain⟨z0,z1,z2⟩:=bc3 HZ4.out
   have zf0:=HZ4.out.frozen 0
   have zf1:=HZ4.out.frozen 1
   have zf2:=HZ4.out.frozen 2
   go_wp2_with fail
   (try simp only[Exit.inBlock,Exit.then])
   have hp:=ps3_keep HK4.out (b:=w.heap.size+1) (.inr (by omega)) (.int .i64 0) (.int .i64 0) (.bool false)
   refine bodyPost_ret (ps_results2 (fn:=Tryz.f54) (r:=8) (s:=9) rfl (ps3_blk HZ4.out (.int .i64 0) (.int .i64 0) (.bool false)) _ rfl) rfl ⟨by rw[HF.out];rfl,hp⟩
  have t0:(ck != 0)=false:=by simpa using g
  have HF0:Hid (locP t id r n=match balM t.2.2.1 id with | none=>(noP,4) | some b=>walkP t (b.2.1,b.2.2,r) n):=qh (by unfold locP;rw[if_pos (by rw[hck];exact g)])
  clear g hck
  have hC0:=HBa.out w4 HK4.out
  unfold BalRet at hC0
  obtain⟨ob,hob⟩:∃z,balM t.2.2.1 id=z:=⟨_,rfl⟩
  rw[hob] at hC0 HF0
  have HC:=qh hC0
  clear hC0 hob HBa
  obtain⟨y0,y1,y2,y3⟩:=bc4 HT4.out
  cases ob with
  | none=>
   have HF:Hid (locP t id r n=(noP,4)):=qh HF0.out
   go_wp2_with fail
   refine HC.out.mono ?_
   rintro en w5 ⟨rfl,hk5⟩
   have HK5:=qtr HK4 hk5
   have HZ5:=qkb HZ4 hk5
   clear hk5 HC y0 y1 y2 y3
   simp only[Option.getD,Option.isSome]
   have HK6:=qh (HK5.out.trans ((Keep.refl Never w5).alloc (.cells #[.int .i64 0,.int .i64 0,.int .i64 0] 94)))
   have HZ6:=qh (HZ5.out.alloc (.cells #[.int .i64 0,.int .i64 0,.int .i64 0] 94))
   obtain⟨z0,z1,z2⟩:=bc3 HZ6.out
   have zf0:=HZ6.out.frozen 0
   have zf1:=HZ6.out.frozen 1
   have zf2:=HZ6.out.frozen 2
   go_wp2_with fail
   (try simp only[Exit.inBlock,Exit.then])
   have hp:=ps3_keep HK6.out (b:=w.heap.size+1) (.inr (by omega)) (.int .i64 0) (.int .i64 0) (.bool false)
   refine bodyPost_ret (ps_results2 (fn:=Tryz.f54) (r:=8) (s:=9) rfl (ps3_blk HZ6.out (.int .i64 0) (.int .i64 0) (.bool false)) _ rfl) rfl ⟨by rw[HF.out];rfl,hp⟩
  | some b=>
   obtain⟨b1,b2,b3⟩:=b
   have HF:Hid (locP t id r n=walkP t (b2,b3,r) n):=qh HF0.out
   go_wp2_with fail
   refine HC.out.mono ?_
   rintro en w5 ⟨rfl,hk5⟩
   have HK5:=qtr HK4 hk5
   have HT5:=qkb HT4 hk5
   have HZ5:=qkb HZ4 hk5
   clear hk5 HC y0 y1 y2 y3
   simp only[Option.getD,Option.isSome]
   obtain⟨w6,hw6⟩:∃V:World,w5.alloc (.cells #[.int .i64 b1,.int .i64 b2,.int .i64 b3] 94)=V:=⟨_,rfl⟩
   have K6:Keep Never w5 w6:=by rw[←hw6];exact(Keep.refl _ _).alloc _
   have B6:=Blk.new w5 94 #[.int .i64 b1,.int .i64 b2,.int .i64 b3]
   rw[hw6] at B6
   obtain⟨bb,hbb⟩:∃q,w5.heap.size=q:=⟨_,rfl⟩
   rw[hbb] at B6
   have HK6:=qtr HK5 K6
   have HT6:=qkb HT5 K6
   have HZ6:=qkb HZ5 K6
   have HB6:=qh B6
   clear K6 B6
   obtain⟨y0,y1,y2,y3⟩:=bc4 HT6.out
   obtain⟨q0,q1,q2⟩:=bc3 HB6.out
   have HC:=qh (HWk.out w6 HK6.out b2 b3)
   go_wp2_with fail
   refine HC.out.mono ?_
   clear hw6 hbb
   rintro en w7 ⟨rfl,hk7⟩
   have HK7:=qtr HK6 hk7
   have HZ7:=qkb HZ6 hk7
   clear hk7 HC y0 y1 y2 y3 q0 q1 q2
   obtain⟨⟨⟨o1,o2,o3⟩,oe⟩,hov⟩:∃z,walkP t (b2,b3,r) n=z:=⟨_,rfl⟩
   rw[hov] at HF
   rw[hov]
   clear hov
   obtain⟨z0,z1,z2⟩:=bc3 HZ7.out
   have zf0:=HZ7.out.frozen 0
   have zf1:=HZ7.out.frozen 1
   have zf2:=HZ7.out.frozen 2
   go_wp2_with fail
   (try simp only[Exit.inBlock,Exit.then])
   have hp:=ps3_keep HK7.out (b:=w.heap.size+1) (.inr (by omega)) (.int .i64 o1) (.int .i64 o2) (.bool o3)
   refine bodyPost_ret (ps_results2 (fn:=Tryz.f54) (r:=8) (s:=9) rfl (ps3_blk HZ7.out (.int .i64 o1) (.int .i64 o2) (.bool o3)) _ rfl) rfl ⟨by rw[HF.out];rfl,hp⟩
end Go.Proofs.YtpapiojicbbheaaGreatDoor

namespace Go.Proofs.YtpapiojicbbheaaGreatDoor
open Go.RowKit
def buildM (t:Tp) (l:List Lk) (train ref:Int) (rev:Bool) (n:Int):Ma×Int:=
  if (locP t ref rev n).2≠0 then (noMa,(locP t ref rev n).2) else
  match balM t.2.2.1 ref with
  | none=>(noMa,4)
  | some b=>
   let s:Stp:=((locP t ref rev n).1.1,(locP t ref rev n).1.2.2)
   let c:=chainM t l train s
   let back:=alongP t (b.2.1,b.2.2,rev)
   let g:=goneM t 40 (b.2.1,rev) (n+back)
   if c=[] then (noMa,4) else endC ref rev n (wayC t s g c c.length) (lessS (secC t s g back c c.length) (gapC t c c.length)) (gapC t c c.length)
end Go.Proofs.YtpapiojicbbheaaGreatDoor

namespace Go.Proofs.YtpapiojicbbheaaGreatDoor
open Go.RowKit
def unitM (s:Int):Int:=if s=0 then 1 else if s=1 then 10 else if s=2 then 100 else 0
def dmM (n s:Int):Int×Int:=if unitM s=0 then (0,1) else if n<0∨32766<n then (0,7) else (n*unitM s,0)
def raiseM (d s:Int) (up:Bool):Int:=if up=true then d+(unitM s - 1) else d
def scaledM (d s:Int) (up:Bool):Int×Int:=if unitM s=0 then (0,1) else if d<0∨1099511627776<d then (0,7) else if 32766<raiseM d s up / unitM s then (0,7) else (raiseM d s up / unitM s,0)
def bestM (d:Int):Int:=if (scaledM d 0 true).2=0 then 0 else if (scaledM d 1 true).2=0 then 1 else if (scaledM d 2 true).2=0 then 2 else -1
theorem unit_range (s:Int):0≤unitM s∧unitM s≤100:=by unfold unitM;split;omega;split;omega;split <;> omega
theorem scaled_ok {d s:Int}{up:Bool} (h:(scaledM d s up).2=0):0<unitM s∧0≤d∧d≤1099511627776∧(scaledM d s up).1=raiseM d s up / unitM s∧(scaledM d s up).1≤32766∧0≤(scaledM d s up).1:=by
 have hu:=unit_range s
 unfold scaledM at h ⊢
 split at h
 ·exact absurd h (by decide)
 rename_i h1
 split at h
 ·exact absurd h (by decide)
 rename_i h2
 split at h
 ·exact absurd h (by decide)
 rename_i h3
 rw[if_neg h1,if_neg h2,if_neg h3]
 have h4:0<unitM s:=by omega
 have h5:0≤raiseM d s up:=by unfold raiseM;split <;> omega
 exact⟨h4,by omega,by omega,rfl,by simp only;omega,Int.ediv_nonneg h5 (by omega)⟩
theorem best_ok {d:Int} (h:0≤bestM d):(scaledM d (bestM d) true).2=0∧bestM d≤2:=by
 unfold bestM at h ⊢
 split
 ·exact⟨by assumption,by omega⟩
 ·split
  ·exact⟨by assumption,by omega⟩
  ·split
   ·exact⟨by assumption,by omega⟩
   ·rename_i h1 h2 h3
    rw[if_neg h1,if_neg h2,if_neg h3] at h
    exact absurd h (by decide)
theorem scaled_less {d e s:Int} (h:(scaledM d s true).2=0) (h0:0≤e) (h1:e≤d):(scaledM e s false).2=0∧(scaledM e s false).1=e / unitM s:=by
 obtain⟨g1,g2,g3,g4,g5,g6⟩:=scaled_ok h
 have hle:e / unitM s≤32766:=by
  have h2:e / unitM s≤raiseM d s true / unitM s:=Int.ediv_le_ediv g1 (by unfold raiseM;rw[if_pos rfl];omega)
  omega
 unfold scaledM
 rw[if_neg (by omega),if_neg (by omega)]
 have:raiseM e s false=e:=rfl
 rw[this,if_neg (by omega)]
 exact⟨rfl,rfl⟩
end Go.Proofs.YtpapiojicbbheaaGreatDoor

namespace Go.Proofs.YtpapiojicbbheaaGreatDoor
open Go.RowKit
def nomI (rev:Bool):Int:=if rev=true then 0 else 1
def secN (u:Int):Int→List Sc→Option (List Int)
  | _,[]=>some []
  | last,s::l=>if (scaledM s.1 u false).2≠0∨(scaledM s.1 u false).1≤last then none else (secN u (scaledM s.1 u false).1 l).map fun v=>((scaledM s.1 u false).1 - last)::1::s.2::0::v
def gapN (u g:Int):List Int:=if 0<(scaledM g u false).1 then [1,(scaledM g u false).1,0,0] else [0,0]
def firstB (t:Tp) (e:Int):Option Bl:=t.2.2.1.find? fun b=>b.2.1==e
def linkN (t:Tp) (u:Int) (n:Nat):Nat→Int→Int→List Stp→Except Int (List Int)
  | _,_,_,[]=>.ok []
  | i,begin,at_,s::l=>match firstB t s.1 with
    | none=>.error 1
    | some b=>
     let here:=begin+alongP t (b.2.1,b.2.2,s.2)
     if (scaledM (here - at_) u false).2≠0 then .error (scaledM (here - at_) u false).2 else
     match linkN t u n (i+1) (begin+edgeM t s.1) here l with
     | .error e=>.error e
     | .ok v=>.ok ((if i=2 then [(n:Int) - 2] else [])++[(scaledM (here - at_) u false).1,1,b.1 / 16384,b.1 % 16384,nomI s.2,2,12]++v)
def packsM17 (t:Tp) (m:Ma):Except Int (List (Int×List Int)):=
  if mayMA t m=false then .error 1 else
  let u:=bestM (endS m.2.2.2.1+m.2.2.2.2)
  if u<0 then .error 7 else
  match secN u 0 m.2.2.2.1 with
  | none=>.error 7
  | some v=>
   let p15:Int×List Int:=(15,[nomI m.2.1,u,0,0,(m.2.2.2.1.length:Int) - 1]++v++[0]++gapN u m.2.2.2.2)
   match m.2.2.1,balM t.2.2.1 m.1 with
   | s0::s1::l,some b=>match linkN t u m.2.2.1.length 1 (edgeM t s0.1) (alongP t (b.2.1,b.2.2,m.2.1)) (s1::l) with
     | .error e=>.error e
     | .ok w=>.ok [p15,(5,[nomI m.2.1,u]++w++(if l=[] then [0] else []))]
   | _,_=>.ok [p15]
def failR (e x:Int):Int:=if e=0 then x else e
def farR (u:Int) (v:List Int) (e:Int):Int×List Int×Int:=((dmM (v.headD 0) u).1,v.tail,if (dmM (v.headD 0) u).2≠0 then failR e 7 else e)
structure SecO where
  s:Sc
  v:List Int
  e:Int
def sectR (u from_:Int) (v:List Int) (e:Int):SecO:=
  let raw:=v.headD 0
  let timed:=decide (v.tail.headD 0=1)
  let timer:=if timed=true then v.tail.tail.headD 0 else 0
  let v':=if timed=true then v.tail.tail.tail.tail else v.tail.tail
  let e1:=if timed=false∨timer<1∨1000<timer∨raw=0 then failR e 20 else e
  let e2:=if (dmM raw u).2≠0 then failR e1 7 else e1
  ⟨(from_+(dmM raw u).1,timer),v',e2⟩
def sectsR (u:Int):Nat→Int→List Int→Except Int (List Sc×List Int)
  | 0,_,v=>.ok ([],v)
  | k+1,at_,v=>if (sectR u at_ v 0).e≠0 then .error (sectR u at_ v 0).e else
    match sectsR u k (sectR u at_ v 0).s.1 (sectR u at_ v 0).v with
    | .error e=>.error e
    | .ok (l,w)=>.ok ((sectR u at_ v 0).s::l,w)
def gapR (u:Int) (v:List Int):Int×Int:=
  let v1:=if v.headD 0=1 then v.tail.tail.tail else v.tail
  if v1.headD 0=1 then ((dmM (v1.tail.headD 0) u).1,if (dmM (v1.tail.headD 0) u).2≠0 then 7 else 0) else (0,0)
def secs3 (u:Int) (z:List Sc×List Int):Except Int (List Sc×Int):=if (gapR u z.2).2≠0 then .error (gapR u z.2).2 else .ok (z.1,(gapR u z.2).1)
def secs4 (u:Int) (r:Except Int (List Sc×List Int)):Except Int (List Sc×Int):=match r with
  | .error e=>.error e
  | .ok z=>secs3 u z
def secs2 (u many:Int) (v:List Int):Except Int (List Sc×Int):=if 8≤many then .error 2 else secs4 u (sectsR u (many+1).toNat 0 v)
def secsM (rev:Bool) (v:List Int):Except Int (List Sc×Int):=
  if v.headD 0≠nomI rev then .error 20 else secs2 (v.tail.headD 0) (v.tail.tail.tail.tail.headD 0) v.tail.tail.tail.tail.tail
def orV (a b:Int):Int:=bits .or .i64 a b
def idL (v:List Int):Int:=orV (v.getD 2 0*16384) (v.getD 3 0)
def stepL (t:Tp) (path:List Stp) (v:List Int):Except Int (List Stp):=match balM t.2.2.1 (idL v),path.getLast? with
  | none,_=>.error 4
  | _,none=>.error 4
  | some b,some last=>if b.2.1=last.1 then .ok path else
    if (afterM t last).contains (b.2.1,decide (v.getD 4 0=0))=false then .error 141 else
    if overB path b.2.1=true∨path.length=24 then .error 2 else .ok (path++[(b.2.1,decide (v.getD 4 0=0))])
def linksR (t:Tp):Nat→List Stp→List Int→Except Int (List Stp)
  | 0,path,_=>.ok path
  | k+1,path,v=>if v.getD 1 0≠1 then .error 20 else match stepL t path v with
    | .error e=>.error e
    | .ok p=>linksR t k p (v.drop 7)
def linkedR (t:Tp) (path:List Stp) (v:List Int):Except Int (List Stp):=
  if (v.drop 2).getD 1 0≠1 then .error 20 else match stepL t path (v.drop 2) with
  | .error e=>.error e
  | .ok p=>linksR t ((v.drop 2).getD 7 0).toNat p ((v.drop 2).drop 8)
abbrev Pk:=Int×List Int
def wayR (t:Tp) (s:Stp) (l:List Pk):Except Int (List Stp):=match l.find? (fun p=>p.1==5) with
  | none=>.ok [s]
  | some p=>linkedR t [s] p.2
def headId (l:List Pk):Int:=match l with | []=>0 | p::_=>p.1
def headV (l:List Pk):List Int:=match l with | []=>[] | p::_=>p.2
def readM (bad:Pk→Bool) (t:Tp) (ref:Int) (rev:Bool) (l:List Pk):Ma×Int:=
  if checkM t≠0 then (noMa,1) else match balM t.2.2.1 ref with
  | none=>(noMa,4)
  | some b=>if headId l≠15∨l.any bad=true then (noMa,50) else
    match secsM rev (headV l) with
    | .error e=>(noMa,e)
    | .ok z=>match wayR t (b.2.1,rev) l with
      | .error e=>(noMa,e)
      | .ok P=>if mayMA t (ref,rev,P,z.1,z.2)=true then ((ref,rev,P,z.1,z.2),0) else (noMa,7)
end Go.Proofs.YtpapiojicbbheaaGreatDoor

namespace Go.Proofs.YtpapiojicbbheaaGreatDoor
open Go.RowKit
set_option maxRecDepth 100000 in
theorem elemLk:Elem Tryz.prog 28 62 3 24:=⟨Tryz.underlying28, _,_,rfl,rfl,rfl,rfl,rfl,by omega⟩
theorem lkAt_own {w:World}{base n c:Nat}{A:Option Addr}{l:List Lk} (h:Own w base 62 3 A n c (spCells l)):SpAt w w.heap.size A n c l:=
  ⟨h.rd,(fun e=>by
   rcases h.form with⟨_,_,h2,_⟩ | ⟨_,_,h2,_⟩
   ·exact h2
   ·rw[e] at h2;cases h2),h.cap_le⟩
end Go.Proofs.YtpapiojicbbheaaGreatDoor

namespace Go.Proofs.YtpapiojicbbheaaGreatDoor
open Go.RowKit
def LksRet (m:List Lk) (w:World) (e:Ending) (w':World):Prop:=∃A n c,e=.returned (.slice A n c)∧Hid (n=m.length)∧Own w' w.heap.size 62 3 A n c (spCells m)∧Keep Never w w'
theorem TpAt.wide {w:World}{B B2:Nat}{x:TA}{t:Tp} (h:TpAt w B x t) (hB:B≤B2):TpAt w B2 x t:=⟨h.e.more hB,h.j.more hB,h.b.more hB,h.r.more hB⟩
end Go.Proofs.YtpapiojicbbheaaGreatDoor

namespace Go.Proofs.YtpapiojicbbheaaGreatDoor
open Go.RowKit
def lineT:Tp:=([100,200,300],[((0,1),(1,0)),((1,1),(2,0))],[(7,0,10),(8,1,20),(9,2,30)],[(1,[(0,false),(1,false)],0,30),(2,[(1,false),(2,false)],50,20)])
theorem line_small {w:World}{B:Nat}{x:TA} (h:TpAt w B x lineT):TpSmall x lineT:=
  ⟨by rw[h.e.len];decide,by rw[h.j.len];decide,by rw[h.b.len];decide,by rw[h.r.len];decide,by decide⟩
set_option maxRecDepth 100000 in
theorem line_results {w:World}{b:Nat}{v0 v1 v2 v3:Value} (hb:Blk w b 27 #[v0,v1,v2,v3]) (tmps:Array Value) (ht:tmps.getD 0 undef=.pointer (some ⟨b,0,none⟩)) :
    (results Tryz.f38 tmps).run Tryz.prog w=.ok (.agg #[v0,v1,v2,v3]) w:=by
  have q0:w.cell? ⟨b,0,none⟩=some v0:=hb.cell 0
  have q1:w.cell? ⟨b,1,none⟩=some v1:=hb.cell 1
  have q2:w.cell? ⟨b,2,none⟩=some v2:=hb.cell 2
  have q3:w.cell? ⟨b,3,none⟩=some v3:=hb.cell 3
  have ht':tmps[0]?.getD undef=.pointer (some ⟨b,0,none⟩):=by rw[←Array.getD_eq_getD_getElem?];exact ht
  simp[results,ht',go_sem,q0,q1,q2,q3]
set_option maxHeartbeats 8000000 in
set_option maxRecDepth 100000 in
theorem line_any (w:World):Calls Tryz.prog 38 #[] w fun e w'=>∃x:TA,e=.returned (.agg x.cs)∧TpAt w' w'.heap.size x lineT∧Keep Never w w':=by
 obtain⟨w1,hw1⟩:∃W:World,w.alloc (.cells #[.slice none 0 0,.slice none 0 0,.slice none 0 0,.slice none 0 0] 27)=W:=⟨_,rfl⟩
 have k1:Keep Never w w1:=by rw[←hw1];exact(Keep.refl _ _).alloc _
 have b1:=Blk.new w 27 #[.slice none 0 0,.slice none 0 0,.slice none 0 0,.slice none 0 0]
 rw[hw1] at b1
 obtain⟨w2,hw2⟩:∃W:World,w1.alloc (.cells #[.int .i64 100,.int .i64 200,.int .i64 300] 3)=W:=⟨_,rfl⟩
 have k2:Keep Never w1 w2:=by rw[←hw2];exact(Keep.refl _ _).alloc _
 have b2:=Blk.new w1 3 #[.int .i64 100,.int .i64 200,.int .i64 300]
 rw[hw2] at b2
 obtain⟨w3,hw3⟩:∃W:World,w2.alloc (.cells #[.int .i64 0,.int .i64 1,.int .i64 1,.int .i64 0,.int .i64 1,.int .i64 1,.int .i64 2,.int .i64 0] 134)=W:=⟨_,rfl⟩
 have k3:Keep Never w2 w3:=by rw[←hw3];exact(Keep.refl _ _).alloc _
 have b3:=Blk.new w2 134 #[.int .i64 0,.int .i64 1,.int .i64 1,.int .i64 0,.int .i64 1,.int .i64 1,.int .i64 2,.int .i64 0]
 rw[hw3] at b3
 obtain⟨w4,hw4⟩:∃W:World,w3.alloc (.cells #[.int .i64 7,.int .i64 0,.int .i64 10,.int .i64 8,.int .i64 1,.int .i64 20,.int .i64 9,.int .i64 2,.int .i64 30] 94)=W:=⟨_,rfl⟩
 have k4:Keep Never w3 w4:=by rw[←hw4];exact(Keep.refl _ _).alloc _
 have b4:=Blk.new w3 94 #[.int .i64 7,.int .i64 0,.int .i64 10,.int .i64 8,.int .i64 1,.int .i64 20,.int .i64 9,.int .i64 2,.int .i64 30]
 rw[hw4] at b4
 obtain⟨w5,hw5⟩:∃W:World,w4.alloc (.cells #[.int .i64 0,.bool false,.int .i64 1,.bool false] 30)=W:=⟨_,rfl⟩
 have k5:Keep Never w4 w5:=by rw[←hw5];exact(Keep.refl _ _).alloc _
 have b5:=Blk.new w4 30 #[.int .i64 0,.bool false,.int .i64 1,.bool false]
 rw[hw5] at b5
 obtain⟨w6,hw6⟩:∃W:World,w5.alloc (.cells #[.int .i64 1,.bool false,.int .i64 2,.bool false] 30)=W:=⟨_,rfl⟩
 have k6:Keep Never w5 w6:=by rw[←hw6];exact(Keep.refl _ _).alloc _
 have b6:=Blk.new w5 30 #[.int .i64 1,.bool false,.int .i64 2,.bool false]
 rw[hw6] at b6
 obtain⟨w7,hw7⟩:∃W:World,w6.alloc (.cells #[.int .i64 1,.slice (some ⟨w4.heap.size,0,none⟩) 2 2,.int .i64 0,.int .i64 30,.int .i64 2,.slice (some ⟨w5.heap.size,0,none⟩) 2 2,.int .i64 50,.int .i64 20] 64)=W:=⟨_,rfl⟩
 have k7:Keep Never w6 w7:=by rw[←hw7];exact(Keep.refl _ _).alloc _
 have b7:=Blk.new w6 64 #[.int .i64 1,.slice (some ⟨w4.heap.size,0,none⟩) 2 2,.int .i64 0,.int .i64 30,.int .i64 2,.slice (some ⟨w5.heap.size,0,none⟩) 2 2,.int .i64 50,.int .i64 20]
 rw[hw7] at b7
 have B1:=((((((b1.keep k2 (fun h=>h)).keep k3 (fun h=>h)).keep k4 (fun h=>h)).keep k5 (fun h=>h)).keep k6 (fun h=>h)).keep k7 (fun h=>h))
 have B2:=(((((b2.keep k3 (fun h=>h)).keep k4 (fun h=>h)).keep k5 (fun h=>h)).keep k6 (fun h=>h)).keep k7 (fun h=>h))
 have B3:=((((b3.keep k4 (fun h=>h)).keep k5 (fun h=>h)).keep k6 (fun h=>h)).keep k7 (fun h=>h))
 have B4:=(((b4.keep k5 (fun h=>h)).keep k6 (fun h=>h)).keep k7 (fun h=>h))
 have B5:=((b5.keep k6 (fun h=>h)).keep k7 (fun h=>h))
 have B6:=(b6.keep k7 (fun h=>h))
 have B7:=b7
 have g0:w7.cell? ⟨w.heap.size,0,none⟩=some (.slice none 0 0):=B1.cell 0
 have m0:=B1.frozen 0
 have g1:w7.cell? ⟨w.heap.size,1,none⟩=some (.slice none 0 0):=B1.cell 1
 have m1:=B1.frozen 1
 have g2:w7.cell? ⟨w.heap.size,2,none⟩=some (.slice none 0 0):=B1.cell 2
 have m2:=B1.frozen 2
 have g3:w7.cell? ⟨w.heap.size,3,none⟩=some (.slice none 0 0):=B1.cell 3
 have m3:=B1.frozen 3
 have HLt:Hid (w.heap.size<w1.heap.size∧w1.heap.size<w2.heap.size∧w2.heap.size<w3.heap.size∧w3.heap.size<w4.heap.size∧w4.heap.size<w5.heap.size∧w5.heap.size<w6.heap.size∧w6.heap.size<w7.heap.size):=qh ⟨b1.lt,b2.lt,b3.lt,b4.lt,b5.lt,b6.lt,b7.lt⟩
 have HBz:=qh (put4_blk B1 (.slice (some ⟨w1.heap.size,0,none⟩) 3 3) (.slice (some ⟨w2.heap.size,0,none⟩) 2 2) (.slice (some ⟨w3.heap.size,0,none⟩) 3 3) (.slice (some ⟨w6.heap.size,0,none⟩) 2 2))
 have HKz:=qh (put4_keep ((((((k1.trans k2).trans k3).trans k4).trans k5).trans k6).trans k7) (.inr (Nat.le_refl _)) (.slice (some ⟨w1.heap.size,0,none⟩) 3 3) (.slice (some ⟨w2.heap.size,0,none⟩) 2 2) (.slice (some ⟨w3.heap.size,0,none⟩) 3 3) (.slice (some ⟨w6.heap.size,0,none⟩) 2 2))
 have hput:=put4_keep (b:=w.heap.size) (Keep.refl (fun k=>k=w.heap.size) w7) (.inl rfl) (.slice (some ⟨w1.heap.size,0,none⟩) 3 3) (.slice (some ⟨w2.heap.size,0,none⟩) 2 2) (.slice (some ⟨w3.heap.size,0,none⟩) 3 3) (.slice (some ⟨w6.heap.size,0,none⟩) 2 2)
 have hlt:=HLt.out
 obtain⟨wz,hwz⟩:∃W:World,(((w7.setCell ⟨w.heap.size,0,none⟩ (.slice (some ⟨w1.heap.size,0,none⟩) 3 3)).setCell ⟨w.heap.size,1,none⟩ (.slice (some ⟨w2.heap.size,0,none⟩) 2 2)).setCell ⟨w.heap.size,2,none⟩ (.slice (some ⟨w3.heap.size,0,none⟩) 3 3)).setCell ⟨w.heap.size,3,none⟩ (.slice (some ⟨w6.heap.size,0,none⟩) 2 2)=W:=⟨_,rfl⟩
 rw[hwz] at hput HBz HKz
 have HE:=qh (Rd.of_blk (size:=1) (n:=3) (cs:=[.int .i64 100,.int .i64 200,.int .i64 300]) (B2.keep hput (by omega)) rfl)
 have HJ:=qh (Rd.of_blk (size:=4) (n:=2) (cs:=[.int .i64 0,.int .i64 1,.int .i64 1,.int .i64 0,.int .i64 1,.int .i64 1,.int .i64 2,.int .i64 0]) (B3.keep hput (by omega)) rfl)
 have HL:=qh (Rd.of_blk (size:=3) (n:=3) (cs:=[.int .i64 7,.int .i64 0,.int .i64 10,.int .i64 8,.int .i64 1,.int .i64 20,.int .i64 9,.int .i64 2,.int .i64 30]) (B4.keep hput (by omega)) rfl)
 have HP:=qh (Rd.of_blk (size:=2) (n:=2) (cs:=[.int .i64 0,.bool false,.int .i64 1,.bool false]) (B5.keep hput (by omega)) rfl)
 have HQ:=qh (Rd.of_blk (size:=2) (n:=2) (cs:=[.int .i64 1,.bool false,.int .i64 2,.bool false]) (B6.keep hput (by omega)) rfl)
 have HR:=qh (Rd.of_blk (size:=4) (n:=2) (cs:=[.int .i64 1,.slice (some ⟨w4.heap.size,0,none⟩) 2 2,.int .i64 0,.int .i64 30,.int .i64 2,.slice (some ⟨w5.heap.size,0,none⟩) 2 2,.int .i64 50,.int .i64 20]) (B7.keep hput (by omega)) rfl)
 clear k1 k2 k3 k4 k5 k6 k7 b1 b2 b3 b4 b5 b6 b7 B1 B2 B3 B4 B5 B6 B7 hput hlt
 have HW:=qh hwz
 clear hwz
 go_enter Tryz.func38, Tryz.ntmps38
 go_wp2_with fail
 (try simp only[Exit.inBlock,Exit.then])
 rw[HW.out]
 refine bodyPost_ret (line_results HBz.out _ rfl) rfl ⟨⟨some ⟨w1.heap.size,0,none⟩,3,3,some ⟨w2.heap.size,0,none⟩,2,2,some ⟨w3.heap.size,0,none⟩,3,3,some ⟨w6.heap.size,0,none⟩,2,2⟩,rfl,⟨?_,?_,?_,?_⟩,HKz.out⟩
 ·exact⟨rfl,Nat.le_refl _,by unfold maxLen;simp only;omega,by simp,[[.int .i64 100],[.int .i64 200],[.int .i64 300]],HE.out,⟨rfl,by decide⟩,⟨rfl,by decide⟩,⟨rfl,by decide⟩,trivial⟩
 ·exact⟨rfl,Nat.le_refl _,by unfold maxLen;simp only;omega,by simp,[[.int .i64 0,.int .i64 1,.int .i64 1,.int .i64 0],[.int .i64 1,.int .i64 1,.int .i64 2,.int .i64 0]],HJ.out,⟨[.int .i64 0,.int .i64 1],[.int .i64 1,.int .i64 0],rfl,⟨[.int .i64 0],[.int .i64 1],rfl,⟨rfl,by decide⟩,⟨rfl,by decide⟩⟩,⟨[.int .i64 1],[.int .i64 0],rfl,⟨rfl,by decide⟩,⟨rfl,by decide⟩⟩⟩,⟨[.int .i64 1,.int .i64 1],[.int .i64 2,.int .i64 0],rfl,⟨[.int .i64 1],[.int .i64 1],rfl,⟨rfl,by decide⟩,⟨rfl,by decide⟩⟩,⟨[.int .i64 2],[.int .i64 0],rfl,⟨rfl,by decide⟩,⟨rfl,by decide⟩⟩⟩,trivial⟩
 ·exact⟨rfl,Nat.le_refl _,by unfold maxLen;simp only;omega,by simp,[[.int .i64 7,.int .i64 0,.int .i64 10],[.int .i64 8,.int .i64 1,.int .i64 20],[.int .i64 9,.int .i64 2,.int .i64 30]],HL.out,⟨[.int .i64 7],[.int .i64 0,.int .i64 10],rfl,⟨rfl,by decide⟩,[.int .i64 0],[.int .i64 10],rfl,⟨rfl,by decide⟩,⟨rfl,by decide⟩⟩,⟨[.int .i64 8],[.int .i64 1,.int .i64 20],rfl,⟨rfl,by decide⟩,[.int .i64 1],[.int .i64 20],rfl,⟨rfl,by decide⟩,⟨rfl,by decide⟩⟩,⟨[.int .i64 9],[.int .i64 2,.int .i64 30],rfl,⟨rfl,by decide⟩,[.int .i64 2],[.int .i64 30],rfl,⟨rfl,by decide⟩,⟨rfl,by decide⟩⟩,trivial⟩
 ·exact⟨rfl,Nat.le_refl _,by unfold maxLen;simp only;omega,by simp,[[.int .i64 1,.slice (some ⟨w4.heap.size,0,none⟩) 2 2,.int .i64 0,.int .i64 30],[.int .i64 2,.slice (some ⟨w5.heap.size,0,none⟩) 2 2,.int .i64 50,.int .i64 20]],HR.out,⟨[.int .i64 1],[.slice (some ⟨w4.heap.size,0,none⟩) 2 2,.int .i64 0,.int .i64 30],rfl,⟨rfl,by decide⟩,[.slice (some ⟨w4.heap.size,0,none⟩) 2 2],[.int .i64 0,.int .i64 30],rfl,⟨some ⟨w4.heap.size,0,none⟩,2,2,rfl,stps_sl HP.out (by omega) (by unfold maxLen;omega) (by simp) (by intro s hs;simp at hs;rcases hs with rfl | rfl <;> (constructor <;> simp))⟩,[.int .i64 0],[.int .i64 30],rfl,⟨rfl,by decide⟩,⟨rfl,by decide⟩⟩,⟨[.int .i64 2],[.slice (some ⟨w5.heap.size,0,none⟩) 2 2,.int .i64 50,.int .i64 20],rfl,⟨rfl,by decide⟩,[.slice (some ⟨w5.heap.size,0,none⟩) 2 2],[.int .i64 50,.int .i64 20],rfl,⟨some ⟨w5.heap.size,0,none⟩,2,2,rfl,stps_sl HQ.out (by omega) (by unfold maxLen;omega) (by simp) (by intro s hs;simp at hs;rcases hs with rfl | rfl <;> (constructor <;> simp))⟩,[.int .i64 50],[.int .i64 20],rfl,⟨rfl,by decide⟩,⟨rfl,by decide⟩⟩,trivial⟩
end Go.Proofs.YtpapiojicbbheaaGreatDoor

namespace Go.Proofs.YtpapiojicbbheaaGreatDoor
open Go.RowKit
def repSc:Rep Sc:=Rep.int.pair Rep.int
theorem opens_sc:Rep.Opens Tryz.prog 58 repSc:=
  Rep.opens_struct Tryz.underlying58 (by kernel_rfl) (Rep.fopens_cons rfl (by kernel_rfl) (Rep.opens_int Tryz.underlying3) (Rep.fopens_last rfl (by kernel_rfl) (Rep.opens_int Tryz.underlying3)))
theorem opens_scs:Rep.Opens Tryz.prog 36 repSc.list:=Rep.opens_list Tryz.underlying36 (by kernel_rfl) (by decide) opens_sc
def repMa:Rep Ma:=Rep.int.pair (Rep.bool.pair (repStp.list.pair (repSc.list.pair Rep.int)))
theorem opens_ma:Rep.Opens Tryz.prog 38 repMa:=
  Rep.opens_struct Tryz.underlying38 (by kernel_rfl) (Rep.fopens_cons rfl (by kernel_rfl) (Rep.opens_int Tryz.underlying3) (Rep.fopens_cons rfl (by kernel_rfl) (Rep.opens_bool Tryz.underlying4)
    (Rep.fopens_cons rfl (by kernel_rfl) opens_stps (Rep.fopens_cons rfl (by kernel_rfl) opens_scs (Rep.fopens_last rfl (by kernel_rfl) (Rep.opens_int Tryz.underlying3))))))
def scCell (s:Sc):List Value:=[.int .i64 s.1,.int .i64 s.2]
def scCells (l:List Sc):List Value:=l.flatMap scCell
theorem scCells_cons (s:Sc) (l:List Sc):scCells (s::l)=.int .i64 s.1::.int .i64 s.2::scCells l:=rfl
theorem scCells_nil:scCells []=[]:=rfl
theorem scCells_app (l m:List Sc):scCells (l++m)=scCells l++scCells m:=by simp[scCells]
theorem len_scCells (l:List Sc):(scCells l).length=l.length*2:=by
 induction l with
 | nil=>rfl
 | cons s l ih=>rw[scCells_cons];simp only[List.length_cons,ih];omega
theorem scCells_one (l:List Sc):∀u∈scCells l,u.oneCell'=true:=by
 induction l with
 | nil=>intro u hu;cases hu
 | cons s l ih=>
  intro u hu
  rw[scCells_cons] at hu
  rcases List.mem_cons.1 hu with rfl | hu
  ·rfl
  rcases List.mem_cons.1 hu with rfl | hu
  ·rfl
  exact ih u hu
theorem scCells_at:∀(l:List Sc) {i:Nat}{s:Sc},l[i]?=some s→(scCells l)[i*2]?=some (.int .i64 s.1)∧(scCells l)[i*2+1]?=some (.int .i64 s.2):=by
 intro l
 induction l with
 | nil=>intro i s h;simp at h
 | cons y l ih=>
  intro i s h
  cases i with
  | zero=>simp only[List.getElem?_cons_zero,Option.some.injEq] at h;subst h;exact⟨rfl,rfl⟩
  | succ i=>
   simp only[List.getElem?_cons_succ] at h
   obtain⟨h1,h2⟩:=ih h
   rw[scCells_cons,show (i+1)*2=i*2+1+1 by omega,show i*2+1+1+1=(i*2+1)+1+1 by omega]
   simp only[List.getElem?_cons_succ]
   exact⟨h1,h2⟩
theorem scCells_set:∀(l:List Sc) {i:Nat} (s:Sc),i<l.length→scCells (l.set i s)=((scCells l).set (i*2) (.int .i64 s.1)).set (i*2+1) (.int .i64 s.2):=by
 intro l
 induction l with
 | nil=>intro i s h;simp at h
 | cons y l ih=>
  intro i s h
  cases i with
  | zero=>rfl
  | succ i=>
   have:=ih (i:=i) s (by simpa using h)
   rw[List.set_cons_succ,scCells_cons,scCells_cons,this,show (i+1)*2=i*2+1+1 by omega,show i*2+1+1+1=(i*2+1)+1+1 by omega]
   simp only[List.set_cons_succ]
theorem Rd.sc {w:World}{B n k:Nat}{A:Option Addr}{l:List Sc} (h:Rd w B 2 A n (scCells l)) (hk:k<n):∃ad s,A=some ad∧ad.block<B∧l[k]?=some s∧w.cell? (ad.add (k*2))=some (.int .i64 s.1) ∧
    w.cell? ⟨(ad.add (k*2)).block,(ad.add (k*2)).off+1,none⟩=some (.int .i64 s.2):=by
  obtain⟨ad,e,hb,hc⟩:=h.2 (by omega)
  have hl:k<l.length:=by have:=h.1;rw[len_scCells] at this;omega
  have hs:l[k]?=some l[k]:=List.getElem?_eq_getElem hl
  obtain⟨a0,a1⟩:=scCells_at l hs
  have c0:=hc _ _ a0
  have c1:=hc _ _ a1
  rw[fld _ _ (by omega)] at c1
  exact⟨ad,l[k],e,hb,hs,c0,c1⟩
theorem Rd.sc_len {w:World}{B n:Nat}{A:Option Addr}{l:List Sc} (h:Rd w B 2 A n (scCells l)):l.length=n:=by have:=h.1;rw[len_scCells] at this;omega
structure ScAt (w:World) (B:Nat) (A:Option Addr) (n c:Nat) (l:List Sc):Prop where
  rd:Rd w B 2 A n (scCells l)
  nil:A=none→c=0
  cap:n≤c
theorem ScAt.keep {w w':World}{B n c:Nat}{A:Option Addr}{l:List Sc} (h:ScAt w B A n c l) (hk:Keep Never w w'):ScAt w' B A n c l:=⟨h.rd.keep hk (fun _ h=>h.elim),h.nil,h.cap⟩
theorem ScAt.more {w:World}{B B' n c:Nat}{A:Option Addr}{l:List Sc} (h:ScAt w B A n c l) (hB:B≤B'):ScAt w B' A n c l:=⟨h.rd.more hB,h.nil,h.cap⟩
theorem ScAt.len {w:World}{B n c:Nat}{A:Option Addr}{l:List Sc} (h:ScAt w B A n c l):l.length=n:=h.rd.sc_len
theorem ScAt.nil_ (w:World) (B:Nat):ScAt w B none 0 0 []:=⟨Rd.nil _ _ _ _,fun _=>rfl,Nat.le_refl _⟩
set_option maxRecDepth 100000 in
theorem elemSc:Elem Tryz.prog 36 58 2 16:=⟨Tryz.underlying36, _,_,rfl,rfl,rfl,rfl,rfl,by omega⟩
theorem scAt_own {w:World}{base n c:Nat}{A:Option Addr}{l:List Sc} (h:Own w base 58 2 A n c (scCells l)):ScAt w w.heap.size A n c l:=
  ⟨h.rd,(fun e=>by
   rcases h.form with⟨_,_,h2,_⟩ | ⟨_,_,h2,_⟩
   ·exact h2
   ·rw[e] at h2;cases h2),h.cap_le⟩
theorem scs_at {w:World}{B n c:Nat}{A:Option Addr}{l:List Sc} (h:repSc.Sl w B A n c l):ScAt w B A n c l:=by
 obtain⟨h1,h2,h3,h4,css,h5,h6⟩:=h
 have hf:css.flatten=scCells l:=by
  clear h5 h1
  induction l generalizing css with
  | nil=>cases css with
    | nil=>rfl
    | cons b m=>exact h6.elim
  | cons a l ih=>cases css with
    | nil=>exact h6.elim
    | cons b m=>
     have e1:=ih m h6.2
     obtain⟨c1,d1,rfl,⟨rfl,_⟩,⟨rfl,_⟩⟩:=h6.1
     rw[List.flatten_cons,e1];rfl
 exact⟨by rw[←hf];exact h5,h4,h2⟩
structure MX where
  Ap:Option Addr
  np:Nat
  cp:Nat
  As:Option Addr
  ns:Nat
  cs:Nat
abbrev MX.vs (x:MX) (m:Ma):Array Value:=#[.int .i64 m.1,.bool m.2.1,.slice x.Ap x.np x.cp,.slice x.As x.ns x.cs,.int .i64 m.2.2.2.2]
structure MaAt (w:World) (B:Nat) (x:MX) (m:Ma):Prop where
  p:repStp.Sl w B x.Ap x.np x.cp m.2.2.1
  s:ScAt w B x.As x.ns x.cs m.2.2.2.1
theorem MaAt.keep {w w':World}{B:Nat}{x:MX}{m:Ma} (h:MaAt w B x m) (hk:Keep Never w w'):MaAt w' B x m:=⟨h.p.keep hk (fun _ h=>h.elim),h.s.keep hk⟩
theorem MaAt.more {w:World}{B B':Nat}{x:MX}{m:Ma} (h:MaAt w B x m) (hB:B≤B'):MaAt w B' x m:=⟨h.p.more hB,h.s.more hB⟩
theorem ma_of {w:World}{B:Nat}{m:Ma}{cs:List Value} (h:repMa.cells w B m cs):∃x:MX,cs=(x.vs m).toList∧MaAt w B x m∧i64_ m.1∧i64_ m.2.2.2.2:=by
 obtain⟨c1,d1,rfl,⟨rfl,h1⟩,c2,d2,rfl,rfl,c3,d3,rfl,⟨Ap,np,cp,rfl,hp⟩,c4,d4,rfl,⟨As,ns,cs,rfl,hs⟩,⟨rfl,h5⟩⟩:=h
 exact⟨⟨Ap,np,cp,As,ns,cs⟩,rfl,⟨hp,scs_at hs⟩,h1,h5⟩
def RtRet3 (o:Option Rt) (w:World) (e:Ending) (w':World):Prop:=
  ∃A n c,e=.returned (.tuple #[.agg #[.int .i64 (o.getD (0,[],0,0)).1,.slice A n c,.int .i64 (o.getD (0,[],0,0)).2.2.1,.int .i64 (o.getD (0,[],0,0)).2.2.2],.bool o.isSome])∧(o=none→A=none∧n=0∧c=0)∧Own w' w.heap.size 30 2 A n c (stpCells (o.getD (0,[],0,0)).2.1)∧Hid (∀s∈(o.getD (0,[],0,0)).2.1,in64 s)∧Keep Never w w'
set_option maxHeartbeats 4000000 in
set_option maxRecDepth 100000 in
theorem route_own (x:TA) (t:Tp) (B:Nat) (id:Int) (w:World) (ht:TpAt w B x t) (hn:x.nr≤100000000) (hp:∀r∈t.2.2.2,r.2.1.length≤100000000) (hB:B≤w.heap.size) :
    Calls Tryz.prog 28 #[.agg x.cs,.int .i64 id] w (RtRet3 (rtM t.2.2.2 id) w):=by
  have HR:=qh ht.r
  obtain⟨Ae,ne,ce,Aj,nj,cj,Ab,nb,cb,Ar,nr,cr⟩:=x
  simp only[TA.cs] at HR hn ⊢
  obtain⟨w1,hw1⟩:∃W:World,w.alloc (.cells #[.slice Ae ne ce,.slice Aj nj cj,.slice Ab nb cb,.slice Ar nr cr] 27)=W:=⟨_,rfl⟩
  obtain⟨w2,hw2⟩:∃W:World,w1.alloc (.cells #[.int .i64 id] 3)=W:=⟨_,rfl⟩
  obtain⟨w3,hw3⟩:∃W:World,w2.alloc (.cells #[.int .i64 0,.slice none 0 0,.int .i64 0,.int .i64 0] 64)=W:=⟨_,rfl⟩
  have z1:w1.heap.size=w.heap.size+1:=by rw[←hw1];simp
  have z2:w2.heap.size=w.heap.size+1+1:=by rw[←hw2,←z1];simp
  have k1:Keep Never w w1:=by rw[←hw1];exact(Keep.refl _ _).alloc _
  have k2:Keep Never w1 w2:=by rw[←hw2];exact(Keep.refl _ _).alloc _
  have k3:Keep Never w2 w3:=by rw[←hw3];exact(Keep.refl _ _).alloc _
  have b1:=Blk.new w 27 #[.slice Ae ne ce,.slice Aj nj cj,.slice Ab nb cb,.slice Ar nr cr]
  rw[hw1] at b1
  have b2:=Blk.new w1 3 #[.int .i64 id]
  rw[hw2,z1] at b2
  have b3:=Blk.new w2 64 #[.int .i64 0,.slice none 0 0,.int .i64 0,.int .i64 0]
  rw[hw3,z2] at b3
  have HB1:=qh ((b1.keep k2 (fun h=>h)).keep k3 (fun h=>h))
  have HB3:=qh b3
  have HK:=qh ((k1.trans k2).trans k3)
  have HZ:=qh b3.lt
  have y2:w3.cell? ⟨w.heap.size,3,none⟩=some (.slice Ar nr cr):=HB1.out.cell 3
  have v0:w3.cell? ⟨w.heap.size+1,0,none⟩=some (.int .i64 id):=(b2.keep k3 (fun h=>h)).cell 0
  have HC:=qh (indexfr_any 82 #[.pointer (some ⟨w.heap.size+1,0,none⟩)] (fun i=>i==id) (enters_of Tryz.func82 (by kernel_rfl) rfl) Ar nr cr B t.2.2.2 w3 (HR.out.keep HK.out (fun _ h=>h.elim)) (fun W i a b A n c hk=>rtF_any i A n c a b id _ W (keepT hk v0)) (by omega))
  clear k1 k2 k3 b1 b2 b3 ht v0
  go_enter Tryz.func28, Tryz.ntmps28
  go_wp2_with fail
  refine HC.out.mono ?_
  rintro e w4 ⟨⟨i,s,rfl,h1,h2,h3⟩ | ⟨rfl,h1⟩,hk4⟩
  ·have HM:Hid (rtM t.2.2.2 id=some s):=qh (find_idx h1 h2 h3)
   have HK4:=qtr HK hk4
   have hin:i<nr:=by have:=HR.out.len;have:=(List.getElem?_eq_some_iff.1 h1).1;omega
   have hiz:(i:Int)<(nr:Int):=by omega
   have hi0:¬(i:Int)<0:=by omega
   have hps:=hp s (List.mem_of_getElem? h1)
   obtain⟨ad,s',A2,n2,d2,hA,_,hs,c0,c1,c2,c3,hsl⟩:=rt_at2 (HR.out.keep HK4.out (fun _ h=>h.elim)) hin
   subst hA
   rw[h1] at hs
   injection hs with hs
   subst hs
   have hb1:=HB1.out.keep hk4 (fun h=>h)
   have y2:w4.cell? ⟨w.heap.size,3,none⟩=some (.slice (some ad) nr cr):=hb1.cell 3
   have HB4:=qkb HB3 hk4
   obtain⟨s1,p,s2,s3⟩:=s
   simp only at c0 c1 c2 c3 hsl hps
   obtain⟨W1,hW1⟩:∃W:World,w4.alloc (.cells #[.int .i64 s1,.slice A2 n2 d2,.int .i64 s2,.int .i64 s3] 64)=W:=⟨_,rfl⟩
   have K1:Keep Never w4 W1:=by rw[←hW1];exact(Keep.refl _ _).alloc _
   have B1:=Blk.new w4 64 #[.int .i64 s1,.slice A2 n2 d2,.int .i64 s2,.int .i64 s3]
   rw[hW1] at B1
   have HB5:=qh B1
   have d1:W1.cell? ⟨w4.heap.size,1,none⟩=some (.slice A2 n2 d2):=B1.cell 1
   obtain⟨r1,r2,r3,r4,r5,r6⟩:=stps_rd (hsl.keep K1 (fun _ h=>h.elim))
   have HCl:=qh (cloneT_any A2 n2 d2 B p W1 r1 r5 r3 (by omega) (Nat.le_trans (Nat.le_trans hB HK4.out.size) K1.size))
   have HI6:=qh r6
   have HKW:=qtr HK4 K1
   have HBW:=qkb HB4 K1
   have HZ4:Hid (w.heap.size+1+1<w4.heap.size):=qh (Nat.lt_of_lt_of_le HZ.out hk4.size)
   clear h1 h2 h3 hk4 hb1 HC K1 B1 hsl r1 r2 r3 r4 r5 r6 HB1 HB3
   go_wp2_with fail
   refine HCl.out.mono ?_
   rintro e w5 ⟨A3,d3,rfl,ho5,hk5⟩
   have hb5:=HB5.out.keep hk5 (fun h=>h)
   have HBr:=qkb HBW hk5
   obtain⟨e0,e1,e2,e3⟩:=bc4 hb5
   have f0:=hb5.frozen 0
   have f1:=hb5.frozen 1
   have f2:=hb5.frozen 2
   have f3:=hb5.frozen 3
   obtain⟨g0,g1,g2,g3⟩:=bc4 HBr.out
   have h0:=HBr.out.frozen 0
   have h1:=HBr.out.frozen 1
   have h2:=HBr.out.frozen 2
   have h3:=HBr.out.frozen 3
   have hne:w.heap.size+1+1≠w4.heap.size:=by have:=HZ4.out;omega
   have hset:Keep (fun k=>k=w4.heap.size) w5 (w5.setCell ⟨w4.heap.size,1,none⟩ (.slice A3 n2 d3)):=(Keep.refl (fun k=>k=w4.heap.size) w5).set_ (p:=⟨w4.heap.size,1,none⟩) (.inl rfl) _
   have HBs:=qh (HBr.out.keep hset hne)
   have HKs:Hid (Keep Never w (w5.setCell ⟨w4.heap.size,1,none⟩ (.slice A3 n2 d3))):=qh ((HKW.out.trans hk5).set_ (p:=⟨w4.heap.size,1,none⟩) (.inr HK4.out.size) _)
   have hrow:∀q,InRow A3 q→W1.heap.size≤q:=fun q h=>(ho5.row h).1
   have HW1:Hid (w4.heap.size<W1.heap.size):=qh HB5.out.lt
   have hos:=ho5.keep hset (fun q h e=>by have:=hrow q h;have:=HW1.out;omega)
   have hput:Keep (fun k=>k=w.heap.size+1+1) (w5.setCell ⟨w4.heap.size,1,none⟩ (.slice A3 n2 d3)) (((((w5.setCell ⟨w4.heap.size,1,none⟩ (.slice A3 n2 d3)).setCell ⟨w.heap.size+1+1,0,none⟩ (.int .i64 s1)).setCell ⟨w.heap.size+1+1,1,none⟩ (.slice A3 n2 d3)).setCell ⟨w.heap.size+1+1,2,none⟩ (.int .i64 s2)).setCell ⟨w.heap.size+1+1,3,none⟩ (.int .i64 s3)):=put4_keep (Keep.refl (fun k=>k=w.heap.size+1+1) _) (.inl rfl) _ _ _ _
   have hW1z:w.heap.size≤W1.heap.size:=HKW.out.size
   have HOz:=qh ((hos.keep hput (fun q h e=>by have:=hrow q h;have:=HZ4.out;have:=HW1.out;omega)).less hW1z)
   have HBz:=qh (put4_blk HBs.out (.int .i64 s1) (.slice A3 n2 d3) (.int .i64 s2) (.int .i64 s3))
   have HKz:=qh (put4_keep HKs.out (.inr (show w.heap.size≤w.heap.size+1+1 by omega)) (.int .i64 s1) (.slice A3 n2 d3) (.int .i64 s2) (.int .i64 s3))
   clear hb5 ho5 hk5 HCl hset hrow hos hput hW1z
   go_wp2_with fail
   (try simp only[Exit.inBlock,Exit.then])
   refine bodyPost_ret (rt_results HBz.out _ rfl) rfl ⟨A3,n2,d3,by rw[HM.out];rfl,(fun h=>absurd h (by rw[HM.out];simp)),by rw[HM.out];exact HOz.out,qh (by rw[HM.out];exact HI6.out),HKz.out⟩
  ·have HM:Hid (rtM t.2.2.2 id=none):=qh (find_no h1)
   have HK4:=qtr HK hk4
   have HB4:=qkb HB3 hk4
   have f0:=HB4.out.frozen 0
   have f1:=HB4.out.frozen 1
   have f2:=HB4.out.frozen 2
   have f3:=HB4.out.frozen 3
   obtain⟨g0,g1,g2,g3⟩:=bc4 HB4.out
   have HBz:=qh (put4_blk HB4.out (.int .i64 0) (.slice none 0 0) (.int .i64 0) (.int .i64 0))
   have HKz:=qh (put4_keep HK4.out (.inr (show w.heap.size≤w.heap.size+1+1 by omega)) (.int .i64 0) (.slice none 0 0) (.int .i64 0) (.int .i64 0))
   clear h1 hk4 HC y2
   go_wp2_with fail
   (try simp only[Exit.inBlock,Exit.then])
   refine bodyPost_ret (rt_results HBz.out _ rfl) rfl ⟨none,0,0,by rw[HM.out];rfl,(fun _=>⟨rfl,rfl,rfl⟩),by rw[HM.out];exact Own.nil _ _ _ _,qh (by rw[HM.out];intro s hs;cases hs),HKz.out⟩
end Go.Proofs.YtpapiojicbbheaaGreatDoor

namespace Go.Proofs.YtpapiojicbbheaaGreatDoor
open Go.RowKit
set_option maxHeartbeats 4000000 in
set_option maxRecDepth 100000 in
theorem nom_any (r:Bool) (w:World) :
    Calls Tryz.prog 77 #[.bool r] w fun e w'=>e=.returned (.int .i64 (nomI r))∧Keep Never w w':=by
  cases r
  all_goals
   go_enter Tryz.func77, Tryz.ntmps77
   go_wp2_with fail
   go_ret
   exact⟨rfl,Keep.refl _ _⟩
set_option maxHeartbeats 1000000 in
set_option maxRecDepth 100000 in
theorem pvF_any (a:Int) (r:Bool) (id:Int) (g:Nat) (w:World) (h:w.cell? ⟨g,0,none⟩=some (.int .i64 id)):Calls Tryz.prog 107 #[.agg #[.int .i64 a,.bool r],.pointer (some ⟨g,0,none⟩)] w fun e w'=>e=.returned (.bool (a==id))∧Keep Never w w':=by
 obtain⟨w1,hw1⟩:∃W:World,w.alloc (.cells #[.int .i64 a,.bool r] 30)=W:=⟨_,rfl⟩
 have k1:Keep Never w w1:=by rw[←hw1];exact(Keep.refl _ _).alloc _
 have b1:=Blk.new w 30 #[.int .i64 a,.bool r]
 rw[hw1] at b1
 have c0:=b1.cell 0
 have c1:=b1.cell 1
 have d0:=keepT k1 h
 have HK:=qh k1
 clear k1 b1 h
 by_cases e1:a=id
 ·have t1:(a==id)=true:=by simpa using e1
  have HF:=qh t1
  clear e1
  go_enter Tryz.func107, Tryz.ntmps107
  go_wp2_with fail
  go_ret
  exact⟨by rw[HF.out];rfl,HK.out⟩
 ·have t1:(a==id)=false:=by simpa using e1
  have HF:=qh t1
  clear e1
  go_enter Tryz.func107, Tryz.ntmps107
  go_wp2_with fail
  go_ret
  exact⟨by rw[HF.out];rfl,HK.out⟩
set_option maxHeartbeats 4000000 in
set_option maxRecDepth 100000 in
theorem pover17_any (A:Option Addr) (n c B:Nat) (l:List Stp) (e:Int) (w:World) (h:Rd w B 2 A n (stpCells l)) (hn:n≤1000000) :
    Calls Tryz.prog 46 #[.slice A n c,.int .i64 e] w fun en w'=>en=.returned (.bool (overB l e))∧Keep Never w w':=by
  obtain⟨w1,hw1⟩:∃V:World,w.alloc (.cells #[.int .i64 e] 3)=V:=⟨_,rfl⟩
  have kw1:Keep Never w w1:=by rw[←hw1];exact(Keep.refl _ _).alloc _
  have bw1:=Blk.new w 3 #[.int .i64 e]
  rw[hw1] at bw1
  have HB1:=qh bw1
  have HK:=qh kw1
  have v0:w1.cell? ⟨w.heap.size,0,none⟩=some (.int .i64 e):=HB1.out.cell 0
  clear kw1 bw1
  have HC:=qh (containsfs_any 107 #[.pointer (some ⟨w.heap.size,0,none⟩)] (fun u=>u.1==e) (enters_of Tryz.func107 (by kernel_rfl) rfl) A n c B l w1 (h.keep HK.out (fun _ h=>h.elim)) (fun W s hk=>pvF_any s.1 s.2 e _ W (keepT hk v0)) (by omega))
  clear h v0
  go_enter Tryz.func46, Tryz.ntmps46
  go_wp2_with fail
  refine HC.out.mono ?_
  rintro en w2 ⟨rfl,hk⟩
  have HK2:=qh hk
  clear hk
  go_wp2_with fail
  go_ret
  exact⟨rfl,HK.out.trans HK2.out⟩
set_option maxHeartbeats 4000000 in
set_option maxRecDepth 100000 in
theorem behind_any (x:TA) (t:Tp) (B:Nat) (e a:Int) (r:Bool) (w:World) (h:TpAt w B x t) (h0:0≤e) (h1:e<(x.ne:Int)) (hv1:0≤edgeM t e) (hv2:edgeM t e≤1000000) (ha1:0≤a) (ha2:a≤1000000) :
    Calls Tryz.prog 57 #[.agg x.cs,.agg #[.int .i64 e,.int .i64 a,.bool r]] w fun en w'=>en=.returned (.int .i64 (alongP t (e,a,r)))∧Keep Never w w':=by
  obtain⟨ad,k,v,hA,he,hk,d0,hv⟩:=edge_at h h0 h1
  have HD:Hid (∀W,Keep Never w W→W.cell? (ad.add k)=some (.int .i64 v)):=qh (fun W hk=>keepT hk d0)
  obtain⟨Ae,ne,ce,Aj,nj,cj,Ab,nb,cb,Ar,nr,cr⟩:=x
  simp only[TA.cs] at hA hk ⊢
  subst hA he
  have hkz:(k:Int)<(ne:Int):=by omega
  rw[hv] at hv1 hv2
  have hw:IntKind.i64.wrap (v - a)=v - a:=IntWalk.i64_in _ (by omega)
  cases r with
  | true=>
   have HF:Hid (alongP t (((k:Nat):Int),a,true)=v - a):=qh (by unfold alongP;rw[if_pos rfl];simp only;rw[hv])
   clear h d0 hv h0 h1 hv1 hv2 ha1 ha2
   obtain⟨w1,hw1⟩:∃V:World,w.alloc (.cells #[.slice (some ad) ne ce,.slice Aj nj cj,.slice Ab nb cb,.slice Ar nr cr] 27)=V:=⟨_,rfl⟩
   have zw1:w1.heap.size=w.heap.size+1:=by rw[←hw1];simp
   have kw1:Keep Never w w1:=by rw[←hw1];exact(Keep.refl _ _).alloc _
   have bw1:=Blk.new w 27 #[.slice (some ad) ne ce,.slice Aj nj cj,.slice Ab nb cb,.slice Ar nr cr]
   rw[hw1] at bw1
   obtain⟨w2,hw2⟩:∃V:World,w1.alloc (.cells #[.int .i64 ((k:Nat):Int),.int .i64 a,.bool true] 71)=V:=⟨_,rfl⟩
   have kw2:Keep Never w1 w2:=by rw[←hw2];exact(Keep.refl _ _).alloc _
   have bw2:=Blk.new w1 71 #[.int .i64 ((k:Nat):Int),.int .i64 a,.bool true]
   rw[hw2,zw1] at bw2
   have HB1:=qh (bw1.keep kw2 (fun h=>h))
   have HB2:=qh bw2
   have HK:=qh (kw1.trans kw2)
   clear kw1 kw2 bw1 bw2
   obtain⟨y0,y1,y2,y3⟩:=bc4 HB1.out
   obtain⟨q0,q1,q2⟩:=bc3 HB2.out
   have d0:=HD.out w2 HK.out
   go_enter Tryz.func57, Tryz.ntmps57
   go_wp2_with fail
   go_quiet (fail)
   go_wp2_with fail
   go_ret
   exact⟨by rw[HF.out];rfl,HK.out.drewN _⟩
  | false=>
   have HF:Hid (alongP t (((k:Nat):Int),a,false)=a):=qh (by unfold alongP;rw[if_neg (by simp)])
   clear h d0 hv h0 h1 hv1 hv2 ha1 ha2
   obtain⟨w1,hw1⟩:∃V:World,w.alloc (.cells #[.slice (some ad) ne ce,.slice Aj nj cj,.slice Ab nb cb,.slice Ar nr cr] 27)=V:=⟨_,rfl⟩
   have zw1:w1.heap.size=w.heap.size+1:=by rw[←hw1];simp
   have kw1:Keep Never w w1:=by rw[←hw1];exact(Keep.refl _ _).alloc _
   have bw1:=Blk.new w 27 #[.slice (some ad) ne ce,.slice Aj nj cj,.slice Ab nb cb,.slice Ar nr cr]
   rw[hw1] at bw1
   obtain⟨w2,hw2⟩:∃V:World,w1.alloc (.cells #[.int .i64 ((k:Nat):Int),.int .i64 a,.bool false] 71)=V:=⟨_,rfl⟩
   have kw2:Keep Never w1 w2:=by rw[←hw2];exact(Keep.refl _ _).alloc _
   have bw2:=Blk.new w1 71 #[.int .i64 ((k:Nat):Int),.int .i64 a,.bool false]
   rw[hw2,zw1] at bw2
   have HB1:=qh (bw1.keep kw2 (fun h=>h))
   have HB2:=qh bw2
   have HK:=qh (kw1.trans kw2)
   clear kw1 kw2 bw1 bw2
   obtain⟨y0,y1,y2,y3⟩:=bc4 HB1.out
   obtain⟨q0,q1,q2⟩:=bc3 HB2.out
   have d0:=HD.out w2 HK.out
   go_enter Tryz.func57, Tryz.ntmps57
   go_wp2_with fail
   go_ret
   exact⟨by rw[HF.out];rfl,HK.out⟩
end Go.Proofs.YtpapiojicbbheaaGreatDoor

namespace Go.Proofs.YtpapiojicbbheaaGreatDoor
open Go.RowKit
set_option maxHeartbeats 4000000 in
set_option maxRecDepth 100000 in
theorem unit_any (s:Int) (w:World) :
    Calls Tryz.prog 24 #[.int .i64 s] w fun e w'=>e=.returned (.int .i64 (unitM s))∧Keep Never w w':=by
  by_cases h0:s=0
  ·subst h0
   have HF:Hid (unitM 0=1):=qh rfl
   go_enter Tryz.func24, Tryz.ntmps24
   go_wp2_with fail
   go_ret
   exact⟨by rw[HF.out];rfl,Keep.refl _ _⟩
  have t0:(s==0)=false:=by simpa using h0
  by_cases h1:s=1
  ·subst h1
   have HF:Hid (unitM 1=10):=qh rfl
   clear h0
   go_enter Tryz.func24, Tryz.ntmps24
   go_wp2_with fail
   go_ret
   exact⟨by rw[HF.out];rfl,Keep.refl _ _⟩
  have t1:(s==1)=false:=by simpa using h1
  by_cases h2:s=2
  ·subst h2
   have HF:Hid (unitM 2=100):=qh rfl
   clear h0 h1
   go_enter Tryz.func24, Tryz.ntmps24
   go_wp2_with fail
   go_ret
   exact⟨by rw[HF.out];rfl,Keep.refl _ _⟩
  have t2:(s==2)=false:=by simpa using h2
  have HF:Hid (unitM s=0):=qh (by unfold unitM;rw[if_neg h0,if_neg h1,if_neg h2])
  clear h0 h1 h2
  go_enter Tryz.func24, Tryz.ntmps24
  go_wp2_with fail
  go_ret
  exact⟨by rw[HF.out];rfl,Keep.refl _ _⟩
set_option maxHeartbeats 4000000 in
set_option maxRecDepth 100000 in
theorem dm_any (n s:Int) (w:World) :
    Calls Tryz.prog 166 #[.int .i64 n,.int .i64 s] w fun e w'=>e=.returned (.tuple #[.int .i64 (dmM n s).1,.int .i64 (dmM n s).2])∧Keep Never w w':=by
  have hr:=unit_range s
  have HC:=qh (unit_any s w)
  have HD:Hid (dmM n s=if unitM s=0 then (0,1) else if n<0∨32766<n then (0,7) else (n*unitM s,0)):=qh rfl
  obtain⟨u,hu⟩:∃z,unitM s=z:=⟨_,rfl⟩
  rw[hu] at HC HD hr
  clear hu
  by_cases h0:u=0
  ·have t0:(u==0)=true:=by simpa using h0
   have HF:Hid (dmM n s=(0,1)):=qh (by rw[HD.out,if_pos h0])
   clear h0 hr
   go_enter Tryz.func166, Tryz.ntmps166
   go_wp2_with fail
   refine HC.out.mono ?_
   rintro en w2 ⟨rfl,hk2⟩
   have HK2:=qh hk2
   clear hk2 HC
   go_wp2_with fail
   go_ret2
   exact⟨by rw[HF.out];rfl,HK2.out⟩
  have t0:(u==0)=false:=by simpa using h0
  by_cases h1:n<0
  ·have t1:decide (n<0)=true:=by simpa using h1
   have HF:Hid (dmM n s=(0,7)):=qh (by rw[HD.out,if_neg h0,if_pos (.inl h1)])
   clear h0 h1 hr
   go_enter Tryz.func166, Tryz.ntmps166
   go_wp2_with fail
   refine HC.out.mono ?_
   rintro en w2 ⟨rfl,hk2⟩
   have HK2:=qh hk2
   clear hk2 HC
   go_wp2_with fail
   go_ret2
   exact⟨by rw[HF.out];rfl,HK2.out⟩
  have t1:decide (n<0)=false:=by simpa using h1
  by_cases h2:n>32766
  ·have t2:decide (n>32766)=true:=by simpa using h2
   have HF:Hid (dmM n s=(0,7)):=qh (by rw[HD.out,if_neg h0,if_pos (.inr h2)])
   clear h0 h1 h2 hr
   go_enter Tryz.func166, Tryz.ntmps166
   go_wp2_with fail
   refine HC.out.mono ?_
   rintro en w2 ⟨rfl,hk2⟩
   have HK2:=qh hk2
   clear hk2 HC
   go_wp2_with fail
   go_ret2
   exact⟨by rw[HF.out];rfl,HK2.out⟩
  have t2:decide (n>32766)=false:=by simpa using h2
  have HF:Hid (dmM n s=(n*u,0)):=qh (by rw[HD.out,if_neg h0,if_neg (by omega)])
  have hm:0≤n*u∧n*u≤32766*100:=⟨Int.mul_nonneg (by omega) hr.1,Int.mul_le_mul (by omega) hr.2 hr.1 (by omega)⟩
  have hw:IntKind.i64.wrap (n*u)=n*u:=IntWalk.i64_in _ (by omega)
  have hw':wrap64 (n*u)=n*u:=by have:=hw;rwa [IntWalk.i64_left] at this
  clear h0 h1 h2 hr hm
  go_enter Tryz.func166, Tryz.ntmps166
  go_wp2_with fail
  refine HC.out.mono ?_
  rintro en w2 ⟨rfl,hk2⟩
  have HK2:=qh hk2
  clear hk2 HC
  go_wp2_with fail
  (try rw[hw'])
  go_ret2
  exact⟨by rw[HF.out];rfl,HK2.out⟩
set_option maxHeartbeats 4000000 in
set_option maxRecDepth 100000 in
theorem scaled_any (d s:Int) (up:Bool) (w:World) :
    Calls Tryz.prog 78 #[.int .i64 d,.int .i64 s,.bool up] w fun e w'=>e=.returned (.tuple #[.int .i64 (scaledM d s up).1,.int .i64 (scaledM d s up).2])∧Keep Never w w':=by
  have hr:=unit_range s
  have HC:=qh (unit_any s w)
  have HD:Hid (scaledM d s up=if unitM s=0 then (0,1) else if d<0∨1099511627776<d then (0,7) else if 32766<raiseM d s up / unitM s then (0,7) else (raiseM d s up / unitM s,0)):=qh rfl
  have HRs0:Hid (raiseM d s up=if up=true then d+(unitM s - 1) else d):=qh rfl
  obtain⟨u,hu⟩:∃z,unitM s=z:=⟨_,rfl⟩
  rw[hu] at HC HD hr HRs0
  clear hu
  by_cases h0:u=0
  ·have t0:(u==0)=true:=by simpa using h0
   have HF:Hid (scaledM d s up=(0,1)):=qh (by rw[HD.out,if_pos h0])
   clear h0 hr
   go_enter Tryz.func78, Tryz.ntmps78
   go_wp2_with fail
   refine HC.out.mono ?_
   rintro en w2 ⟨rfl,hk2⟩
   have HK2:=qh hk2
   clear hk2 HC
   go_wp2_with fail
   go_ret2
   exact⟨by rw[HF.out];rfl,HK2.out⟩
  have t0:(u==0)=false:=by simpa using h0
  have t9:(u != 0)=true:=by simpa using h0
  by_cases h1:d<0
  ·have t1:decide (d<0)=true:=by simpa using h1
   have HF:Hid (scaledM d s up=(0,7)):=qh (by rw[HD.out,if_neg h0,if_pos (.inl h1)])
   clear h0 h1 hr
   go_enter Tryz.func78, Tryz.ntmps78
   go_wp2_with fail
   refine HC.out.mono ?_
   rintro en w2 ⟨rfl,hk2⟩
   have HK2:=qh hk2
   clear hk2 HC
   go_wp2_with fail
   go_ret2
   exact⟨by rw[HF.out];rfl,HK2.out⟩
  have t1:decide (d<0)=false:=by simpa using h1
  by_cases h2:d>1099511627776
  ·have t2:decide (d>1099511627776)=true:=by simpa using h2
   have HF:Hid (scaledM d s up=(0,7)):=qh (by rw[HD.out,if_neg h0,if_pos (.inr h2)])
   clear h0 h1 h2 hr
   go_enter Tryz.func78, Tryz.ntmps78
   go_wp2_with fail
   refine HC.out.mono ?_
   rintro en w2 ⟨rfl,hk2⟩
   have HK2:=qh hk2
   clear hk2 HC
   go_wp2_with fail
   go_ret2
   exact⟨by rw[HF.out];rfl,HK2.out⟩
  have t2:decide (d>1099511627776)=false:=by simpa using h2
  have hw1:IntKind.i64.wrap (u - 1)=u - 1:=IntWalk.i64_in _ (by omega)
  have hw2:IntKind.i64.wrap (d+(u - 1))=d+(u - 1):=IntWalk.i64_in _ (by omega)
  have hw1':wrap64 (u - 1)=u - 1:=by have:=hw1;rwa [IntWalk.i64_left] at this
  have hw2':wrap64 (d+(u - 1))=d+(u - 1):=by have:=hw2;rwa [IntWalk.i64_left] at this
  have hq1:IntKind.i64.wrap (d.tdiv u)=d / u:=wrap_tdiv (by omega) (by omega) (by omega)
  have hq2:IntKind.i64.wrap ((d+(u - 1)).tdiv u)=(d+(u - 1)) / u:=wrap_tdiv (by omega) (by omega) (by omega)
  have hq1':wrap64 (d.tdiv u)=d / u:=by have:=hq1;rwa [IntWalk.i64_left] at this
  have hq2':wrap64 ((d+(u - 1)).tdiv u)=(d+(u - 1)) / u:=by have:=hq2;rwa [IntWalk.i64_left] at this
  have hdiv:True:=trivial
  cases up with
  | true=>
   have HRs:Hid (raiseM d s true=d+(u - 1)):=qh HRs0.out
   clear HRs0
   by_cases h3:(d+(u - 1)) / u>32766
   ·have t3:decide ((d+(u - 1)) / u>32766)=true:=by simpa using h3
    have HF:Hid (scaledM d s true=(0,7)):=qh (by rw[HD.out,if_neg h0,if_neg (by omega)];simp only[HRs.out];rw[if_pos (by omega)])
    clear h1 h2 h3 hr hdiv
    go_enter Tryz.func78, Tryz.ntmps78
    go_wp2_with fail
    refine HC.out.mono ?_
    rintro en w2 ⟨rfl,hk2⟩
    have HK2:=qh hk2
    clear hk2 HC
    go_wp2_with fail
    go_ret2
    exact⟨by rw[HF.out];rfl,HK2.out⟩
   have t3:decide ((d+(u - 1)) / u>32766)=false:=by simpa using h3
   have HF:Hid (scaledM d s true=((d+(u - 1)) / u,0)):=qh (by rw[HD.out,if_neg h0,if_neg (by omega)];simp only[HRs.out];rw[if_neg (by omega)])
   clear h1 h2 h3 hr hdiv
   go_enter Tryz.func78, Tryz.ntmps78
   go_wp2_with fail
   refine HC.out.mono ?_
   rintro en w2 ⟨rfl,hk2⟩
   have HK2:=qh hk2
   clear hk2 HC
   go_wp2_with fail
   go_ret2
   exact⟨by rw[HF.out];rfl,HK2.out⟩
  | false=>
   have HRs:Hid (raiseM d s false=d):=qh HRs0.out
   clear HRs0
   by_cases h3:(d) / u>32766
   ·have t3:decide ((d) / u>32766)=true:=by simpa using h3
    have HF:Hid (scaledM d s false=(0,7)):=qh (by rw[HD.out,if_neg h0,if_neg (by omega)];simp only[HRs.out];rw[if_pos (by omega)])
    clear h1 h2 h3 hr hdiv
    go_enter Tryz.func78, Tryz.ntmps78
    go_wp2_with fail
    refine HC.out.mono ?_
    rintro en w2 ⟨rfl,hk2⟩
    have HK2:=qh hk2
    clear hk2 HC
    go_wp2_with fail
    go_ret2
    exact⟨by rw[HF.out];rfl,HK2.out⟩
   have t3:decide ((d) / u>32766)=false:=by simpa using h3
   have HF:Hid (scaledM d s false=((d) / u,0)):=qh (by rw[HD.out,if_neg h0,if_neg (by omega)];simp only[HRs.out];rw[if_neg (by omega)])
   clear h1 h2 h3 hr hdiv
   go_enter Tryz.func78, Tryz.ntmps78
   go_wp2_with fail
   refine HC.out.mono ?_
   rintro en w2 ⟨rfl,hk2⟩
   have HK2:=qh hk2
   clear hk2 HC
   go_wp2_with fail
   go_ret2
   exact⟨by rw[HF.out];rfl,HK2.out⟩
theorem best_at {d:Int}{k:Nat} (h:∀j:Nat,j<k→(scaledM d (j:Int) true).2≠0) (hk:k<3) (h0:(scaledM d (k:Int) true).2=0):bestM d=(k:Int):=by
 unfold bestM
 match k,hk with
 | 0,_=>exact if_pos h0
 | 1,_=>rw[if_neg (show ¬(scaledM d 0 true).2=0 from h 0 (by omega))];exact if_pos h0
 | 2,_=>rw[if_neg (show ¬(scaledM d 0 true).2=0 from h 0 (by omega)),if_neg (show ¬(scaledM d 1 true).2=0 from h 1 (by omega))];exact if_pos h0
theorem best_no {d:Int} (h:∀j:Nat,j<3→(scaledM d (j:Int) true).2≠0):bestM d=-1:=by
 unfold bestM
 rw[if_neg (show ¬(scaledM d 0 true).2=0 from h 0 (by omega)),if_neg (show ¬(scaledM d 1 true).2=0 from h 1 (by omega)),if_neg (show ¬(scaledM d 2 true).2=0 from h 2 (by omega))]
set_option maxHeartbeats 4000000 in
set_option maxRecDepth 100000 in
theorem best_any (d:Int) (w:World) :
    Calls Tryz.prog 25 #[.int .i64 d] w fun e w'=>e=.returned (.int .i64 (bestM d))∧Keep Never w w':=by
  have HC:=qh (fun (W:World) (s:Int)=>scaled_any d s true W)
  go_enter Tryz.func25, Tryz.ntmps25
  go_wp2_with fail
  go_loopw [6] (fun si wr=>∃k:Nat,k≤3∧si=.int .i64 k∧Hid (Keep Never w wr∧∀j:Nat,j<k→(scaledM d (j:Int) true).2≠0)) (fun si _=>3 - (intOf si).toNat)
  case atStart=>exact⟨0,by omega,rfl,qh ⟨Keep.refl _ _,fun j hj=>absurd hj (by omega)⟩⟩
  case round=>
   obtain⟨k,hk,rfl,HH⟩:=hrel
   by_cases h0:k<3
   ·have hkz:(k:Int)<3:=by omega
    have HCk:=qh (HC.out wr (k:Int))
    obtain⟨a,ha⟩:∃z,(scaledM d (k:Int) true).1=z:=⟨_,rfl⟩
    obtain⟨e,he⟩:∃z,(scaledM d (k:Int) true).2=z:=⟨_,rfl⟩
    rw[ha,he] at HCk
    have HE:=qh he
    clear ha he
    by_cases g:e=0
    ·have t0:(e==0)=true:=by simpa using g
     have HF:Hid (bestM d=(k:Int)):=qh (best_at HH.out.2 (by omega) (HE.out.trans g))
     clear g h0
     go_wp2_with fail
     refine HCk.out.mono ?_
     rintro en w2 ⟨rfl,hk2⟩
     have HK2:=qh (HH.out.1.trans hk2)
     clear hk2 HCk
     go_wp2_with fail
     go_ret
     exact⟨by rw[HF.out];rfl,HK2.out⟩
    ·have t0:(e==0)=false:=by simpa using g
     have HN:Hid (∀j:Nat,j<k+1→(scaledM d (j:Int) true).2≠0):=qh (fun j hj=>by
      rcases Nat.lt_or_ge j k with h | h
      ·exact HH.out.2 j h
      ·obtain rfl:j=k:=by omega
       rw[HE.out];exact g)
     clear g
     go_wp2_with fail
     refine HCk.out.mono ?_
     rintro en w2 ⟨rfl,hk2⟩
     have HK2:=qh (HH.out.1.trans hk2)
     clear hk2 HCk
     go_wp2_with fail
     refine⟨⟨k+1,by omega,by go_num,qh ⟨HK2.out,HN.out⟩⟩,?_⟩
     simp[intOf];try omega
   ·obtain rfl:k=3:=by omega
    have HF:Hid (bestM d=-1):=qh (best_no HH.out.2)
    go_wp2_with fail
    go_ret
    exact⟨by rw[HF.out];rfl,HH.out.1⟩
end Go.Proofs.YtpapiojicbbheaaGreatDoor

namespace Go.Proofs.YtpapiojicbbheaaGreatDoor
open Go.RowKit
def RAt (w:World) (B p:Nat) (v:List Int) (u e:Int):Prop:=∃A n c,Blk w p 165 #[.slice A n c,.int .i64 u,.int .i64 e]∧Rd w B 1 A n (v.map (.int .i64))∧n≤c
theorem RAt.keep {S:Nat→Prop}{w w':World}{B p:Nat}{v:List Int}{u e:Int} (h:RAt w B p v u e) (hk:Keep S w w') (hS:∀k,S k→B≤k∧k≠p):RAt w' B p v u e:=by
 obtain⟨A,n,c,h1,h2,h3⟩:=h
 exact⟨A,n,c,h1.keep hk (fun h=>(hS _ h).2 rfl),h2.keep hk (fun k h=>(hS k h).1),h3⟩
theorem RAt.never {w w':World}{B p:Nat}{v:List Int}{u e:Int} (h:RAt w B p v u e) (hk:Keep Never w w'):RAt w' B p v u e:=h.keep hk (fun _ h=>h.elim)
theorem RAt.lt {w:World}{B p:Nat}{v:List Int}{u e:Int} (h:RAt w B p v u e):p<w.heap.size:=by
 obtain⟨A,n,c,h1,_⟩:=h
 exact h1.lt
theorem rd_tail {w:World}{B n:Nat}{A:Option Addr}{v:List Int} (h:Rd w B 1 A n (v.map (.int .i64))):v.length=n:=by
 have:=h.1
 simpa using this
theorem put1_keep {w:World}{b i:Nat} (v:Value):Keep (fun q=>q=b) w (w.setCell ⟨b,i,none⟩ v):=(Keep.refl (fun q=>q=b) w).set_ (p:=⟨b,i,none⟩) (.inl rfl) v
def OneRet (w:World) (B p:Nat) (v:List Int) (u x:Int) (e:Ending) (w':World):Prop:=e=.returned (.int .i64 (v.headD 0))∧RAt w' B p v.tail u x∧Keep (fun q=>q=p) w w'
set_option maxHeartbeats 4000000 in
set_option maxRecDepth 100000 in
theorem ro_any (p B:Nat) (v:List Int) (u x:Int) (w:World) (h:RAt w B p v u x) (hp:B≤p) :
    Calls Tryz.prog 120 #[.pointer (some ⟨p,0,none⟩)] w (OneRet w B p v u x):=by
  obtain⟨A,n,c,hb,hr,hc⟩:=h
  have hl:=rd_tail hr
  have HB:=qh hb
  have HR:=qh hr
  have HC:=qh hc
  cases v with
  | nil=>
   obtain rfl:n=0:=by simpa using hl.symm
   have c0:w.cell? ⟨p,0,none⟩=some (.slice A 0 c):=HB.out.cell 0
   clear hb hr hc hl
   go_enter Tryz.func120, Tryz.ntmps120
   go_wp2_with fail
   go_ret
   exact⟨rfl,⟨A,0,c,HB.out,HR.out,HC.out⟩,Keep.refl _ _⟩
  | cons x v=>
   have hn0:0<n:=by simp at hl;omega
   have t0:((n:Int)==0)=false:=by simp;omega
   obtain⟨ad,y,hA,_,hy,d0⟩:=hr.at1 hn0
   simp only[List.getElem?_cons_zero,Option.some.injEq] at hy
   subst hy
   subst hA
   have ea:ad.add 0=ad:=by unfold Addr.add;split <;> simp_all
   have d0':=d0
   rw[ea] at d0'
   have f0:=HB.out.frozen 0
   obtain⟨A',c',_,h2,h3,_,_,h6,h7⟩:=run_from Tryz.underlying22 Tryz.sizeOf3 (some ad) n c 1 hn0 1 rfl
   have HR2:=h2 w B _ hc hr
   have HC2:=qh (h3 hc)
   by_cases g:c=1
   ·rw[if_pos g] at h6
    subst h6
    have hcc:c'=0:=by omega
    subst hcc
    have HRx:=qh HR2
    subst g
    have c0:w.cell? ⟨p,0,none⟩=some (.slice (some ad) n 1):=HB.out.cell 0
    clear hb hr hc hl h2 h3 ea HR2 h7
    go_enter Tryz.func120, Tryz.ntmps120
    go_wp2_with fail
    go_ret
    have hk:=put1_keep (w:=w) (b:=p) (i:=0) (.slice (some ad) (n - 1) 0)
    refine⟨rfl,⟨(some ad),n - 1,0,?_,?_,HC2.out⟩,hk⟩
    ·have:=HB.out.set_ 0 (.slice (some ad) (n - 1) 0)
     simpa using this
    ·have h:=HRx.out.keep hk (fun k h=>by omega)
     simpa using h
   ·rw[if_neg g] at h6
    have e1:Option.map (fun z:Addr=>z.add (1*1)) (some ad)=some ⟨ad.block,ad.off+1,none⟩:=by simp[Addr.add]
    rw[e1] at h6
    subst h6
    subst h7
    have HRx:=qh HR2
    have c0:w.cell? ⟨p,0,none⟩=some (.slice (some ad) n c):=HB.out.cell 0
    clear hb hr hc hl h2 h3 ea HR2 e1
    go_enter Tryz.func120, Tryz.ntmps120
    go_wp2_with fail
    go_ret
    have hk:=put1_keep (w:=w) (b:=p) (i:=0) (.slice (some ⟨ad.block,ad.off+1,none⟩) (n - 1) (c - 1))
    refine⟨rfl,⟨(some ⟨ad.block,ad.off+1,none⟩),n - 1,(c - 1),?_,?_,HC2.out⟩,hk⟩
    ·have:=HB.out.set_ 0 (.slice (some ⟨ad.block,ad.off+1,none⟩) (n - 1) (c - 1))
     simpa using this
    ·have h:=HRx.out.keep hk (fun k h=>by omega)
     simpa using h
set_option maxHeartbeats 4000000 in
set_option maxRecDepth 100000 in
theorem fail_any (p B:Nat) (v:List Int) (u e0 x:Int) (w:World) (h:RAt w B p v u e0) (hp:B≤p) :
    Calls Tryz.prog 165 #[.pointer (some ⟨p,0,none⟩),.int .i64 x] w fun e w'=>e=.returned (.tuple #[])∧RAt w' B p v u (failR e0 x)∧Keep (fun q=>q=p) w w':=by
  obtain⟨A,n,c,hb,hr,hc⟩:=h
  have HB:=qh hb
  have HR:=qh hr
  have HC:=qh hc
  have c2:w.cell? ⟨p,2,none⟩=some (.int .i64 e0):=HB.out.cell 2
  have f2:=HB.out.frozen 2
  clear hb hr hc
  by_cases g:e0=0
  ·have t0:(e0==0)=true:=by simpa using g
   have HF:Hid (failR e0 x=x):=qh (if_pos g)
   clear g
   go_enter Tryz.func165, Tryz.ntmps165
   go_wp2_with fail
   (try simp only[Exit.inBlock,Exit.then])
   refine bodyPost_end (results_none rfl _ _ _) rfl ?_
   have hk:=put1_keep (w:=w) (b:=p) (i:=2) (.int .i64 x)
   refine⟨rfl,⟨A,n,c,?_,HR.out.keep hk (fun k h=>by omega),HC.out⟩,hk⟩
   rw[HF.out]
   have:=HB.out.set_ 2 (.int .i64 x)
   simpa using this
  ·have t0:(e0==0)=false:=by simpa using g
   have HF:Hid (failR e0 x=e0):=qh (if_neg g)
   clear g
   go_enter Tryz.func165, Tryz.ntmps165
   go_wp2_with fail
   (try simp only[Exit.inBlock,Exit.then])
   refine bodyPost_end (results_none rfl _ _ _) rfl ?_
   exact⟨rfl,⟨A,n,c,by rw[HF.out];exact HB.out,HR.out,HC.out⟩,Keep.refl _ _⟩
set_option maxHeartbeats 8000000 in
set_option maxRecDepth 100000 in
theorem far_any (p B:Nat) (v:List Int) (u e0:Int) (w:World) (h:RAt w B p v u e0) (hp:B≤p) :
    Calls Tryz.prog 122 #[.pointer (some ⟨p,0,none⟩)] w fun e w'=>e=.returned (.int .i64 (farR u v e0).1)∧RAt w' B p (farR u v e0).2.1 u (farR u v e0).2.2∧Keep (fun q=>q=p) w w':=by
  have HA:=qh h
  have HO:=qh (fun (W:World) (hW:RAt W B p v u e0)=>ro_any p B v u e0 W hW hp)
  have HDm:=qh (fun (W:World)=>dm_any (v.headD 0) u W)
  have HFl:=qh (fun (W:World) (hW:RAt W B p v.tail u e0)=>fail_any p B v.tail u e0 7 W hW hp)
  have c1:w.cell? ⟨p,1,none⟩=some (.int .i64 u):=by obtain⟨A,n,c,hb,_⟩:=h;exact hb.cell 1
  have HD:Hid (farR u v e0=((dmM (v.headD 0) u).1,v.tail,if (dmM (v.headD 0) u).2≠0 then failR e0 7 else e0)):=qh rfl
  obtain⟨d1,hd1⟩:∃z,(dmM (v.headD 0) u).1=z:=⟨_,rfl⟩
  obtain⟨d2,hd2⟩:∃z,(dmM (v.headD 0) u).2=z:=⟨_,rfl⟩
  rw[hd1,hd2] at HDm HD
  obtain⟨hd,hhd⟩:∃z,v.headD 0=z:=⟨_,rfl⟩
  rw[hhd] at HDm
  unfold OneRet at HO
  rw[hhd] at HO
  clear hd1 hd2 hhd h
  go_enter Tryz.func122, Tryz.ntmps122
  go_wp2_with fail
  go_region_law (first
    | (go_simp;refine(HO.out _ (by first | exact HA.out | exact HA.out.drew)).mono ?_;rintro en w3 ⟨rfl,hr3,hk3⟩;have HA3:=qh hr3;have HK3:Hid (Keep (fun q=>q=p) w w3):=qh (by first | exact hk3 | exact hk3.drewL);have m1:w3.cell? ⟨p,1,none⟩=some (.int .i64 u):=(by obtain⟨A,n,c,hb,_⟩:=hr3;exact hb.cell 1);clear hr3 hk3)
    | (go_simp;refine(HDm.out _).mono ?_;rintro en w4 ⟨rfl,hk4⟩;have HA4:=qh (HA3.out.never (by first | exact hk4 | exact hk4.drewL));have HK4:=qh (HK3.out.then_ (by first | exact hk4 | exact hk4.drewL) (fun _ _ h=>False.elim h));clear hk4))
  all_goals
   by_cases g:d2=0
   ·have t0:(d2 != 0)=false:=by simpa using g
    have HF:Hid (farR u v e0=(d1,v.tail,e0)):=qh (by rw[HD.out,if_neg (by simpa using g)])
    clear g
    go_wp2_with fail
    go_ret
    exact⟨by rw[HF.out];rfl,by rw[HF.out];exact HA4.out,HK4.out⟩
   ·have t0:(d2 != 0)=true:=by simpa using g
    have HF:Hid (farR u v e0=(d1,v.tail,failR e0 7)):=qh (by rw[HD.out,if_pos g])
    clear g
    go_wp2_with fail
    refine(HFl.out _ HA4.out).mono ?_
    rintro en w5 ⟨rfl,hr5,hk5⟩
    have HA5:=qh hr5
    have HK5:=qtr HK4 hk5
    clear hr5 hk5
    go_wp2_with fail
    go_ret
    exact⟨by rw[HF.out];rfl,by rw[HF.out];exact HA5.out,HK5.out⟩
end Go.Proofs.YtpapiojicbbheaaGreatDoor
