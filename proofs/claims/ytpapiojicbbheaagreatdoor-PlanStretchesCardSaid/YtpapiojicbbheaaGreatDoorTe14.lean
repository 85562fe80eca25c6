/- Texts of this claim, together: PlcJ, TopJ, PmU, PackF, PmM, PmV, VarsK. -/
import Derived.Test.YtpapiojicbbheaaGreatDoorTc00
import Derived.Test.YtpapiojicbbheaaGreatDoorTc01
import Derived.Test.YtpapiojicbbheaaGreatDoorTc02
import Derived.Test.YtpapiojicbbheaaGreatDoorTc03
import Derived.Test.YtpapiojicbbheaaGreatDoorTc04
import Derived.Test.YtpapiojicbbheaaGreatDoorTc05
import Derived.Test.YtpapiojicbbheaaGreatDoorTc06
import Derived.Test.YtpapiojicbbheaaGreatDoorTc07
import Derived.Test.YtpapiojicbbheaaGreatDoorTc08
import Derived.Test.YtpapiojicbbheaaGreatDoorTc09
import Derived.Test.YtpapiojicbbheaaGreatDoorTc10
import Derived.Test.YtpapiojicbbheaaGreatDoorTc11
import Derived.Test.YtpapiojicbbheaaGreatDoorTe13
import Derived.Test.YtpapiojicbbheaaGreatDoorTe12
import Derived.Test.YtpapiojicbbheaaGreatDoorRows
import Derived.WalkKit
import Derived.WalkSpells
import Derived.WalkLawsBesides
import Derived.Lib.Hide
import Derived.Deep.QuietTactic
import Derived.BigQuiet
import Derived.Maps.AppendAt
import Derived.Deep.AppendLies
import Derived.Deep.Draws
import Derived.Laws.CopyOwn
import Derived.ProofKit
import Derived.Deep.Slices
import Derived.Maps.RangeWalk
import Derived.DeepKeys4
import Derived.Shelf.SlSortCmp.WholeK
import Derived.Deep.RegionHeld3
import Derived.Shelf.GgClosure.Gives
import Derived.Lib.SliceRun
import Derived.StillTailTactics
import Derived.WalkMore
import Derived.Great.Walk
import Derived.Lib.Walk
import Derived.Lib.Bytealg
import Derived.Lib.IndexBytes
import Derived.Lib.CutLaws
import Derived.IntWalk
import Derived.Deep.DeepCutAuto
import Derived.Deep.RegionLawGrows
import Derived.Recover
import Derived.Deep.RegionLaw
import Derived.Defers
import Derived.Deep.LoopGhost
import Derived.Lib.LaidTab
namespace Go.Proofs.YtpapiojicbbheaaGreatDoor
open Go.RowKit
theorem begin_at (t:Tp) (x:Stp):(beginP t x).1=x.1∧(beginP t x).2.2=x.2∧alongP t (beginP t x)=0:=by
 obtain⟨e,r⟩:=x
 cases r <;> simp[beginP,alongP]
theorem begin_in {t:Tp}{x:Stp} (h:0≤edgeM t x.1):0≤(beginP t x).2.1∧(beginP t x).2.1≤edgeM t x.1:=by
 obtain⟨e,r⟩:=x
 cases r <;> simp[beginP] <;> exact h
theorem rw_in {t:Tp}{p:Ps}{m:Int}{f:Nat} (h:¬m>aheadP t p):goM t f (p.1,p.2.2) (m+alongP t p)=(movedP p m,0):=by
 rw[goM_in (by have:=ahead_along t p;simp only;omega),moved_on t]
theorem rw_out {t:Tp}{p:Ps}{m:Int} (h:m>aheadP t p):¬m+alongP t p≤edgeM t ((p.1,p.2.2):Stp).1:=by
 have:=ahead_along t p;simp only;omega
theorem rw_next {t:Tp}{p:Ps}{m:Int}{f:Nat}{x:Stp}{r:Ps×Int} (hg:goM t (f+1) (p.1,p.2.2) (m+alongP t p)=r) (ha:afterM t (p.1,p.2.2)=[x]) (hm:m>aheadP t p) :
    goM t f ((beginP t x).1,(beginP t x).2.2) (m - aheadP t p+alongP t (beginP t x))=r:=by
  obtain⟨h1,h2,h3⟩:=begin_at t x
  rw[goM_next (rw_out hm) ha] at hg
  rw[h1,h2,h3,←hg]
  have:=ahead_along t p
  simp only
  congr 1;omega
structure RwI (w4:World) (bp:Nat) (t:Tp) (r:Ps×Int) (f:Nat) (p:Ps) (m:Int) (W:World):Prop where
  far:Keep (fun q=>q=bp) w4 W
  blk:Blk W bp 71 #[.int .i64 p.1,.int .i64 p.2.1,.bool p.2.2]
  go:goM t f (p.1,p.2.2) (m+alongP t p)=r
  there:thereB t.1.length p.1=true
  lo:0≤p.2.1
  hi:p.2.1≤edgeM t p.1
  pos:0≤m
  top:m≤1099511627776
set_option maxHeartbeats 8000000 in
set_option maxRecDepth 100000 in
theorem rwalk_any (x:TA) (t:Tp) (B:Nat) (e a:Int) (r:Bool) (n:Int) (w:World) (h:TpAt w B x t) (hs:TpSmall x t) (hB:B≤w.heap.size) :
    Calls Tryz.prog 93 #[.agg x.cs,.agg #[.int .i64 e,.int .i64 a,.bool r],.int .i64 n] w (PsRet2 (walkP t (e,a,r) n) w):=by
  have HRi:=qh (fun (W:World) (hk:Keep Never w W)=>rright_any x t B e a r W (h.keep hk) hs (Nat.le_trans hB hk.size))
  have HEl:Hid (x.ne=t.1.length):=qh h.e.len
  have HAh:=qh (fun (W:World) (hk:Keep Never w W) (e a:Int) (r:Bool)=>rahead_any x t B e a r W (h.keep hk))
  have HBg:=qh (fun (W:World) (hk:Keep Never w W) (e:Int) (r:Bool)=>rbegin_any x t B e r W (h.keep hk))
  have HAf:=qh (fun (W:World) (hk:Keep Never w W) (s:Stp)=>rafter_any x t B s W (h.keep hk) hs.j hs.e)
  obtain⟨Ae,ne,ce,Aj,nj,cj,Ab,nb,cb,Ar,nr,cr⟩:=x
  simp only[TA.cs] at HRi HEl HAh HBg HAf ⊢
  clear h hs hB
  obtain⟨w1,hw1⟩:∃V:World,w.alloc (.cells #[.slice Ae ne ce,.slice Aj nj cj,.slice Ab nb cb,.slice Ar nr cr] 27)=V:=⟨_,rfl⟩
  have zw1:w1.heap.size=w.heap.size+1:=by rw[←hw1];simp
  have kw1:Keep Never w w1:=by rw[←hw1];exact(Keep.refl _ _).alloc _
  have bw1:=Blk.new w 27 #[.slice Ae ne ce,.slice Aj nj cj,.slice Ab nb cb,.slice Ar nr cr]
  rw[hw1] at bw1
  obtain⟨w2,hw2⟩:∃V:World,w1.alloc (.cells #[.int .i64 e,.int .i64 a,.bool r] 71)=V:=⟨_,rfl⟩
  have zw2:w2.heap.size=w.heap.size+1+1:=by rw[←hw2];simp[zw1]
  have kw2:Keep Never w1 w2:=by rw[←hw2];exact(Keep.refl _ _).alloc _
  have bw2:=Blk.new w1 71 #[.int .i64 e,.int .i64 a,.bool r]
  rw[hw2,zw1] at bw2
  obtain⟨w3,hw3⟩:∃V:World,w2.alloc (.cells #[.int .i64 0,.int .i64 0,.bool false] 71)=V:=⟨_,rfl⟩
  have kw3:Keep Never w2 w3:=by rw[←hw3];exact(Keep.refl _ _).alloc _
  have bw3:=Blk.new w2 71 #[.int .i64 0,.int .i64 0,.bool false]
  rw[hw3,zw2] at bw3
  have HB1:=qh ((bw1.keep kw2 (fun h=>h)).keep kw3 (fun h=>h))
  have HB2:=qh (bw2.keep kw3 (fun h=>h))
  have HB3:=qh bw3
  have HK:=qh ((kw1.trans kw2).trans kw3)
  clear kw1 kw2 kw3 bw1 bw2 bw3
  obtain⟨y0,y1,y2,y3⟩:=bc4 HB1.out
  obtain⟨q0,q1,q2⟩:=bc3 HB2.out
  have HC:=qh (HRi.out w3 HK.out)
  clear HRi
  cases hr:rightB t (e,a,r) with
  | false=>
   have HF:Hid (walkP t (e,a,r) n=(noP,1)):=qh (by unfold walkP;rw[if_neg (by rw[hr];simp)])
   rw[hr] at HC
   clear hr
   go_enter Tryz.func93, Tryz.ntmps93
   go_wp2_with fail
   refine HC.out.mono ?_
   rintro en w4 ⟨rfl,hk4⟩
   have HK4:=qtr HK hk4
   have HT4:=qkb HB1 hk4
   have HP4:=qkb HB2 hk4
   have HZ4:=qkb HB3 hk4
   clear hk4 HC HB1 HB2 HB3 y0 y1 y2 y3 q0 q1 q2 hw1 hw2 hw3 zw1 zw2
   obtain⟨z0,z1,z2⟩:=bc3 HZ4.out
   have zf0:=HZ4.out.frozen 0
   have zf1:=HZ4.out.frozen 1
   have zf2:=HZ4.out.frozen 2
   go_wp2_with fail
   (try simp only[Exit.inBlock,Exit.then])
   have hp:=ps3_keep HK4.out (b:=w.heap.size+1+1) (.inr (by omega)) (.int .i64 0) (.int .i64 0) (.bool false)
   refine bodyPost_ret (ps_results2 (fn:=Tryz.f93) (r:=6) (s:=7) rfl (ps3_blk HZ4.out (.int .i64 0) (.int .i64 0) (.bool false)) _ rfl) rfl ⟨by rw[HF.out];rfl,hp⟩
  | true=>
   rw[hr] at HC
   by_cases g0:0≤n
   case neg=>
    have t0:decide (n<0)=true:=by simp;omega
    have HF:Hid (walkP t (e,a,r) n=(noP,1)):=qh (by unfold walkP;rw[if_neg (by rintro⟨_,h,_⟩;exact g0 h)])
    clear hr g0
    go_enter Tryz.func93, Tryz.ntmps93
    go_wp2_with fail
    refine HC.out.mono ?_
    rintro en w4 ⟨rfl,hk4⟩
    have HK4:=qtr HK hk4
    have HT4:=qkb HB1 hk4
    have HP4:=qkb HB2 hk4
    have HZ4:=qkb HB3 hk4
    clear hk4 HC HB1 HB2 HB3 y0 y1 y2 y3 q0 q1 q2 hw1 hw2 hw3 zw1 zw2
    obtain⟨z0,z1,z2⟩:=bc3 HZ4.out
    have zf0:=HZ4.out.frozen 0
    have zf1:=HZ4.out.frozen 1
    have zf2:=HZ4.out.frozen 2
    go_wp2_with fail
    (try simp only[Exit.inBlock,Exit.then])
    have hp:=ps3_keep HK4.out (b:=w.heap.size+1+1) (.inr (by omega)) (.int .i64 0) (.int .i64 0) (.bool false)
    refine bodyPost_ret (ps_results2 (fn:=Tryz.f93) (r:=6) (s:=7) rfl (ps3_blk HZ4.out (.int .i64 0) (.int .i64 0) (.bool false)) _ rfl) rfl ⟨by rw[HF.out];rfl,hp⟩
   have t0:decide (n<0)=false:=by simp;omega
   by_cases g1:n≤1099511627776
   case neg=>
    have t1:decide (n>1099511627776)=true:=by simp;omega
    have HF:Hid (walkP t (e,a,r) n=(noP,1)):=qh (by unfold walkP;rw[if_neg (by rintro⟨_,_,h⟩;exact g1 h)])
    clear hr g0 g1
    go_enter Tryz.func93, Tryz.ntmps93
    go_wp2_with fail
    refine HC.out.mono ?_
    rintro en w4 ⟨rfl,hk4⟩
    have HK4:=qtr HK hk4
    have HT4:=qkb HB1 hk4
    have HP4:=qkb HB2 hk4
    have HZ4:=qkb HB3 hk4
    clear hk4 HC HB1 HB2 HB3 y0 y1 y2 y3 q0 q1 q2 hw1 hw2 hw3 zw1 zw2
    obtain⟨z0,z1,z2⟩:=bc3 HZ4.out
    have zf0:=HZ4.out.frozen 0
    have zf1:=HZ4.out.frozen 1
    have zf2:=HZ4.out.frozen 2
    go_wp2_with fail
    (try simp only[Exit.inBlock,Exit.then])
    have hp:=ps3_keep HK4.out (b:=w.heap.size+1+1) (.inr (by omega)) (.int .i64 0) (.int .i64 0) (.bool false)
    refine bodyPost_ret (ps_results2 (fn:=Tryz.f93) (r:=6) (s:=7) rfl (ps3_blk HZ4.out (.int .i64 0) (.int .i64 0) (.bool false)) _ rfl) rfl ⟨by rw[HF.out];rfl,hp⟩
   have t1:decide (n>1099511627776)=false:=by simp;omega
   go_enter Tryz.func93, Tryz.ntmps93
   go_wp2_with fail
   refine HC.out.mono ?_
   rintro en w4 ⟨rfl,hk4⟩
   have HK4:=qtr HK hk4
   have HT4:=qkb HB1 hk4
   have HP4:=qkb HB2 hk4
   have HZ4:=qkb HB3 hk4
   clear hk4 HC HB1 HB2 HB3 y0 y1 y2 y3 q0 q1 q2 hw1 hw2 hw3 zw1 zw2
   obtain⟨r1,r2,r3,r4⟩:=right_iff.1 hr
   simp only at r2 r3 r4
   have HCk:=qh r1
   have HW:Hid (goM t 40 (e,r) (n+alongP t (e,a,r))=walkP t (e,a,r) n):=qh (by unfold walkP;rw[if_pos ⟨hr,g0,g1⟩])
   have HI4:Hid (RwI w4 (w.heap.size+1) t (walkP t (e,a,r) n) 40 (e,a,r) n w4):=qh ⟨Keep.refl _ _,HP4.out,HW.out,r2,r3,r4,g0,g1⟩
   clear hr g0 g1 r1 r2 r3 r4 HW HP4
   go_wp2_with fail
   clear t0 t1
   go_loopw [2,9,10] (fun m l _ wr=>∃(f:Nat) (p:Ps) (mm:Int),f≤40∧m=.int .i64 mm∧l=.int .i64 ((40 - f:Nat):Int)∧Hid (RwI w4 (w.heap.size+1) t (walkP t (e,a,r) n) f p mm wr)) (fun _ l _ _=>40 - (intOf l).toNat)
   case atStart=>exact⟨40,(e,a,r),n,by omega,rfl,rfl,HI4⟩
   case round=>
    obtain⟨f,ps,mm,hf,rfl,rfl,HH⟩:=hrel
    obtain⟨pe,pa,pr⟩:=ps
    have HTr:=qh (HT4.out.keep HH.out.far (by omega))
    have HZr:=qh (HZ4.out.keep HH.out.far (by omega))
    have HKr:=qh (HK4.out.then_ HH.out.far (fun i hi e=>by omega))
    have HPr:=qh HH.out.blk
    have HGo:=qh HH.out.go
    have hpos:=HH.out.pos
    have htop:=HH.out.top
    have hin:=edge_in HCk.out HH.out.there
    have hlo:=HH.out.lo
    have hhi:=HH.out.hi
    have hth:=HH.out.there
    unfold thereB at hth
    simp only[Bool.and_eq_true,decide_eq_true_eq] at hth
    rw[←HEl.out] at hth
    simp only at hin HPr HGo hlo hhi hth
    have hal:=ahead_along t (pe,pa,pr)
    have haz:=along_in (t:=t) (p:=(pe,pa,pr)) hlo hhi
    simp only at hal haz
    have HA:=qh (fun (V:World) (hk:Keep Never wr V)=>HAh.out V (HKr.out.trans hk) pe pa pr hth.1 hth.2 (by omega) hin.2 hlo (by omega))
    have HIn:=qh (fun (h:¬mm>aheadP t (pe,pa,pr))=>HGo.out.symm.trans (rw_in h))
    have HOu:=qh (fun (h:mm>aheadP t (pe,pa,pr))=>rw_out h)
    have HNx:=qh (fun (f':Nat) (x:Stp) (hf:f=f'+1) (ha:afterM t (pe,pr)=[x]) (h:mm>aheadP t (pe,pa,pr))=>rw_next (x:=x) (r:=walkP t (e,a,r) n) (by rw[←hf];exact HGo.out) ha h)
    obtain⟨ah,hah⟩:∃z,aheadP t (pe,pa,pr)=z:=⟨_,rfl⟩
    rw[hah] at HA HIn HOu HNx hal
    have hah1:0≤ah∧ah≤1000000:=by omega
    have HC:=qh (HA.out wr (Keep.refl _ _))
    obtain⟨y0,y1,y2,y3⟩:=bc4 HTr.out
    obtain⟨q0,q1,q2⟩:=bc3 HPr.out
    by_cases g:mm>ah
    case neg=>
     have t2:decide (mm>ah)=false:=by simpa using g
     have HF:Hid (walkP t (e,a,r) n=(movedP (pe,pa,pr) mm,0)):=qh (HIn.out g)
     have HMv:=qh (fun (V:World)=>rmoved_any pe pa pr mm V hlo (by omega) hpos (by omega))
     obtain⟨⟨o1,o2,o3⟩,hov⟩:∃z,movedP (pe,pa,pr) mm=z:=⟨_,rfl⟩
     rw[hov] at HF HMv
     unfold PsRet psV at HMv
     dsimp only at HMv
     clear g hth hin hpos htop hlo hhi hal haz hah hah1 hov
     go_wp2_with fail
     refine HC.out.mono ?_
     rintro en w7 ⟨rfl,hk7⟩
     have HK7:=qtr HKr hk7
     have HP7:=qkb HPr hk7
     have HZ7:=qkb HZr hk7
     clear hk7 HC y0 y1 y2 y3 q0 q1 q2
     obtain⟨q0,q1,q2⟩:=bc3 HP7.out
     go_wp2_with fail
     refine(HMv.out _).mono ?_
     rintro en w8 ⟨rfl,hk8⟩
     have HK8:=qtr HK7 hk8
     have HZ8:=qkb HZ7 hk8
     clear hk8 HMv q0 q1 q2
     obtain⟨z0,z1,z2⟩:=bc3 HZ8.out
     have zf0:=HZ8.out.frozen 0
     have zf1:=HZ8.out.frozen 1
     have zf2:=HZ8.out.frozen 2
     go_wp2_with fail
     (try simp only[Exit.inBlock,Exit.then])
     have hp:=ps3_keep HK8.out (b:=w.heap.size+1+1) (.inr (by omega)) (.int .i64 o1) (.int .i64 o2) (.bool o3)
     refine bodyPost_ret (ps_results2 (fn:=Tryz.f93) (r:=6) (s:=7) rfl (ps3_blk HZ8.out (.int .i64 o1) (.int .i64 o2) (.bool o3)) _ rfl) rfl ⟨by rw[HF.out];rfl,hp⟩
    have t2:decide (mm>ah)=true:=by simpa using g
    have HC2:=qh (fun (V:World) (hk:Keep Never wr V)=>HAf.out V (HKr.out.trans hk) (pe,pr))
    dsimp only at HC2
    have HG:=qh (HOu.out g)
    have Hg:=qh g
    have Hth:=qh HH.out.there
    have hwm:IntKind.i64.wrap (mm - ah)=mm - ah:=IntWalk.i64_in _ (by omega)
    have hwm':wrap64 (mm - ah)=mm - ah:=by have:=hwm;rwa [IntWalk.i64_left] at this
    have HBd:Hid (0≤mm - ah∧mm - ah≤1099511627776):=qh (by omega)
    clear g hth hin hpos htop hlo hhi hal haz hah hah1 HIn HOu
    go_wp2_with fail
    refine HC.out.mono ?_
    rintro en w7 ⟨rfl,hk7⟩
    have HKa7:=qh hk7
    have HC:=qh (HC2.out w7 hk7)
    have HT7:=qkb HTr hk7
    have HP7:=qkb HPr hk7
    clear hk7 y0 y1 y2 y3 q0 q1 q2
    obtain⟨y0,y1,y2,y3⟩:=bc4 HT7.out
    obtain⟨q0,q1,q2⟩:=bc3 HP7.out
    clear HC2
    go_wp2_with fail
    refine HC.out.mono ?_
    rintro en w8 ⟨A8,n8,c8,rfl,hn8,ho8,hk8⟩
    have HKa8:=qtr HKa7 hk8
    have HK8:=qh (HKr.out.trans HKa8.out)
    have HT8:=qkb HT7 hk8
    have HP8:=qkb HP7 hk8
    have HZ8:=qh (HZr.out.keep HKa8.out (fun h=>h))
    have Ho8:=qh ho8
    clear ho8 hk8 HC y0 y1 y2 y3 q0 q1 q2
    rcases hl:afterM t (pe,pr) with _ | ⟨x,_ | ⟨y,l⟩⟩
    ·have HF:Hid (walkP t (e,a,r) n=(noP,141)):=qh (by rw[←HGo.out];exact goM_end (by have:=HG.out;simp only;omega) hl)
     rw[hl] at hn8
     obtain rfl:n8=0:=hn8.out
     clear hl hn8
     obtain⟨z0,z1,z2⟩:=bc3 HZ8.out
     have zf0:=HZ8.out.frozen 0
     have zf1:=HZ8.out.frozen 1
     have zf2:=HZ8.out.frozen 2
     go_wp2_with fail
     (try simp only[Exit.inBlock,Exit.then])
     have hp:=ps3_keep HK8.out (b:=w.heap.size+1+1) (.inr (by omega)) (.int .i64 0) (.int .i64 0) (.bool false)
     refine bodyPost_ret (ps_results2 (fn:=Tryz.f93) (r:=6) (s:=7) rfl (ps3_blk HZ8.out (.int .i64 0) (.int .i64 0) (.bool false)) _ rfl) rfl ⟨by rw[HF.out];rfl,hp⟩
    ·rw[hl] at hn8 Ho8
     obtain rfl:n8=1:=hn8.out
     have hmem:x∈afterM t (pe,pr):=by rw[hl];simp
     have Hx:=qh (after_there hmem)
     cases f with
     | zero=>
      have HF:Hid (walkP t (e,a,r) n=(noP,2)):=qh (by rw[←HGo.out];exact goM_long (by have:=HG.out;simp only;omega) hl)
      clear hl hn8 hmem
      obtain⟨z0,z1,z2⟩:=bc3 HZ8.out
      have zf0:=HZ8.out.frozen 0
      have zf1:=HZ8.out.frozen 1
      have zf2:=HZ8.out.frozen 2
      go_wp2_with fail
      (try simp only[Exit.inBlock,Exit.then])
      have hp:=ps3_keep HK8.out (b:=w.heap.size+1+1) (.inr (by omega)) (.int .i64 0) (.int .i64 0) (.bool false)
      refine bodyPost_ret (ps_results2 (fn:=Tryz.f93) (r:=6) (s:=7) rfl (ps3_blk HZ8.out (.int .i64 0) (.int .i64 0) (.bool false)) _ rfl) rfl ⟨by rw[HF.out];rfl,hp⟩
     | succ f=>
      have HG2:=qh (HNx.out f x rfl hl Hg.out)
      have t6:(((40 - (f+1):Nat):Int)==40)=false:=by simp;omega
      obtain⟨ad2,x',hA2,hb2,hx',c0,c1⟩:=Ho8.out.rd.stp (k:=0) (by omega)
      obtain rfl:x=x':=by simpa using hx'
      subst hA2
      obtain⟨x0,x1⟩:=x
      have hx1:=Hx.out
      unfold thereB at hx1
      simp only[Bool.and_eq_true,decide_eq_true_eq] at hx1
      rw[←HEl.out] at hx1
      have HBe:=qh (fun (V:World) (hk:Keep Never w V)=>HBg.out V hk x0 x1 hx1.1 hx1.2)
      have hb1:=begin_at t (x0,x1)
      have hb2:=begin_in (t:=t) (x:=(x0,x1)) (by have:=edge_in HCk.out Hx.out;simp only at this ⊢;omega)
      obtain⟨⟨b1,b2,b3⟩,hbv⟩:∃z,beginP t (x0,x1)=z:=⟨_,rfl⟩
      rw[hbv] at HBe hb1 hb2 HG2
      unfold PsRet psV at HBe
      dsimp only at HBe hb1 hb2 HG2
      have Hb1:=qh hb1
      have Hb2:=qh hb2
      simp only[Nat.zero_mul] at c0 c1
      have ea:ad2.add 0=ad2:=by unfold Addr.add;split <;> simp_all
      have c0':=c0
      have c1':=c1
      rw[ea] at c0' c1'
      have HCx:=qh (And.intro c0 (And.intro c1 (And.intro c0' c1')))
      have HC:=qh (HA.out w8 HKa8.out)
      obtain⟨y0,y1,y2,y3⟩:=bc4 HT8.out
      obtain⟨q0,q1,q2⟩:=bc3 HP8.out
      clear hl hn8 hmem hx' hx1 hb1 hb2 hbv c0 c1 c0' c1'
      go_wp2_with fail
      refine HC.out.mono ?_
      rintro en w9 ⟨rfl,hk9⟩
      obtain⟨c0,c1,c0',c1'⟩:=HCx.out
      have c0:=keepT hk9 c0
      have c1:=keepT hk9 c1
      have c0':=keepT hk9 c0'
      have c1':=keepT hk9 c1'
      have HK9:=qtr HK8 hk9
      have HKa9:=qtr HKa8 hk9
      have HT9:=qkb HT8 hk9
      have HP9:=qkb HP8 hk9
      clear hk9 HC y0 y1 y2 y3 q0 q1 q2
      obtain⟨y0,y1,y2,y3⟩:=bc4 HT9.out
      go_wp2_with fail
      (try rw[hwm'])
      go_region_law (first
        | (go_simp;go_at_call 143; refine(HBe.out _ (HK9.out.drew)).mono ?_;rintro en w10 ⟨rfl,hk10⟩;have HK10:=qh hk10.drewL;have HP10:=qh (HP9.out.keep HK10.out (fun h=>h));have q0:w10.cell? ⟨w.heap.size+1,0,none⟩=some (.int .i64 pe):=HP10.out.cell 0;have q1:w10.cell? ⟨w.heap.size+1,1,none⟩=some (.int .i64 pa):=HP10.out.cell 1;have q2:w10.cell? ⟨w.heap.size+1,2,none⟩=some (.bool pr):=HP10.out.cell 2;have qf0:=HP10.out.frozen 0;have qf1:=HP10.out.frozen 1;have qf2:=HP10.out.frozen 2))
      all_goals
       go_wp2_with fail
       have b11:=ps3_blk HP10.out (.int .i64 b1) (.int .i64 b2) (.bool b3)
       refine⟨⟨f,(b1,b2,b3),mm - ah,by omega,rfl,by rw[show ((39 - f:Nat):Int)+1=((40 - f:Nat):Int) by omega],qh ⟨HH.out.far.then_ (ps3_keep ((HKa9.out.trans HK10.out).mono (S':=fun q=>q=w.heap.size+1) (fun _ _ h=>h.elim)) (b:=w.heap.size+1) (.inl rfl) _ _ _) (fun i hi h=>h),b11,HG2.out,by have h1:=Hb1.out;rw[h1.1];exact Hx.out,Hb2.out.1,by have h1:=Hb1.out;have h2:=Hb2.out;simp only;rw[h1.1];exact h2.2,HBd.out.1,HBd.out.2⟩⟩,?_⟩
       simp[intOf];try omega
    ·have HF:Hid (walkP t (e,a,r) n=(noP,140)):=qh (by rw[←HGo.out];exact goM_fork (by have:=HG.out;simp only;omega) hl)
     rw[hl] at hn8
     have hn2:n8=l.length+2:=hn8.out
     have t3:((n8:Int)==0)=false:=by simp;omega
     have t4:decide ((n8:Int)>1)=true:=by simp;omega
     have t5:decide (1<n8)=true:=by simp;omega
     clear hl hn8 hn2
     obtain⟨z0,z1,z2⟩:=bc3 HZ8.out
     have zf0:=HZ8.out.frozen 0
     have zf1:=HZ8.out.frozen 1
     have zf2:=HZ8.out.frozen 2
     go_wp2_with fail
     (try simp only[Exit.inBlock,Exit.then])
     have hp:=ps3_keep HK8.out (b:=w.heap.size+1+1) (.inr (by omega)) (.int .i64 0) (.int .i64 0) (.bool false)
     refine bodyPost_ret (ps_results2 (fn:=Tryz.f93) (r:=6) (s:=7) rfl (ps3_blk HZ8.out (.int .i64 0) (.int .i64 0) (.bool false)) _ rfl) rfl ⟨by rw[HF.out];rfl,hp⟩
end Go.Proofs.YtpapiojicbbheaaGreatDoor

namespace Go.Proofs.YtpapiojicbbheaaGreatDoor
open Go.RowKit
def overF (es:List Int) (lo hi:Int) (p:List Stp) (k:Nat):List Sp:=(overK es lo hi p k).filter fun s=>decide (s.2.1<s.2.2)
theorem overF_has (es:List Int) (lo hi:Int) (p:List Stp) (k:Nat) (e a:Int):hasL (overF es lo hi p k) e a=hasL (overK es lo hi p k) e a:=by
 apply bool_ext
 rw[hasL_iff,hasL_iff]
 unfold overF
 constructor
 ·rintro⟨s,hs,h⟩
  exact⟨s,(List.mem_filter.1 hs).1,h⟩
 ·rintro⟨s,hs,h⟩
  exact⟨s,List.mem_filter.2 ⟨hs,by have:=(someS_iff.1 h.1);simp;omega⟩,h⟩
theorem overF_norm {es:List Int}{lo hi:Int}{p:List Stp}{k:Nat}{m:List Sp} (h:NormOf (overF es lo hi p k) m):NormOf (overK es lo hi p k) m:=⟨h.1,fun e a=>(h.2 e a).trans (overF_has es lo hi p k e a)⟩
theorem overF_yes {es:List Int}{lo hi:Int}{p:List Stp}{k:Nat}{s:Sp} (h:overK es lo hi p (k+1)=overK es lo hi p k++[s]) (hs:s.2.1<s.2.2):overF es lo hi p (k+1)=overF es lo hi p k++[s]:=by
 unfold overF;rw[h,List.filter_append];simp[hs]
theorem overF_no {es:List Int}{lo hi:Int}{p:List Stp}{k:Nat}{s:Sp} (h:overK es lo hi p (k+1)=overK es lo hi p k++[s]) (hs:¬s.2.1<s.2.2):overF es lo hi p (k+1)=overF es lo hi p k:=by
 unfold overF;rw[h,List.filter_append];simp[hs]
set_option maxHeartbeats 4000000 in
set_option maxRecDepth 100000 in
theorem rover_any (x:TA) (t:Tp) (B:Nat) (A:Option Addr) (n c:Nat) (p:List Stp) (lo hi:Int) (w:World) (ht:TpAt w B x t) (hp:repStp.Sl w B A n c p) (hn:x.nj≤100000000) (hn1:x.ne≤100000000) (hn2:n≤100000000) (_hB:B≤w.heap.size)
    (l1:-9223372036854775808≤lo) (l2:lo≤9223372036854775807) (l3:-9223372036854775808≤hi) (l4:hi≤9223372036854775807) :
    Calls Tryz.prog 94 #[.agg x.cs,.slice A n c,.int .i64 lo,.int .i64 hi] w (OverRet t p lo hi w):=by
  have HLn:Hid (∀(w':World),Keep Never w w'→Calls Tryz.prog 130 #[.agg x.cs,.slice A n c] w' fun e w''=>e=.returned (.tuple #[.int .i64 (lenM t p).1,.int .i64 (lenM t p).2])∧Keep Never w' w''):=qh (fun w' h=>rlength_any x t B A n c p w' (ht.keep h) (hp.keep h (fun _ h=>h.elim)) hn hn2)
  have HE:=qh ht.e
  have HPl:Hid (n=p.length):=qh hp.len
  obtain⟨Ae,ne,ce,Aj,nj,cj,Ab,nb,cb,Ar,nr,cr⟩:=x
  simp only[TA.cs] at HLn HE hn1 ⊢
  obtain⟨wb,hwb⟩:∃wb:World,w.alloc (.cells #[.slice Ae ne ce,.slice Aj nj cj,.slice Ab nb cb,.slice Ar nr cr] 27)=wb:=⟨_,rfl⟩
  have k1:Keep Never w wb:=by rw[←hwb];exact(Keep.refl _ _).alloc _
  have b1':=Blk.new w 27 #[.slice Ae ne ce,.slice Aj nj cj,.slice Ab nb cb,.slice Ar nr cr]
  rw[hwb] at b1'
  obtain⟨y0,y1,y2,y3⟩:=bc4 (b1')
  have HB:=qh b1'
  have HK:=qh k1
  have HP:=qh (hp.keep k1 (fun _ h=>h.elim))
  have HEb:=qh (HE.out.keep k1 (fun _ h=>h.elim))
  have HC:=qh (HLn.out wb k1)
  obtain⟨all,hall⟩:∃z,(lenM t p).1=z:=⟨_,rfl⟩
  obtain⟨er,her⟩:∃z,(lenM t p).2=z:=⟨_,rfl⟩
  have HAl:=qh hall
  have HEr:=qh her
  rw[hall,her] at HC
  clear k1 b1' hp ht HE HLn hall her
  go_enter Tryz.func94, Tryz.ntmps94
  go_wp2_with fail
  refine HC.out.mono ?_
  rintro e w1 ⟨rfl,hk1⟩
  have HK1:=qtr HK hk1
  have HB1:=qkb HB hk1
  have y0:w1.cell? ⟨w.heap.size,0,none⟩=some (.slice Ae ne ce):=HB1.out.cell 0
  have HKb:=qh hk1
  clear hk1 HC
  by_cases g0:er=0
  case neg=>
   have t0:(er != 0)=true:=by simpa using g0
   have t0':(er==0)=false:=by simpa using g0
   have HF:Hid (overE t p lo hi=er∧er≠0):=qh ⟨by unfold overE;rw[HEr.out,if_pos g0],g0⟩
   clear g0
   go_wp2_with fail
   go_ret2
   exact over_err HF.out.1 HF.out.2 HK1.out
  subst g0
  have HEl:Hid (ne=t.1.length):=qh HEb.out.len
  clear y0
  go_wp2_with fail
  go_loopw [12] (fun i wr=>∃k:Nat,k≤ne∧i=.int .i64 k∧Hid (Keep Never w1 wr∧(t.1.take k).any wrongB=false)) (fun i _=>ne - (intOf i).toNat)
  case atStart=>exact⟨0,by omega,rfl,qh ⟨Keep.refl _ _,rfl⟩⟩
  case round=>
   obtain⟨k,hk,rfl,HH⟩:=hrel
   have y0:wr.cell? ⟨w.heap.size,0,none⟩=some (.slice Ae ne ce):=(HB1.out.keep HH.out.1 (fun h=>h)).cell 0
   by_cases h0:k<ne
   ·have hkz:(k:Int)<(ne:Int):=by omega
    obtain⟨ad2,v,hA2,_,hv,d0⟩:=(int_rd (HEb.out.keep (HKb.out.trans HH.out.1) (fun _ h=>h.elim))).at1 h0
    subst hA2
    have HTk:Hid (t.1.take (k+1)=t.1.take k++[v]):=qh (by
     obtain⟨h2,h3⟩:=List.getElem?_eq_some_iff.1 hv
     rw[List.take_succ_eq_append_getElem h2,h3])
    have Hv:=qh hv
    clear hv
    by_cases g1:v<1
    ·have t1:decide (v<1)=true:=by simpa using g1
     have hW:t.1.any wrongB=true:=List.any_eq_true.2 ⟨v,List.mem_of_getElem? Hv.out,by unfold wrongB;rw[t1];rfl⟩
     have HF:Hid (overE t p lo hi=1):=qh (by unfold overE;rw[HEr.out,if_neg (by simp),if_pos (.inl hW)])
     clear g1 hW
     go_wp2_with fail
     go_ret2
     exact over_err HF.out (by omega) (HK1.out.trans HH.out.1)
    have t1:decide (v<1)=false:=by simpa using g1
    by_cases g2:v>1000000
    ·have t2:decide (v>1000000)=true:=by simpa using g2
     have hW:t.1.any wrongB=true:=List.any_eq_true.2 ⟨v,List.mem_of_getElem? Hv.out,by unfold wrongB;rw[t1,t2];rfl⟩
     have HF:Hid (overE t p lo hi=1):=qh (by unfold overE;rw[HEr.out,if_neg (by simp),if_pos (.inl hW)])
     clear g1 g2 hW
     go_wp2_with fail
     go_ret2
     exact over_err HF.out (by omega) (HK1.out.trans HH.out.1)
    have t2:decide (v>1000000)=false:=by simpa using g2
    have HN:Hid ((t.1.take (k+1)).any wrongB=false):=qh (by
     rw[HTk.out,List.any_append,HH.out.2]
     simp only[List.any_cons,List.any_nil,Bool.or_false,Bool.false_or]
     unfold wrongB;rw[t1,t2];rfl)
    clear g1 g2
    go_wp2_with fail
    refine⟨⟨k+1,by omega,by go_num,qh ⟨HH.out.1,HN.out⟩⟩,?_⟩
    simp[intOf];try omega
   ·obtain rfl:ne=k:=by omega
    have hkz:¬(ne:Int)<(ne:Int):=by omega
    have HWf:Hid (t.1.any wrongB=false):=qh (by have:=HH.out.2;rwa [List.take_of_length_le (by rw[HEl.out];exact Nat.le_refl _)] at this)
    have HK2:=qh (HK1.out.trans HH.out.1)
    have HKb2:=qh (HKb.out.trans HH.out.1)
    clear HH h0
    by_cases g1:lo<0
    ·have t1:decide (lo<0)=true:=by simpa using g1
     have HF:Hid (overE t p lo hi=1):=qh (by unfold overE;rw[HEr.out,if_neg (by simp),if_pos (.inr (.inl g1))])
     clear g1
     go_wp2_with fail
     go_ret2
     exact over_err HF.out (by omega) HK2.out
    have t1:decide (lo<0)=false:=by simpa using g1
    by_cases g2:lo>hi
    ·have t2:decide (lo>hi)=true:=by simpa using g2
     have HF:Hid (overE t p lo hi=1):=qh (by unfold overE;rw[HEr.out,if_neg (by simp),if_pos (.inr (.inr (.inl g2)))])
     clear g1 g2
     go_wp2_with fail
     go_ret2
     exact over_err HF.out (by omega) HK2.out
    have t2:decide (lo>hi)=false:=by simpa using g2
    by_cases g3:hi>all
    ·have t3:decide (hi>all)=true:=by simpa using g3
     have HF:Hid (overE t p lo hi=1):=qh (by unfold overE;rw[HEr.out,if_neg (by simp),if_pos (.inr (.inr (.inr (by rw[HAl.out];exact g3))))])
     clear g1 g2 g3
     go_wp2_with fail
     go_ret2
     exact over_err HF.out (by omega) HK2.out
    have t3:decide (hi>all)=false:=by simpa using g3
    have HF:Hid (overE t p lo hi=0):=qh (by
     unfold overE
     rw[HEr.out,if_neg (by simp),if_neg]
     rintro(h | h | h | h)
     ·rw[HWf.out] at h;cases h
     ·exact g1 h
     ·exact g2 h
     ·exact g3 (by rw[←HAl.out];exact h))
    obtain⟨hgd,hsm⟩:=len_good HEr.out HWf.out
    have HGd:=qh hgd
    have hn40:n≤40:=by have:=hgd.2.2;have:=HPl.out;omega
    have h00:0≤lo:=by omega
    have h01:lo≤hi:=by omega
    have h02:hi≤40000000:=by
     have h:=(sum_good hgd p.length (Nat.le_refl _)).2
     rw[List.take_length,←hsm,HAl.out] at h
     have:=hgd.2.2
     omega
    clear g1 g2 g3 hgd hsm l1 l2 l3 l4
    go_wp2_with fail
    clear t1 t2 t3 hkz
    rename World=>w2
    go_loopw [13,14,15,16,17,18] (fun ov av i _ _ _ wr=>∃(k no co:Nat) (Ao:Option Addr),k≤n∧i=.int .i64 k∧av=.int .i64 (sumM t.1 (p.take k))∧ov=.slice Ao no co∧no≤k ∧
      Hid (Keep Never w2 wr∧Own wr w2.heap.size 145 3 Ao no co (spCells (overF t.1 lo hi p k))∧no=(overF t.1 lo hi p k).length)) (fun _ _ i _ _ _ _=>n - (intOf i).toNat)
    case atStart=>exact⟨0,0,0,none,by omega,rfl,rfl,rfl,by omega,qh ⟨Keep.refl _ _,Own.nil _ _ _ _,rfl⟩⟩
    case round=>
     obtain⟨k,no,co,Ao,hk,rfl,rfl,rfl,hno,HH⟩:=hrel
     obtain⟨hkr,ho,hol⟩:=HH.out
     by_cases h0:k<n
     ·have hkz:(k:Int)<(n:Int):=by omega
      obtain⟨ad,s,hA,hab,hs,c0,c1,_⟩:=stp_at (HP.out.keep (HKb2.out.trans hkr) (fun _ h=>h.elim)) h0
      subst hA
      obtain⟨j,hj,hjl,v,hv,v1,v2,hgv⟩:=good_at HGd.out hs
      have hst:=sum_step HGd.out hs
      have hrg:=sum_good HGd.out k (by have:=HPl.out;omega)
      have hov:=overK_at (es:=t.1) (lo:=lo) (hi:=hi) hs
      rw[hgv] at hst
      obtain⟨s1,rv⟩:=s
      simp only at c0 c1 hj
      subst hj
      have hcut:cutS t.1 lo hi (sumM t.1 (p.take k)) ((j:Int),rv)=if rv=true then ((j:Int),v - min (hi - sumM t.1 (p.take k)) v,v - max (lo - sumM t.1 (p.take k)) 0) else ((j:Int),max (lo - sumM t.1 (p.take k)) 0,min (hi - sumM t.1 (p.take k)) v):=by
       unfold cutS;simp only at hgv ⊢;rw[hgv]
      rw[hcut] at hov
      generalize sumM t.1 (p.take k)=S at *
      have hjn:j<ne:=by have:=HEb.out.len;omega
      obtain⟨ad2,v',hA2,_,hv',d0⟩:=(int_rd (HEb.out.keep (HKb2.out.trans hkr) (fun _ h=>h.elim))).at1 hjn
      subst hA2
      obtain rfl:v=v':=by rw[hv] at hv';injection hv'
      have hjz:(j:Int)<(ne:Int):=by omega
      have hj0:(0:Int)≤(j:Int):=by omega
      have hS1:=hrg.1
      have hS2:S≤40000000:=by have:=hrg.2;omega
      have HSt:=qh hst
      have HO:=qh ho
      have HOl:=qh hol
      have HKr:=qh hkr
      have y0:wr.cell? ⟨w.heap.size,0,none⟩=some (.slice (some ad2) ne ce):=(HB.out.keep (HKb2.out.trans hkr) (fun h=>h)).cell 0
      have w1':IntKind.i64.wrap (lo - S)=lo - S:=IntWalk.i64_in _ (by omega)
      clear w1' hs hab hv hv' hgv hcut hst hrg ho hol hkr HH
      go_wp2_with fail
      go_quiet (fail)
      obtain⟨wq,hwq⟩:∃W:World,wr.drewN nq=W:=⟨_,rfl⟩
      rw[hwq]
      have hkq:Keep Never wr wq:=by rw[←hwq];exact(Keep.refl Never wr).drewN nq
      have c0q:=keepT hkq c0
      have c1q:=keepT hkq c1
      have HOq:=qko HO hkq
      have HKq:=qtr HKr hkq
      have hszq:w2.heap.size≤wq.heap.size:=HKq.out.size
      clear hwq hkq c0 c1 d0 y0
      cases rv with
      | false=>
       by_cases q1:lo - S<0
       ·have t1:decide (lo - S<0)=true:=by simpa using q1
        by_cases q2:hi - S>v
        ·have t2:decide (hi - S>v)=true:=by simpa using q2
         have ha:max (lo - S) 0=0:=by omega
         have hb:min (hi - S) v=v:=by omega
         rw[ha,hb] at hov
         simp only[Bool.false_eq_true,if_false] at hov
         by_cases q3:(0:Int)<v
         ·have t3:decide ((0:Int)<v)=true:=by simpa using q3
          have HFy:=qh (overF_yes hov (by show 0<v;omega))
          clear hov ha hb q1 q2 q3
          go_wp2_with (refine wpList_app _ rfl (.tmp 116) (.tmp 125) _ rfl elemSp w2.heap.size (A:=Ao) (n:=no) (c:=co) (by go_simp) (HOq.out.alloc _) _ (A':=some ⟨_,0,none⟩) (m:=1) (c':=1) (news:=[.int .i64 (j:Int),.int .i64 (0),.int .i64 (v)]) (by go_simp) (Rd.of_blk (n:=1) (cs:=[.int .i64 (j:Int),.int .i64 (0),.int .i64 (v)]) (Blk.new _ _ _) rfl) (by simp[Value.oneCell']) (by omega) (by unfold maxLen;omega) (by simp;omega) ?_;intro A10 c10 w10 hown10 hk10 hrow10)
          have hkk:Keep Never w2 w10:=(HKq.out.alloc _).then_ hk10 (fun i hi h=>by have:=(HO.out.row h).1;omega)
          refine⟨⟨k+1,no+1,c10,A10,by omega,by go_num,by rw[HSt.out],rfl,by omega,qh ⟨hkk,?_,?_⟩⟩,?_⟩
          ·rw[HFy.out];simpa[spCells,spCell] using hown10
          ·rw[HFy.out,List.length_append,←HOl.out];rfl
          ·simp[intOf];try omega
         ·have t3:decide ((0:Int)<v)=false:=by simpa using q3
          have HFn:=qh (overF_no hov (by show ¬(0<v);omega))
          clear hov ha hb q1 q2 q3
          go_wp2_with fail
          refine⟨⟨k+1,no,co,Ao,by omega,by go_num,by rw[HSt.out],rfl,by omega,qh ⟨HKq.out,by rw[HFn.out];exact HOq.out,by rw[HFn.out];exact HOl.out⟩⟩,?_⟩
          simp[intOf];try omega
        ·have t2:decide (hi - S>v)=false:=by simpa using q2
         have ha:max (lo - S) 0=0:=by omega
         have hb:min (hi - S) v=(hi - S):=by omega
         rw[ha,hb] at hov
         simp only[Bool.false_eq_true,if_false] at hov
         by_cases q3:(0:Int)<(hi - S)
         ·have t3:decide ((0:Int)<(hi - S))=true:=by simpa using q3
          have t4:decide (S<hi)=true:=by simp;omega
          have HFy:=qh (overF_yes hov (by show 0<(hi - S);omega))
          clear hov ha hb q1 q2 q3
          go_wp2_with (refine wpList_app _ rfl (.tmp 116) (.tmp 125) _ rfl elemSp w2.heap.size (A:=Ao) (n:=no) (c:=co) (by go_simp) (HOq.out.alloc _) _ (A':=some ⟨_,0,none⟩) (m:=1) (c':=1) (news:=[.int .i64 (j:Int),.int .i64 (0),.int .i64 ((hi - S))]) (by go_simp) (Rd.of_blk (n:=1) (cs:=[.int .i64 (j:Int),.int .i64 (0),.int .i64 ((hi - S))]) (Blk.new _ _ _) rfl) (by simp[Value.oneCell']) (by omega) (by unfold maxLen;omega) (by simp;omega) ?_;intro A10 c10 w10 hown10 hk10 hrow10)
          have hkk:Keep Never w2 w10:=(HKq.out.alloc _).then_ hk10 (fun i hi h=>by have:=(HO.out.row h).1;omega)
          refine⟨⟨k+1,no+1,c10,A10,by omega,by go_num,by rw[HSt.out],rfl,by omega,qh ⟨hkk,?_,?_⟩⟩,?_⟩
          ·rw[HFy.out];simpa[spCells,spCell] using hown10
          ·rw[HFy.out,List.length_append,←HOl.out];rfl
          ·simp[intOf];try omega
         ·have t3:decide ((0:Int)<(hi - S))=false:=by simpa using q3
          have t4:decide (S<hi)=false:=by simp;omega
          have HFn:=qh (overF_no hov (by show ¬(0<(hi - S));omega))
          clear hov ha hb q1 q2 q3
          go_wp2_with fail
          refine⟨⟨k+1,no,co,Ao,by omega,by go_num,by rw[HSt.out],rfl,by omega,qh ⟨HKq.out,by rw[HFn.out];exact HOq.out,by rw[HFn.out];exact HOl.out⟩⟩,?_⟩
          simp[intOf];try omega
       ·have t1:decide (lo - S<0)=false:=by simpa using q1
        by_cases q2:hi - S>v
        ·have t2:decide (hi - S>v)=true:=by simpa using q2
         have ha:max (lo - S) 0=(lo - S):=by omega
         have hb:min (hi - S) v=v:=by omega
         rw[ha,hb] at hov
         simp only[Bool.false_eq_true,if_false] at hov
         by_cases q3:((lo - S):Int)<v
         ·have t3:decide (((lo - S):Int)<v)=true:=by simpa using q3
          have HFy:=qh (overF_yes hov (by show (lo - S)<v;omega))
          clear hov ha hb q1 q2 q3
          go_wp2_with (refine wpList_app _ rfl (.tmp 116) (.tmp 125) _ rfl elemSp w2.heap.size (A:=Ao) (n:=no) (c:=co) (by go_simp) (HOq.out.alloc _) _ (A':=some ⟨_,0,none⟩) (m:=1) (c':=1) (news:=[.int .i64 (j:Int),.int .i64 ((lo - S)),.int .i64 (v)]) (by go_simp) (Rd.of_blk (n:=1) (cs:=[.int .i64 (j:Int),.int .i64 ((lo - S)),.int .i64 (v)]) (Blk.new _ _ _) rfl) (by simp[Value.oneCell']) (by omega) (by unfold maxLen;omega) (by simp;omega) ?_;intro A10 c10 w10 hown10 hk10 hrow10)
          have hkk:Keep Never w2 w10:=(HKq.out.alloc _).then_ hk10 (fun i hi h=>by have:=(HO.out.row h).1;omega)
          refine⟨⟨k+1,no+1,c10,A10,by omega,by go_num,by rw[HSt.out],rfl,by omega,qh ⟨hkk,?_,?_⟩⟩,?_⟩
          ·rw[HFy.out];simpa[spCells,spCell] using hown10
          ·rw[HFy.out,List.length_append,←HOl.out];rfl
          ·simp[intOf];try omega
         ·have t3:decide (((lo - S):Int)<v)=false:=by simpa using q3
          have HFn:=qh (overF_no hov (by show ¬((lo - S)<v);omega))
          clear hov ha hb q1 q2 q3
          go_wp2_with fail
          refine⟨⟨k+1,no,co,Ao,by omega,by go_num,by rw[HSt.out],rfl,by omega,qh ⟨HKq.out,by rw[HFn.out];exact HOq.out,by rw[HFn.out];exact HOl.out⟩⟩,?_⟩
          simp[intOf];try omega
        ·have t2:decide (hi - S>v)=false:=by simpa using q2
         have ha:max (lo - S) 0=(lo - S):=by omega
         have hb:min (hi - S) v=(hi - S):=by omega
         rw[ha,hb] at hov
         simp only[Bool.false_eq_true,if_false] at hov
         by_cases q3:((lo - S):Int)<(hi - S)
         ·have t3:decide (((lo - S):Int)<(hi - S))=true:=by simpa using q3
          have t4:decide (lo<hi)=true:=by simp;omega
          have HFy:=qh (overF_yes hov (by show (lo - S)<(hi - S);omega))
          clear hov ha hb q1 q2 q3
          go_wp2_with (refine wpList_app _ rfl (.tmp 116) (.tmp 125) _ rfl elemSp w2.heap.size (A:=Ao) (n:=no) (c:=co) (by go_simp) (HOq.out.alloc _) _ (A':=some ⟨_,0,none⟩) (m:=1) (c':=1) (news:=[.int .i64 (j:Int),.int .i64 ((lo - S)),.int .i64 ((hi - S))]) (by go_simp) (Rd.of_blk (n:=1) (cs:=[.int .i64 (j:Int),.int .i64 ((lo - S)),.int .i64 ((hi - S))]) (Blk.new _ _ _) rfl) (by simp[Value.oneCell']) (by omega) (by unfold maxLen;omega) (by simp;omega) ?_;intro A10 c10 w10 hown10 hk10 hrow10)
          have hkk:Keep Never w2 w10:=(HKq.out.alloc _).then_ hk10 (fun i hi h=>by have:=(HO.out.row h).1;omega)
          refine⟨⟨k+1,no+1,c10,A10,by omega,by go_num,by rw[HSt.out],rfl,by omega,qh ⟨hkk,?_,?_⟩⟩,?_⟩
          ·rw[HFy.out];simpa[spCells,spCell] using hown10
          ·rw[HFy.out,List.length_append,←HOl.out];rfl
          ·simp[intOf];try omega
         ·have t3:decide (((lo - S):Int)<(hi - S))=false:=by simpa using q3
          have t4:decide (lo<hi)=false:=by simp;omega
          have HFn:=qh (overF_no hov (by show ¬((lo - S)<(hi - S));omega))
          clear hov ha hb q1 q2 q3
          go_wp2_with fail
          refine⟨⟨k+1,no,co,Ao,by omega,by go_num,by rw[HSt.out],rfl,by omega,qh ⟨HKq.out,by rw[HFn.out];exact HOq.out,by rw[HFn.out];exact HOl.out⟩⟩,?_⟩
          simp[intOf];try omega
      | true=>
       by_cases q1:lo - S<0
       ·have t1:decide (lo - S<0)=true:=by simpa using q1
        by_cases q2:hi - S>v
        ·have t2:decide (hi - S>v)=true:=by simpa using q2
         have ha:max (lo - S) 0=0:=by omega
         have hb:min (hi - S) v=v:=by omega
         rw[ha,hb] at hov
         simp only[if_true,Int.sub_self,Int.sub_zero] at hov
         by_cases q3:(0:Int)<v
         ·have t3:decide ((0:Int)<v)=true:=by simpa using q3
          have HFy:=qh (overF_yes hov (by show 0<v;omega))
          clear hov ha hb q1 q2 q3
          go_wp2_with (refine wpList_app _ rfl (.tmp 98) (.tmp 111) _ rfl elemSp w2.heap.size (A:=Ao) (n:=no) (c:=co) (by go_simp) (HOq.out.alloc _) _ (A':=some ⟨_,0,none⟩) (m:=1) (c':=1) (news:=[.int .i64 (j:Int),.int .i64 (0),.int .i64 (v)]) (by go_simp) (Rd.of_blk (n:=1) (cs:=[.int .i64 (j:Int),.int .i64 (0),.int .i64 (v)]) (Blk.new _ _ _) rfl) (by simp[Value.oneCell']) (by omega) (by unfold maxLen;omega) (by simp;omega) ?_;intro A10 c10 w10 hown10 hk10 hrow10)
          have hkk:Keep Never w2 w10:=(HKq.out.alloc _).then_ hk10 (fun i hi h=>by have:=(HO.out.row h).1;omega)
          refine⟨⟨k+1,no+1,c10,A10,by omega,by go_num,by rw[HSt.out],rfl,by omega,qh ⟨hkk,?_,?_⟩⟩,?_⟩
          ·rw[HFy.out];simpa[spCells,spCell] using hown10
          ·rw[HFy.out,List.length_append,←HOl.out];rfl
          ·simp[intOf];try omega
         ·have t3:decide ((0:Int)<v)=false:=by simpa using q3
          have HFn:=qh (overF_no hov (by show ¬(0<v);omega))
          clear hov ha hb q1 q2 q3
          go_wp2_with fail
          refine⟨⟨k+1,no,co,Ao,by omega,by go_num,by rw[HSt.out],rfl,by omega,qh ⟨HKq.out,by rw[HFn.out];exact HOq.out,by rw[HFn.out];exact HOl.out⟩⟩,?_⟩
          simp[intOf];try omega
        ·have t2:decide (hi - S>v)=false:=by simpa using q2
         have ha:max (lo - S) 0=0:=by omega
         have hb:min (hi - S) v=(hi - S):=by omega
         rw[ha,hb] at hov
         simp only[if_true,Int.sub_zero] at hov
         by_cases q3:(0:Int)<(hi - S)
         ·have t3:decide ((0:Int)<(hi - S))=true:=by simpa using q3
          have t4:decide (S<hi)=true:=by simp;omega
          have HFy:=qh (overF_yes hov (by show v - (hi - S)<v;omega))
          clear hov ha hb q1 q2 q3
          go_wp2_with (refine wpList_app _ rfl (.tmp 98) (.tmp 111) _ rfl elemSp w2.heap.size (A:=Ao) (n:=no) (c:=co) (by go_simp) (HOq.out.alloc _) _ (A':=some ⟨_,0,none⟩) (m:=1) (c':=1) (news:=[.int .i64 (j:Int),.int .i64 (v - (hi - S)),.int .i64 (v)]) (by go_simp) (Rd.of_blk (n:=1) (cs:=[.int .i64 (j:Int),.int .i64 (v - (hi - S)),.int .i64 (v)]) (Blk.new _ _ _) rfl) (by simp[Value.oneCell']) (by omega) (by unfold maxLen;omega) (by simp;omega) ?_;intro A10 c10 w10 hown10 hk10 hrow10)
          have hkk:Keep Never w2 w10:=(HKq.out.alloc _).then_ hk10 (fun i hi h=>by have:=(HO.out.row h).1;omega)
          refine⟨⟨k+1,no+1,c10,A10,by omega,by go_num,by rw[HSt.out],rfl,by omega,qh ⟨hkk,?_,?_⟩⟩,?_⟩
          ·rw[HFy.out];simpa[spCells,spCell] using hown10
          ·rw[HFy.out,List.length_append,←HOl.out];rfl
          ·simp[intOf];try omega
         ·have t3:decide ((0:Int)<(hi - S))=false:=by simpa using q3
          have t4:decide (S<hi)=false:=by simp;omega
          have HFn:=qh (overF_no hov (by show ¬(v - (hi - S)<v);omega))
          clear hov ha hb q1 q2 q3
          go_wp2_with fail
          refine⟨⟨k+1,no,co,Ao,by omega,by go_num,by rw[HSt.out],rfl,by omega,qh ⟨HKq.out,by rw[HFn.out];exact HOq.out,by rw[HFn.out];exact HOl.out⟩⟩,?_⟩
          simp[intOf];try omega
       ·have t1:decide (lo - S<0)=false:=by simpa using q1
        by_cases q2:hi - S>v
        ·have t2:decide (hi - S>v)=true:=by simpa using q2
         have ha:max (lo - S) 0=(lo - S):=by omega
         have hb:min (hi - S) v=v:=by omega
         rw[ha,hb] at hov
         simp only[if_true,Int.sub_self] at hov
         by_cases q3:((lo - S):Int)<v
         ·have t3:decide (((lo - S):Int)<v)=true:=by simpa using q3
          have HFy:=qh (overF_yes hov (by show 0<v - (lo - S);omega))
          clear hov ha hb q1 q2 q3
          go_wp2_with (refine wpList_app _ rfl (.tmp 98) (.tmp 111) _ rfl elemSp w2.heap.size (A:=Ao) (n:=no) (c:=co) (by go_simp) (HOq.out.alloc _) _ (A':=some ⟨_,0,none⟩) (m:=1) (c':=1) (news:=[.int .i64 (j:Int),.int .i64 (0),.int .i64 (v - (lo - S))]) (by go_simp) (Rd.of_blk (n:=1) (cs:=[.int .i64 (j:Int),.int .i64 (0),.int .i64 (v - (lo - S))]) (Blk.new _ _ _) rfl) (by simp[Value.oneCell']) (by omega) (by unfold maxLen;omega) (by simp;omega) ?_;intro A10 c10 w10 hown10 hk10 hrow10)
          have hkk:Keep Never w2 w10:=(HKq.out.alloc _).then_ hk10 (fun i hi h=>by have:=(HO.out.row h).1;omega)
          refine⟨⟨k+1,no+1,c10,A10,by omega,by go_num,by rw[HSt.out],rfl,by omega,qh ⟨hkk,?_,?_⟩⟩,?_⟩
          ·rw[HFy.out];simpa[spCells,spCell] using hown10
          ·rw[HFy.out,List.length_append,←HOl.out];rfl
          ·simp[intOf];try omega
         ·have t3:decide (((lo - S):Int)<v)=false:=by simpa using q3
          have HFn:=qh (overF_no hov (by show ¬(0<v - (lo - S));omega))
          clear hov ha hb q1 q2 q3
          go_wp2_with fail
          refine⟨⟨k+1,no,co,Ao,by omega,by go_num,by rw[HSt.out],rfl,by omega,qh ⟨HKq.out,by rw[HFn.out];exact HOq.out,by rw[HFn.out];exact HOl.out⟩⟩,?_⟩
          simp[intOf];try omega
        ·have t2:decide (hi - S>v)=false:=by simpa using q2
         have ha:max (lo - S) 0=(lo - S):=by omega
         have hb:min (hi - S) v=(hi - S):=by omega
         rw[ha,hb] at hov
         simp only[if_true] at hov
         by_cases q3:((lo - S):Int)<(hi - S)
         ·have t3:decide (((lo - S):Int)<(hi - S))=true:=by simpa using q3
          have t4:decide (lo<hi)=true:=by simp;omega
          have HFy:=qh (overF_yes hov (by show v - (hi - S)<v - (lo - S);omega))
          clear hov ha hb q1 q2 q3
          go_wp2_with (refine wpList_app _ rfl (.tmp 98) (.tmp 111) _ rfl elemSp w2.heap.size (A:=Ao) (n:=no) (c:=co) (by go_simp) (HOq.out.alloc _) _ (A':=some ⟨_,0,none⟩) (m:=1) (c':=1) (news:=[.int .i64 (j:Int),.int .i64 (v - (hi - S)),.int .i64 (v - (lo - S))]) (by go_simp) (Rd.of_blk (n:=1) (cs:=[.int .i64 (j:Int),.int .i64 (v - (hi - S)),.int .i64 (v - (lo - S))]) (Blk.new _ _ _) rfl) (by simp[Value.oneCell']) (by omega) (by unfold maxLen;omega) (by simp;omega) ?_;intro A10 c10 w10 hown10 hk10 hrow10)
          have hkk:Keep Never w2 w10:=(HKq.out.alloc _).then_ hk10 (fun i hi h=>by have:=(HO.out.row h).1;omega)
          refine⟨⟨k+1,no+1,c10,A10,by omega,by go_num,by rw[HSt.out],rfl,by omega,qh ⟨hkk,?_,?_⟩⟩,?_⟩
          ·rw[HFy.out];simpa[spCells,spCell] using hown10
          ·rw[HFy.out,List.length_append,←HOl.out];rfl
          ·simp[intOf];try omega
         ·have t3:decide (((lo - S):Int)<(hi - S))=false:=by simpa using q3
          have t4:decide (lo<hi)=false:=by simp;omega
          have HFn:=qh (overF_no hov (by show ¬(v - (hi - S)<v - (lo - S));omega))
          clear hov ha hb q1 q2 q3
          go_wp2_with fail
          refine⟨⟨k+1,no,co,Ao,by omega,by go_num,by rw[HSt.out],rfl,by omega,qh ⟨HKq.out,by rw[HFn.out];exact HOq.out,by rw[HFn.out];exact HOl.out⟩⟩,?_⟩
          simp[intOf];try omega
     ·obtain rfl:k=n:=by omega
      have hkz:¬(k:Int)<(k:Int):=by omega
      have HKr:=qtr HK2 hkr
      have hol2:no≤40:=by omega
      have hsp:=SpAt.of_own ho
      have HN:=qh (rnorm_any _ Ao no co (overF t.1 lo hi p k) wr hsp (by omega) (Nat.le_refl _))
      have HOl:=qh hol
      clear hkr ho hsp HH hol
      go_wp2_with fail
      refine HN.out.mono ?_
      rintro e w5 ⟨m,A5,n5,c5,rfl,hn5,hs5,hk5,hp5,hl5⟩
      have HS5:=qh hs5
      have HK5:=qtr HKr hk5
      have HP5:=qh (overF_norm hp5)
      have hl6:n5≤100000000:=by have:=hn5.out;have:=HOl.out;omega
      clear hs5 hk5 hp5 HN hl5
      go_wp2_with fail
      go_ret2
      exact⟨m,A5,n5,c5,by rw[HF.out];rfl,hn5,qh hl6,HS5.out,HK5.out,qh (by rw[if_pos HF.out,←HPl.out];exact HP5.out)⟩
end Go.Proofs.YtpapiojicbbheaaGreatDoor

namespace Go.Proofs.YtpapiojicbbheaaGreatDoor
open Go.RowKit
set_option maxHeartbeats 4000000 in
set_option maxRecDepth 100000 in
theorem rstr17_any (x:TA) (t:Tp) (B:Nat) (e a:Int) (r:Bool) (n:Int) (w:World) (h:TpAt w B x t) (hs:TpSmall x t) (hB:B≤w.heap.size) :
    Calls Tryz.prog 32 #[.agg x.cs,.agg #[.int .i64 e,.int .i64 a,.bool r],.int .i64 n] w (StrRet t (e,a,r) n w):=by
  have HWk:=qh (fun (W:World) (hk:Keep Never w W)=>rwalk_any x t B e a r n W (h.keep hk) hs (Nat.le_trans hB hk.size))
  have HED:=qh (fun (W:World) (hk:Keep Never w W) (i:Int) (h0:0≤i) (h1:i<(x.ne:Int))=>edge_at (h.keep hk) h0 h1)
  have HEl:Hid (x.ne=t.1.length):=qh h.e.len
  have HGo:=qh (fun (W:World) (hk:Keep Never w W) (hf:(walkP t (e,a,r) n).2=0)=>rgone_any x t B e a r n W (h.keep hk) hs (walk_fine hf).1 (walk_fine hf).2.1 (walk_fine hf).2.2.1 (walk_fine hf).2.2.2.1 (walk_fine hf).2.2.2.2.1 (walk_fine hf).2.2.2.2.2.1 (walk_fine hf).2.2.2.2.2.2)
  have HOv:=qh (fun (W:World) (hk:Keep Never w W) (A:Option Addr) (m c:Nat) (l:List Stp) (hp:repStp.Sl W W.heap.size A m c l) (hm:m≤100000000) (lo hi:Int) (l1:-9223372036854775808≤lo) (l2:lo≤9223372036854775807) (l3:-9223372036854775808≤hi) (l4:hi≤9223372036854775807)=>rover_any x t W.heap.size A m c l lo hi W ((h.keep hk).wide (Nat.le_trans hB hk.size)) hp hs.j hs.e hm (Nat.le_refl _) l1 l2 l3 l4)
  obtain⟨Ae,ne,ce,Aj,nj,cj,Ab,nb,cb,Ar,nr,cr⟩:=x
  simp only[TA.cs] at HWk HED HEl HGo HOv ⊢
  clear h hs hB
  obtain⟨w1,hw1⟩:∃V:World,w.alloc (.cells #[.slice Ae ne ce,.slice Aj nj cj,.slice Ab nb cb,.slice Ar nr cr] 27)=V:=⟨_,rfl⟩
  have zw1:w1.heap.size=w.heap.size+1:=by rw[←hw1];simp
  have kw1:Keep Never w w1:=by rw[←hw1];exact(Keep.refl _ _).alloc _
  have bw1:=Blk.new w 27 #[.slice Ae ne ce,.slice Aj nj cj,.slice Ab nb cb,.slice Ar nr cr]
  rw[hw1] at bw1
  obtain⟨w2,hw2⟩:∃V:World,w1.alloc (.cells #[.int .i64 e,.int .i64 a,.bool r] 71)=V:=⟨_,rfl⟩
  have kw2:Keep Never w1 w2:=by rw[←hw2];exact(Keep.refl _ _).alloc _
  have bw2:=Blk.new w1 71 #[.int .i64 e,.int .i64 a,.bool r]
  rw[hw2,zw1] at bw2
  have HB1:=qh (bw1.keep kw2 (fun h=>h))
  have HB2:=qh bw2
  have HK:=qh (kw1.trans kw2)
  clear kw1 kw2 bw1 bw2
  have HT2:=HB1
  have HP2:=HB2
  have HK2:=HK
  have hw:=HWk.out w2 HK.out
  unfold PsRet2 at hw
  obtain⟨wp,hwp⟩:∃z,walkP t (e,a,r) n=z:=⟨_,rfl⟩
  rw[hwp] at hw
  have HWp:=qh hwp
  obtain⟨⟨v1,v2,v3⟩,er⟩:=wp
  simp only[psV] at hw
  have HC:=qh hw
  obtain⟨y0,y1,y2,y3⟩:=bc4 HT2.out
  obtain⟨p0,p1,p2⟩:=bc3 HP2.out
  clear hw hwp HWk HB1 HB2 HK
  go_enter Tryz.func32, Tryz.ntmps32
  go_wp2_with fail
  refine HC.out.mono ?_
  rintro en w3 ⟨rfl,hk⟩
  have HK3:=qtr HK2 hk
  have HT3:=qkb HT2 hk
  have HP3:=qkb HP2 hk
  clear hk HC y0 y1 y2 y3 p0 p1 p2 HT2 HP2 HK2 hw1 hw2 zw1
  by_cases g0:er=0
  case neg=>
   have t0:(er != 0)=true:=by simpa using g0
   have HF:Hid (strE t (e,a,r) n=er):=qh (by rw[str_bad (by rw[HWp.out];exact g0),HWp.out])
   have HN:=qh g0
   clear g0
   go_wp2_with fail
   go_ret2
   exact⟨[],none,0,0,by rw[HF.out];rfl,qh rfl,qh (by omega),nilAt _,HK3.out.alloc _,qh (by rw[HF.out,if_neg HN.out])⟩
  have t0:(er != 0)=false:=by simpa using g0
  have hf:(walkP t (e,a,r) n).2=0:=by rw[HWp.out];exact g0
  have HF:=qh hf
  obtain⟨f1,f2,f3,f4,f5,f6,f7⟩:=walk_fine hf
  have hin:=edge_in f1 f2
  have hal:=along_in (t:=t) (p:=(e,a,r)) f3 f4
  have HGl:Hid ((strP t (e,a,r) n).length≤41):=qh (gone_good f2 f7).few
  have HSt:Hid (strE t (e,a,r) n=overE t (strP t (e,a,r) n) (alongP t (e,a,r)) (alongP t (e,a,r)+n)):=qh (str_ok hf)
  simp only at hal f2 f3 f4
  unfold thereB at f2
  simp only[Bool.and_eq_true,decide_eq_true_eq] at f2
  rw[←HEl.out] at f2
  obtain⟨ad,k,v,hA,he,hk,d0,hv⟩:=HED.out w (Keep.refl _ _) e f2.1 f2.2
  subst hA
  subst he
  have hkz:(k:Int)<(ne:Int):=by omega
  simp only at hin
  rw[hv] at hin f4
  have HD0:=qh d0
  obtain⟨al,hal2⟩:∃z,alongP t (((k:Nat):Int),a,r)=z:=⟨_,rfl⟩
  rw[hal2] at hal HSt
  have HAl:=qh hal2
  have HCase:Hid ((r=true∧v - a=al)∨(r=false∧a=al)):=qh (by
   rw[←hal2]
   unfold alongP
   cases r with
   | true=>exact .inl ⟨rfl,by simp only[if_true];rw[hv]⟩
   | false=>exact .inr ⟨rfl,by simp⟩)
  rw[hv] at hal
  have hwa:IntKind.i64.wrap (v - a)=v - a:=IntWalk.i64_in _ (by omega)
  have hwa2:wrap64 (v - a)=v - a:=by have:=hwa;rwa [IntWalk.i64_left] at this
  have hw3:IntKind.i64.wrap (al+n)=al+n:=IntWalk.i64_in _ (by omega)
  have hw3b:wrap64 (al+n)=al+n:=by have:=hw3;rwa [IntWalk.i64_left] at this
  have HRg:Hid (-9223372036854775808≤al∧al≤9223372036854775807∧-9223372036854775808≤al+n∧al+n≤9223372036854775807):=qh (by omega)
  clear hf f1 f2 f3 f4 f5 f6 f7 hal hin hal2 hv d0 hk g0
  go_upto_region 4 with(fail)
  obtain⟨w4,hw4⟩:∃V:World,w3.alloc (.cells #[.int .i64 v1,.int .i64 v2,.bool v3] 71)=V:=⟨_,rfl⟩
  have hk:Keep Never w3 w4:=by rw[←hw4];exact(Keep.refl _ _).alloc _
  have B4:=Blk.new w3 71 #[.int .i64 v1,.int .i64 v2,.bool v3]
  rw[hw4] at B4
  obtain⟨bv,hbv⟩:∃q,w3.heap.size=q:=⟨_,rfl⟩
  rw[hbv] at B4
  rw[hw4,hbv]
  have HK4:=qtr HK3 hk
  have HT4:=qkb HT3 hk
  have HP4:=qkb HP3 hk
  clear hk B4 hw4 hbv HT3 HP3 HK3 t0
  have p1:w4.cell? ⟨w.heap.size+1,1,none⟩=some (.int .i64 a):=HP4.out.cell 1
  have p2:w4.cell? ⟨w.heap.size+1,2,none⟩=some (.bool r):=HP4.out.cell 2
  go_upto_if 24 with(fail)
  clear p2
  go_cut [10] (fun s wx=>s=.int .i64 al∧Keep Never w4 wx)
  case first=>
   rcases HCase.out with⟨hr,hx⟩ | ⟨hr,hx⟩
   ·subst hr
    have HX:=qh hx
    have d0:=keepT HK4.out HD0.out
    obtain⟨y0,y1,y2,y3⟩:=bc4 HT4.out
    obtain⟨p0,p1,p2⟩:=bc3 HP4.out
    clear hx
    go_wp2_with fail
    go_quiet (fail)
    go_wp2_with fail
    go_meet
    exact⟨by rw[HX.out],(Keep.refl Never _).drewN _⟩
   ·subst hr
    have HX:=qh hx
    clear hx p1
    go_wp2_with fail
    go_meet
    exact⟨by rw[HX.out],Keep.refl Never _⟩
  case rest=>
  obtain⟨rfl,hk⟩:=hcut
  rename World=>w5
  have HK5:=qtr HK4 hk
  have HT5:=qkb HT4 hk
  have HP5:=qkb HP4 hk
  clear hk HT4 HP4 HK4 hwa hwa2 HCase HD0 p1
  have HCg:Hid (∀V,Keep Never w5 V→Calls Tryz.prog 62 #[.agg #[.slice (some ad) ne ce,.slice Aj nj cj,.slice Ab nb cb,.slice Ar nr cr],.agg #[.int .i64 ((k:Nat):Int),.int .i64 a,.bool r],.int .i64 n] V (StpsRet (strP t (((k:Nat):Int),a,r) n) V)):=qh (fun V hV=>HGo.out V (HK5.out.trans hV) HF.out)
  unfold StpsRet at HCg
  obtain⟨y0,y1,y2,y3⟩:=bc4 HT5.out
  obtain⟨p0,p1,p2⟩:=bc3 HP5.out
  have HS25:Hid (∀W',Keep Never w5 W'→Keep Never w5 W'∧W'.cell? ⟨w.heap.size,0,none⟩=some (.slice (some ad) ne ce)∧W'.cell? ⟨w.heap.size,1,none⟩=some (.slice Aj nj cj)∧W'.cell? ⟨w.heap.size,2,none⟩=some (.slice Ab nb cb)∧W'.cell? ⟨w.heap.size,3,none⟩=some (.slice Ar nr cr)∧W'.cell? ⟨w.heap.size+1,0,none⟩=some (.int .i64 ((k:Nat):Int))∧W'.cell? ⟨w.heap.size+1,1,none⟩=some (.int .i64 a)∧W'.cell? ⟨w.heap.size+1,2,none⟩=some (.bool r)):=qh (fun W' h=>⟨h,keepT h y0,keepT h y1,keepT h y2,keepT h y3,keepT h p0,keepT h p1,keepT h p2⟩)
  clear HGo
  go_upto_region 7 with(fail)
  clear y0 y1 y2 y3 p0 p1 p2
  go_region_held3 (fun W'=>Keep Never w5 W'∧W'.cell? ⟨w.heap.size,0,none⟩=some (.slice (some ad) ne ce)∧W'.cell? ⟨w.heap.size,1,none⟩=some (.slice Aj nj cj)∧W'.cell? ⟨w.heap.size,2,none⟩=some (.slice Ab nb cb)∧W'.cell? ⟨w.heap.size,3,none⟩=some (.slice Ar nr cr)∧W'.cell? ⟨w.heap.size+1,0,none⟩=some (.int .i64 ((k:Nat):Int))∧W'.cell? ⟨w.heap.size+1,1,none⟩=some (.int .i64 a)∧W'.cell? ⟨w.heap.size+1,2,none⟩=some (.bool r))
    (first| assumption | exact HS25.out _ ((Keep.refl Never w5).drew) | exact HS25.out _ (Keep.trans (And.left (by assumption)) hk21) | exact HS25.out _ (Keep.trans ((Keep.refl Never w5).drew) hk21) | exact HS25.out _ (Keep.trans (And.left (by assumption)) hk22))
    (first
      | (go_at_call 62; refine(HCg.out _ (by first | exact And.left (by assumption) | exact(Keep.refl Never w5).drew | exact Keep.refl Never w5)).mono ?_;rintro en w21 ⟨A8,n8,c8,rfl,hn8,ho8,h64,hk21⟩;have HK21:Hid (Keep Never w5 w21):=qh (by first | exact Keep.trans (And.left (by assumption)) hk21 | exact Keep.trans ((Keep.refl Never w5).drew) hk21);have HOm:Hid (∀w',Keep Never w21 w'→Calls Tryz.prog 94 #[.agg #[.slice (some ad) ne ce,.slice Aj nj cj,.slice Ab nb cb,.slice Ar nr cr],.slice A8 n8 c8,.int .i64 al,.int .i64 (al+n)] w' (OverRet t (strP t (((k:Nat):Int),a,r) n) al (al+n) w')):=qh (fun w' h=>HOv.out w' (HK5.out.trans (HK21.out.trans h)) A8 n8 c8 _ (stps_own (ho8.keep h (fun _ _ h=>h)) h64.out) (by have h1:=hn8.out;have h2:=HGl.out;omega) al (al+n) HRg.out.1 HRg.out.2.1 HRg.out.2.2.1 HRg.out.2.2.2))
      | (go_at_call 94; refine(HOm.out _ (by first | exact Keep.refl Never _ | exact(Keep.refl Never _).drew)).mono ?_;rintro en w22 ⟨mm,A9,n9,c9,rfl,q1,q2,q3,hk22,q4⟩;have HQ:=qh (And.intro q1.out (And.intro q2.out (And.intro q3 q4.out)));clear q1 q2 q3 q4))
  all_goals
   rename_i hS
   have hk:=HK5.out.trans hS.1
   clear hS
   go_wp2_with fail
   go_ret2
   rw[←HSt.out] at HQ
   refine⟨mm,A9,n9,c9,by rw[HSt.out];rfl,qh HQ.out.1,qh HQ.out.2.1,HQ.out.2.2.1,hk,qh (by rw[HAl.out];exact HQ.out.2.2.2)⟩
end Go.Proofs.YtpapiojicbbheaaGreatDoor

namespace Go.Proofs.YtpapiojicbbheaaGreatDoor
open Go.RowKit
abbrev Word:=ByteArray
def wO:Word:=⟨#[123]⟩
def wL:Word:=⟨#[60]⟩
def wE:Word:=⟨#[40,49,50]⟩
def opn (wh:Int):Word:=if wh=1 then wO else if wh=2 then wL else wE
end Go.Proofs.YtpapiojicbbheaaGreatDoor

namespace Go.Proofs.YtpapiojicbbheaaGreatDoor
open Go.RowKit
def sameC (a b c d:Int):Bool:=decide (((a,b):Sc)=(c,d))
theorem run_ne_sc (w:World) (a b c d:Int):(binOp .neq 58 (.agg #[.int .i64 a,.int .i64 b]) (.agg #[.int .i64 c,.int .i64 d])).run Tryz.prog w=.ok (.bool (!sameC a b c d)) w:=by
 by_cases h1:a=c
 ·have t1:(a==c)=true:=by simpa using h1
  by_cases h2:b=d
  ·have t2:(b==d)=true:=by simpa using h2
   have hd:sameC a b c d=true:=decide_eq_true (by rw[h1,h2])
   rw[hd]
   clear h1 h2 hd
   go_simp
   (try simp[t1,t2])
  ·have t2:(b==d)=false:=by simpa using h2
   have hd:sameC a b c d=false:=decide_eq_false (by intro h;injection h with _ h;exact h2 h)
   rw[hd]
   clear h1 h2 hd
   go_simp
   (try simp[t1,t2])
 ·have t1:(a==c)=false:=by simpa using h1
  have hd:sameC a b c d=false:=decide_eq_false (by intro h;injection h with h _;exact h1 h)
  rw[hd]
  clear h1 hd
  go_simp
  (try simp[t1])
set_option maxHeartbeats 4000000 in
set_option maxRecDepth 100000 in
theorem same17_self (x y:MX) (m:Ma) (B1 B2:Nat) (w:World) (hx:MaAt w B1 x m) (hy:MaAt w B2 y m) (hnp:x.np≤100000000) (hns:x.ns≤100000000) :
    Calls Tryz.prog 16 #[.agg (x.vs m),.agg (y.vs m)] w fun en w'=>en=.returned (.bool true)∧Keep Never w w':=by
  obtain⟨ref,rv,P,S,g⟩:=m
  have HP1:=qh hx.p
  have HP2:=qh hy.p
  have HS1:=qh hx.s
  have HS2:=qh hy.s
  obtain⟨Ap,np,cp,As,ns,cs⟩:=x
  obtain⟨Aq,nq,cq,At,nt,ct⟩:=y
  simp only at HP1 HP2 HS1 HS2 hnp hns
  have hn1:ns=nt:=by have h1:=HS1.out.len;have h2:=HS2.out.len;omega
  have hn2:np=nq:=by have h1:=(stps_rd HP1.out).2.1;have h2:=(stps_rd HP2.out).2.1;omega
  subst hn1 hn2
  have HLe:Hid (S.length=ns):=qh HS1.out.len
  clear hx hy
  simp only[MX.vs]
  obtain⟨w1,hw1⟩:∃V:World,w.alloc (.cells #[.int .i64 ref,.bool rv,.slice Ap np cp,.slice As ns cs,.int .i64 g] 38)=V:=⟨_,rfl⟩
  have zw1:w1.heap.size=w.heap.size+1:=by rw[←hw1];simp
  have kw1:Keep Never w w1:=by rw[←hw1];exact(Keep.refl _ _).alloc _
  have bw1:=Blk.new w 38 #[.int .i64 ref,.bool rv,.slice Ap np cp,.slice As ns cs,.int .i64 g]
  rw[hw1] at bw1
  obtain⟨w2,hw2⟩:∃V:World,w1.alloc (.cells #[.int .i64 ref,.bool rv,.slice Aq np cq,.slice At ns ct,.int .i64 g] 38)=V:=⟨_,rfl⟩
  have kw2:Keep Never w1 w2:=by rw[←hw2];exact(Keep.refl _ _).alloc _
  have bw2:=Blk.new w1 38 #[.int .i64 ref,.bool rv,.slice Aq np cq,.slice At ns ct,.int .i64 g]
  rw[hw2,zw1] at bw2
  have HB1:=qh (bw1.keep kw2 (fun h=>h))
  have HB2:=qh bw2
  have HK:=qh (kw1.trans kw2)
  clear kw1 kw2 bw1 bw2
  have HSt:=qh (fun (W:World) (hk:Keep Never w W)=>steps_any Ap Aq np np cp cq B1 B2 P P W ((stps_rd HP1.out).1.keep hk (fun _ h=>h.elim)) ((stps_rd HP2.out).1.keep hk (fun _ h=>h.elim)) hnp hnp)
  have hw:=HSt.out w2 HK.out
  rw[show decide (P=P)=true from by simp] at hw
  have HC:=qh hw
  obtain⟨x0,x1,x2,x3,x4⟩:=bc5 HB1.out
  obtain⟨z0,z1,z2,z3,z4⟩:=bc5 HB2.out
  clear hw HSt hnp
  go_enter Tryz.func16, Tryz.ntmps16
  go_wp2_with fail
  refine HC.out.mono ?_
  rintro en w3 ⟨rfl,hk⟩
  have HK3:=qtr HK hk
  have HX3:=qkb HB1 hk
  have HY3:=qkb HB2 hk
  clear hk HC HB1 HB2 HK x0 z0 x1 z1 x2 z2 x3 z3 x4 z4 hw1 hw2 zw1
  obtain⟨x0,x1,x2,x3,x4⟩:=bc5 HX3.out
  obtain⟨z0,z1,z2,z3,z4⟩:=bc5 HY3.out
  go_upto_region 5 with(fail)
  clear x0 z0 x1 z1 x2 z2 x3 z3 x4 z4
  go_loopw [6] (fun s6 wr=>∃k:Nat,k≤ns∧s6=.int .i64 k∧Hid (Keep Never w3 wr)) (fun si _=>ns - (intOf si).toNat)
  case atStart=>exact⟨0,by omega,rfl,qh (Keep.refl _ _)⟩
  case round=>
   obtain⟨k,hk,rfl,HH⟩:=hrel
   have HXr:=qh (HX3.out.keep HH.out (fun h=>h))
   have HYr:=qh (HY3.out.keep HH.out (fun h=>h))
   have x3:wr.cell? ⟨w.heap.size,3,none⟩=some (.slice As ns cs):=HXr.out.cell 3
   have z3:wr.cell? ⟨w.heap.size+1,3,none⟩=some (.slice At ns ct):=HYr.out.cell 3
   by_cases h0:k<ns
   ·have hki:(k:Int)<(ns:Int):=by omega
    obtain⟨ad,s,hA,_,hs,c0,c1⟩:=((HS1.out.keep (HK3.out.trans HH.out)).rd).sc h0
    obtain⟨ae,s',hA',_,hs',d0,d1⟩:=((HS2.out.keep (HK3.out.trans HH.out)).rd).sc h0
    rw[hs] at hs'
    injection hs' with hs'
    subst hs' hA hA'
    obtain⟨s1,s2⟩:=s
    simp only at c0 c1 d0 d1
    have qn:=run_ne_sc
    have t1:(!sameC s1 s2 s1 s2)=false:=by unfold sameC;simp
    clear hs
    go_wp2_with fail
    go_quiet (fail)
    go_wp2_with fail
    refine⟨⟨k+1,by omega,by go_num,qh (HH.out.drewN _)⟩,?_⟩
    simp[intOf];try omega
   ·obtain rfl:k=ns:=by omega
    have hki:¬(k:Int)<(k:Int):=by omega
    go_wp2_with fail
    go_ret
    exact⟨rfl,HK3.out.trans HH.out⟩
theorem wake_build:buildM lineT [(1,5,1),(2,5,2)] 5 7 false 40=((7,false,[(0,false),(1,false)],[(290,30)],0),0):=by kernel_rfl
theorem wake_packs:packsM17 lineT (7,false,[(0,false),(1,false)],[(290,30)],0)=.ok [(15,[1,0,0,0,0,290,1,30,0,0,0,0]),(5,[1,0,110,1,0,8,1,2,12,0])]:=by kernel_rfl
theorem wake_read:readM badP lineT 7 false [(15,[1,0,0,0,0,290,1,30,0,0,0,0]),(5,[1,0,110,1,0,8,1,2,12,0])]=((7,false,[(0,false),(1,false)],[(290,30)],0),0):=by kernel_rfl
theorem wake_may:mayMA lineT (7,false,[(0,false),(1,false)],[(290,30)],0)=true:=by decide +kernel
theorem wake_reach:reachM [((290:Int),(30:Int))] 29=290∧reachM [((290:Int),(30:Int))] 30=0:=by decide +kernel
set_option maxHeartbeats 8000000 in
set_option maxRecDepth 100000 in
theorem awake17_any (w:World) (hW:Widths w) (hg : 0 < w.heap.size) :
    Calls Tryz.prog 9 #[] w fun en w'=>en=.returned (.bool true)∧Keep Never w w':=by
  have HLn:=qh line_any
  have HBu:=qh (fun (W:World) (x:TA) (A:Option Addr) (n c:Nat) (l:List Lk) (ht:TpAt W W.heap.size x lineT) (hl:SpAt W W.heap.size A n c l) (hn:n≤1000000)=>build_any x lineT W.heap.size A n c l 5 7 false 40 W ht (line_small ht) (Nat.le_refl _) hl hn)
  have HPa:=qh (fun (W:World) (x:TA) (y:MX) (m:Ma) (ht:TpAt W W.heap.size x lineT) (hm:MaAt W W.heap.size y m) (hp:y.np≤1000000) (hs:y.ns≤1000000)=>packets_any x lineT W.heap.size m.1 m.2.1 m.2.2.1 m.2.2.2.1 m.2.2.2.2 y.Ap y.np y.cp y.As y.ns y.cs W ht (line_small ht) (Nat.le_refl _) hm.p hm.s hp hs)
  have HRd:=qh (fun (W:World) (hk:Keep Never w W) (x:TA) (A:Option Addr) (n c:Nat) (l:List Pk) (ht:TpAt W W.heap.size x lineT) (hl:PksAt W W.heap.size A n c l) (hn:n≤1000000)=>read_any x lineT W.heap.size 7 false A n c l W ht (line_small ht) (Nat.le_refl _) hl hn (hW.keep hk (fun h=>h)) (Nat.lt_of_lt_of_le hg hk.size))
  have HSm:=qh (fun (W:World) (x y:MX) (m:Ma) (hx:MaAt W W.heap.size x m) (hy:MaAt W W.heap.size y m) (hnp:x.np≤100000000) (hns:x.ns≤100000000)=>same17_self x y m W.heap.size W.heap.size W hx hy hnp hns)
  have HMy:=qh (fun (W:World) (x:TA) (y:MX) (m:Ma) (ht:TpAt W W.heap.size x lineT) (hm:MaAt W W.heap.size y m) (hp:y.np≤1000000) (hs:y.ns≤1000000)=>may17_any x lineT W.heap.size m.1 m.2.1 m.2.2.1 m.2.2.2.1 m.2.2.2.2 y.Ap y.np y.cp y.As y.ns y.cs W ht (line_small ht) (Nat.le_refl _) hm.p hm.s hp hs)
  have HRe:=qh (fun (W:World) (y:MX) (m:Ma) (age:Int) (hm:MaAt W W.heap.size y m) (hs:y.ns≤1000000)=>reach_any W.heap.size m.1 m.2.1 m.2.2.2.1 m.2.2.2.2 age y.Ap y.np y.cp y.As y.ns y.cs W hm.s hs)
  clear hW hg
  go_enter Tryz.func9, Tryz.ntmps9
  go_wp2_with fail
  refine(HLn.out _).mono ?_
  rintro en w1 ⟨x,rfl,ht,hk⟩
  have HK1:=qh hk
  have HT1:=qh ht
  clear ht hk
  obtain⟨Ae,ne,ce,Aj,nj,cj,Ab,nb,cb,Ar,nr,cr⟩:=x
  simp only[TA.cs]
  obtain⟨w2,hw2⟩:∃V:World,w1.alloc (.cells #[.slice Ae ne ce,.slice Aj nj cj,.slice Ab nb cb,.slice Ar nr cr] 27)=V:=⟨_,rfl⟩
  have hk:Keep Never w1 w2:=by rw[←hw2];exact(Keep.refl _ _).alloc _
  have B2:=Blk.new w1 27 #[.slice Ae ne ce,.slice Aj nj cj,.slice Ab nb cb,.slice Ar nr cr]
  rw[hw2] at B2
  obtain⟨bt,hbt⟩:∃q,w1.heap.size=q:=⟨_,rfl⟩
  rw[hbt] at B2
  have HK2:=qtr HK1 hk
  have HT2:=qh ((HT1.out.keep hk).wide hk.size)
  have HB2:=qh B2
  clear hk B2 HT1 HK1
  go_upto_region 3 with(fail)
  clear hw2 hbt
  obtain⟨w3,hw3⟩:∃V:World,w2.alloc (.cells #[.int .i64 1,.int .i64 5,.int .i64 1,.int .i64 2,.int .i64 5,.int .i64 2] 62)=V:=⟨_,rfl⟩
  have hk:Keep Never w2 w3:=by rw[←hw3];exact(Keep.refl _ _).alloc _
  have B3:=Blk.new w2 62 #[.int .i64 1,.int .i64 5,.int .i64 1,.int .i64 2,.int .i64 5,.int .i64 2]
  rw[hw3] at B3
  obtain⟨bl,hbl⟩:∃q,w2.heap.size=q:=⟨_,rfl⟩
  rw[hbl] at B3
  rw[hw3,hbl]
  have HK3:=qtr HK2 hk
  have HT3:=qh ((HT2.out.keep hk).wide hk.size)
  have HB3:=qkb HB2 hk
  have HL3:Hid (SpAt w3 w3.heap.size (some ⟨bl,0,none⟩) 2 2 [(1,5,1),(2,5,2)]):=qh (lkAt_own (base:=0) (Own.of_blk2 (xs:=[.int .i64 1,.int .i64 5,.int .i64 1,.int .i64 2,.int .i64 5,.int .i64 2]) B3 rfl (by unfold maxLen;omega) (by omega)))
  have hw:=HBu.out w3 ⟨Ae,ne,ce,Aj,nj,cj,Ab,nb,cb,Ar,nr,cr⟩ _ 2 2 [(1,5,1),(2,5,2)] HT3.out HL3.out (by omega)
  rw[wake_build] at hw
  unfold MaRet at hw
  simp only[TA.cs] at hw
  have HC:=qh hw
  obtain⟨y0,y1,y2,y3⟩:=bc4 HB3.out
  clear hk B3 HT2 HB2 HK2 hw hw3 hbl HBu
  go_wp2_with fail
  refine HC.out.mono ?_
  rintro en w4 ⟨y,rfl,hm,hk⟩
  have HK4:=qtr HK3 hk
  have HT4:=qh ((HT3.out.keep hk).wide hk.size)
  have HB4:=qkb HB3 hk
  have HY4:=qh hm
  clear hk hm HC HT3 HB3 HK3 HL3 y0 y1 y2 y3
  obtain⟨Ap,np,cp,As,ns,cs⟩:=y
  obtain rfl:ns=1:=HY4.out.s.len.symm
  have hnp2:np=2:=(stps_rd HY4.out.p).2.1
  subst hnp2
  simp only[MX.vs]
  have BZ:=Blk.new w4 38 #[.int .i64 0,.bool false,.slice none 0 0,.slice none 0 0,.int .i64 0]
  have u0:(w4.alloc (.cells #[.int .i64 0,.bool false,.slice none 0 0,.slice none 0 0,.int .i64 0] 38)).cell? ⟨w4.heap.size,0,none⟩=some (.int .i64 0):=BZ.cell 0
  have uf0:=BZ.frozen 0
  have u1:(w4.alloc (.cells #[.int .i64 0,.bool false,.slice none 0 0,.slice none 0 0,.int .i64 0] 38)).cell? ⟨w4.heap.size,1,none⟩=some (.bool false):=BZ.cell 1
  have uf1:=BZ.frozen 1
  have u2:(w4.alloc (.cells #[.int .i64 0,.bool false,.slice none 0 0,.slice none 0 0,.int .i64 0] 38)).cell? ⟨w4.heap.size,2,none⟩=some (.slice none 0 0):=BZ.cell 2
  have uf2:=BZ.frozen 2
  have u3:(w4.alloc (.cells #[.int .i64 0,.bool false,.slice none 0 0,.slice none 0 0,.int .i64 0] 38)).cell? ⟨w4.heap.size,3,none⟩=some (.slice none 0 0):=BZ.cell 3
  have uf3:=BZ.frozen 3
  have u4:(w4.alloc (.cells #[.int .i64 0,.bool false,.slice none 0 0,.slice none 0 0,.int .i64 0] 38)).cell? ⟨w4.heap.size,4,none⟩=some (.int .i64 0):=BZ.cell 4
  have uf4:=BZ.frozen 4
  go_upto_region 4 with(fail)
  clear BZ u0 u1 u2 u3 u4 uf0 uf1 uf2 uf3 uf4
  obtain⟨w5,hw5⟩:∃V:World,w4.alloc (.cells #[.int .i64 7,.bool false,.slice Ap 2 cp,.slice As 1 cs,.int .i64 0] 38)=V:=⟨_,rfl⟩
  have hk:Keep Never w4 w5:=by rw[←hw5];exact(Keep.refl _ _).alloc _
  have B:=Blk.new w4 38 #[.int .i64 7,.bool false,.slice Ap 2 cp,.slice As 1 cs,.int .i64 0]
  rw[hw5] at B
  obtain⟨bm,hbm⟩:∃q,w4.heap.size=q:=⟨_,rfl⟩
  rw[hbm] at B
  rw[hw5,hbm]
  have HK5:=qtr HK4 hk
  have HT5:=qh ((HT4.out.keep hk).wide hk.size)
  have HB5:=qkb HB4 hk
  have HY5:=qh ((HY4.out.keep hk).more hk.size)
  have HM5:=qh B
  have hw:=HPa.out w5 ⟨Ae,ne,ce,Aj,nj,cj,Ab,nb,cb,Ar,nr,cr⟩ ⟨Ap,2,cp,As,1,cs⟩ (7,false,[(0,false),(1,false)],[(290,30)],0) HT5.out HY5.out (by simp) (by simp)
  simp only[TA.cs] at hw
  rw[wake_packs] at hw
  unfold PksRet at hw
  simp only at hw
  have HC:=qh hw
  obtain⟨y0,y1,y2,y3⟩:=bc4 HB5.out
  obtain⟨m0,m1,m2,m3,m4⟩:=bc5 HM5.out
  clear hk B HT4 HB4 HY4 HK4 hw HPa
  go_wp2_with fail
  refine HC.out.mono ?_
  rintro en w6 ⟨hk,A2,n2,c2,rfl,hp⟩
  have HK6:=qtr HK5 hk
  have HT6:=qh ((HT5.out.keep hk).wide hk.size)
  have HB6:=qkb HB5 hk
  have HY6:=qh ((HY5.out.keep hk).more hk.size)
  have HM6:=qkb HM5 hk
  have HP6:=qh hp
  have hn2:n2=2:=hp.len.symm
  subst hn2
  clear hk hp HC HT5 HB5 HY5 HM5 HK5 y0 y1 y2 y3 m0 m1 m2 m3 m4 hw5 hbm
  have hw:=HRd.out w6 HK6.out ⟨Ae,ne,ce,Aj,nj,cj,Ab,nb,cb,Ar,nr,cr⟩ A2 2 c2 [(15,[1,0,0,0,0,290,1,30,0,0,0,0]),(5,[1,0,110,1,0,8,1,2,12,0])] HT6.out HP6.out (by omega)
  rw[wake_read] at hw
  unfold MaRet at hw
  simp only[TA.cs] at hw
  have HC:=qh hw
  obtain⟨y0,y1,y2,y3⟩:=bc4 HB6.out
  clear hw HRd
  go_wp2_with fail
  refine HC.out.mono ?_
  rintro en w7 ⟨yz,rfl,hm,hk⟩
  have HK7:=qtr HK6 hk
  have HT7:=qh ((HT6.out.keep hk).wide hk.size)
  have HB7:=qkb HB6 hk
  have HY7:=qh ((HY6.out.keep hk).more hk.size)
  have HM7:=qkb HM6 hk
  have HZ7:=qh hm
  clear hk hm HC HT6 HB6 HY6 HM6 HK6 HP6 y0 y1 y2 y3
  obtain⟨Aq,nq,cq,At,nt,ct⟩:=yz
  obtain rfl:nt=1:=HZ7.out.s.len.symm
  have hnq2:nq=2:=(stps_rd HZ7.out.p).2.1
  subst hnq2
  simp only[MX.vs]
  have BZ:=Blk.new w7 38 #[.int .i64 0,.bool false,.slice none 0 0,.slice none 0 0,.int .i64 0]
  have u0:(w7.alloc (.cells #[.int .i64 0,.bool false,.slice none 0 0,.slice none 0 0,.int .i64 0] 38)).cell? ⟨w7.heap.size,0,none⟩=some (.int .i64 0):=BZ.cell 0
  have uf0:=BZ.frozen 0
  have u1:(w7.alloc (.cells #[.int .i64 0,.bool false,.slice none 0 0,.slice none 0 0,.int .i64 0] 38)).cell? ⟨w7.heap.size,1,none⟩=some (.bool false):=BZ.cell 1
  have uf1:=BZ.frozen 1
  have u2:(w7.alloc (.cells #[.int .i64 0,.bool false,.slice none 0 0,.slice none 0 0,.int .i64 0] 38)).cell? ⟨w7.heap.size,2,none⟩=some (.slice none 0 0):=BZ.cell 2
  have uf2:=BZ.frozen 2
  have u3:(w7.alloc (.cells #[.int .i64 0,.bool false,.slice none 0 0,.slice none 0 0,.int .i64 0] 38)).cell? ⟨w7.heap.size,3,none⟩=some (.slice none 0 0):=BZ.cell 3
  have uf3:=BZ.frozen 3
  have u4:(w7.alloc (.cells #[.int .i64 0,.bool false,.slice none 0 0,.slice none 0 0,.int .i64 0] 38)).cell? ⟨w7.heap.size,4,none⟩=some (.int .i64 0):=BZ.cell 4
  have uf4:=BZ.frozen 4
  go_upto_region 6 with(fail)
  clear BZ u0 u1 u2 u3 u4 uf0 uf1 uf2 uf3 uf4
  obtain⟨w8,hw8⟩:∃V:World,w7.alloc (.cells #[.int .i64 7,.bool false,.slice Aq 2 cq,.slice At 1 ct,.int .i64 0] 38)=V:=⟨_,rfl⟩
  have hk:Keep Never w7 w8:=by rw[←hw8];exact(Keep.refl _ _).alloc _
  have B:=Blk.new w7 38 #[.int .i64 7,.bool false,.slice Aq 2 cq,.slice At 1 ct,.int .i64 0]
  rw[hw8] at B
  obtain⟨bn,hbn⟩:∃q,w7.heap.size=q:=⟨_,rfl⟩
  rw[hbn] at B
  rw[hw8,hbn]
  have HK8:=qtr HK7 hk
  have HT8:=qh ((HT7.out.keep hk).wide hk.size)
  have HB8:=qkb HB7 hk
  have HY8:=qh ((HY7.out.keep hk).more hk.size)
  have HM8:=qkb HM7 hk
  have HZ8:=qh ((HZ7.out.keep hk).more hk.size)
  have HN8:=qh B
  clear hk B HT7 HB7 HY7 HM7 HZ7 HK7
  have hw:=HSm.out w8 ⟨Ap,2,cp,As,1,cs⟩ ⟨Aq,2,cq,At,1,ct⟩ (7,false,[(0,false),(1,false)],[(290,30)],0) HY8.out HZ8.out (by simp) (by simp)
  simp only[MX.vs] at hw
  have HC:=qh hw
  obtain⟨m0,m1,m2,m3,m4⟩:=bc5 HM8.out
  obtain⟨n0,n1,n2,n3,n4⟩:=bc5 HN8.out
  clear hw HSm
  go_wp2_with fail
  refine HC.out.mono ?_
  rintro en w9 ⟨rfl,hk⟩
  have HK9:=qtr HK8 hk
  have HT9:=qh ((HT8.out.keep hk).wide hk.size)
  have HB9:=qkb HB8 hk
  have HY9:=qh ((HY8.out.keep hk).more hk.size)
  have HM9:=qkb HM8 hk
  clear hk HC HT8 HB8 HY8 HM8 HN8 HZ8 HK8 hw8 hbn m0 n0 m1 n1 m2 n2 m3 n3 m4 n4
  obtain⟨ad,sl,hA,_,hsl,c0,c1⟩:=HY9.out.s.rd.sc (show 0<1 by omega)
  simp only[List.getElem?_cons_zero,Option.some.injEq] at hsl
  subst hsl hA
  have ea:ad.add (0*2)=ad:=by rw[Nat.zero_mul];unfold Addr.add;split <;> simp_all
  rw[ea] at c0 c1
  have hw:=HMy.out w9 ⟨Ae,ne,ce,Aj,nj,cj,Ab,nb,cb,Ar,nr,cr⟩ ⟨Ap,2,cp,some ad,1,cs⟩ (7,false,[(0,false),(1,false)],[(290,30)],0) HT9.out HY9.out (by simp) (by simp)
  simp only[TA.cs] at hw
  rw[wake_may] at hw
  have HC:=qh hw
  obtain⟨y0,y1,y2,y3⟩:=bc4 HB9.out
  obtain⟨m0,m1,m2,m3,m4⟩:=bc5 HM9.out
  clear hw ea
  go_wp2_with fail
  refine HC.out.mono ?_
  rintro en w10 ⟨rfl,hk⟩
  have HK10:=qtr HK9 hk
  have HY10:=qh ((HY9.out.keep hk).more hk.size)
  have HM10:=qkb HM9 hk
  clear hk HC c0 c1 y0 y1 y2 y3 m0 m1 m2 m3 m4 HT9 HB9 HY9 HM9 HK9 HMy
  have hw:=HRe.out w10 ⟨Ap,2,cp,some ad,1,cs⟩ (7,false,[(0,false),(1,false)],[(290,30)],0) 29 HY10.out (by simp)
  simp only at hw
  rw[wake_reach.1] at hw
  have HC:=qh hw
  obtain⟨m0,m1,m2,m3,m4⟩:=bc5 HM10.out
  clear hw
  go_wp2_with fail
  refine HC.out.mono ?_
  rintro en w11 ⟨rfl,hk⟩
  have HK11:=qtr HK10 hk
  have HY11:=qh ((HY10.out.keep hk).more hk.size)
  have HM11:=qkb HM10 hk
  clear hk HC m0 m1 m2 m3 m4 HY10 HM10 HK10
  have hw:=HRe.out w11 ⟨Ap,2,cp,some ad,1,cs⟩ (7,false,[(0,false),(1,false)],[(290,30)],0) 30 HY11.out (by simp)
  simp only at hw
  rw[wake_reach.2] at hw
  have HC:=qh hw
  obtain⟨m0,m1,m2,m3,m4⟩:=bc5 HM11.out
  clear hw
  go_wp2_with fail
  refine HC.out.mono ?_
  rintro en w12 ⟨rfl,hk⟩
  have HK12:=qtr HK11 hk
  clear hk HC m0 m1 m2 m3 m4
  go_wp2_with fail
  go_ret
  exact⟨rfl,HK12.out⟩
end Go.Proofs.YtpapiojicbbheaaGreatDoor

namespace Go.Proofs.YtpapiojicbbheaaGreatDoor
open Go.RowKit
def repPs17:Rep Ps:=Rep.int.pair (Rep.int.pair Rep.bool)
theorem opens_ps17:Rep.Opens Tryz.prog 71 repPs17:=
  Rep.opens_struct Tryz.underlying71 (by kernel_rfl) (Rep.fopens_cons rfl (by kernel_rfl) (Rep.opens_int Tryz.underlying3) (Rep.fopens_cons rfl (by kernel_rfl) (Rep.opens_int Tryz.underlying3) (Rep.fopens_last rfl (by kernel_rfl) (Rep.opens_bool Tryz.underlying4))))
theorem ps_in17 {W:World}{p:Ps}{cs:Array Value} (h:repPs17.cells W W.heap.size p cs.toList):cs=#[.int .i64 p.1,.int .i64 p.2.1,.bool p.2.2]:=by
 obtain⟨c1,d1,e,⟨rfl,_⟩,⟨c2,d2,rfl,⟨rfl,_⟩,rfl⟩⟩:=h
 apply Array.ext'
 rw[e];rfl
theorem str_one {t:Tp}{p:Ps}{n:Int}{l m:List Sp} (h:if strE t p n=0 then NormOf (overK t.1 (alongP t p) (alongP t p+n) (strP t p n) (strP t p n).length) l else l=[])
    (h':if strE t p n=0 then NormOf (overK t.1 (alongP t p) (alongP t p+n) (strP t p n) (strP t p n).length) m else m=[]):l=m:=by
  split at h
  ·rename_i h0
   rw[if_pos h0] at h'
   exact h.one h'
  ·rename_i h0
   rw[if_neg h0] at h'
   rw[h,h']
set_option maxHeartbeats 4000000 in
set_option maxRecDepth 100000 in
theorem planStretches_walk (w:World) (hW:Widths w) (cs0:Array Value) (t:Tp) (s0:repTp.cells w w.heap.size t cs0.toList) (cs1:Array Value) (ps:Ps) (s1:repPs17.cells w w.heap.size ps cs1.toList) (n:Int) :
    Calls Tryz.prog 7 #[.agg cs0,.agg cs1,.int .i64 n] w fun e w'=>e=.returned (.bool true)∧Keep Never w w':=by
  obtain⟨x,hx,ht⟩:=TpAt.of s0
  obtain rfl:cs0=x.cs:=by apply Array.ext';exact hx
  obtain rfl:=ps_in17 s1
  obtain⟨e,a,r⟩:=ps
  clear hx s0 s1
  have hgv : 0 < w.heap.size:=cell_lt (hW 0 (by decide))
  have HAw:=qh (fun (V:World) (hk:Keep Never w V)=>awake17_any V (hW.keep hk (fun h=>h)) (Nat.lt_of_lt_of_le hgv hk.size))
  have HLi:=qh (fun (V:World) (hk:Keep Never w V)=>light13r_any x t w.heap.size V (ht.keep hk))
  have HSt:=qh (fun (V:World) (hk:Keep Never w V) (hl:TpLight x t)=>str17_any x t w.heap.size e a r n V (ht.keep hk) hl.small hk.size)
  have HRs:=qh (fun (V:World) (hk:Keep Never w V) (hl:TpLight x t)=>rstr17_any x t w.heap.size e a r n V (ht.keep hk) hl.small hk.size)
  obtain⟨Ae,ne,ce,Aj,nj,cj,Ab,nb,cb,Ar,nr,cr⟩:=x
  simp only[TA.cs] at HLi HSt HRs ⊢
  clear ht hgv hW
  obtain⟨w1,hw1⟩:∃V:World,w.alloc (.cells #[.slice Ae ne ce,.slice Aj nj cj,.slice Ab nb cb,.slice Ar nr cr] 27)=V:=⟨_,rfl⟩
  have zw1:w1.heap.size=w.heap.size+1:=by rw[←hw1];simp
  have kw1:Keep Never w w1:=by rw[←hw1];exact(Keep.refl _ _).alloc _
  have bw1:=Blk.new w 27 #[.slice Ae ne ce,.slice Aj nj cj,.slice Ab nb cb,.slice Ar nr cr]
  rw[hw1] at bw1
  obtain⟨w2,hw2⟩:∃V:World,w1.alloc (.cells #[.int .i64 e,.int .i64 a,.bool r] 71)=V:=⟨_,rfl⟩
  have kw2:Keep Never w1 w2:=by rw[←hw2];exact(Keep.refl _ _).alloc _
  have bw2:=Blk.new w1 71 #[.int .i64 e,.int .i64 a,.bool r]
  rw[hw2,zw1] at bw2
  have HB1:=qh (bw1.keep kw2 (fun h=>h))
  have HB2:=qh bw2
  have HK:=qh (kw1.trans kw2)
  clear kw1 kw2 bw1 bw2
  have HT2:=HB1
  have HP2:=HB2
  have HK2:=HK
  have HC:=qh (HAw.out w2 HK.out)
  clear HB1 HB2 HK HAw
  go_enter Tryz.func7, Tryz.ntmps7
  go_wp2_with fail
  refine HC.out.mono ?_
  rintro en w3 ⟨rfl,hk⟩
  have HK3:=qtr HK2 hk
  have HT3:=qkb HT2 hk
  have HP3:=qkb HP2 hk
  clear hk HC HT2 HP2 HK2 hw1 hw2 zw1
  have HC:=qh (HLi.out w3 HK3.out)
  obtain⟨y0,y1,y2,y3⟩:=bc4 HT3.out
  clear HLi
  go_wp2_with fail
  refine HC.out.mono ?_
  rintro en w4 ⟨lt,rfl,hlt,hk⟩
  have HK4:=qtr HK3 hk
  have HT4:=qkb HT3 hk
  have HP4:=qkb HP3 hk
  clear hk HC HT3 HP3 HK3 y0 y1 y2 y3
  cases lt with
  | false=>
   go_wp2_with fail
   go_ret
   exact⟨rfl,HK4.out⟩
  | true=>
  have HLi:=qh (hlt.out rfl)
  clear hlt
  have HC:=qh (HSt.out w4 HK4.out HLi.out)
  obtain⟨y0,y1,y2,y3⟩:=bc4 HT4.out
  obtain⟨p0,p1,p2⟩:=bc3 HP4.out
  clear HSt
  go_wp2_with fail
  refine HC.out.mono ?_
  rintro en w5 ⟨m,A5,m5,c5,rfl,q1,q2,q3,hk,q4⟩
  have HK5:=qtr HK4 hk
  have HT5:=qkb HT4 hk
  have HP5:=qkb HP4 hk
  have HM5:=qh (And.intro q1.out (And.intro q2.out q4.out))
  have HS5:=qh q3
  clear hk HC HT4 HP4 HK4 q1 q2 q3 q4 y0 y1 y2 y3 p0 p1 p2
  have HC:=qh (HRs.out w5 HK5.out HLi.out)
  obtain⟨y0,y1,y2,y3⟩:=bc4 HT5.out
  obtain⟨p0,p1,p2⟩:=bc3 HP5.out
  clear HRs
  go_wp2_with fail
  refine HC.out.mono ?_
  rintro en w6 ⟨l,A6,m6,c6,rfl,q1,q2,q3,hk,q4⟩
  have HK6:=qtr HK5 hk
  have HS6:=qh ((HS5.out.keep hk).more hk.size)
  obtain rfl:=str_one HM5.out.2.2 q4.out
  obtain rfl:m5=m6:=by rw[HM5.out.1,q1.out]
  have HZ6:=qh q3
  clear hk HC HT5 HP5 HK5 HS5 q1 q2 q3 q4 y0 y1 y2 y3 p0 p1 p2
  obtain⟨er,her⟩:∃z,strE t (e,a,r) n=z:=⟨_,rfl⟩
  rw[her] at HM5 ⊢
  have HEr:=qh her
  have hw:=same15_any m m A5 A6 m5 m5 c5 c6 w6.heap.size w6.heap.size w6 HS6.out.rd HZ6.out.rd (by have:=HM5.out.2.1;omega) (by have:=HM5.out.2.1;omega)
  rw[decide_eq_true (rfl:m=m)] at hw
  have HC:=qh hw
  clear her hw
  go_wp2_with fail
  refine HC.out.mono ?_
  rintro en w7 ⟨rfl,hk⟩
  have HK7:=qtr HK6 hk
  have HS7:=qh ((HS6.out.keep hk).more hk.size)
  clear hk HC HK6 HS6 HZ6
  have t1:(er==er)=true:=by simp
  by_cases g:er=0
  ·have t2:(er != 0)=false:=by simpa using g
   have HF:Hid (strE t (e,a,r) n=0):=qh (by rw[HEr.out,g])
   have HNm:=qh (by have h:=HM5.out.2.2;rw[if_pos g] at h;exact h)
   have HC:=qh (total_sp w7.heap.size A5 m5 c5 m w7 HS7.out (by have:=HM5.out.2.1;omega) (Nat.le_refl _))
   clear g
   go_wp2_with fail
   refine HC.out.mono ?_
   rintro en w8 ⟨m8,rfl,h8,hk⟩
   have HK8:=qtr HK7 hk
   have hle:=str_total HF.out (m:=m8) ⟨h8.1,fun e x=>by rw[h8.2,HNm.out.2]⟩
   have t3:decide (cntL m8≤n)=true:=by simpa using hle
   clear hk h8 hle HC
   go_wp2_with fail
   go_ret
   exact⟨rfl,HK8.out⟩
  ·have t2:(er != 0)=true:=by simpa using g
   clear g
   go_wp2_with fail
   go_ret
   exact⟨rfl,HK7.out⟩
end Go.Proofs.YtpapiojicbbheaaGreatDoor

namespace Go.Proofs.YtpapiojicbbheaaGreatDoor
open Go.RowKit Go.ChangeShapes Go.WideShapes Go.ChangeAt
theorem gTab:Tryz.prog.globalNamed "lineside/vars.widths" = some 0 := by kernel_rfl
theorem gTabType:(Tryz.prog.globals[0]?).map (·.type)=some 238 := by kernel_rfl
theorem cellsTab:Tryz.prog.cellsOf 238 = 96:=by kernel_rfl
theorem laid_gives {W:World} (h:laidMetH Tryz.prog [("lineside/vars.widths", Rows.laid_lineside_vars_widths)] W):Widths W:=by
 have hT:Lib.TabIs Tryz.prog W "lineside/vars.widths" .i64 wtab:=Lib.tabIs_of_head (rest:=[]) gTab gTabType Tryz.underlying238 Tryz.underlying3 cellsInt cellsTab h
 intro i hi
 have:=hT.cell gTab i (by show i<96;exact hi)
 rw[this]
noncomputable def laidWorld (os:Os):World:=
  { World.holding Tryz.prog os ⟨#[],#[],[]⟩ with heap:=(World.holding Tryz.prog os ⟨#[],#[],[]⟩).heap.modify 0 fun
      | .cells _ t frozen=>.cells (wtab.map (Value.int .i64)).toArray t frozen
      | o=>o }
end Go.Proofs.YtpapiojicbbheaaGreatDoor
