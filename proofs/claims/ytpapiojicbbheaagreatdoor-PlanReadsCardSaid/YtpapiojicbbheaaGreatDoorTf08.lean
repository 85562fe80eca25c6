/- Texts of this claim, together: PmE, PmF, PackP. -/
import Derived.Test.YtpapiojicbbheaaGreatDoorTf07
import Derived.Test.YtpapiojicbbheaaGreatDoorTf06
import Derived.Test.YtpapiojicbbheaaGreatDoorTf05
import Derived.Test.YtpapiojicbbheaaGreatDoorTf01
import Derived.Test.YtpapiojicbbheaaGreatDoorTf03
import Derived.Test.YtpapiojicbbheaaGreatDoorTf00
namespace Go.Proofs.YtpapiojicbbheaaGreatDoor
open Go.RowKit
set_option maxHeartbeats 1000000 in
set_option maxRecDepth 100000 in
theorem nomW_any (r:Bool) (w:World):Calls Tryz.prog 77 #[.bool r] w fun e w'=>e=.returned (.int .i64 (nomI r))∧w'=w:=by
 cases r
 all_goals
  go_enter Tryz.func77, Tryz.ntmps77
  go_wp2_with fail
  go_ret
  exact⟨rfl,rfl⟩
theorem RAt.fz {w:World}{B p:Nat}{v:List Int}{u e:Int} (h:RAt w B p v u e) {i:Nat}:w.frozen? ⟨p,i,none⟩=false:=by obtain⟨A,n,c,hb,_⟩:=h;exact hb.frozen i
theorem RAt.putU {w:World}{B p:Nat}{v:List Int}{u e:Int} (h:RAt w B p v u e) (hp:B≤p) (u2:Int):RAt (w.setCell ⟨p,1,none⟩ (.int .i64 u2)) B p v u2 e:=by
 obtain⟨A,n,c,h1,h2,h3⟩:=h
 refine⟨A,n,c,?_,h2.keep (put1_keep (w:=w) (b:=p) (i:=1) (.int .i64 u2)) (fun k h=>by omega),h3⟩
 have:=h1.set_ 1 (.int .i64 u2)
 simpa using this
theorem RAt.not {w:World}{B p:Nat}{v:List Int}{u e:Int} (h:RAt w B p v u e) {g t:Nat}{cs:Array Value} (hg:Blk w g t cs) (ht : 165 ≠ t):¬g=p:=by
 obtain⟨A,n,c,h1,_⟩:=h
 exact fun e=>h1.ne_ hg ht e.symm
theorem RAt.row {w:World}{B p:Nat}{v:List Int}{u e:Int} (h:RAt w B p v u e) {base t size n c:Nat}{A:Option Addr}{xs:List Value} (ho:Own w base t size A n c xs) (ht:t ≠ 165):∀k,InRow A k→k≠p:=by
 obtain⟨_,_,_,h1,_⟩:=h
 exact ho.ne_blk h1 ht
structure SecI (u:Int) (N:Nat) (res:Except Int (List Sc×List Int)) (i:Nat) (at_:Int) (v:List Int) (acc:List Sc):Prop where
  le:i≤N
  n8:N≤8
  lo:0≤at_
  hi:at_≤3276600*i
  len:acc.length=i
  go:res=match sectsR u (N - i) at_ v with | .error e=>.error e | .ok z=>.ok (acc++z.1,z.2)
theorem SecI.start {u:Int}{N:Nat}{v:List Int} (h:N≤8):SecI u N (sectsR u N 0 v) 0 0 v []:=
  ⟨Nat.zero_le _,h,Int.le_refl _,by omega,rfl,by rw[Nat.sub_zero];cases sectsR u N 0 v with | error e=>rfl | ok z=>rfl⟩
theorem SecI.bad {u:Int}{N:Nat}{res:Except Int (List Sc×List Int)}{i:Nat}{at_:Int}{v:List Int}{acc:List Sc} (h:SecI u N res i at_ v acc) (hi:i<N) (he:(sectR u at_ v 0).e≠0):res=.error (sectR u at_ v 0).e:=by
 rw[h.go,show N - i=(N - (i+1))+1 by omega]
 unfold sectsR
 rw[if_pos he]
theorem sect_far (u at_:Int) (v:List Int):(sectR u at_ v 0).s.1=at_+(dmM (v.headD 0) u).1:=rfl
theorem SecI.next {u:Int}{N:Nat}{res:Except Int (List Sc×List Int)}{i:Nat}{at_:Int}{v:List Int}{acc:List Sc} (h:SecI u N res i at_ v acc) (hi:i<N) (he:(sectR u at_ v 0).e=0):SecI u N res (i+1) (sectR u at_ v 0).s.1 (sectR u at_ v 0).v (acc++[(sectR u at_ v 0).s]):=by
 have hd:=dm_range (v.headD 0) u
 have h1:=h.lo
 have h2:=h.hi
 refine⟨by omega,h.n8,by rw[sect_far];omega,by rw[sect_far];push_cast;omega,by simp[h.len],?_⟩
 rw[h.go,show N - i=(N - (i+1))+1 by omega]
 conv=>lhs;unfold sectsR
 rw[if_neg (by rw[he];simp)]
 cases sectsR u (N - (i+1)) (sectR u at_ v 0).s.1 (sectR u at_ v 0).v with
 | error e=>rfl
 | ok z=>simp
theorem SecI.fin {u:Int}{N:Nat}{res:Except Int (List Sc×List Int)}{at_:Int}{v:List Int}{acc:List Sc} (h:SecI u N res N at_ v acc):res=.ok (acc,v):=by
 rw[h.go,Nat.sub_self]
 simp[sectsR]
def SecsRet (r:Except Int (List Sc×Int)) (bm:Nat) (v0 v1 v2:Value) (w:World) (e:Ending) (w':World):Prop:=
  Keep (fun q=>q=bm) w w'∧match r with
    | .ok z=>e=.returned (.int .i64 0)∧∃A n c,Blk w' bm 38 #[v0,v1,v2,.slice A n c,.int .i64 z.2]∧n=z.1.length∧Own w' w.heap.size 58 2 A n c (scCells z.1)
    | .error x=>x≠0∧e=.returned (.int .i64 x)∧∃A n c g,Blk w' bm 38 #[v0,v1,v2,.slice A n c,.int .i64 g]
theorem gap_zero (u:Int) (v:List Int):gapR u v=(if (if v.headD 0=1 then v.tail.tail.tail else v.tail).headD 0=1 then ((dmM ((if v.headD 0=1 then v.tail.tail.tail else v.tail).tail.headD 0) u).1,if (dmM ((if v.headD 0=1 then v.tail.tail.tail else v.tail).tail.headD 0) u).2≠0 then 7 else 0) else (0,0)):=rfl
set_option maxHeartbeats 8000000 in
set_option maxRecDepth 100000 in
theorem secs_any (B bm:Nat) (ref:Int) (rv:Bool) (P:Value) (A:Option Addr) (n c:Nat) (V:List Int) (w:World) (hr:Rd w B 1 A n (V.map (.int .i64))) (hc:n≤c) (hB:B≤w.heap.size) (hBm:B≤bm) (hV:∀x∈V,i64_ x) (hm:Blk w bm 38 #[.int .i64 ref,.bool rv,P,.slice none 0 0,.int .i64 0]) :
    Calls Tryz.prog 67 #[.pointer (some ⟨bm,0,none⟩),.slice A n c] w (SecsRet (secsM rv V) bm (.int .i64 ref) (.bool rv) P w):=by
  have HO:=qh (fun (W:World) (v:List Int) (u e:Int) (hW:RAt W B w.heap.size v u e)=>ro_any w.heap.size B v u e W hW hB)
  have HSe:=qh (fun (W:World) (v:List Int) (u a:Int) (hW:RAt W B w.heap.size v u 0) (h0:0≤a) (h1:a≤1000000000)=>sect_any w.heap.size B v u a 0 W hW hB h0 h1)
  have HFa:=qh (fun (W:World) (v:List Int) (u e:Int) (hW:RAt W B w.heap.size v u e)=>far_any w.heap.size B v u e W hW hB)
  have HNm:=qh (nomW_any rv)
  unfold OneRet at HO
  obtain⟨w1,hw1⟩:∃V:World,w.alloc (.cells #[.slice A n c,.int .i64 0,.int .i64 0] 165)=V:=⟨_,rfl⟩
  have k1:Keep Never w w1:=by rw[←hw1];exact(Keep.refl _ _).alloc _
  have B1:=Blk.new w 165 #[.slice A n c,.int .i64 0,.int .i64 0]
  rw[hw1] at B1
  obtain⟨bp,hbp⟩:∃q,w.heap.size=q:=⟨_,rfl⟩
  rw[hbp] at B1
  have HA1:Hid (RAt w1 B bp V 0 0):=qh ⟨A,n,c,B1,hr.keep k1 (fun _ h=>h.elim),hc⟩
  have HM1:=qh (hm.keep k1 (fun h=>h))
  have HK1:Hid (Keep (fun q=>q=bm) w w1):=qh (k1.mono (fun _ _ h=>False.elim h))
  have HP:Hid (w.heap.size=bp∧B≤bp∧bm<bp∧B≤bm):=qh ⟨hbp,by omega,by have:=hm.lt;omega,hBm⟩
  have m1:w1.cell? ⟨bm,1,none⟩=some (.bool rv):=HM1.out.cell 1
  rw[hbp] at HO HSe HFa
  clear k1 B1 hr hm
  go_enter Tryz.func67, Tryz.ntmps67
  go_wp2_with fail
  clear hw1 hbp
  obtain⟨q,hq⟩:∃z,V.headD 0=z:=⟨_,rfl⟩
  have HO1:=qh (fun W h=>HO.out W V 0 0 h)
  rw[hq] at HO1
  have HQ:=qh hq
  clear hq
  obtain⟨nr,hnr⟩:∃z,nomI rv=z:=⟨_,rfl⟩
  rw[hnr] at HNm
  have HNr:=qh hnr
  clear hnr
  go_cut [20] (fun s20 wc=>s20=.bool (q != nr)∧Hid (RAt wc B bp V.tail 0 0∧Keep (fun z=>z=bp) w1 wc))
  case first=>
   go_region_law (first
     | (go_simp;refine(HO1.out _ (by first | exact HA1.out | exact HA1.out.drew)).mono ?_;rintro en w3 ⟨rfl,hr,hk⟩;have HA3:=qh hr;have HK3:Hid (Keep (fun z=>z=bp) w1 w3):=qh (by first | exact hk | exact hk.drewL);have m3:w3.cell? ⟨bm,1,none⟩=some (.bool rv):=(HM1.out.keep HK3.out (by have:=HP.out;omega)).cell 1;clear hr hk)
     | (go_simp;refine(HNm.out _).mono ?_;rintro en w4 ⟨rfl,rfl⟩))
   all_goals
    go_wp2_with fail
    go_meet
    exact⟨rfl,qh ⟨by first | exact HA3.out | exact HA3.out.drew,by first | exact HK3.out | exact HK3.out.drew⟩⟩
  case rest=>
  obtain⟨rfl,hR⟩:=hcut
  rename World=>w2
  have HA2:=qh hR.out.1
  have HM2:=qh (HM1.out.keep hR.out.2 (by have:=HP.out;omega))
  have HK2:Hid (Keep (fun q=>q=bm) w w2):=qh (HK1.out.then_ hR.out.2 (fun i hi h=>by have:=HP.out;omega))
  clear hR HO1 m1 HM1 HK1 HA1
  by_cases g0:q=nr
  case neg=>
   have t0:(q != nr)=true:=by simpa using g0
   have HF:Hid (secsM rv V=.error 20):=qh (by unfold secsM;rw[if_pos (by rw[HQ.out,HNr.out];exact g0)])
   clear g0
   go_wp2_with fail
   go_ret
   refine⟨HK2.out,?_⟩
   rw[HF.out]
   exact⟨by decide,rfl,_,_,_,_,HM2.out⟩
  have t0:(q != nr)=false:=by simpa using g0
  have HD0:Hid (secsM rv V=secs2 (V.tail.headD 0) (V.tail.tail.tail.tail.headD 0) V.tail.tail.tail.tail.tail):=qh (by unfold secsM;rw[if_neg (by rw[HQ.out,HNr.out];simpa using g0)])
  clear g0
  have HO2:=qh (fun W h=>HO.out W V.tail 0 0 h)
  obtain⟨u,hu⟩:∃z,V.tail.headD 0=z:=⟨_,rfl⟩
  obtain⟨my,hmy⟩:∃z,V.tail.tail.tail.tail.headD 0=z:=⟨_,rfl⟩
  rw[hu] at HO2
  rw[hu,hmy] at HD0
  have HO3:=qh (fun W h=>HO.out W V.tail.tail u 0 h)
  have HO4:=qh (fun W h=>HO.out W V.tail.tail.tail u 0 h)
  have HO5:=qh (fun W h=>HO.out W V.tail.tail.tail.tail u 0 h)
  rw[hmy] at HO5
  have HMy:Hid (-9223372036854775808≤my):=qh (by
   rw[←hmy]
   rcases hv5:V.tail.tail.tail.tail with _ | ⟨x,l⟩
   ·simp
   ·have hm:x∈V:=List.mem_of_mem_tail (List.mem_of_mem_tail (List.mem_of_mem_tail (List.mem_of_mem_tail (by rw[hv5];simp))))
    exact(hV x hm).1)
  clear hu hmy
  go_wp2_with fail
  refine(HO2.out w2 HA2.out).mono ?_
  rintro en w3 ⟨rfl,hr,hk⟩
  have HA3:=qh hr
  have HM3:=qh (HM2.out.keep hk (by have:=HP.out;omega))
  have HK3:=qh (HK2.out.then_ hk (fun i hi h=>by have:=HP.out;omega))
  clear hr hk
  have z1:w3.cell? ⟨bp,1,none⟩=some (.int .i64 0):=HA3.out.u
  have zf:w3.frozen? ⟨bp,1,none⟩=false:=HA3.out.fz
  go_upto_region 5 with(fail)
  obtain⟨w4,hw4⟩:∃W:World,w3.setCell ⟨bp,1,none⟩ (.int .i64 u)=W:=⟨_,rfl⟩
  rw[hw4]
  have kb:Keep (fun q=>q=bp) w3 w4:=by rw[←hw4];exact put1_keep _
  have HA4:Hid (RAt w4 B bp V.tail.tail u 0):=qh (by rw[←hw4];exact HA3.out.putU HP.out.2.1 u)
  have HM4:=qh (HM3.out.keep kb (by have:=HP.out;omega))
  have HK4:=qh (HK3.out.then_ kb (fun i hi h=>by have:=HP.out;omega))
  clear hw4 kb z1 zf
  go_wp2_with fail
  refine(HO3.out w4 HA4.out).mono ?_
  rintro en w5 ⟨rfl,hr,hk⟩
  have HA5:=qh hr
  have HM5:=qh (HM4.out.keep hk (by have:=HP.out;omega))
  have HK5:=qh (HK4.out.then_ hk (fun i hi h=>by have:=HP.out;omega))
  clear hr hk
  go_wp2_with fail
  refine(HO4.out w5 HA5.out).mono ?_
  rintro en w6 ⟨rfl,hr,hk⟩
  have HA6:=qh hr
  have HM6:=qh (HM5.out.keep hk (by have:=HP.out;omega))
  have HK6:=qh (HK5.out.then_ hk (fun i hi h=>by have:=HP.out;omega))
  clear hr hk
  go_wp2_with fail
  refine(HO5.out w6 HA6.out).mono ?_
  rintro en w7 ⟨rfl,hr,hk⟩
  have HA7:=qh hr
  have HM7:=qh (HM6.out.keep hk (by have:=HP.out;omega))
  have HK7:=qh (HK6.out.then_ hk (fun i hi h=>by have:=HP.out;omega))
  clear hr hk
  by_cases g1:8≤my
  ·have t1:decide (my≥8)=true:=by simpa using g1
   have HF:Hid (secsM rv V=.error 2):=qh (by rw[HD0.out];unfold secs2;rw[if_pos g1])
   clear g1
   go_wp2_with fail
   go_ret
   refine⟨HK7.out,?_⟩
   rw[HF.out]
   exact⟨by decide,rfl,_,_,_,_,HM7.out⟩
  have t1:decide (my≥8)=false:=by simpa using g1
  have HD1:Hid (secsM rv V=secs4 u (sectsR u (my+1).toNat 0 V.tail.tail.tail.tail.tail)):=qh (by rw[HD0.out];unfold secs2;rw[if_neg g1])
  have hmy0:=HMy.out
  have hw1:IntKind.i64.wrap (my+1)=my+1:=IntWalk.i64_in _ (by omega)
  have hw1':wrap64 (my+1)=my+1:=by have:=hw1;rwa [IntWalk.i64_left] at this
  have hn8:(my+1).toNat≤8:=by omega
  have HNt:Hid (∀k:Nat,(k:Int)<my+1↔k<(my+1).toNat):=qh (fun k=>by omega)
  obtain⟨N,hN⟩:∃z,(my+1).toNat=z:=⟨_,rfl⟩
  rw[hN] at HD1 HNt hn8
  have HI0:=qh (SecI.start (u:=u) (N:=N) (v:=V.tail.tail.tail.tail.tail) hn8)
  obtain⟨res,hres⟩:∃z,sectsR u N 0 V.tail.tail.tail.tail.tail=z:=⟨_,rfl⟩
  rw[hres] at HD1 HI0
  have HN8:=qh hn8
  have eg:=enters_of Tryz.func121 (by kernel_rfl) rfl
  clear hN hres g1 hmy0 hn8 HD0 HO2 HO3 HO4 HO5
  go_wp2_with fail
  (try rw[hw1'])
  obtain⟨my1,hmy1⟩:∃z,my+1=z:=⟨_,rfl⟩
  rw[hmy1] at HNt
  (try rw[hmy1])
  clear hmy1 hw1 hw1' HMy
  go_loopw [8,38] (fun ta ti wr=>∃(k:Nat) (a:Int) (v:List Int) (acc:List Sc) (As:Option Addr) (ns cs:Nat),ti=.int .i64 k∧ta=.int .i64 a∧k≤N∧ns≤8∧Hid (SecI u N res k a v acc∧RAt wr B bp v u 0∧Blk wr bm 38 #[.int .i64 ref,.bool rv,P,.slice As ns cs,.int .i64 0]∧ns=acc.length∧Own wr w.heap.size 58 2 As ns cs (scCells acc)∧Keep (fun q=>q=bm) w wr)) (fun _ ti _=>N - (intOf ti).toNat)
  case atStart=>exact⟨0,0,_,[],none,0,0,rfl,rfl,Nat.zero_le _,Nat.zero_le _,qh ⟨HI0.out,HA7.out,HM7.out,rfl,Own.nil _ _ _ _,HK7.out⟩⟩
  case round=>
   obtain⟨k,a,v,acc,As,ns,cs,rfl,rfl,hkN,hns,HH⟩:=hrel
   have HIr:=qh HH.out.1
   have HAr:=qh HH.out.2.1
   have HMr:=qh HH.out.2.2.1
   have HNs:=qh HH.out.2.2.2.1
   have HOr:=qh HH.out.2.2.2.2.1
   have HKr:=qh HH.out.2.2.2.2.2
   clear HH
   by_cases h0:k<N
   ·have hkz:(k:Int)<my1:=(HNt.out k).2 h0
    have tk:decide ((k:Int)<my1)=true:=by simpa using hkz
    have hk8:k<8:=by have:=HN8.out;omega
    have HC:=qh (HSe.out wr v u a HAr.out HIr.out.lo (by have:=HIr.out.hi;omega))
    have HBd:=qh (HIr.out.bad h0)
    have HNx:=qh (HIr.out.next h0)
    obtain⟨o,ho⟩:∃z,sectR u a v 0=z:=⟨_,rfl⟩
    rw[ho] at HC HBd HNx
    obtain⟨⟨s1,s2⟩,v2,e2⟩:=o
    dsimp only at HC HBd HNx
    clear ho
    go_wp2_with fail
    refine HC.out.mono ?_
    rintro en w8 ⟨rfl,hr,hk⟩
    have HA8:=qh hr
    have HM8:=qh (HMr.out.keep hk (by have:=HP.out;omega))
    have HO8:=qh (HOr.out.keep hk (fun q h1 h2=>HAr.out.row HOr.out (by decide) q h1 h2))
    have HK8:=qh (HKr.out.then_ hk (fun i hi h=>by have:=HP.out;omega))
    clear hr hk HC
    obtain⟨w9,hw9⟩:∃V:World,w8.alloc (.cells #[.int .i64 s1,.int .i64 s2] 58)=V:=⟨_,rfl⟩
    have k9:Keep Never w8 w9:=by rw[←hw9];exact(Keep.refl _ _).alloc _
    have B9:=Blk.new w8 58 #[.int .i64 s1,.int .i64 s2]
    rw[hw9] at B9
    obtain⟨bs,hbs⟩:∃q,w8.heap.size=q:=⟨_,rfl⟩
    rw[hbs] at B9
    have HA9:=qh (HA8.out.never k9)
    have HM9:=qkb HM8 k9
    have HO9:=qko HO8 k9
    have HK9:=qh (HK8.out.then_ k9 (fun _ _ h=>False.elim h))
    have HB9:=qh B9
    have HNb:Hid (∀q,InRow As q→q≠bs):=qh (fun q h e=>by have h1:=(HO8.out.row h).2;omega)
    have e9:w9.cell? ⟨bp,2,none⟩=some (.int .i64 e2):=HA9.out.e
    clear k9 B9
    by_cases ge:e2=0
    case neg=>
     have te:(e2 != 0)=true:=by simpa using ge
     have HF:Hid (secsM rv V=.error e2):=qh (by rw[HD1.out,HBd.out ge];rfl)
     have HGe:=qh ge
     clear ge
     go_wp2_with fail
     go_ret
     refine⟨HK9.out,?_⟩
     rw[HF.out]
     exact⟨HGe.out,rfl,_,_,_,_,HM9.out⟩
    have te:(e2 != 0)=false:=by simpa using ge
    have HI9:=qh (HNx.out ge)
    subst ge
    have m3:w9.cell? ⟨bm,3,none⟩=some (.slice As ns cs):=HM9.out.cell 3
    obtain⟨b0,b1⟩:=bc2 HB9.out
    have m3a:∀o,(w9.alloc o).cell? ⟨bm,3,none⟩=some (.slice As ns cs):=fun o=>(HM9.out.alloc o).cell 3
    have hz9:w.heap.size≤w9.heap.size:=HK9.out.size
    go_upto_region 17 with(fail)
    clear e9
    go_cut [] (fun wc=>∃A6 c6,Hid (RAt wc B bp v2 u 0∧Blk wc bm 38 #[.int .i64 ref,.bool rv,P,.slice A6 (ns+1) c6,.int .i64 0]∧Own wc w.heap.size 58 2 A6 (ns+1) c6 (scCells (acc++[(s1,s2)]))∧Keep (fun q=>q=bm) w wc∧Blk wc bs 58 #[.int .i64 s1,.int .i64 s2]))
    case first=>
     go_region_law (refine step_app _ rfl (.tmp 56) (.tmp 58) _ rfl elemSc (w.heap.size) (A:=As) (n:=ns) (c:=cs) (by go_simp) (HO9.out.alloc _) _ (A':=some ⟨_,0,none⟩) (m:=1) (c':=1) (news:=[.int .i64 s1,.int .i64 s2]) (by go_simp) (Rd.of_blk (n:=1) (cs:=[.int .i64 s1,.int .i64 s2]) (Blk.new _ _ _) rfl) (by simp[Value.oneCell']) (by omega) (by unfold maxLen;omega) (by simp;omega) ?_;intro A16 c16 w16 hown hk hrow;have hk16:Keep (InRow As) w9 w16:=(by first | exact(((Keep.refl (InRow As) w9).alloc _).drew).trans hk | exact(((Keep.refl (InRow As) w9).drew).alloc _).trans hk | exact((Keep.refl (InRow As) w9).alloc _).trans hk);have HO16:=qh hown;have HA16:=qh (HA9.out.keep hk16 (fun q h=>⟨by have h1:=(HO9.out.row h).1;have:=HP.out;omega,HA9.out.row HO9.out (by decide) q h⟩));have HM16:=qh (HM9.out.keep hk16 (fun hi=>HO9.out.ne_blk HM9.out (by decide) _ hi rfl));have HB16:=qh (HB9.out.keep hk16 (fun hi=>HNb.out _ hi rfl));have HK16:=qh (HK9.out.then_ hk16 (fun i hi h=>by have h1:=(HO9.out.row h).1;omega));have m3:w16.cell? ⟨bm,3,none⟩=some (.slice As ns cs):=HM16.out.cell 3;have mf3:=HM16.out.frozen 3;clear hk16;clear hown hk hrow)
     all_goals
      go_wp2_with fail
      go_meet
      have hm16:=HM16.out
      have hk17:Keep (fun q=>q=bm) w16 (w16.setCell ⟨bm,3,none⟩ (.slice A16 (ns+1) c16)):=put1_keep _
      refine⟨A16,c16,qh ⟨HA16.out.keep hk17 (fun q h=>by subst h;have:=HP.out;omega),?_,?_,HK16.out.trans hk17,HB16.out.keep hk17 (fun h=>HB16.out.ne_ HM16.out (by decide) h)⟩⟩
      ·have:=HM16.out.set_ 3 (.slice A16 (ns+1) c16)
       simpa using this
      ·rw[scCells_app]
       exact HO16.out.far (HO16.out.ne_blk HM16.out (by decide)) _
    case rest=>
    obtain⟨A6,c6,hR⟩:=hcut
    rename World=>w10
    have HA10:=qh hR.out.1
    have HM10:=qh hR.out.2.1
    have HO10:=qh hR.out.2.2.1
    have HK10:=qh hR.out.2.2.2.1
    have b0:w10.cell? ⟨bs,0,none⟩=some (.int .i64 s1):=hR.out.2.2.2.2.cell 0
    clear hR b1 m3 m3a hz9
    go_wp2_with fail
    go_roundw
    case measure=>simp[intOf];try omega
    case rel=>exact⟨k+1,s1,v2,acc++[(s1,s2)],A6,ns+1,c6,by go_num,rfl,by omega,by have h1:=HI9.out.len;have h2:=HNs.out;simp at h1;omega,qh ⟨HI9.out,HA10.out,HM10.out,by rw[HNs.out];simp,HO10.out,HK10.out⟩⟩
   ·obtain rfl:k=N:=by omega
    have hkz:¬(k:Int)<my1:=fun h=>h0 ((HNt.out k).1 h)
    have tk:decide ((k:Int)<my1)=false:=by simpa using hkz
    have HD2:Hid (secsM rv V=secs3 u (acc,v)):=qh (by rw[HD1.out,HIr.out.fin];rfl)
    clear HIr hkz h0
    obtain⟨x1,hx1⟩:∃z,v.headD 0=z:=⟨_,rfl⟩
    have HX1:=qh hx1
    clear hx1
    go_wp2_with fail
    have hw:=HO.out wr v u 0 HAr.out
    rw[HX1.out] at hw
    refine hw.mono ?_
    rintro en w50 ⟨rfl,hr,hk⟩
    have HA50:=qh hr
    have HM50:=qh (HMr.out.keep hk (by have:=HP.out;omega))
    have HO50:=qh (HOr.out.keep hk (fun q h1 h2=>HAr.out.row HOr.out (by decide) q h1 h2))
    have HK50:=qh (HKr.out.then_ hk (fun i hi h=>by have:=HP.out;omega))
    clear hr hk hw
    by_cases gx:x1=1
    ·have tx:(x1==1)=true:=by simpa using gx
     have HW:Hid (gapR u v=if (v.tail.tail.tail).headD 0=1 then ((dmM ((v.tail.tail.tail).tail.headD 0) u).1,if (dmM ((v.tail.tail.tail).tail.headD 0) u).2≠0 then 7 else 0) else (0,0)):=qh (by rw[gap_zero,if_pos (show v.headD 0=1 by rw[HX1.out];exact gx)])
     have HX2:Hid (v.tail.headD 0=v.tail.headD 0):=qh rfl
     have HX3:Hid (v.tail.tail.headD 0=v.tail.tail.headD 0):=qh rfl
     clear gx
     go_wp2_with fail
     have hw:=HO.out w50 v.tail u 0 HA50.out
     refine hw.mono ?_
     rintro en w51 ⟨rfl,hr,hk⟩
     have HA51:=qh hr
     have HM51:=qh (HM50.out.keep hk (by have:=HP.out;omega))
     have HO51:=qh (HO50.out.keep hk (fun q h1 h2=>HA50.out.row HO50.out (by decide) q h1 h2))
     have HK51:=qh (HK50.out.then_ hk (fun i hi h=>by have:=HP.out;omega))
     clear hr hk hw
     go_wp2_with fail
     have hw:=HO.out w51 v.tail.tail u 0 HA51.out
     refine hw.mono ?_
     rintro en w52 ⟨rfl,hr,hk⟩
     have HA52:=qh hr
     have HM52:=qh (HM51.out.keep hk (by have:=HP.out;omega))
     have HO52:=qh (HO51.out.keep hk (fun q h1 h2=>HA51.out.row HO51.out (by decide) q h1 h2))
     have HK52:=qh (HK51.out.then_ hk (fun i hi h=>by have:=HP.out;omega))
     clear hr hk hw
     go_wp2_with fail
     obtain⟨y,hy⟩:∃z,(v.tail.tail.tail).headD 0=z:=⟨_,rfl⟩
     have HY:=qh hy
     clear hy
     have hw:=HO.out w52 (v.tail.tail.tail) u 0 HA52.out
     rw[HY.out] at hw
     refine hw.mono ?_
     rintro en w53 ⟨rfl,hr,hk⟩
     have HA53:=qh hr
     have HM53:=qh (HM52.out.keep hk (by have:=HP.out;omega))
     have HO53:=qh (HO52.out.keep hk (fun q h1 h2=>HA52.out.row HO52.out (by decide) q h1 h2))
     have HK53:=qh (HK52.out.then_ hk (fun i hi h=>by have:=HP.out;omega))
     clear hr hk hw
     by_cases gy:y=1
     case neg=>
      have ty:(y==1)=false:=by simpa using gy
      have HF:Hid (secsM rv V=.ok (acc,0)):=qh (by rw[HD2.out];unfold secs3;rw[HW.out];simp only;rw[if_neg (show ¬(v.tail.tail.tail).headD 0=1 by rw[HY.out];exact gy)];rfl)
      have e9:w53.cell? ⟨bp,2,none⟩=some (.int .i64 0):=HA53.out.e
      clear gy
      go_wp2_with fail
      go_ret
      refine⟨HK53.out,?_⟩
      rw[HF.out]
      exact⟨rfl,As,ns,cs,HM53.out,HNs.out,HO53.out⟩
     have ty:(y==1)=true:=by simpa using gy
     have HG:Hid (secsM rv V=if (farR u (v.tail.tail.tail).tail 0).2.2≠0 then .error (farR u (v.tail.tail.tail).tail 0).2.2 else .ok (acc,(farR u (v.tail.tail.tail).tail 0).1)):=qh (by
      rw[HD2.out];unfold secs3;rw[HW.out];simp only;rw[if_pos (show (v.tail.tail.tail).headD 0=1 by rw[HY.out];exact gy)];rfl)
     have hw:=HFa.out w53 (v.tail.tail.tail).tail u 0 HA53.out
     obtain⟨fr,hfr⟩:∃z,farR u (v.tail.tail.tail).tail 0=z:=⟨_,rfl⟩
     rw[hfr] at hw HG
     have HC:=qh hw
     obtain⟨d1,v3,e3⟩:=fr
     dsimp only at HC HG
     clear hw hfr gy
     go_wp2_with fail
     refine HC.out.mono ?_
     rintro en w60 ⟨rfl,hr,hk⟩
     have HA60:=qh hr
     have HM60:=qh (HM53.out.keep hk (by have:=HP.out;omega))
     have HO60:=qh (HO53.out.keep hk (fun q h1 h2=>HA53.out.row HO53.out (by decide) q h1 h2))
     have HK60:=qh (HK53.out.then_ hk (fun i hi h=>by have:=HP.out;omega))
     have m4:w60.cell? ⟨bm,4,none⟩=some (.int .i64 0):=HM60.out.cell 4
     have mf4:=HM60.out.frozen 4
     clear hr hk HC
     go_upto_region 25 with(fail)
     obtain⟨w61,hw61⟩:∃W:World,w60.setCell ⟨bm,4,none⟩ (.int .i64 d1)=W:=⟨_,rfl⟩
     rw[hw61]
     have kb:Keep (fun q=>q=bm) w60 w61:=by rw[←hw61];exact put1_keep _
     have HA61:=qh (HA60.out.keep kb (fun q h=>by subst h;have:=HP.out;omega))
     have HM61:Hid (Blk w61 bm 38 #[.int .i64 ref,.bool rv,P,.slice As ns cs,.int .i64 d1]):=qh (by rw[←hw61];have:=HM60.out.set_ 4 (.int .i64 d1);simpa using this)
     have HO61:=qh (HO60.out.keep kb (fun q h1 h2=>HO60.out.ne_blk HM60.out (by decide) q h1 h2))
     have HK61:=qtr HK60 kb
     have e9:w61.cell? ⟨bp,2,none⟩=some (.int .i64 e3):=HA61.out.e
     clear hw61 kb m4 mf4
     go_wp2_with fail
     go_ret
     refine⟨HK61.out,?_⟩
     rw[HG.out]
     by_cases ge:e3=0
     ·rw[if_neg (by simpa using ge),ge]
      exact⟨rfl,As,ns,cs,HM61.out,HNs.out,HO61.out⟩
     ·rw[if_pos ge]
      exact⟨ge,rfl,_,_,_,_,HM61.out⟩
    ·have tx:(x1==1)=false:=by simpa using gx
     have HW:Hid (gapR u v=if (v.tail).headD 0=1 then ((dmM ((v.tail).tail.headD 0) u).1,if (dmM ((v.tail).tail.headD 0) u).2≠0 then 7 else 0) else (0,0)):=qh (by rw[gap_zero,if_neg (show ¬v.headD 0=1 by rw[HX1.out];exact gx)])
     clear gx
     go_wp2_with fail
     obtain⟨y,hy⟩:∃z,(v.tail).headD 0=z:=⟨_,rfl⟩
     have HY:=qh hy
     clear hy
     have hw:=HO.out w50 (v.tail) u 0 HA50.out
     rw[HY.out] at hw
     refine hw.mono ?_
     rintro en w51 ⟨rfl,hr,hk⟩
     have HA51:=qh hr
     have HM51:=qh (HM50.out.keep hk (by have:=HP.out;omega))
     have HO51:=qh (HO50.out.keep hk (fun q h1 h2=>HA50.out.row HO50.out (by decide) q h1 h2))
     have HK51:=qh (HK50.out.then_ hk (fun i hi h=>by have:=HP.out;omega))
     clear hr hk hw
     by_cases gy:y=1
     case neg=>
      have ty:(y==1)=false:=by simpa using gy
      have HF:Hid (secsM rv V=.ok (acc,0)):=qh (by rw[HD2.out];unfold secs3;rw[HW.out];simp only;rw[if_neg (show ¬(v.tail).headD 0=1 by rw[HY.out];exact gy)];rfl)
      have e9:w51.cell? ⟨bp,2,none⟩=some (.int .i64 0):=HA51.out.e
      clear gy
      go_wp2_with fail
      go_ret
      refine⟨HK51.out,?_⟩
      rw[HF.out]
      exact⟨rfl,As,ns,cs,HM51.out,HNs.out,HO51.out⟩
     have ty:(y==1)=true:=by simpa using gy
     have HG:Hid (secsM rv V=if (farR u (v.tail).tail 0).2.2≠0 then .error (farR u (v.tail).tail 0).2.2 else .ok (acc,(farR u (v.tail).tail 0).1)):=qh (by
      rw[HD2.out];unfold secs3;rw[HW.out];simp only;rw[if_pos (show (v.tail).headD 0=1 by rw[HY.out];exact gy)];rfl)
     have hw:=HFa.out w51 (v.tail).tail u 0 HA51.out
     obtain⟨fr,hfr⟩:∃z,farR u (v.tail).tail 0=z:=⟨_,rfl⟩
     rw[hfr] at hw HG
     have HC:=qh hw
     obtain⟨d1,v3,e3⟩:=fr
     dsimp only at HC HG
     clear hw hfr gy
     go_wp2_with fail
     refine HC.out.mono ?_
     rintro en w60 ⟨rfl,hr,hk⟩
     have HA60:=qh hr
     have HM60:=qh (HM51.out.keep hk (by have:=HP.out;omega))
     have HO60:=qh (HO51.out.keep hk (fun q h1 h2=>HA51.out.row HO51.out (by decide) q h1 h2))
     have HK60:=qh (HK51.out.then_ hk (fun i hi h=>by have:=HP.out;omega))
     have m4:w60.cell? ⟨bm,4,none⟩=some (.int .i64 0):=HM60.out.cell 4
     have mf4:=HM60.out.frozen 4
     clear hr hk HC
     go_upto_region 25 with(fail)
     obtain⟨w61,hw61⟩:∃W:World,w60.setCell ⟨bm,4,none⟩ (.int .i64 d1)=W:=⟨_,rfl⟩
     rw[hw61]
     have kb:Keep (fun q=>q=bm) w60 w61:=by rw[←hw61];exact put1_keep _
     have HA61:=qh (HA60.out.keep kb (fun q h=>by subst h;have:=HP.out;omega))
     have HM61:Hid (Blk w61 bm 38 #[.int .i64 ref,.bool rv,P,.slice As ns cs,.int .i64 d1]):=qh (by rw[←hw61];have:=HM60.out.set_ 4 (.int .i64 d1);simpa using this)
     have HO61:=qh (HO60.out.keep kb (fun q h1 h2=>HO60.out.ne_blk HM60.out (by decide) q h1 h2))
     have HK61:=qtr HK60 kb
     have e9:w61.cell? ⟨bp,2,none⟩=some (.int .i64 e3):=HA61.out.e
     clear hw61 kb m4 mf4
     go_wp2_with fail
     go_ret
     refine⟨HK61.out,?_⟩
     rw[HG.out]
     by_cases ge:e3=0
     ·rw[if_neg (by simpa using ge),ge]
      exact⟨rfl,As,ns,cs,HM61.out,HNs.out,HO61.out⟩
     ·rw[if_pos ge]
      exact⟨ge,rfl,_,_,_,_,HM61.out⟩
end Go.Proofs.YtpapiojicbbheaaGreatDoor

namespace Go.Proofs.YtpapiojicbbheaaGreatDoor
open Go.RowKit
theorem drop_head (v:List Int) (k:Nat):(v.drop k).headD 0=v.getD k 0:=by
 rw[List.getD_eq_getElem?_getD,←List.head?_drop]
 cases v.drop k <;> rfl
theorem onek_any (p B:Nat) (v:List Int) (k:Nat) (u x:Int) (w:World) (h:RAt w B p (v.drop k) u x) (hp:B≤p) :
    Calls Tryz.prog 120 #[.pointer (some ⟨p,0,none⟩)] w fun e w'=>e=.returned (.int .i64 (v.getD k 0))∧RAt w' B p (v.drop (k+1)) u x∧Keep (fun q=>q=p) w w':=by
  have h1:=ro_any p B (v.drop k) u x w h hp
  unfold OneRet at h1
  rw[drop_head,List.tail_drop] at h1
  exact h1
def linked1 (t:Tp) (path:List Stp) (v:List Int):Except Int (List Stp):=
  if v.getD 1 0≠1 then .error 20 else match stepL t path v with
  | .error e=>.error e
  | .ok p=>linksR t (v.getD 7 0).toNat p (v.drop 8)
theorem linked_eq (t:Tp) (path:List Stp) (v:List Int):linkedR t path v=linked1 t path (v.drop 2):=rfl
structure LkI (t:Tp) (res:Except Int (List Stp)) (i:Nat) (my:Int) (v:List Int) (path:List Stp):Prop where
  fst:i=0→my=1∧res=linked1 t path v
  nxt:0<i→(i:Int)≤my∧res=linksR t (my - i).toNat path v
  num:∀x∈v,0≤x∧x<4294967296
  few:i<9000000000∧my<4294967300
  ne:path≠[]
  p24:path.length≤24
  in_:∀s∈path,in64 s
theorem LkI.getD {t:Tp}{res:Except Int (List Stp)}{i:Nat}{my:Int}{v:List Int}{path:List Stp} (h:LkI t res i my v path) (k:Nat):0≤v.getD k 0∧v.getD k 0<4294967296:=by
 rw[List.getD_eq_getElem?_getD]
 cases hk:v[k]? with
 | none=>simp
 | some x=>exact h.num x (List.mem_of_getElem? hk)
def myN (i:Nat) (my:Int) (v:List Int):Int:=if i=0 then my+v.getD 7 0 else my
def vN (i:Nat) (v:List Int):List Int:=if i=0 then v.drop 8 else v.drop 7
theorem LkI.bad {t:Tp}{res:Except Int (List Stp)}{i:Nat}{my:Int}{v:List Int}{path:List Stp} (h:LkI t res i my v path) (hi:(i:Int)<my) (h1:v.getD 1 0≠1):res=.error 20:=by
 by_cases h0:i=0
 ·rw[(h.fst h0).2];unfold linked1;rw[if_pos h1]
 ·obtain⟨_,e⟩:=h.nxt (by omega)
  rw[e,show (my - (i:Int)).toNat=(my - (i:Int) - 1).toNat+1 by omega]
  unfold linksR;rw[if_pos h1]
theorem LkI.err {t:Tp}{res:Except Int (List Stp)}{i:Nat}{my:Int}{v:List Int}{path:List Stp} (h:LkI t res i my v path) (hi:(i:Int)<my) (h1:v.getD 1 0=1) {e:Int} (hs:stepL t path v=.error e):res=.error e:=by
 by_cases h0:i=0
 ·rw[(h.fst h0).2];unfold linked1;rw[if_neg (by simpa using h1),hs]
 ·obtain⟨_,e2⟩:=h.nxt (by omega)
  rw[e2,show (my - (i:Int)).toNat=(my - (i:Int) - 1).toNat+1 by omega]
  unfold linksR;rw[if_neg (by simpa using h1),hs]
theorem LkI.next {t:Tp}{res:Except Int (List Stp)}{i:Nat}{my:Int}{v:List Int}{path P:List Stp} (h:LkI t res i my v path) (hi:(i:Int)<my) (h1:v.getD 1 0=1) (hs:stepL t path v=.ok P) (hP:P≠[]) (h24:P.length≤24) (hin:∀s∈P,in64 s) :
    LkI t res (i+1) (myN i my v) (vN i v) P:=by
  have h7:=h.getD 7
  have hf:=h.few
  unfold myN vN
  by_cases h0:i=0
  ·obtain⟨e1,e2⟩:=h.fst h0
   rw[if_pos h0,if_pos h0]
   refine⟨fun h=>absurd h (by omega),fun _=>⟨by omega,?_⟩,fun x hx=>h.num x (List.mem_of_mem_drop hx),by omega,hP,h24,hin⟩
   rw[e2];unfold linked1;rw[if_neg (by simpa using h1),hs]
   simp only
   rw[show (my+v.getD 7 0 - ((i+1:Nat):Int)).toNat=(v.getD 7 0).toNat by omega]
  ·obtain⟨e1,e2⟩:=h.nxt (by omega)
   rw[if_neg h0,if_neg h0]
   refine⟨fun h=>absurd h (by omega),fun _=>⟨by omega,?_⟩,fun x hx=>h.num x (List.mem_of_mem_drop hx),by omega,hP,h24,hin⟩
   rw[e2,show (my - (i:Int)).toNat=(my - ((i+1:Nat):Int)).toNat+1 by omega]
   conv=>lhs;unfold linksR
   rw[if_neg (by simpa using h1),hs]
theorem LkI.fin {t:Tp}{res:Except Int (List Stp)}{i:Nat}{my:Int}{v:List Int}{path:List Stp} (h:LkI t res i my v path) (hi:¬(i:Int)<my):res=.ok path:=by
 by_cases h0:i=0
 ·have:=(h.fst h0).1;omega
 ·obtain⟨e1,e2⟩:=h.nxt (by omega)
  rw[e2,show (my - (i:Int)).toNat=0 by omega];rfl
def LinkRet (r:Except Int (List Stp)) (bm base:Nat) (Ap:Option Addr) (v0 v1 v3 v4:Value) (w:World) (e:Ending) (w':World):Prop:=
  Keep (fun q=>q=bm∨InRow Ap q) w w'∧match r with
    | .ok P=>e=.returned (.int .i64 0)∧∃A n c,Blk w' bm 38 #[v0,v1,.slice A n c,v3,v4]∧n=P.length∧Own w' base 30 2 A n c (stpCells P)∧(∀s∈P,in64 s)∧P.length≤24
    | .error x=>x≠0∧e=.returned (.int .i64 x)∧∃A n c,Blk w' bm 38 #[v0,v1,.slice A n c,v3,v4]
theorem TpAt.keepS {S:Nat→Prop}{w w':World}{B:Nat}{x:TA}{t:Tp} (h:TpAt w B x t) (hk:Keep S w w') (hS:∀k,S k→B≤k):TpAt w' B x t:=⟨h.e.keep hk hS,h.j.keep hk hS,h.b.keep hk hS,h.r.keep hk hS⟩
set_option maxHeartbeats 8000000 in
set_option maxRecDepth 100000 in
theorem linked_any (B bm base:Nat) (v0 v1 v3 v4:Value) (x:TA) (t:Tp) (path:List Stp) (Ap:Option Addr) (np cp:Nat) (A:Option Addr) (n c:Nat) (V:List Int) (w:World) (h:TpAt w B x t) (hs:TpSmall x t) (hck:checkM t=0) (hr:Rd w B 1 A n (V.map (.int .i64))) (hc:n≤c) (hB:B≤w.heap.size) (hBm:B≤bm) (hbB:B≤base) (hbw:base≤w.heap.size) (hV:∀x∈V,0≤x∧x<4294967296) (hm:Blk w bm 38 #[v0,v1,.slice Ap np cp,v3,v4]) (hnp:np=path.length) (ho:Own w base 30 2 Ap np cp (stpCells path)) (hp0:path≠[]) (hp24:path.length≤24) (hin:∀s∈path,in64 s) :
    Calls Tryz.prog 70 #[.agg x.cs,.pointer (some ⟨bm,0,none⟩),.slice A n c] w (LinkRet (linkedR t path V) bm base Ap v0 v1 v3 v4 w):=by
  have HO1:=qh (fun (W:World) (v:List Int) (k:Nat) (hW:RAt W B (w.heap.size+1) (v.drop k) 0 0)=>onek_any (w.heap.size+1) B v k 0 0 W hW (by omega))
  have hSB:∀k,(k=bm∨InRow Ap k)→B≤k:=fun k hk=>hk.elim (fun e=>by omega) (fun e=>by have:=(ho.row e).1;omega)
  have HBa:=qh (fun (W:World) (hk:Keep (fun q=>q=bm∨InRow Ap q) w W) (id:Int)=>bal_any x t B id W (h.keepS hk hSB) hs.b)
  have HAf:=qh (fun (W:World) (hk:Keep (fun q=>q=bm∨InRow Ap q) w W) (s:Stp)=>after_any x t B s W (h.keepS hk hSB) hs.j hs.e)
  have HNe:Hid (t.1.length≤100000000):=qh (by rw[←h.e.len];exact hs.e)
  have HCk:=qh hck
  have HBm:Hid (B≤bm∧bm<w.heap.size∧B≤base∧base≤w.heap.size∧B≤w.heap.size):=qh ⟨hBm,hm.lt,hbB,hbw,hB⟩
  have HI0:Hid (LkI t (linkedR t path V) 0 1 (V.drop 2) path):=qh ⟨fun _=>⟨rfl,linked_eq t path V⟩,fun h=>absurd h (by omega),fun x hx=>hV x (List.mem_of_mem_drop hx),by omega,hp0,hp24,hin⟩
  obtain⟨res,hres⟩:∃z,linkedR t path V=z:=⟨_,rfl⟩
  rw[hres] at HI0 ⊢
  clear hres hSB
  have HMz:=qh hm
  have HOz:=qh ho
  have HNp:Hid (np=path.length):=qh hnp
  have hr0:=hr
  obtain⟨Ae,ne,ce,Aj,nj,cj,Ab,nb,cb,Ar,nr,cr⟩:=x
  simp only[TA.cs] at HBa HAf ⊢
  clear h hs hck hm ho hnp hin hV hr
  obtain⟨w1,hw1⟩:∃V:World,w.alloc (.cells #[.slice Ae ne ce,.slice Aj nj cj,.slice Ab nb cb,.slice Ar nr cr] 27)=V:=⟨_,rfl⟩
  have zw1:w1.heap.size=w.heap.size+1:=by rw[←hw1];simp
  have kw1:Keep Never w w1:=by rw[←hw1];exact(Keep.refl _ _).alloc _
  have bw1:=Blk.new w 27 #[.slice Ae ne ce,.slice Aj nj cj,.slice Ab nb cb,.slice Ar nr cr]
  rw[hw1] at bw1
  obtain⟨w2,hw2⟩:∃V:World,w1.alloc (.cells #[.slice A n c,.int .i64 0,.int .i64 0] 165)=V:=⟨_,rfl⟩
  have kw2:Keep Never w1 w2:=by rw[←hw2];exact(Keep.refl _ _).alloc _
  have bw2:=Blk.new w1 165 #[.slice A n c,.int .i64 0,.int .i64 0]
  rw[hw2,zw1] at bw2
  have HB1:=qh (bw1.keep kw2 (fun h=>h))
  have HB2:=qh bw2
  have HK:=qh (kw1.trans kw2)
  clear kw1 kw2 bw1 bw2
  have HA2:Hid (RAt w2 B (w.heap.size+1) (V.drop 0) 0 0):=qh ⟨A,n,c,HB2.out,by rw[List.drop_zero];exact hr0.keep HK.out (fun _ h=>h.elim),hc⟩
  have HT2:=qh HB1.out
  have HM2:=qh (HMz.out.keep HK.out (fun h=>h))
  have HO2:=qh (HOz.out.keep HK.out (fun _ _ h=>h))
  have HK2:Hid (Keep (fun q=>q=bm∨InRow Ap q) w w2):=qh (HK.out.mono (fun _ _ h=>False.elim h))
  clear hr0 HB1 HB2 HMz HOz
  go_enter Tryz.func70, Tryz.ntmps70
  go_wp2_with fail
  clear hw1 hw2 zw1
  obtain⟨z0,hz0⟩:∃z,V.getD 0 0=z:=⟨_,rfl⟩
  obtain⟨z1,hz1⟩:∃z,V.getD 1 0=z:=⟨_,rfl⟩
  have HXz0:=qh hz0
  have HXz1:=qh hz1
  clear hz0 hz1
  have hw:=HO1.out w2 V 0 HA2.out
  rw[HXz0.out] at hw
  go_wp2_with fail
  refine hw.mono ?_
  rintro en w3 ⟨rfl,hr,hk⟩
  have HA3:=qh hr
  have HT3:=qh (HT2.out.keep hk (HA2.out.not HT2.out (by decide)))
  have HM3:=qh (HM2.out.keep hk (HA2.out.not HM2.out (by decide)))
  have HO3:=qh (HO2.out.keep hk (fun q h1 h2=>HA2.out.row HO2.out (by decide) q h1 h2))
  have HK3:=qh (HK2.out.then_ hk (fun i hi h=>by have h2:i=w.heap.size+1:=h;omega))
  clear hr hk hw
  have hw:=HO1.out w3 V 1 HA3.out
  rw[HXz1.out] at hw
  go_wp2_with fail
  refine hw.mono ?_
  rintro en w4 ⟨rfl,hr,hk⟩
  have HA4:=qh hr
  have HT4:=qh (HT3.out.keep hk (HA3.out.not HT3.out (by decide)))
  have HM4:=qh (HM3.out.keep hk (HA3.out.not HM3.out (by decide)))
  have HO4:=qh (HO3.out.keep hk (fun q h1 h2=>HA3.out.row HO3.out (by decide) q h1 h2))
  have HK4:=qh (HK3.out.then_ hk (fun i hi h=>by have h2:i=w.heap.size+1:=h;omega))
  clear hr hk hw
  have HA4b:Hid (RAt w4 B (w.heap.size+1) ((V.drop 2).drop 0) 0 0):=qh (by rw[List.drop_zero];exact HA4.out)
  obtain⟨v,hv⟩:∃z,V.drop 2=z:=⟨_,rfl⟩
  rw[hv] at HA4b HI0
  clear hv HA4
  go_wp2_with fail
  go_loopw [8,9] (fun tm ti wr=>∃(i:Nat) (my:Int) (v:List Int) (path:List Stp) (A:Option Addr) (n c:Nat),tm=.int .i64 my∧ti=.int .i64 i∧n≤24∧Hid (LkI t res i my v path∧RAt wr B (w.heap.size+1) (v.drop 0) 0 0∧Blk wr w.heap.size 27 #[.slice Ae ne ce,.slice Aj nj cj,.slice Ab nb cb,.slice Ar nr cr]∧Blk wr bm 38 #[v0,v1,.slice A n c,v3,v4]∧n=path.length∧Own wr base 30 2 A n c (stpCells path)∧Keep (fun q=>q=bm∨InRow Ap q) w wr∧(∀q,InRow A q→InRow Ap q∨w.heap.size≤q))) (fun tm ti _=>if intOf ti=0 then 9000000000 else (intOf tm - intOf ti).toNat)
  case atStart=>exact⟨0,1,v,path,Ap,np,cp,rfl,rfl,by have:=HNp.out;omega,qh ⟨HI0.out,HA4b.out,HT4.out,HM4.out,HNp.out,HO4.out,HK4.out,fun q h=>.inl h⟩⟩
  case round=>
   clear HA4b HT4 HM4 HO4 HK4 HI0 HNp hp24 hp0 HK
   rename List Stp=>path0
   obtain⟨i,my,v,path,Aw,nw,cw,rfl,rfl,hnw,HH⟩:=hrel
   have HIr:=qh HH.out.1
   have HAr:=qh HH.out.2.1
   have HTr:=qh HH.out.2.2.1
   have HMr:=qh HH.out.2.2.2.1
   have HNr:=qh HH.out.2.2.2.2.1
   have HOr:=qh HH.out.2.2.2.2.2.1
   have HKr:=qh HH.out.2.2.2.2.2.2.1
   have HWr:=qh HH.out.2.2.2.2.2.2.2
   clear HH
   by_cases h0:(i:Int)<my
   case neg=>
    have t0:decide ((i:Int)<my)=false:=by simpa using h0
    have HF:Hid (res=.ok path):=qh (HIr.out.fin h0)
    clear h0
    go_wp2_with fail
    go_ret
    refine⟨HKr.out,?_⟩
    rw[HF.out]
    exact⟨rfl,Aw,nw,cw,HMr.out,HNr.out,HOr.out,HIr.out.in_,HIr.out.p24⟩
   have t0:decide ((i:Int)<my)=true:=by simpa using h0
   have HI:=qh h0
   clear h0
   obtain⟨x0,hx0⟩:∃z,v.getD 0 0=z:=⟨_,rfl⟩
   have HXx0:=qh hx0
   have HZx0:=qh (HIr.out.getD 0)
   rw[hx0] at HZx0
   clear hx0
   obtain⟨x1,hx1⟩:∃z,v.getD 1 0=z:=⟨_,rfl⟩
   have HXx1:=qh hx1
   have HZx1:=qh (HIr.out.getD 1)
   rw[hx1] at HZx1
   clear hx1
   obtain⟨x2,hx2⟩:∃z,v.getD 2 0=z:=⟨_,rfl⟩
   have HXx2:=qh hx2
   have HZx2:=qh (HIr.out.getD 2)
   rw[hx2] at HZx2
   clear hx2
   obtain⟨x3,hx3⟩:∃z,v.getD 3 0=z:=⟨_,rfl⟩
   have HXx3:=qh hx3
   have HZx3:=qh (HIr.out.getD 3)
   rw[hx3] at HZx3
   clear hx3
   obtain⟨x4,hx4⟩:∃z,v.getD 4 0=z:=⟨_,rfl⟩
   have HXx4:=qh hx4
   have HZx4:=qh (HIr.out.getD 4)
   rw[hx4] at HZx4
   clear hx4
   obtain⟨x5,hx5⟩:∃z,v.getD 5 0=z:=⟨_,rfl⟩
   have HXx5:=qh hx5
   have HZx5:=qh (HIr.out.getD 5)
   rw[hx5] at HZx5
   clear hx5
   obtain⟨x6,hx6⟩:∃z,v.getD 6 0=z:=⟨_,rfl⟩
   have HXx6:=qh hx6
   have HZx6:=qh (HIr.out.getD 6)
   rw[hx6] at HZx6
   clear hx6
   obtain⟨x7,hx7⟩:∃z,v.getD 7 0=z:=⟨_,rfl⟩
   have HXx7:=qh hx7
   have HZx7:=qh (HIr.out.getD 7)
   rw[hx7] at HZx7
   clear hx7
   have hw:=HO1.out wr v 0 HAr.out
   rw[HXx0.out] at hw
   go_wp2_with fail
   refine hw.mono ?_
   rintro en w5 ⟨rfl,hr,hk⟩
   have HA5:=qh hr
   have HT5:=qh (HTr.out.keep hk (HAr.out.not HTr.out (by decide)))
   have HM5:=qh (HMr.out.keep hk (HAr.out.not HMr.out (by decide)))
   have HO5:=qh (HOr.out.keep hk (fun q h1 h2=>HAr.out.row HOr.out (by decide) q h1 h2))
   have HK5:=qh (HKr.out.then_ hk (fun i hi h=>by have h2:i=w.heap.size+1:=h;omega))
   clear hr hk hw
   have hw:=HO1.out w5 v 1 HA5.out
   rw[HXx1.out] at hw
   go_wp2_with fail
   refine hw.mono ?_
   rintro en w6 ⟨rfl,hr,hk⟩
   have HA6:=qh hr
   have HT6:=qh (HT5.out.keep hk (HA5.out.not HT5.out (by decide)))
   have HM6:=qh (HM5.out.keep hk (HA5.out.not HM5.out (by decide)))
   have HO6:=qh (HO5.out.keep hk (fun q h1 h2=>HA5.out.row HO5.out (by decide) q h1 h2))
   have HK6:=qh (HK5.out.then_ hk (fun i hi h=>by have h2:i=w.heap.size+1:=h;omega))
   clear hr hk hw
   by_cases g1:x1=1
   case neg=>
    have t1:(x1 != 1)=true:=by simpa using g1
    have HF:Hid (res=.error 20):=qh (HIr.out.bad HI.out (by rw[HXx1.out];exact g1))
    clear g1
    go_wp2_with fail
    go_ret
    refine⟨HK6.out,?_⟩
    rw[HF.out]
    exact⟨by decide,rfl,_,_,_,HM6.out⟩
   have t1:(x1 != 1)=false:=by simpa using g1
   have HG1:Hid (v.getD 1 0=1):=qh (HXx1.out.trans g1)
   clear g1
   have hw:=HO1.out w6 v 2 HA6.out
   rw[HXx2.out] at hw
   go_wp2_with fail
   refine hw.mono ?_
   rintro en w7 ⟨rfl,hr,hk⟩
   have HA7:=qh hr
   have HT7:=qh (HT6.out.keep hk (HA6.out.not HT6.out (by decide)))
   have HM7:=qh (HM6.out.keep hk (HA6.out.not HM6.out (by decide)))
   have HO7:=qh (HO6.out.keep hk (fun q h1 h2=>HA6.out.row HO6.out (by decide) q h1 h2))
   have HK7:=qh (HK6.out.then_ hk (fun i hi h=>by have h2:i=w.heap.size+1:=h;omega))
   clear hr hk hw
   have hs1:wrap64 (x2*16384)=x2*16384:=by have h1:=HZx2.out;have h2:IntKind.i64.wrap (x2*16384)=x2*16384:=IntWalk.i64_in _ (by omega);rwa [IntWalk.i64_left] at h2
   have hs2:IntKind.i64.wrap (x2*16384)=x2*16384:=by have h1:=HZx2.out;exact IntWalk.i64_in _ (by omega)
   go_wp2_with fail
   clear hs1 hs2
   have hw:=HO1.out w7 v 3 HA7.out
   rw[HXx3.out] at hw
   refine hw.mono ?_
   rintro en w8 ⟨rfl,hr,hk⟩
   have HA8:=qh hr
   have HT8:=qh (HT7.out.keep hk (HA7.out.not HT7.out (by decide)))
   have HM8:=qh (HM7.out.keep hk (HA7.out.not HM7.out (by decide)))
   have HO8:=qh (HO7.out.keep hk (fun q h1 h2=>HA7.out.row HO7.out (by decide) q h1 h2))
   have HK8:=qh (HK7.out.then_ hk (fun i hi h=>by have h2:i=w.heap.size+1:=h;omega))
   clear hr hk hw
   obtain⟨y2,hy2⟩:∃z,x2*16384=z:=⟨_,rfl⟩
   (try rw[hy2])
   obtain⟨id,hid⟩:∃z,bits .or .i64 y2 x3=z:=⟨_,rfl⟩
   have HId:Hid (idL v=id):=qh (by unfold idL orV;rw[HXx2.out,HXx3.out,hy2,hid])
   clear hy2
   go_wp2_with fail
   clear hid
   have hw:=HO1.out w8 v 4 HA8.out
   rw[HXx4.out] at hw
   refine hw.mono ?_
   rintro en w9 ⟨rfl,hr,hk⟩
   have HA9:=qh hr
   have HT9:=qh (HT8.out.keep hk (HA8.out.not HT8.out (by decide)))
   have HM9:=qh (HM8.out.keep hk (HA8.out.not HM8.out (by decide)))
   have HO9:=qh (HO8.out.keep hk (fun q h1 h2=>HA8.out.row HO8.out (by decide) q h1 h2))
   have HK9:=qh (HK8.out.then_ hk (fun i hi h=>by have h2:i=w.heap.size+1:=h;omega))
   clear hr hk hw
   obtain⟨bv,hbv⟩:∃z,(x4==0)=z:=⟨_,rfl⟩
   have HBv:Hid (decide (v.getD 4 0=0)=bv):=qh (by rw[HXx4.out,←hbv];rfl)
   go_upto_region 14 with(fail)
   obtain⟨w10,hw10⟩:∃V:World,w9.alloc (.cells #[.int .i64 0,.bool bv] 30)=V:=⟨_,rfl⟩
   rw[hw10]
   have hk:Keep Never w9 w10:=by rw[←hw10];exact(Keep.refl _ _).alloc _
   have B10:=Blk.new w9 30 #[.int .i64 0,.bool bv]
   rw[hw10] at B10
   obtain⟨bst,hbst⟩:∃q,w9.heap.size=q:=⟨_,rfl⟩
   rw[hbst] at B10 ⊢
   have HA10:=qh (HA9.out.never hk)
   have HT10:=qkb HT9 hk
   have HM10:=qkb HM9 hk
   have HO10:=qko HO9 hk
   have HK10:=qh (HK9.out.then_ hk (fun _ _ h=>False.elim h))
   have HS10:=qh B10
   have HBs:Hid (w.heap.size≤bst):=qh (by rw[←hbst];exact HK9.out.size)
   have HNs:Hid (∀q,InRow Aw q→q≠bst):=qh (fun q h e=>by have:=(HO9.out.row h).2;omega)
   clear hk B10 hw10 hbst hbv
   have hw:=HO1.out w10 v 5 HA10.out
   rw[HXx5.out] at hw
   go_wp2_with fail
   refine hw.mono ?_
   rintro en w11 ⟨rfl,hr,hk⟩
   have HA11:=qh hr
   have HT11:=qh (HT10.out.keep hk (HA10.out.not HT10.out (by decide)))
   have HM11:=qh (HM10.out.keep hk (HA10.out.not HM10.out (by decide)))
   have HS11:=qh (HS10.out.keep hk (HA10.out.not HS10.out (by decide)))
   have HO11:=qh (HO10.out.keep hk (fun q h1 h2=>HA10.out.row HO10.out (by decide) q h1 h2))
   have HK11:=qh (HK10.out.then_ hk (fun i hi h=>by have h2:i=w.heap.size+1:=h;omega))
   clear hr hk hw
   have hw:=HO1.out w11 v 6 HA11.out
   rw[HXx6.out] at hw
   go_wp2_with fail
   refine hw.mono ?_
   rintro en w12 ⟨rfl,hr,hk⟩
   have HA12:=qh hr
   have HT12:=qh (HT11.out.keep hk (HA11.out.not HT11.out (by decide)))
   have HM12:=qh (HM11.out.keep hk (HA11.out.not HM11.out (by decide)))
   have HS12:=qh (HS11.out.keep hk (HA11.out.not HS11.out (by decide)))
   have HO12:=qh (HO11.out.keep hk (fun q h1 h2=>HA11.out.row HO11.out (by decide) q h1 h2))
   have HK12:=qh (HK11.out.then_ hk (fun i hi h=>by have h2:i=w.heap.size+1:=h;omega))
   clear hr hk hw
   by_cases g0:i=0
   ·subst g0
    have hmy1:=HIr.out.few.2
    have hx7:=HZx7.out
    have hi0:=HI.out
    have hwm:wrap64 (my+x7)=my+x7:=by have h2:IntKind.i64.wrap (my+x7)=my+x7:=IntWalk.i64_in _ (by omega);rwa [IntWalk.i64_left] at h2
    have hwm2:IntKind.i64.wrap (my+x7)=my+x7:=IntWalk.i64_in _ (by omega)
    have HMy:Hid (myN 0 my v=my+x7):=qh (by unfold myN;rw[if_pos rfl,HXx7.out])
    have HVn:Hid (vN 0 v=v.drop 8):=qh rfl
    have HMs:Hid ((my+x7 - 1).toNat<9000000000):=qh (by omega)
    clear hmy1 hx7 hi0
    have hw:=HO1.out w12 v 7 HA12.out
    rw[HXx7.out] at hw
    go_wp2_with fail
    refine hw.mono ?_
    rintro en w13 ⟨rfl,hr,hk⟩
    have HA13:=qh hr
    have HT13:=qh (HT12.out.keep hk (HA12.out.not HT12.out (by decide)))
    have HM13:=qh (HM12.out.keep hk (HA12.out.not HM12.out (by decide)))
    have HS13:=qh (HS12.out.keep hk (HA12.out.not HS12.out (by decide)))
    have HO13:=qh (HO12.out.keep hk (fun q h1 h2=>HA12.out.row HO12.out (by decide) q h1 h2))
    have HK13:=qh (HK12.out.then_ hk (fun i hi h=>by have h2:i=w.heap.size+1:=h;omega))
    clear hr hk hw
    go_upto_region 18 with(fail)
    (try rw[hwm])
    obtain⟨my2,hmy2⟩:∃z,my+x7=z:=⟨_,rfl⟩
    rw[hmy2] at HMy HMs
    (try rw[hmy2])
    clear hmy2 hwm hwm2
    have hw:=HBa.out w13 HK13.out id
    unfold BalRet at hw
    obtain⟨ob,hob⟩:∃z,balM t.2.2.1 id=z:=⟨_,rfl⟩
    rw[hob] at hw
    have HC:=qh hw
    have HOb:=qh hob
    clear hw hob
    obtain⟨y0,y1,y2,y3⟩:=bc4 HT13.out
    go_wp2_with fail
    refine HC.out.mono ?_
    rintro en w20 ⟨rfl,hk⟩
    have HA20:=qh (HA13.out.never hk)
    have HT20:=qkb HT13 hk
    have HM20:=qkb HM13 hk
    have HS20:=qkb HS13 hk
    have HO20:=qko HO13 hk
    have HK20:=qh (HK13.out.then_ hk (fun _ _ h=>False.elim h))
    clear hk HC y0 y1 y2 y3
    cases ob with
    | none=>
     simp only[Option.getD,Option.isSome]
     have HF:Hid (res=.error 4):=qh (HIr.out.err HI.out HG1.out (step_none (by rw[HId.out];exact HOb.out)))
     have HKz:=qh (HK20.out.alloc (.cells #[.int .i64 0,.int .i64 0,.int .i64 0] 94))
     have HMz:=qh (HM20.out.alloc (.cells #[.int .i64 0,.int .i64 0,.int .i64 0] 94))
     go_wp2_with fail
     go_ret
     refine⟨HKz.out,?_⟩
     rw[HF.out]
     exact⟨by decide,rfl,_,_,_,HMz.out⟩
    | some b=>
     simp only[Option.getD,Option.isSome]
     obtain⟨b1,b2,b3⟩:=b
     obtain⟨w21,hw21⟩:∃V:World,w20.alloc (.cells #[.int .i64 b1,.int .i64 b2,.int .i64 b3] 94)=V:=⟨_,rfl⟩
     have hk:Keep Never w20 w21:=by rw[←hw21];exact(Keep.refl _ _).alloc _
     have B21:=Blk.new w20 94 #[.int .i64 b1,.int .i64 b2,.int .i64 b3]
     rw[hw21] at B21
     obtain⟨bb,hbb⟩:∃q,w20.heap.size=q:=⟨_,rfl⟩
     rw[hbb] at B21
     have HA21:=qh (HA20.out.never hk)
     have HT21:=qkb HT20 hk
     have HM21:=qkb HM20 hk
     have HS21:=qkb HS20 hk
     have HO21:=qko HO20 hk
     have HK21:=qh (HK20.out.then_ hk (fun _ _ h=>False.elim h))
     have HD21:=qh B21
     clear hk B21
     have hl:path≠[]:=HIr.out.ne
     obtain⟨q,hq⟩:∃q,nw=q+1:=⟨nw - 1,by have h1:=HNr.out;have h2:=List.length_pos_iff.2 hl;omega⟩
     subst hq
     obtain⟨ad,last,hA,_,hlt,f5,f6⟩:=HO21.out.rd.stp (show q<q+1 by omega)
     subst hA
     have HLa:Hid (path.getLast?=some last):=qh (by rw[List.getLast?_eq_getElem?,←HNr.out];exact hlt)
     have HSt:=qh (step_some (by rw[HId.out];exact HOb.out) HLa.out)
     obtain⟨l1,l2⟩:=last
     simp only at f5 f6 HSt
     rw[HBv.out] at HSt
     have m2:w21.cell? ⟨bm,2,none⟩=some (.slice (some ad) (q+1) cw):=HM21.out.cell 2
     have hmw:IntKind.i64.wrap ((q:Int)+1 - 1)=(q:Int):=by rw[show (q:Int)+1 - 1=(q:Int) by omega];exact IntWalk.i64_in _ (by omega)
     have hmw3:IntKind.i64.wrap (q:Int)=(q:Int):=IntWalk.i64_in _ (by omega)
     have hmz:(q:Int)<(q:Int)+1:=by omega
     have hmq:(0:Int)≤(q:Int)+1:=by omega
     have hmt:((q:Int)+1).toNat=q+1:=by omega
     have hm0:(0:Int)≤(q:Int):=by omega
     have d1:w21.cell? ⟨bb,1,none⟩=some (.int .i64 b2):=HD21.out.cell 1
     have m2a:=fun o=>keepT ((Keep.refl Never w21).alloc o) m2
     have f5a:=fun o=>keepT ((Keep.refl Never w21).alloc o) f5
     have f6a:=fun o=>keepT ((Keep.refl Never w21).alloc o) f6
     clear hl hlt
     go_upto_region 21 with(fail)
     go_cut [14] (fun s14 wc=>∃bl,s14=.pointer (some ⟨bl,0,none⟩)∧Hid (Keep Never w21 wc∧Blk wc bl 30 #[.int .i64 l1,.bool l2]∧w21.heap.size≤bl))
     case first=>
      go_region_law (fail)
      all_goals
       go_wp2_with fail
       go_meet
       refine⟨_,rfl,qh ⟨?_,?_,?_⟩⟩
       ·first
          | exact((Keep.refl _ _).drew).alloc _
          | exact((Keep.refl _ _).alloc _).drew
          | exact(Keep.refl _ _).alloc _
       ·exact Blk.new _ _ _
       ·first
          | exact Nat.le_refl _
          | exact(Keep.refl Never w21).drew.size
     case rest=>
     obtain⟨bl,rfl,hR⟩:=hcut
     rename World=>w22
     have hk:=hR.out.1
     clear f5 f6 m2 f5a f6a m2a hmw hmw3 hmz hmq hmt hm0 d1
     have HA22:=qh (HA21.out.never hk)
     have HT22:=qkb HT21 hk
     have HM22:=qkb HM21 hk
     have HS22:=qkb HS21 hk
     have HD22:=qkb HD21 hk
     have HO22:=qko HO21 hk
     have HK22:=qh (HK21.out.then_ hk (fun _ _ h=>False.elim h))
     have HL22:=qh hR.out.2.1
     have HBl:Hid (w.heap.size≤bl∧bl≠bst):=qh ⟨Nat.le_trans HK21.out.size hR.out.2.2,by have h1:=HS21.out.lt;have h2:=hR.out.2.2;omega⟩
     clear hk hR
     have l0:w22.cell? ⟨bl,0,none⟩=some (.int .i64 l1):=HL22.out.cell 0
     have d1:w22.cell? ⟨bb,1,none⟩=some (.int .i64 b2):=HD22.out.cell 1
     by_cases g2:b2=l1
     ·have t2:(b2==l1)=true:=by simpa using g2
      have HEq:Hid (stepL t path v=.ok path):=qh (by rw[HSt.out,if_pos g2])
      clear g2
      have HNx0:=HIr.out.next HI.out HG1.out (P:=path) HEq.out HIr.out.ne HIr.out.p24 HIr.out.in_
      rw[HMy.out] at HNx0
      have HNx:=qh HNx0
      have HRx:=HA22.out
      rw[←HVn.out] at HRx
      have HRy:=qh HRx
      clear HNx0 HRx
      go_wp2_with fail
      refine⟨⟨_,my2,_,path,(some ad),(q+1),cw,rfl,by go_num,by omega,qh ⟨HNx.out,by rw[List.drop_zero];exact HRy.out,HT22.out,HM22.out,HNr.out,HO22.out,HK22.out,HWr.out⟩⟩,?_⟩
      simp[intOf];have:=HMs.out;omega
     have t2:(b2==l1)=false:=by simpa using g2
     have HNq:=qh g2
     have s0:w22.cell? ⟨bst,0,none⟩=some (.int .i64 0):=HS22.out.cell 0
     have sf0:=HS22.out.frozen 0
     clear g2
     go_upto_region 24 with(fail)
     obtain⟨w23,hw23⟩:∃V:World,w22.setCell ⟨bst,0,none⟩ (.int .i64 b2)=V:=⟨_,rfl⟩
     rw[hw23]
     have hk:Keep (fun z=>z=bst) w22 w23:=by rw[←hw23];exact put1_keep _
     have HA23:=qh (HA22.out.keep hk (fun k (h:k=bst)=>by rw[h];exact⟨by have:=HBs.out;have:=HBm.out;omega,HA22.out.not HS22.out (by decide)⟩))
     have HT23:=qh (HT22.out.keep hk (fun (h:_=bst)=>HT22.out.ne_ HS22.out (by decide) h))
     have HM23:=qh (HM22.out.keep hk (fun (h:_=bst)=>HM22.out.ne_ HS22.out (by decide) h))
     have HL23:=qh (HL22.out.keep hk (fun (h:_=bst)=>HBl.out.2 h))
     have HS23:Hid (Blk w23 bst 30 #[.int .i64 b2,.bool bv]):=qh (by rw[←hw23];have:=HS22.out.set_ 0 (.int .i64 b2);simpa using this)
     have HO23:=qh (HO22.out.keep hk (fun z h1 (h2:z=bst)=>HNs.out z h1 h2))
     have HK23:=qh (HK22.out.then_ hk (fun z hz (h:z=bst)=>by have:=HBs.out;omega))
     clear hk hw23 s0 sf0 l0 d1
     obtain⟨y0,y1,y2,y3⟩:=bc4 HT23.out
     obtain⟨l0,l1f⟩:=bc2 HL23.out
     obtain⟨s0,s1⟩:=bc2 HS23.out
     have HS2:Hid (∀W',Keep Never w23 W'→Keep Never w23 W'∧W'.cell? ⟨w.heap.size,0,none⟩=some (.slice Ae ne ce)∧W'.cell? ⟨w.heap.size,1,none⟩=some (.slice Aj nj cj)∧W'.cell? ⟨w.heap.size,2,none⟩=some (.slice Ab nb cb)∧W'.cell? ⟨w.heap.size,3,none⟩=some (.slice Ar nr cr)∧W'.cell? ⟨bl,0,none⟩=some (.int .i64 l1)∧W'.cell? ⟨bl,1,none⟩=some (.bool l2)∧W'.cell? ⟨bst,0,none⟩=some (.int .i64 b2)∧W'.cell? ⟨bst,1,none⟩=some (.bool bv)):=qh (fun W' h=>⟨h,keepT h y0,keepT h y1,keepT h y2,keepT h y3,keepT h l0,keepT h l1f,keepT h s0,keepT h s1⟩)
     have HLa2:=qh (fun (n7:Nat) (h:n7=(afterM t (l1,l2)).length)=>(show n7≤1000000000 by have h2:=after_len t (l1,l2);have h3:=HNe.out;omega))
     clear y0 y1 y2 y3 l0 l1f s0 s1
     go_region_held3 (fun W'=>Keep Never w23 W'∧W'.cell? ⟨w.heap.size,0,none⟩=some (.slice Ae ne ce)∧W'.cell? ⟨w.heap.size,1,none⟩=some (.slice Aj nj cj)∧W'.cell? ⟨w.heap.size,2,none⟩=some (.slice Ab nb cb)∧W'.cell? ⟨w.heap.size,3,none⟩=some (.slice Ar nr cr)∧W'.cell? ⟨bl,0,none⟩=some (.int .i64 l1)∧W'.cell? ⟨bl,1,none⟩=some (.bool l2)∧W'.cell? ⟨bst,0,none⟩=some (.int .i64 b2)∧W'.cell? ⟨bst,1,none⟩=some (.bool bv))
       (first| assumption | exact HS2.out _ ((Keep.refl Never w23).drew) | exact HS2.out _ (Keep.trans (And.left (by assumption)) hk3) | exact HS2.out _ (Keep.trans ((Keep.refl Never w23).drew) hk3))
       (first
         | (go_at_call 30; refine(HAf.out _ (HK23.out.then_ (by first | exact And.left (by assumption) | exact(Keep.refl Never w23).drew | exact Keep.refl Never w23) (fun _ _ h=>False.elim h)) (l1,l2)).mono ?_;rintro e w30 ⟨A7,n7,c7,rfl,hn7,ho7,hk3⟩;have HR7:=qh ho7.rd;have HN7:=qh (HLa2.out n7 hn7.out);clear ho7 hn7)
         | (go_at_call 43; refine(scontains_any A7 n7 c7 _ _ (b2,bv) _ HR7.out HN7.out).mono ?_;rintro e w31 ⟨rfl,hk3⟩))
     rename_i hS
     have hk:=hS.1
     have HA31:=qh (HA23.out.never hk)
     have HT31:=qkb HT23 hk
     have HM31:=qkb HM23 hk
     have HS31:=qkb HS23 hk
     have HO31:=qko HO23 hk
     have HK31:=qh (HK23.out.then_ hk (fun _ _ h=>False.elim h))
     clear hS hk HS2 hk3
     rw[show decide (((b2,bv):Stp)∈afterM t (l1,l2))=(afterM t (l1,l2)).contains (b2,bv) from by rw[List.contains_eq_mem]]
     obtain⟨ca,hca⟩:∃z,(afterM t (l1,l2)).contains (b2,bv)=z:=⟨_,rfl⟩
     rw[hca] at HSt ⊢
     clear hca
     cases ca with
     | false=>
      have HF:Hid (res=.error 141):=qh (HIr.out.err HI.out HG1.out (by rw[HSt.out,if_neg HNq.out,if_pos rfl]))
      go_wp2_with fail
      go_ret
      refine⟨HK31.out,?_⟩
      rw[HF.out]
      exact⟨by decide,rfl,_,_,_,HM31.out⟩
     | true=>
      have HSt2:Hid (stepL t path v=if overB path b2=true∨path.length=24 then .error 2 else .ok (path++[(b2,bv)])):=qh (by rw[HSt.out,if_neg HNq.out,if_neg (by simp)])
      clear HSt
      have m2:w31.cell? ⟨bm,2,none⟩=some (.slice (some ad) (q+1) cw):=HM31.out.cell 2
      have s0:w31.cell? ⟨bst,0,none⟩=some (.int .i64 b2):=HS31.out.cell 0
      have HS2:Hid (∀W',Keep Never w31 W'→Keep Never w31 W'∧W'.cell? ⟨bm,2,none⟩=some (.slice (some ad) (q+1) cw)∧W'.cell? ⟨bst,0,none⟩=some (.int .i64 b2)):=qh (fun W' h=>⟨h,keepT h m2,keepT h s0⟩)
      have HRp:=qh (fun V (h:Keep Never w31 V)=>HO31.out.rd.keep h (fun _ h=>h.elim))
      obtain⟨ov,hov⟩:∃z,overB path b2=z:=⟨_,rfl⟩
      have HOv:=qh (fun V (h:Keep Never w31 V)=>pover17_any (some ad) (q+1) cw _ path b2 V (HRp.out V h) (by omega))
      rw[hov] at HOv HSt2
      go_upto_region 26 with(fail)
      clear m2 s0 hov
      go_region_held3 (fun W'=>Keep Never w31 W'∧W'.cell? ⟨bm,2,none⟩=some (.slice (some ad) (q+1) cw)∧W'.cell? ⟨bst,0,none⟩=some (.int .i64 b2))
        (first| assumption | exact HS2.out _ ((Keep.refl Never w31).drew) | exact HS2.out _ (Keep.trans (And.left (by assumption)) hk3) | exact HS2.out _ (Keep.trans ((Keep.refl Never w31).drew) hk3))
        (first
          | (go_at_call 46; refine(HOv.out _ (by first | exact And.left (by assumption) | exact(Keep.refl Never w31).drew | exact Keep.refl Never w31)).mono ?_;rintro e w32 ⟨rfl,hk3⟩))
      rename_i hS
      have hk:=hS.1
      have HA33:=qh (HA31.out.never hk)
      have HT33:=qkb HT31 hk
      have HM33:=qkb HM31 hk
      have HS33:=qkb HS31 hk
      have HO33:=qko HO31 hk
      have HK33:=qh (HK31.out.then_ hk (fun _ _ h=>False.elim h))
      clear hS hk HS2 hk3
      cases ov with
      | true=>
       have HF:Hid (res=.error 2):=qh (HIr.out.err HI.out HG1.out (by rw[HSt2.out,if_pos (.inl rfl)]))
       go_wp2_with fail
       go_ret
       refine⟨HK33.out,?_⟩
       rw[HF.out]
       exact⟨by decide,rfl,_,_,_,HM33.out⟩
      | false=>
       rename World=>w33
       have m2:w33.cell? ⟨bm,2,none⟩=some (.slice (some ad) (q+1) cw):=HM33.out.cell 2
       by_cases g5:q+1=24
       case pos=>
        have u1:((q:Int)+1==24)=true:=by simp;omega
        have u2:(((q+1:Nat):Int)==24)=true:=by simp;omega
        have HF:Hid (res=.error 2):=qh (HIr.out.err HI.out HG1.out (by rw[HSt2.out,if_pos (.inr (by rw[←HNr.out];exact g5))]))
        clear g5
        go_wp2_with fail
        go_ret
        refine⟨HK33.out,?_⟩
        rw[HF.out]
        exact⟨by decide,rfl,_,_,_,HM33.out⟩
       have u1:((q:Int)+1==24)=false:=by simp;omega
       have u2:(((q+1:Nat):Int)==24)=false:=by simp;omega
       have HEq:Hid (stepL t path v=.ok (path++[(b2,bv)])):=qh (by rw[HSt2.out,if_neg (by rintro(h | h);exact absurd h (by decide);exact g5 (by rw[HNr.out];exact h))])
       have hq24:q+2≤24:=by omega
       have HB2:Hid (in64 ((b2,bv):Stp)):=qh (in64_there (check_bal HCk.out (bal_mem HOb.out).1).2.2.1 HNe.out)
       clear g5
       obtain⟨s0,s1⟩:=bc2 HS33.out
       have m2a:=fun o=>keepT ((Keep.refl Never w33).alloc o) m2
       have hz33:w.heap.size≤w33.heap.size:=HK33.out.size
       have hb33:base≤w33.heap.size:=by have:=HBm.out;omega
       go_upto_region 29 with(fail)
       go_region_law (refine step_app _ rfl (.tmp 106) (.tmp 108) _ rfl elemStp (base) (A:=(some ad)) (n:=(q+1)) (c:=cw) (by go_simp) (HO33.out.alloc _) _ (A':=some ⟨_,0,none⟩) (m:=1) (c':=1) (news:=[.int .i64 b2,.bool bv]) (by go_simp) (Rd.of_blk (n:=1) (cs:=[.int .i64 b2,.bool bv]) (Blk.new _ _ _) rfl) (by simp[Value.oneCell']) (by omega) (by unfold maxLen;omega) (by simp;omega) ?_;intro A16 c16 w16 hown hk hrow;have hk16:Keep (InRow (some ad)) w33 w16:=(by first | exact(((Keep.refl (InRow (some ad)) w33).alloc _).drew).trans hk | exact(((Keep.refl (InRow (some ad)) w33).drew).alloc _).trans hk | exact((Keep.refl (InRow (some ad)) w33).alloc _).trans hk);have HO16:=qh hown;have HA16:=qh (HA33.out.keep hk16 (fun k h=>⟨by have h1:=(HO33.out.row h).1;have:=HBm.out;omega,HA33.out.row HO33.out (by decide) k h⟩));have HT16:=qh (HT33.out.keep hk16 (fun hi=>HO33.out.ne_blk HT33.out (by decide) _ hi rfl));have HM16:=qh (HM33.out.keep hk16 (fun hi=>HO33.out.ne_blk HM33.out (by decide) _ hi rfl));have HK16:=qh (HK33.out.then_ hk16 (fun k hk hi=>by rcases HWr.out k hi with h | h;exact .inr h;omega));have HWx:Hid (∀k,InRow A16 k→InRow Ap k∨w.heap.size≤k):=qh (fun k h=>by rcases hrow.out k h with h | h;exact HWr.out k h;right;rw[h];first | exact Nat.le_trans hz33 (Keep.size ((Keep.refl Never w33).alloc _)) | exact Nat.le_trans hz33 (Keep.size (((Keep.refl Never w33).alloc _).drew)) | exact Nat.le_trans hz33 (Keep.size (((Keep.refl Never w33).drew).alloc _)));have m2:w16.cell? ⟨bm,2,none⟩=some (.slice (some ad) (q+1) cw):=HM16.out.cell 2;have mf2:=HM16.out.frozen 2;clear hk16;clear hown hk hrow)
       all_goals
        obtain⟨w40,hw40⟩:∃V:World,w16.setCell ⟨bm,2,none⟩ (.slice A16 (q+1+1) c16)=V:=⟨_,rfl⟩
        have hk17:Keep (fun z=>z=bm) w16 w40:=by rw[←hw40];exact put1_keep _
        have HA40:=qh (HA16.out.keep hk17 (fun k (h:k=bm)=>by rw[h];exact⟨HBm.out.1,HA16.out.not HM16.out (by decide)⟩))
        have HT40:=qh (HT16.out.keep hk17 (fun h=>HT16.out.ne_ HM16.out (by decide) h))
        have HM40:Hid (Blk w40 bm 38 #[v0,v1,.slice A16 (q+1+1) c16,v3,v4]):=qh (by rw[←hw40];have:=HM16.out.set_ 2 (.slice A16 (q+1+1) c16);simpa using this)
        have HO40:Hid (Own w40 base 30 2 A16 (q+1+1) c16 (stpCells (path++[(b2,bv)]))):=qh (by rw[←hw40,stpCells_app];exact HO16.out.far (HO16.out.ne_blk HM16.out (by decide)) _)
        have HK40:=qh (HK16.out.then_ hk17 (fun _ _ h=>.inl h))
        (try rw[hw40])
        clear hk17 m2 m2a s0 s1 hz33 hb33
        have HNx0:=HIr.out.next HI.out HG1.out (P:=(path++[(b2,bv)])) HEq.out (by simp) (by have h1:=HNr.out;simp;omega) (fun s hs=>by rcases List.mem_append.1 hs with h | h;exact HIr.out.in_ s h;simp at h;subst h;exact HB2.out)
        rw[HMy.out] at HNx0
        have HNx:=qh HNx0
        have HRx:=HA40.out
        rw[←HVn.out] at HRx
        have HRy:=qh HRx
        clear HNx0 HRx
        go_wp2_with fail
        (try rw[hw40])
        refine⟨⟨_,my2,_,(path++[(b2,bv)]),A16,(q+1+1),c16,rfl,by go_num,by omega,qh ⟨HNx.out,by rw[List.drop_zero];exact HRy.out,HT40.out,HM40.out,(by have h1:=HNr.out;simp;omega),HO40.out,HK40.out,HWx.out⟩⟩,?_⟩
        simp[intOf];have:=HMs.out;omega
   ·have ti:((i:Int)==0)=false:=by simp;omega
    have HMy:Hid (myN i my v=my):=qh (by unfold myN;rw[if_neg g0])
    have HVn:Hid (vN i v=v.drop 7):=qh (by unfold vN;rw[if_neg g0])
    have HMs:Hid ((if ((i:Int)+1)=0 then 9000000000 else (my - ((i:Int)+1)).toNat)<(if (i:Int)=0 then 9000000000 else (my - (i:Int)).toNat)):=qh (by have:=HI.out;rw[if_neg (by omega),if_neg (by omega)];omega)
    clear g0
    go_upto_region 18 with(fail)
    have hw:=HBa.out w12 HK12.out id
    unfold BalRet at hw
    obtain⟨ob,hob⟩:∃z,balM t.2.2.1 id=z:=⟨_,rfl⟩
    rw[hob] at hw
    have HC:=qh hw
    have HOb:=qh hob
    clear hw hob
    obtain⟨y0,y1,y2,y3⟩:=bc4 HT12.out
    go_wp2_with fail
    refine HC.out.mono ?_
    rintro en w20 ⟨rfl,hk⟩
    have HA20:=qh (HA12.out.never hk)
    have HT20:=qkb HT12 hk
    have HM20:=qkb HM12 hk
    have HS20:=qkb HS12 hk
    have HO20:=qko HO12 hk
    have HK20:=qh (HK12.out.then_ hk (fun _ _ h=>False.elim h))
    clear hk HC y0 y1 y2 y3
    cases ob with
    | none=>
     simp only[Option.getD,Option.isSome]
     have HF:Hid (res=.error 4):=qh (HIr.out.err HI.out HG1.out (step_none (by rw[HId.out];exact HOb.out)))
     have HKz:=qh (HK20.out.alloc (.cells #[.int .i64 0,.int .i64 0,.int .i64 0] 94))
     have HMz:=qh (HM20.out.alloc (.cells #[.int .i64 0,.int .i64 0,.int .i64 0] 94))
     go_wp2_with fail
     go_ret
     refine⟨HKz.out,?_⟩
     rw[HF.out]
     exact⟨by decide,rfl,_,_,_,HMz.out⟩
    | some b=>
     simp only[Option.getD,Option.isSome]
     obtain⟨b1,b2,b3⟩:=b
     obtain⟨w21,hw21⟩:∃V:World,w20.alloc (.cells #[.int .i64 b1,.int .i64 b2,.int .i64 b3] 94)=V:=⟨_,rfl⟩
     have hk:Keep Never w20 w21:=by rw[←hw21];exact(Keep.refl _ _).alloc _
     have B21:=Blk.new w20 94 #[.int .i64 b1,.int .i64 b2,.int .i64 b3]
     rw[hw21] at B21
     obtain⟨bb,hbb⟩:∃q,w20.heap.size=q:=⟨_,rfl⟩
     rw[hbb] at B21
     have HA21:=qh (HA20.out.never hk)
     have HT21:=qkb HT20 hk
     have HM21:=qkb HM20 hk
     have HS21:=qkb HS20 hk
     have HO21:=qko HO20 hk
     have HK21:=qh (HK20.out.then_ hk (fun _ _ h=>False.elim h))
     have HD21:=qh B21
     clear hk B21
     have hl:path≠[]:=HIr.out.ne
     obtain⟨q,hq⟩:∃q,nw=q+1:=⟨nw - 1,by have h1:=HNr.out;have h2:=List.length_pos_iff.2 hl;omega⟩
     subst hq
     obtain⟨ad,last,hA,_,hlt,f5,f6⟩:=HO21.out.rd.stp (show q<q+1 by omega)
     subst hA
     have HLa:Hid (path.getLast?=some last):=qh (by rw[List.getLast?_eq_getElem?,←HNr.out];exact hlt)
     have HSt:=qh (step_some (by rw[HId.out];exact HOb.out) HLa.out)
     obtain⟨l1,l2⟩:=last
     simp only at f5 f6 HSt
     rw[HBv.out] at HSt
     have m2:w21.cell? ⟨bm,2,none⟩=some (.slice (some ad) (q+1) cw):=HM21.out.cell 2
     have hmw:IntKind.i64.wrap ((q:Int)+1 - 1)=(q:Int):=by rw[show (q:Int)+1 - 1=(q:Int) by omega];exact IntWalk.i64_in _ (by omega)
     have hmw3:IntKind.i64.wrap (q:Int)=(q:Int):=IntWalk.i64_in _ (by omega)
     have hmz:(q:Int)<(q:Int)+1:=by omega
     have hmq:(0:Int)≤(q:Int)+1:=by omega
     have hmt:((q:Int)+1).toNat=q+1:=by omega
     have hm0:(0:Int)≤(q:Int):=by omega
     have d1:w21.cell? ⟨bb,1,none⟩=some (.int .i64 b2):=HD21.out.cell 1
     have m2a:=fun o=>keepT ((Keep.refl Never w21).alloc o) m2
     have f5a:=fun o=>keepT ((Keep.refl Never w21).alloc o) f5
     have f6a:=fun o=>keepT ((Keep.refl Never w21).alloc o) f6
     clear hl hlt
     go_upto_region 21 with(fail)
     go_cut [14] (fun s14 wc=>∃bl,s14=.pointer (some ⟨bl,0,none⟩)∧Hid (Keep Never w21 wc∧Blk wc bl 30 #[.int .i64 l1,.bool l2]∧w21.heap.size≤bl))
     case first=>
      go_region_law (fail)
      all_goals
       go_wp2_with fail
       go_meet
       refine⟨_,rfl,qh ⟨?_,?_,?_⟩⟩
       ·first
          | exact((Keep.refl _ _).drew).alloc _
          | exact((Keep.refl _ _).alloc _).drew
          | exact(Keep.refl _ _).alloc _
       ·exact Blk.new _ _ _
       ·first
          | exact Nat.le_refl _
          | exact(Keep.refl Never w21).drew.size
     case rest=>
     obtain⟨bl,rfl,hR⟩:=hcut
     rename World=>w22
     have hk:=hR.out.1
     clear f5 f6 m2 f5a f6a m2a hmw hmw3 hmz hmq hmt hm0 d1
     have HA22:=qh (HA21.out.never hk)
     have HT22:=qkb HT21 hk
     have HM22:=qkb HM21 hk
     have HS22:=qkb HS21 hk
     have HD22:=qkb HD21 hk
     have HO22:=qko HO21 hk
     have HK22:=qh (HK21.out.then_ hk (fun _ _ h=>False.elim h))
     have HL22:=qh hR.out.2.1
     have HBl:Hid (w.heap.size≤bl∧bl≠bst):=qh ⟨Nat.le_trans HK21.out.size hR.out.2.2,by have h1:=HS21.out.lt;have h2:=hR.out.2.2;omega⟩
     clear hk hR
     have l0:w22.cell? ⟨bl,0,none⟩=some (.int .i64 l1):=HL22.out.cell 0
     have d1:w22.cell? ⟨bb,1,none⟩=some (.int .i64 b2):=HD22.out.cell 1
     by_cases g2:b2=l1
     ·have t2:(b2==l1)=true:=by simpa using g2
      have HEq:Hid (stepL t path v=.ok path):=qh (by rw[HSt.out,if_pos g2])
      clear g2
      have HNx0:=HIr.out.next HI.out HG1.out (P:=path) HEq.out HIr.out.ne HIr.out.p24 HIr.out.in_
      rw[HMy.out] at HNx0
      have HNx:=qh HNx0
      have HRx:=HA22.out
      rw[←HVn.out] at HRx
      have HRy:=qh HRx
      clear HNx0 HRx
      have hwi:wrap64 ((i:Int)+1)=((i+1:Nat):Int):=by have h1:=HIr.out.few;have h3:=HI.out;have h2:IntKind.i64.wrap ((i:Int)+1)=(i:Int)+1:=IntWalk.i64_in _ (by omega);rw[IntWalk.i64_left] at h2;rw[h2];push_cast;rfl
      have hwi2:IntKind.i64.wrap ((i:Int)+1)=((i+1:Nat):Int):=by have h1:=HIr.out.few;have h3:=HI.out;rw[show IntKind.i64.wrap ((i:Int)+1)=(i:Int)+1 from IntWalk.i64_in _ (by omega)];push_cast;rfl
      go_wp2_with fail
      clear hwi hwi2
      refine⟨⟨_,my,_,path,(some ad),(q+1),cw,rfl,by go_num,by omega,qh ⟨HNx.out,by rw[List.drop_zero];exact HRy.out,HT22.out,HM22.out,HNr.out,HO22.out,HK22.out,HWr.out⟩⟩,?_⟩
      exact HMs.out
     have t2:(b2==l1)=false:=by simpa using g2
     have HNq:=qh g2
     have s0:w22.cell? ⟨bst,0,none⟩=some (.int .i64 0):=HS22.out.cell 0
     have sf0:=HS22.out.frozen 0
     clear g2
     go_upto_region 24 with(fail)
     obtain⟨w23,hw23⟩:∃V:World,w22.setCell ⟨bst,0,none⟩ (.int .i64 b2)=V:=⟨_,rfl⟩
     rw[hw23]
     have hk:Keep (fun z=>z=bst) w22 w23:=by rw[←hw23];exact put1_keep _
     have HA23:=qh (HA22.out.keep hk (fun k (h:k=bst)=>by rw[h];exact⟨by have:=HBs.out;have:=HBm.out;omega,HA22.out.not HS22.out (by decide)⟩))
     have HT23:=qh (HT22.out.keep hk (fun (h:_=bst)=>HT22.out.ne_ HS22.out (by decide) h))
     have HM23:=qh (HM22.out.keep hk (fun (h:_=bst)=>HM22.out.ne_ HS22.out (by decide) h))
     have HL23:=qh (HL22.out.keep hk (fun (h:_=bst)=>HBl.out.2 h))
     have HS23:Hid (Blk w23 bst 30 #[.int .i64 b2,.bool bv]):=qh (by rw[←hw23];have:=HS22.out.set_ 0 (.int .i64 b2);simpa using this)
     have HO23:=qh (HO22.out.keep hk (fun z h1 (h2:z=bst)=>HNs.out z h1 h2))
     have HK23:=qh (HK22.out.then_ hk (fun z hz (h:z=bst)=>by have:=HBs.out;omega))
     clear hk hw23 s0 sf0 l0 d1
     obtain⟨y0,y1,y2,y3⟩:=bc4 HT23.out
     obtain⟨l0,l1f⟩:=bc2 HL23.out
     obtain⟨s0,s1⟩:=bc2 HS23.out
     have HS2:Hid (∀W',Keep Never w23 W'→Keep Never w23 W'∧W'.cell? ⟨w.heap.size,0,none⟩=some (.slice Ae ne ce)∧W'.cell? ⟨w.heap.size,1,none⟩=some (.slice Aj nj cj)∧W'.cell? ⟨w.heap.size,2,none⟩=some (.slice Ab nb cb)∧W'.cell? ⟨w.heap.size,3,none⟩=some (.slice Ar nr cr)∧W'.cell? ⟨bl,0,none⟩=some (.int .i64 l1)∧W'.cell? ⟨bl,1,none⟩=some (.bool l2)∧W'.cell? ⟨bst,0,none⟩=some (.int .i64 b2)∧W'.cell? ⟨bst,1,none⟩=some (.bool bv)):=qh (fun W' h=>⟨h,keepT h y0,keepT h y1,keepT h y2,keepT h y3,keepT h l0,keepT h l1f,keepT h s0,keepT h s1⟩)
     have HLa2:=qh (fun (n7:Nat) (h:n7=(afterM t (l1,l2)).length)=>(show n7≤1000000000 by have h2:=after_len t (l1,l2);have h3:=HNe.out;omega))
     clear y0 y1 y2 y3 l0 l1f s0 s1
     go_region_held3 (fun W'=>Keep Never w23 W'∧W'.cell? ⟨w.heap.size,0,none⟩=some (.slice Ae ne ce)∧W'.cell? ⟨w.heap.size,1,none⟩=some (.slice Aj nj cj)∧W'.cell? ⟨w.heap.size,2,none⟩=some (.slice Ab nb cb)∧W'.cell? ⟨w.heap.size,3,none⟩=some (.slice Ar nr cr)∧W'.cell? ⟨bl,0,none⟩=some (.int .i64 l1)∧W'.cell? ⟨bl,1,none⟩=some (.bool l2)∧W'.cell? ⟨bst,0,none⟩=some (.int .i64 b2)∧W'.cell? ⟨bst,1,none⟩=some (.bool bv))
       (first| assumption | exact HS2.out _ ((Keep.refl Never w23).drew) | exact HS2.out _ (Keep.trans (And.left (by assumption)) hk3) | exact HS2.out _ (Keep.trans ((Keep.refl Never w23).drew) hk3))
       (first
         | (go_at_call 30; refine(HAf.out _ (HK23.out.then_ (by first | exact And.left (by assumption) | exact(Keep.refl Never w23).drew | exact Keep.refl Never w23) (fun _ _ h=>False.elim h)) (l1,l2)).mono ?_;rintro e w30 ⟨A7,n7,c7,rfl,hn7,ho7,hk3⟩;have HR7:=qh ho7.rd;have HN7:=qh (HLa2.out n7 hn7.out);clear ho7 hn7)
         | (go_at_call 43; refine(scontains_any A7 n7 c7 _ _ (b2,bv) _ HR7.out HN7.out).mono ?_;rintro e w31 ⟨rfl,hk3⟩))
     rename_i hS
     have hk:=hS.1
     have HA31:=qh (HA23.out.never hk)
     have HT31:=qkb HT23 hk
     have HM31:=qkb HM23 hk
     have HS31:=qkb HS23 hk
     have HO31:=qko HO23 hk
     have HK31:=qh (HK23.out.then_ hk (fun _ _ h=>False.elim h))
     clear hS hk HS2 hk3
     rw[show decide (((b2,bv):Stp)∈afterM t (l1,l2))=(afterM t (l1,l2)).contains (b2,bv) from by rw[List.contains_eq_mem]]
     obtain⟨ca,hca⟩:∃z,(afterM t (l1,l2)).contains (b2,bv)=z:=⟨_,rfl⟩
     rw[hca] at HSt ⊢
     clear hca
     cases ca with
     | false=>
      have HF:Hid (res=.error 141):=qh (HIr.out.err HI.out HG1.out (by rw[HSt.out,if_neg HNq.out,if_pos rfl]))
      go_wp2_with fail
      go_ret
      refine⟨HK31.out,?_⟩
      rw[HF.out]
      exact⟨by decide,rfl,_,_,_,HM31.out⟩
     | true=>
      have HSt2:Hid (stepL t path v=if overB path b2=true∨path.length=24 then .error 2 else .ok (path++[(b2,bv)])):=qh (by rw[HSt.out,if_neg HNq.out,if_neg (by simp)])
      clear HSt
      have m2:w31.cell? ⟨bm,2,none⟩=some (.slice (some ad) (q+1) cw):=HM31.out.cell 2
      have s0:w31.cell? ⟨bst,0,none⟩=some (.int .i64 b2):=HS31.out.cell 0
      have HS2:Hid (∀W',Keep Never w31 W'→Keep Never w31 W'∧W'.cell? ⟨bm,2,none⟩=some (.slice (some ad) (q+1) cw)∧W'.cell? ⟨bst,0,none⟩=some (.int .i64 b2)):=qh (fun W' h=>⟨h,keepT h m2,keepT h s0⟩)
      have HRp:=qh (fun V (h:Keep Never w31 V)=>HO31.out.rd.keep h (fun _ h=>h.elim))
      obtain⟨ov,hov⟩:∃z,overB path b2=z:=⟨_,rfl⟩
      have HOv:=qh (fun V (h:Keep Never w31 V)=>pover17_any (some ad) (q+1) cw _ path b2 V (HRp.out V h) (by omega))
      rw[hov] at HOv HSt2
      go_upto_region 26 with(fail)
      clear m2 s0 hov
      go_region_held3 (fun W'=>Keep Never w31 W'∧W'.cell? ⟨bm,2,none⟩=some (.slice (some ad) (q+1) cw)∧W'.cell? ⟨bst,0,none⟩=some (.int .i64 b2))
        (first| assumption | exact HS2.out _ ((Keep.refl Never w31).drew) | exact HS2.out _ (Keep.trans (And.left (by assumption)) hk3) | exact HS2.out _ (Keep.trans ((Keep.refl Never w31).drew) hk3))
        (first
          | (go_at_call 46; refine(HOv.out _ (by first | exact And.left (by assumption) | exact(Keep.refl Never w31).drew | exact Keep.refl Never w31)).mono ?_;rintro e w32 ⟨rfl,hk3⟩))
      rename_i hS
      have hk:=hS.1
      have HA33:=qh (HA31.out.never hk)
      have HT33:=qkb HT31 hk
      have HM33:=qkb HM31 hk
      have HS33:=qkb HS31 hk
      have HO33:=qko HO31 hk
      have HK33:=qh (HK31.out.then_ hk (fun _ _ h=>False.elim h))
      clear hS hk HS2 hk3
      cases ov with
      | true=>
       have HF:Hid (res=.error 2):=qh (HIr.out.err HI.out HG1.out (by rw[HSt2.out,if_pos (.inl rfl)]))
       go_wp2_with fail
       go_ret
       refine⟨HK33.out,?_⟩
       rw[HF.out]
       exact⟨by decide,rfl,_,_,_,HM33.out⟩
      | false=>
       rename World=>w33
       have m2:w33.cell? ⟨bm,2,none⟩=some (.slice (some ad) (q+1) cw):=HM33.out.cell 2
       by_cases g5:q+1=24
       case pos=>
        have u1:((q:Int)+1==24)=true:=by simp;omega
        have u2:(((q+1:Nat):Int)==24)=true:=by simp;omega
        have HF:Hid (res=.error 2):=qh (HIr.out.err HI.out HG1.out (by rw[HSt2.out,if_pos (.inr (by rw[←HNr.out];exact g5))]))
        clear g5
        go_wp2_with fail
        go_ret
        refine⟨HK33.out,?_⟩
        rw[HF.out]
        exact⟨by decide,rfl,_,_,_,HM33.out⟩
       have u1:((q:Int)+1==24)=false:=by simp;omega
       have u2:(((q+1:Nat):Int)==24)=false:=by simp;omega
       have HEq:Hid (stepL t path v=.ok (path++[(b2,bv)])):=qh (by rw[HSt2.out,if_neg (by rintro(h | h);exact absurd h (by decide);exact g5 (by rw[HNr.out];exact h))])
       have hq24:q+2≤24:=by omega
       have HB2:Hid (in64 ((b2,bv):Stp)):=qh (in64_there (check_bal HCk.out (bal_mem HOb.out).1).2.2.1 HNe.out)
       clear g5
       obtain⟨s0,s1⟩:=bc2 HS33.out
       have m2a:=fun o=>keepT ((Keep.refl Never w33).alloc o) m2
       have hz33:w.heap.size≤w33.heap.size:=HK33.out.size
       have hb33:base≤w33.heap.size:=by have:=HBm.out;omega
       go_upto_region 29 with(fail)
       go_region_law (refine step_app _ rfl (.tmp 106) (.tmp 108) _ rfl elemStp (base) (A:=(some ad)) (n:=(q+1)) (c:=cw) (by go_simp) (HO33.out.alloc _) _ (A':=some ⟨_,0,none⟩) (m:=1) (c':=1) (news:=[.int .i64 b2,.bool bv]) (by go_simp) (Rd.of_blk (n:=1) (cs:=[.int .i64 b2,.bool bv]) (Blk.new _ _ _) rfl) (by simp[Value.oneCell']) (by omega) (by unfold maxLen;omega) (by simp;omega) ?_;intro A16 c16 w16 hown hk hrow;have hk16:Keep (InRow (some ad)) w33 w16:=(by first | exact(((Keep.refl (InRow (some ad)) w33).alloc _).drew).trans hk | exact(((Keep.refl (InRow (some ad)) w33).drew).alloc _).trans hk | exact((Keep.refl (InRow (some ad)) w33).alloc _).trans hk);have HO16:=qh hown;have HA16:=qh (HA33.out.keep hk16 (fun k h=>⟨by have h1:=(HO33.out.row h).1;have:=HBm.out;omega,HA33.out.row HO33.out (by decide) k h⟩));have HT16:=qh (HT33.out.keep hk16 (fun hi=>HO33.out.ne_blk HT33.out (by decide) _ hi rfl));have HM16:=qh (HM33.out.keep hk16 (fun hi=>HO33.out.ne_blk HM33.out (by decide) _ hi rfl));have HK16:=qh (HK33.out.then_ hk16 (fun k hk hi=>by rcases HWr.out k hi with h | h;exact .inr h;omega));have HWx:Hid (∀k,InRow A16 k→InRow Ap k∨w.heap.size≤k):=qh (fun k h=>by rcases hrow.out k h with h | h;exact HWr.out k h;right;rw[h];first | exact Nat.le_trans hz33 (Keep.size ((Keep.refl Never w33).alloc _)) | exact Nat.le_trans hz33 (Keep.size (((Keep.refl Never w33).alloc _).drew)) | exact Nat.le_trans hz33 (Keep.size (((Keep.refl Never w33).drew).alloc _)));have m2:w16.cell? ⟨bm,2,none⟩=some (.slice (some ad) (q+1) cw):=HM16.out.cell 2;have mf2:=HM16.out.frozen 2;clear hk16;clear hown hk hrow)
       all_goals
        obtain⟨w40,hw40⟩:∃V:World,w16.setCell ⟨bm,2,none⟩ (.slice A16 (q+1+1) c16)=V:=⟨_,rfl⟩
        have hk17:Keep (fun z=>z=bm) w16 w40:=by rw[←hw40];exact put1_keep _
        have HA40:=qh (HA16.out.keep hk17 (fun k (h:k=bm)=>by rw[h];exact⟨HBm.out.1,HA16.out.not HM16.out (by decide)⟩))
        have HT40:=qh (HT16.out.keep hk17 (fun h=>HT16.out.ne_ HM16.out (by decide) h))
        have HM40:Hid (Blk w40 bm 38 #[v0,v1,.slice A16 (q+1+1) c16,v3,v4]):=qh (by rw[←hw40];have:=HM16.out.set_ 2 (.slice A16 (q+1+1) c16);simpa using this)
        have HO40:Hid (Own w40 base 30 2 A16 (q+1+1) c16 (stpCells (path++[(b2,bv)]))):=qh (by rw[←hw40,stpCells_app];exact HO16.out.far (HO16.out.ne_blk HM16.out (by decide)) _)
        have HK40:=qh (HK16.out.then_ hk17 (fun _ _ h=>.inl h))
        (try rw[hw40])
        clear hk17 m2 m2a s0 s1 hz33 hb33
        have HNx0:=HIr.out.next HI.out HG1.out (P:=(path++[(b2,bv)])) HEq.out (by simp) (by have h1:=HNr.out;simp;omega) (fun s hs=>by rcases List.mem_append.1 hs with h | h;exact HIr.out.in_ s h;simp at h;subst h;exact HB2.out)
        rw[HMy.out] at HNx0
        have HNx:=qh HNx0
        have HRx:=HA40.out
        rw[←HVn.out] at HRx
        have HRy:=qh HRx
        clear HNx0 HRx
        have hwi:wrap64 ((i:Int)+1)=((i+1:Nat):Int):=by have h1:=HIr.out.few;have h3:=HI.out;have h2:IntKind.i64.wrap ((i:Int)+1)=(i:Int)+1:=IntWalk.i64_in _ (by omega);rw[IntWalk.i64_left] at h2;rw[h2];push_cast;rfl
        have hwi2:IntKind.i64.wrap ((i:Int)+1)=((i+1:Nat):Int):=by have h1:=HIr.out.few;have h3:=HI.out;rw[show IntKind.i64.wrap ((i:Int)+1)=(i:Int)+1 from IntWalk.i64_in _ (by omega)];push_cast;rfl
        go_wp2_with fail
        (try rw[hw40])
        clear hwi hwi2
        refine⟨⟨_,my,_,(path++[(b2,bv)]),A16,(q+1+1),c16,rfl,by go_num,by omega,qh ⟨HNx.out,by rw[List.drop_zero];exact HRy.out,HT40.out,HM40.out,(by have h1:=HNr.out;simp;omega),HO40.out,HK40.out,HWx.out⟩⟩,?_⟩
        exact HMs.out
end Go.Proofs.YtpapiojicbbheaaGreatDoor

namespace Go.Proofs.YtpapiojicbbheaaGreatDoor
open Go.RowKit
def RdD (w:World) (D:Nat→Prop) (size:Nat) (A:Option Addr) (n:Nat) (xs:List Value):Prop:=
  xs.length=n*size∧(0<n→∃ad,A=some ad∧D ad.block∧∀j u,xs[j]?=some u→w.cell? (ad.add j)=some u)
theorem RdD.keep {w w':World}{D D':Nat→Prop}{size n:Nat}{A:Option Addr}{xs:List Value}{S:Nat→Prop} (h:RdD w D size A n xs) (hs:0<size) (hk:Keep S w w') (hS:∀k,k<w.heap.size→D k→¬S k∧D' k):RdD w' D' size A n xs:=
  ⟨h.1,fun hn=>by
   obtain⟨ad,e,hb,hc⟩:=h.2 hn
   have hl:0<xs.length:=by rw[h.1];exact Nat.mul_pos hn hs
   have h0:=cell_lt (hc 0 _ (List.getElem?_eq_getElem hl))
   rw[block_add] at h0
   obtain⟨h1,h2⟩:=hS _ h0 hb
   refine⟨ad,e,h2,fun j u hu=>?_⟩
   rw[hk.cell (by rw[block_add];exact h0) (by rw[block_add];exact h1)]
   exact hc j u hu⟩
theorem RdD.rd {w:World}{D:Nat→Prop}{size n:Nat}{A:Option Addr}{xs:List Value} (h:RdD w D size A n xs) (hs:0<size):Rd w w.heap.size size A n xs:=
  ⟨h.1,fun hn=>by
   obtain⟨ad,e,hb,hc⟩:=h.2 hn
   have hl:0<xs.length:=by rw[h.1];exact Nat.mul_pos hn hs
   have:=cell_lt (hc 0 _ (List.getElem?_eq_getElem hl))
   exact⟨ad,e,by rwa [block_add] at this,hc⟩⟩
def PRows (w:World) (D:Nat→Prop):Parts→List Value→Prop
  | .nil,xs=>xs=[]
  | .cons v wh l r,xs=>∃A n c ys zs,xs=.int .i64 v::.int .i64 wh::.slice A n c::zs∧n=l.len∧n≤c∧c≤maxLen∧RdD w D 3 A n ys∧PRows w D l ys∧PRows w D r zs
theorem PRows.keep {w w':World}{D D':Nat→Prop}{S:Nat→Prop} (hk:Keep S w w') (hS:∀k,k<w.heap.size→D k→¬S k∧D' k):∀{T:Parts}{xs:List Value},PRows w D T xs→PRows w' D' T xs:=by
 intro T
 induction T with
 | nil=>intro xs h;exact h
 | cons v wh l r ihl ihr=>
  rintro xs ⟨A,n,c,ys,zs,rfl,h1,h2,h3,h4,h5,h6⟩
  exact⟨A,n,c,ys,zs,rfl,h1,h2,h3,h4.keep (by omega) hk hS,ihl h5,ihr h6⟩
theorem PRows.app {w:World}{D:Nat→Prop}{T':Parts}{ys:List Value} (h':PRows w D T' ys):∀{T:Parts}{xs:List Value},PRows w D T xs→PRows w D (T.app T') (xs++ys):=by
 intro T
 induction T with
 | nil=>intro xs h;rw[show xs=[] from h];exact h'
 | cons v wh l r _ ihr=>
  rintro xs ⟨A,n,c,ys',zs,rfl,h1,h2,h3,h4,h5,h6⟩
  exact⟨A,n,c,ys',zs++ys,rfl,h1,h2,h3,h4,h5,ihr h6⟩
theorem PRows.one {w:World}{D:Nat→Prop}:∀{T:Parts}{xs:List Value},PRows w D T xs→∀u∈xs,u.oneCell'=true:=by
 intro T
 induction T with
 | nil=>intro xs h u hu;rw[show xs=[] from h] at hu;cases hu
 | cons v wh l r _ ihr=>
  rintro xs ⟨A,n,c,ys',zs,rfl,h1,h2,h3,h4,h5,h6⟩ u hu
  simp only[List.mem_cons] at hu
  rcases hu with rfl | rfl | rfl | hu
  ·rfl
  ·rfl
  ·rfl
  ·exact ihr h6 u hu
def PSl (w:World) (D:Nat→Prop) (A:Option Addr) (n c:Nat) (T:Parts):Prop:=n=T.len∧n≤c∧c≤maxLen∧∃xs,RdD w D 3 A n xs∧PRows w D T xs
def Fr (H:Nat):Nat→Prop:=fun k=>H≤k
def Frw (H:Nat) (w:World):Nat→Prop:=fun k=>H≤k∧k<w.heap.size
namespace PSl
variable {w w':World}{D D':Nat→Prop}{H H' n c:Nat}{A:Option Addr}{T:Parts}
theorem nil (w:World) (D:Nat→Prop):PSl w D none 0 0 .nil:=⟨rfl,Nat.le_refl _,by unfold maxLen;omega,[],⟨rfl,fun h=>absurd h (by omega)⟩,rfl⟩
theorem keep {S:Nat→Prop} (h:PSl w D A n c T) (hk:Keep S w w') (hS:∀k,k<w.heap.size→D k→¬S k∧D' k):PSl w' D' A n c T:=by
 obtain⟨h1,h2,h3,xs,h4,h5⟩:=h
 exact⟨h1,h2,h3,xs,h4.keep (by omega) hk hS,h5.keep hk hS⟩
theorem keepN (h:PSl w D A n c T) (hk:Keep Never w w'):PSl w' D A n c T:=h.keep hk (fun _ _ h=>⟨fun h=>h.elim,h⟩)
theorem less (h:PSl w (Fr H) A n c T) (hH:H'≤H):PSl w (Fr H') A n c T:=h.keep (Keep.refl Never w) (fun _ _ h=>⟨fun h=>h.elim,Nat.le_trans hH h⟩)
theorem some_ (h:PSl w D A n c T) (h0:T.len≠0):A≠none:=by
 obtain⟨h1,_,_,xs,⟨_,h2⟩,_⟩:=h
 obtain⟨ad,e,_⟩:=h2 (by omega)
 rw[e];exact fun h=>by cases h
end PSl
set_option maxRecDepth 100000 in
theorem elemP:Elem Tryz.prog 204 240 3 40:=⟨Tryz.underlying204, _,_,rfl,rfl,rfl,rfl,rfl,by omega⟩
def PRet (w:World) (H:Nat) (T:Parts) (e:Ending) (w':World):Prop:=∃A n c,e=.returned (.slice A n c)∧PSl w' (Fr H) A n c T∧Keep Never w w'
theorem PSl.of_own {w:World}{D:Nat→Prop}{base n c:Nat}{A:Option Addr}{T:Parts}{xs:List Value} (h:Own w base 240 3 A n c xs) (hp:PRows w D T xs) (hn:n=T.len) (hH:∀k,base≤k→D k):PSl w D A n c T:=by
 refine⟨hn,h.cap_le,?_,xs,⟨h.len,fun h0=>?_⟩,hp⟩
 ·rcases h.form with⟨_,_,rfl,_⟩ | ⟨_,_,_,_,_,_,hc,_⟩
  ·unfold maxLen;omega
  ·exact hc
 ·obtain⟨ad,e,_,hc⟩:=h.rd.2 h0
  exact⟨ad,e,hH _ (h.row (k:=ad.block) ⟨ad,e,rfl⟩).1,hc⟩
def rowCells (l:List Int):List Value:=l.flatMap fun v=>[.int .i64 v,.int .i64 0,.slice none 0 0]
theorem rows_row (w:World) (D:Nat→Prop):∀l:List Int,PRows w D (row l) (rowCells l)
  | []=>rfl
  | v::l=>⟨none,0,0,[],rowCells l,rfl,rfl,Nat.le_refl _,by unfold maxLen;omega,⟨rfl,fun h=>absurd h (by omega)⟩,rfl,rows_row w D l⟩
theorem row_len (l:List Int):(row l).len=l.length:=by
 induction l with
 | nil=>rfl
 | cons v l ih=>simp[row,Parts.len,ih]
set_option maxHeartbeats 1000000 in
theorem row_any (l:List Int) (hl:l.length≤1000) (A:Option Addr) (n c B:Nat) (w:World) (hn:l.length=n) (hr:Rd w B 1 A n (l.map (.int .i64))) :
    Calls Tryz.prog 194 #[.slice A n c] w (PRet w w.heap.size (row l)):=by
  have HR:=qh hr
  have HN:=qh hn
  have hn2:n≤1000:=by omega
  clear hr hn hl
  go_enter Tryz.func194, Tryz.ntmps194
  go_wp2
  go_loopw [3,5,8] (fun v _ i wr=>∃(k m c3:Nat) (A3:Option Addr),k≤n∧i=.int .i64 k∧v=.slice A3 m c3∧Hid (m=k∧Own wr w.heap.size 240 3 A3 m c3 (rowCells (l.take k))∧Keep Never w wr))
    (fun _ _ i _=>n - (intOf i).toNat)
  case atStart=>exact⟨0,0,0,none,by omega,rfl,rfl,⟨rfl,Own.nil _ _ _ _,Keep.refl _ _⟩⟩
  case round=>
   obtain⟨k,m,c3,A3,hk,rfl,rfl,HH⟩:=hrel
   by_cases h0:k<n
   ·obtain⟨ad,x,rfl,_,hx,hcell⟩:=(HR.out.keep HH.out.2.2 (by intro k h;cases h)).at1 h0
    have HX:=qh hx
    have hm:m≤1000:=by have:=HH.out.1;omega
    clear hx
    go_wp2_with (at_builtin;refine wpList_app _ rfl (.tmp 12) (.tmp 15) _ rfl elemP w.heap.size rfl (HH.out.2.1.alloc _) _ rfl (Rd.of_blk (n:=1) (cs:=[.int .i64 x,.int .i64 0,.slice none 0 0]) (Blk.new _ _ _) rfl) (by simp[Value.oneCell']) (by omega) (by unfold maxLen;omega) (by have:=HH.out.2.2.size;simp;omega) ?_;intro A5 c5 w5 hown5 hk5 hrow5;have HO:=qh hown5;have HK:=qh hk5;clear hown5 hk5)
    go_roundw
    case rel=>
     obtain⟨e1,o1,k1⟩:=HH.out
     have hkk:Keep Never w w5:=(k1.alloc _).then_ HK.out (fun z hz hr=>by have:=(o1.row hr).1;omega)
     have e2:l.take (k+1)=l.take k++[x]:=by
      obtain⟨h2,h3⟩:=List.getElem?_eq_some_iff.1 HX.out
      rw[List.take_succ_eq_append_getElem h2,h3]
     refine⟨k+1,m+1,c5,A5,by omega,by go_num,rfl,⟨by omega,?_,hkk⟩⟩
     have:=HO.out
     rwa [e2,show rowCells (l.take k++[x])=rowCells (l.take k)++[.int .i64 x,.int .i64 0,.slice none 0 0] by simp[rowCells]]
    case measure=>simp[intOf];omega
   ·obtain rfl:k=n:=by omega
    go_wp2
    go_ret
    obtain⟨e1,o1,k1⟩:=HH.out
    rw[List.take_of_length_le (by rw[HN.out];exact Nat.le_refl _)] at o1
    exact⟨_,_,_,rfl,PSl.of_own o1 (rows_row _ _ l) (by rw[row_len,HN.out];exact e1) (fun _ h=>h),k1⟩
structure PStack (H:Nat) (w0 w:World) (L:List (Value×Parts)):Prop where
  keep:Keep Never w0 w
  base:H≤w0.heap.size
  all:∀x∈L,∃A n c,x.1=.slice A n c∧PSl w (Fr H) A n c x.2
theorem PStack.start {H:Nat}{w:World} (h:H≤w.heap.size):PStack H w w []:=⟨Keep.refl _ _,h,by simp⟩
theorem PStack.next {H:Nat}{w0 w w':World}{L:List (Value×Parts)} (h:PStack H w0 w L) (hk:Keep Never w w'):PStack H w0 w' L:=
  ⟨h.keep.trans hk,h.base,fun x hx=>by obtain⟨A,n,c,e,hp⟩:=h.all x hx;exact⟨A,n,c,e,hp.keepN hk⟩⟩
theorem PStack.push {H:Nat}{w0 w w':World}{L:List (Value×Parts)}{A:Option Addr}{n c H':Nat}{T:Parts} (h:PStack H w0 w L) (hk:Keep Never w w') (hp:PSl w' (Fr H') A n c T) (hH:H≤H'):PStack H w0 w' ((.slice A n c,T)::L):=
  ⟨h.keep.trans hk,h.base,fun x hx=>by
   rcases List.mem_cons.1 hx with rfl | hx
   ·exact⟨A,n,c,rfl,hp.less hH⟩
   ·exact(h.next hk).all x hx⟩
theorem PStack.call {H:Nat}{w0 w W:World}{L:List (Value×Parts)}{f:Nat}{args:Array Value}{T:Parts} (HS:Hid (PStack H w0 w L)) (hk:Keep Never w W) (h:Calls Tryz.prog f args W (PRet W W.heap.size T)) :
    Calls Tryz.prog f args W fun e w'=>∃A n c,e=.returned (.slice A n c)∧Hid (PStack H w0 w' ((.slice A n c,T)::L)):=by
  refine h.mono ?_
  rintro e w' ⟨A,n,c,rfl,h1,h2⟩
  have h3:=HS.out
  exact⟨A,n,c,rfl,qh (h3.push (hk.trans h2) h1 (Nat.le_trans h3.base (Nat.le_trans h3.keep.size hk.size)))⟩
theorem row_st {H:Nat}{w0 w:World}{L:List (Value×Parts)} (HS:Hid (PStack H w0 w L)) {cs:Array Value}{n c:Nat} (l:List Int) (hl:cs=(l.map (.int .i64)).toArray) (hn:l.length=n) (h1:l.length≤1000) :
    Calls Tryz.prog 194 #[.slice (some ⟨w.heap.size,0,none⟩) n c] (w.alloc (.cells cs 3)) fun e w'=>∃A m d,e=.returned (.slice A m d)∧Hid (PStack H w0 w' ((.slice A m d,row l)::L)):=by
  subst hl
  exact PStack.call HS ((Keep.refl _ _).alloc _) (row_any l h1 _ _ _ _ _ hn (Rd.of_blk (Blk.new _ _ _) (by simp[hn])))
def isPart (w:World) (D:Nat→Prop) (T:Parts) (v:Value):Prop:=∃A n c,v=.slice A n c∧PSl w D A n c T
theorem andP_take {Ts:List Parts}{k:Nat}{T:Parts} (h:Ts[k]?=some T):andP (Ts.take (k+1))=(andP (Ts.take k)).app T:=by
 obtain⟨h2,h3⟩:=List.getElem?_eq_some_iff.1 h
 rw[List.take_succ_eq_append_getElem h2,h3,andP_snoc]
theorem andP_take_len (Ts:List Parts):∀k,(andP (Ts.take k)).len≤(andP Ts).len:=by
 induction Ts with
 | nil=>intro k;simp[andP]
 | cons T Ts ih=>
  intro k
  cases k with
  | zero=>simp[andP,Parts.len]
  | succ k=>
   have:=ih k
   simp only[List.take_succ_cons,andP,List.foldr_cons,Parts.len_app] at this ⊢
   omega
set_option maxHeartbeats 1000000 in
theorem and_any (Ts:List Parts) (A:Option Addr) (n c B H:Nat) (w:World) (hn:Ts.length=n) (vals:List Value) (hr:Rd w B 1 A n vals) (hv:All2 (isPart w (Fr H)) Ts vals) (hlen:(andP Ts).len≤1000) (h16:n≤1000) (hH:H≤w.heap.size) :
    Calls Tryz.prog 195 #[.slice A n c] w (PRet w H (andP Ts)):=by
  have HR:=qh hr
  have HN:=qh hn
  have HV:=qh hv
  have HL:=qh hlen
  clear hr hn hv hlen
  go_enter Tryz.func195, Tryz.ntmps195
  go_wp2
  go_loopw [3,5,8] (fun v _ i wr=>∃(k m c3:Nat) (A3:Option Addr) (xs:List Value),k≤n∧i=.int .i64 k∧v=.slice A3 m c3∧Hid (m=(andP (Ts.take k)).len∧Own wr w.heap.size 240 3 A3 m c3 xs∧PRows wr (Frw H w) (andP (Ts.take k)) xs∧Keep Never w wr))
    (fun _ _ i _=>n - (intOf i).toNat)
  case atStart=>exact⟨0,0,0,none,[],by omega,rfl,rfl,⟨rfl,Own.nil _ _ _ _,rfl,Keep.refl _ _⟩⟩
  case round=>
   obtain⟨k,m,c3,A3,xs,hk,rfl,rfl,HH⟩:=hrel
   by_cases h0:k<n
   ·have hT:Ts[k]?=some (Ts[k]'(by rw[HN.out];exact h0)):=List.getElem?_eq_getElem _
    generalize Ts[k]'(by rw[HN.out];exact h0)=T at hT
    obtain⟨v,hv,A',m',c',rfl,hp⟩:=HV.out.at_ hT
    have HT:=qh hT
    obtain⟨ad,hA,_,hcc⟩:=(HR.out.keep HH.out.2.2.2 (by intro k h;cases h)).2 (by omega)
    have hcell:=hcc k _ hv
    obtain⟨hm',hc1,hc2,ys,hys,hpr⟩:=hp
    have HP:=qh hpr
    have HY:=qh hys
    have HM:=qh hm'
    subst hA
    have hb:m+m'≤1000:=by
     have h1:=andP_take_len Ts (k+1)
     have h2:=HL.out
     rw[andP_take hT,Parts.len_app] at h1
     have:=HH.out.1
     omega
    clear hT hcc hv hm' hys hpr
    go_wp2_with (at_builtin;refine wpList_app _ rfl (.tmp 12) (.tmp 13) _ rfl elemP w.heap.size rfl HH.out.2.1 _ rfl ((HY.out.keep (by omega) HH.out.2.2.2 (D':=Fr H) (fun _ _ h=>⟨fun h=>h.elim,h⟩)).rd (by omega)) (HP.out.one) (by omega) (by unfold maxLen;omega) (by have:=HH.out.2.2.2.size;omega) ?_;intro A5 c5 w5 hown5 hk5 hrow5;have HO:=qh hown5;have HK:=qh hk5;clear hown5 hk5)
    go_roundw
    case rel=>
     obtain⟨e1,o1,p1,k1⟩:=HH.out
     have hkk:Keep Never w w5:=k1.then_ HK.out (fun z hz hr=>by have:=(o1.row hr).1;omega)
     refine⟨k+1,m+m',c5,A5,_,by omega,by go_num,rfl,⟨?_,HO.out,?_,hkk⟩⟩
     ·rw[andP_take HT.out,Parts.len_app,←e1,←HM.out]
     ·rw[andP_take HT.out]
      refine PRows.app (HP.out.keep hkk (fun k hk h=>⟨fun h=>h.elim,h,hk⟩)) (p1.keep HK.out (fun k hk h=>⟨fun hr=>?_,h⟩))
      have:=(o1.row hr).1
      have:=h.2
      omega
    case measure=>simp[intOf];omega
   ·obtain rfl:k=n:=by omega
    go_wp2
    go_ret
    obtain⟨e1,o1,p1,k1⟩:=HH.out
    rw[List.take_of_length_le (by rw[HN.out];exact Nat.le_refl _)] at p1 e1
    exact⟨_,_,_,rfl,PSl.of_own o1 (p1.keep (Keep.refl Never _) (D':=Fr H) (fun _ _ h=>⟨fun h=>h.elim,h.1⟩)) e1 (fun _ h=>Nat.le_trans hH h),k1⟩
theorem All2.of_idx {α:Type}{R:α→Value→Prop}{L:List (Value×α)} (h:∀x∈L,R x.2 x.1):∀(is:List Nat) (z:Value×α),R z.2 z.1→All2 R (is.map fun i=>(L.getD i z).2) (is.map fun i=>(L.getD i z).1)
  | [],_,_=>trivial
  | i::is,z,hz=>⟨by
   show R (L.getD i z).2 (L.getD i z).1
   rw[List.getD_eq_getElem?_getD]
   cases hi:L[i]? with
   | none=>exact hz
   | some x=>exact h x (List.mem_of_getElem? hi),All2.of_idx h is z hz⟩
def zPart:Value×Parts:=(.slice none 0 0,.nil)
theorem and_st {H:Nat}{w0 w:World}{L:List (Value×Parts)} (HS:Hid (PStack H w0 w L)) {cs:Array Value}{n c:Nat} (is:List Nat) (T:Parts) (hl:cs=(is.map fun i=>(L.getD i zPart).1).toArray) (hn:is.length=n) (hT:andP (is.map fun i=>(L.getD i zPart).2)=T) (h16:is.length≤1000) (h1:T.len≤1000) :
    Calls Tryz.prog 195 #[.slice (some ⟨w.heap.size,0,none⟩) n c] (w.alloc (.cells cs 204)) fun e w'=>∃A m d,e=.returned (.slice A m d)∧Hid (PStack H w0 w' ((.slice A m d,T)::L)):=by
  subst hl
  subst hT
  have hk:Keep Never w (w.alloc (.cells (is.map fun i=>(L.getD i zPart).1).toArray 204)):=(Keep.refl _ _).alloc _
  have h2:=HS.out.next hk
  refine(and_any (is.map fun i=>(L.getD i zPart).2) _ _ _ _ H _ (by simp[hn]) _ (Rd.of_blk (Blk.new _ _ _) (by simp[hn])) (All2.of_idx (R:=isPart _ (Fr H)) (fun x hx=>h2.all x hx) is zPart ⟨none,0,0,rfl,PSl.nil _ _⟩) h1 (by omega) (by have:=h2.base;have:=h2.keep.size;omega)).mono ?_
  rintro e w' ⟨A,m,d,rfl,h3,h4⟩
  exact⟨A,m,d,rfl,qh (h2.push h4 h3 (Nat.le_refl _))⟩
theorem RdD.of_blk {w:World}{g:Nat}{t:TypeId}{cs:List Value}{D:Nat→Prop} (h:Blk w g t cs.toArray) (hD:D g) {size n:Nat} (hl:cs.length=n*size):RdD w D size (some ⟨g,0,none⟩) n cs:=by
 refine⟨hl,fun _=>⟨_,rfl,hD,fun j u hu=>?_⟩⟩
 have hadd:(⟨g,0,none⟩:Addr).add j=⟨g,j,none⟩:=by unfold Addr.add;split <;> simp_all
 rw[hadd,h.cell]
 simpa using hu
set_option maxHeartbeats 400000 in
theorem some_any (wh:Int) (A:Option Addr) (n c H:Nat) (w:World) (T:Parts) (h:PSl w (Fr H) A n c T) (hH:H≤w.heap.size) :
    Calls Tryz.prog 197 #[.int .i64 wh,.slice A n c] w (PRet w H (some_ wh T)):=by
  have HP:=qh h
  clear h
  go_enter Tryz.func197, Tryz.ntmps197
  go_wp2
  go_ret
  obtain⟨h1,h2,h3,xs,h4,h5⟩:=HP.out
  have hk:Keep Never w (w.alloc (.cells #[.int .i64 0,.int .i64 wh,.slice A n c] 240)):=(Keep.refl _ _).alloc _
  exact⟨_,_,_,rfl,⟨rfl,Nat.le_refl _,by unfold maxLen;omega,_,RdD.of_blk (Blk.new w 240 #[.int .i64 0,.int .i64 wh,.slice A n c]) hH rfl,
    ⟨A,n,c,xs,[],rfl,h1,h2,h3,h4.keep (by omega) hk (fun _ _ h=>⟨fun h=>h.elim,h⟩),h5.keep hk (fun _ _ h=>⟨fun h=>h.elim,h⟩),rfl⟩⟩,hk⟩
theorem PStack.at_ {H:Nat}{w0 w:World}{L:List (Value×Parts)} (h2:PStack H w0 w L) (i:Nat):∃A n c,(L.getD i zPart).1=.slice A n c∧PSl w (Fr H) A n c (L.getD i zPart).2:=by
 rw[List.getD_eq_getElem?_getD]
 cases hi:L[i]? with
 | none=>exact⟨none,0,0,rfl,PSl.nil _ _⟩
 | some y=>exact h2.all _ (List.mem_of_getElem? hi)
theorem some_st {H:Nat}{w0 w:World}{L:List (Value×Parts)} (HS:Hid (PStack H w0 w L)) {wh:Int}{A:Option Addr}{n c:Nat} (i:Nat) (T:Parts) (hv:L.getD i zPart=(.slice A n c,T)) :
    Calls Tryz.prog 197 #[.int .i64 wh,.slice A n c] w fun e w'=>∃A m d,e=.returned (.slice A m d)∧Hid (PStack H w0 w' ((.slice A m d,some_ wh T)::L)):=by
  have h2:=HS.out
  obtain⟨A',n',c',e,hp⟩:=PStack.at_ h2 i
  rw[hv] at e hp
  injection e with e1 e2 e3
  subst e1;subst e2;subst e3
  refine(some_any wh A n c H w _ hp (by have:=h2.base;have:=h2.keep.size;omega)).mono ?_
  rintro e w' ⟨A,m,d,rfl,h3,h4⟩
  exact⟨A,m,d,rfl,qh (h2.push h4 h3 (Nat.le_refl _))⟩
theorem PStack.ret {H:Nat}{w0 w:World}{L:List (Value×Parts)}{A:Option Addr}{n c:Nat}{T:Parts} (h:Hid (PStack H w0 w ((.slice A n c,T)::L))):PRet w0 H T (.returned (.slice A n c)) w:=by
 obtain⟨A',n',c',e,hp⟩:=h.out.all _ (List.mem_cons_self ..)
 injection e with e1 e2 e3
 subst e1;subst e2;subst e3
 exact⟨A,n,c,rfl,hp,h.out.keep⟩
end Go.Proofs.YtpapiojicbbheaaGreatDoor
