/- Texts of this claim, together: SclB, PlnK, PlnL, PmE. -/
import Derived.Test.YtpapiojicbbheaaGreatDoorTd03
import Derived.Test.YtpapiojicbbheaaGreatDoorTd04
import Derived.Test.YtpapiojicbbheaaGreatDoorTd00
import Derived.Deep.RegionLawGrows
namespace Go.Proofs.YtpapiojicbbheaaGreatDoor
open Go.RowKit
set_option maxHeartbeats 4000000 in
set_option maxRecDepth 100000 in
theorem unit_any (s:Int) (w:World) :
    Calls Tryz.prog 24 #[.int .i64 s] w fun e w'=>e=.returned (.int .i64 (unitM s))∧Keep Never w w':=by
  by_cases h0:s=0
  ·subst h0
   have HF:Hid (unitM 0=1):=qh rfl
   go_enter Tryz.func24, Tryz.ntmps24
   go_wp2_with fail
   go_ret
   exact⟨by rw[HF.out];rfl,Keep.refl _ _⟩
  have t0:(s==0)=false:=by simpa using h0
  by_cases h1:s=1
  ·subst h1
   have HF:Hid (unitM 1=10):=qh rfl
   clear h0
   go_enter Tryz.func24, Tryz.ntmps24
   go_wp2_with fail
   go_ret
   exact⟨by rw[HF.out];rfl,Keep.refl _ _⟩
  have t1:(s==1)=false:=by simpa using h1
  by_cases h2:s=2
  ·subst h2
   have HF:Hid (unitM 2=100):=qh rfl
   clear h0 h1
   go_enter Tryz.func24, Tryz.ntmps24
   go_wp2_with fail
   go_ret
   exact⟨by rw[HF.out];rfl,Keep.refl _ _⟩
  have t2:(s==2)=false:=by simpa using h2
  have HF:Hid (unitM s=0):=qh (by unfold unitM;rw[if_neg h0,if_neg h1,if_neg h2])
  clear h0 h1 h2
  go_enter Tryz.func24, Tryz.ntmps24
  go_wp2_with fail
  go_ret
  exact⟨by rw[HF.out];rfl,Keep.refl _ _⟩
set_option maxHeartbeats 4000000 in
set_option maxRecDepth 100000 in
theorem dm_any (n s:Int) (w:World) :
    Calls Tryz.prog 166 #[.int .i64 n,.int .i64 s] w fun e w'=>e=.returned (.tuple #[.int .i64 (dmM n s).1,.int .i64 (dmM n s).2])∧Keep Never w w':=by
  have hr:=unit_range s
  have HC:=qh (unit_any s w)
  have HD:Hid (dmM n s=if unitM s=0 then (0,1) else if n<0∨32766<n then (0,7) else (n*unitM s,0)):=qh rfl
  obtain⟨u,hu⟩:∃z,unitM s=z:=⟨_,rfl⟩
  rw[hu] at HC HD hr
  clear hu
  by_cases h0:u=0
  ·have t0:(u==0)=true:=by simpa using h0
   have HF:Hid (dmM n s=(0,1)):=qh (by rw[HD.out,if_pos h0])
   clear h0 hr
   go_enter Tryz.func166, Tryz.ntmps166
   go_wp2_with fail
   refine HC.out.mono ?_
   rintro en w2 ⟨rfl,hk2⟩
   have HK2:=qh hk2
   clear hk2 HC
   go_wp2_with fail
   go_ret2
   exact⟨by rw[HF.out];rfl,HK2.out⟩
  have t0:(u==0)=false:=by simpa using h0
  by_cases h1:n<0
  ·have t1:decide (n<0)=true:=by simpa using h1
   have HF:Hid (dmM n s=(0,7)):=qh (by rw[HD.out,if_neg h0,if_pos (.inl h1)])
   clear h0 h1 hr
   go_enter Tryz.func166, Tryz.ntmps166
   go_wp2_with fail
   refine HC.out.mono ?_
   rintro en w2 ⟨rfl,hk2⟩
   have HK2:=qh hk2
   clear hk2 HC
   go_wp2_with fail
   go_ret2
   exact⟨by rw[HF.out];rfl,HK2.out⟩
  have t1:decide (n<0)=false:=by simpa using h1
  by_cases h2:n>32766
  ·have t2:decide (n>32766)=true:=by simpa using h2
   have HF:Hid (dmM n s=(0,7)):=qh (by rw[HD.out,if_neg h0,if_pos (.inr h2)])
   clear h0 h1 h2 hr
   go_enter Tryz.func166, Tryz.ntmps166
   go_wp2_with fail
   refine HC.out.mono ?_
   rintro en w2 ⟨rfl,hk2⟩
   have HK2:=qh hk2
   clear hk2 HC
   go_wp2_with fail
   go_ret2
   exact⟨by rw[HF.out];rfl,HK2.out⟩
  have t2:decide (n>32766)=false:=by simpa using h2
  have HF:Hid (dmM n s=(n*u,0)):=qh (by rw[HD.out,if_neg h0,if_neg (by omega)])
  have hm:0≤n*u∧n*u≤32766*100:=⟨Int.mul_nonneg (by omega) hr.1,Int.mul_le_mul (by omega) hr.2 hr.1 (by omega)⟩
  have hw:IntKind.i64.wrap (n*u)=n*u:=IntWalk.i64_in _ (by omega)
  have hw':wrap64 (n*u)=n*u:=by have:=hw;rwa [IntWalk.i64_left] at this
  clear h0 h1 h2 hr hm
  go_enter Tryz.func166, Tryz.ntmps166
  go_wp2_with fail
  refine HC.out.mono ?_
  rintro en w2 ⟨rfl,hk2⟩
  have HK2:=qh hk2
  clear hk2 HC
  go_wp2_with fail
  (try rw[hw'])
  go_ret2
  exact⟨by rw[HF.out];rfl,HK2.out⟩
set_option maxHeartbeats 4000000 in
set_option maxRecDepth 100000 in
theorem scaled_any (d s:Int) (up:Bool) (w:World) :
    Calls Tryz.prog 78 #[.int .i64 d,.int .i64 s,.bool up] w fun e w'=>e=.returned (.tuple #[.int .i64 (scaledM d s up).1,.int .i64 (scaledM d s up).2])∧Keep Never w w':=by
  have hr:=unit_range s
  have HC:=qh (unit_any s w)
  have HD:Hid (scaledM d s up=if unitM s=0 then (0,1) else if d<0∨1099511627776<d then (0,7) else if 32766<raiseM d s up / unitM s then (0,7) else (raiseM d s up / unitM s,0)):=qh rfl
  have HRs0:Hid (raiseM d s up=if up=true then d+(unitM s - 1) else d):=qh rfl
  obtain⟨u,hu⟩:∃z,unitM s=z:=⟨_,rfl⟩
  rw[hu] at HC HD hr HRs0
  clear hu
  by_cases h0:u=0
  ·have t0:(u==0)=true:=by simpa using h0
   have HF:Hid (scaledM d s up=(0,1)):=qh (by rw[HD.out,if_pos h0])
   clear h0 hr
   go_enter Tryz.func78, Tryz.ntmps78
   go_wp2_with fail
   refine HC.out.mono ?_
   rintro en w2 ⟨rfl,hk2⟩
   have HK2:=qh hk2
   clear hk2 HC
   go_wp2_with fail
   go_ret2
   exact⟨by rw[HF.out];rfl,HK2.out⟩
  have t0:(u==0)=false:=by simpa using h0
  have t9:(u != 0)=true:=by simpa using h0
  by_cases h1:d<0
  ·have t1:decide (d<0)=true:=by simpa using h1
   have HF:Hid (scaledM d s up=(0,7)):=qh (by rw[HD.out,if_neg h0,if_pos (.inl h1)])
   clear h0 h1 hr
   go_enter Tryz.func78, Tryz.ntmps78
   go_wp2_with fail
   refine HC.out.mono ?_
   rintro en w2 ⟨rfl,hk2⟩
   have HK2:=qh hk2
   clear hk2 HC
   go_wp2_with fail
   go_ret2
   exact⟨by rw[HF.out];rfl,HK2.out⟩
  have t1:decide (d<0)=false:=by simpa using h1
  by_cases h2:d>1099511627776
  ·have t2:decide (d>1099511627776)=true:=by simpa using h2
   have HF:Hid (scaledM d s up=(0,7)):=qh (by rw[HD.out,if_neg h0,if_pos (.inr h2)])
   clear h0 h1 h2 hr
   go_enter Tryz.func78, Tryz.ntmps78
   go_wp2_with fail
   refine HC.out.mono ?_
   rintro en w2 ⟨rfl,hk2⟩
   have HK2:=qh hk2
   clear hk2 HC
   go_wp2_with fail
   go_ret2
   exact⟨by rw[HF.out];rfl,HK2.out⟩
  have t2:decide (d>1099511627776)=false:=by simpa using h2
  have hw1:IntKind.i64.wrap (u - 1)=u - 1:=IntWalk.i64_in _ (by omega)
  have hw2:IntKind.i64.wrap (d+(u - 1))=d+(u - 1):=IntWalk.i64_in _ (by omega)
  have hw1':wrap64 (u - 1)=u - 1:=by have:=hw1;rwa [IntWalk.i64_left] at this
  have hw2':wrap64 (d+(u - 1))=d+(u - 1):=by have:=hw2;rwa [IntWalk.i64_left] at this
  have hq1:IntKind.i64.wrap (d.tdiv u)=d / u:=wrap_tdiv (by omega) (by omega) (by omega)
  have hq2:IntKind.i64.wrap ((d+(u - 1)).tdiv u)=(d+(u - 1)) / u:=wrap_tdiv (by omega) (by omega) (by omega)
  have hq1':wrap64 (d.tdiv u)=d / u:=by have:=hq1;rwa [IntWalk.i64_left] at this
  have hq2':wrap64 ((d+(u - 1)).tdiv u)=(d+(u - 1)) / u:=by have:=hq2;rwa [IntWalk.i64_left] at this
  have hdiv:True:=trivial
  cases up with
  | true=>
   have HRs:Hid (raiseM d s true=d+(u - 1)):=qh HRs0.out
   clear HRs0
   by_cases h3:(d+(u - 1)) / u>32766
   ·have t3:decide ((d+(u - 1)) / u>32766)=true:=by simpa using h3
    have HF:Hid (scaledM d s true=(0,7)):=qh (by rw[HD.out,if_neg h0,if_neg (by omega)];simp only[HRs.out];rw[if_pos (by omega)])
    clear h1 h2 h3 hr hdiv
    go_enter Tryz.func78, Tryz.ntmps78
    go_wp2_with fail
    refine HC.out.mono ?_
    rintro en w2 ⟨rfl,hk2⟩
    have HK2:=qh hk2
    clear hk2 HC
    go_wp2_with fail
    go_ret2
    exact⟨by rw[HF.out];rfl,HK2.out⟩
   have t3:decide ((d+(u - 1)) / u>32766)=false:=by simpa using h3
   have HF:Hid (scaledM d s true=((d+(u - 1)) / u,0)):=qh (by rw[HD.out,if_neg h0,if_neg (by omega)];simp only[HRs.out];rw[if_neg (by omega)])
   clear h1 h2 h3 hr hdiv
   go_enter Tryz.func78, Tryz.ntmps78
   go_wp2_with fail
   refine HC.out.mono ?_
   rintro en w2 ⟨rfl,hk2⟩
   have HK2:=qh hk2
   clear hk2 HC
   go_wp2_with fail
   go_ret2
   exact⟨by rw[HF.out];rfl,HK2.out⟩
  | false=>
   have HRs:Hid (raiseM d s false=d):=qh HRs0.out
   clear HRs0
   by_cases h3:(d) / u>32766
   ·have t3:decide ((d) / u>32766)=true:=by simpa using h3
    have HF:Hid (scaledM d s false=(0,7)):=qh (by rw[HD.out,if_neg h0,if_neg (by omega)];simp only[HRs.out];rw[if_pos (by omega)])
    clear h1 h2 h3 hr hdiv
    go_enter Tryz.func78, Tryz.ntmps78
    go_wp2_with fail
    refine HC.out.mono ?_
    rintro en w2 ⟨rfl,hk2⟩
    have HK2:=qh hk2
    clear hk2 HC
    go_wp2_with fail
    go_ret2
    exact⟨by rw[HF.out];rfl,HK2.out⟩
   have t3:decide ((d) / u>32766)=false:=by simpa using h3
   have HF:Hid (scaledM d s false=((d) / u,0)):=qh (by rw[HD.out,if_neg h0,if_neg (by omega)];simp only[HRs.out];rw[if_neg (by omega)])
   clear h1 h2 h3 hr hdiv
   go_enter Tryz.func78, Tryz.ntmps78
   go_wp2_with fail
   refine HC.out.mono ?_
   rintro en w2 ⟨rfl,hk2⟩
   have HK2:=qh hk2
   clear hk2 HC
   go_wp2_with fail
   go_ret2
   exact⟨by rw[HF.out];rfl,HK2.out⟩
theorem best_at {d:Int}{k:Nat} (h:∀j:Nat,j<k→(scaledM d (j:Int) true).2≠0) (hk:k<3) (h0:(scaledM d (k:Int) true).2=0):bestM d=(k:Int):=by
 unfold bestM
 match k,hk with
 | 0,_=>exact if_pos h0
 | 1,_=>rw[if_neg (show ¬(scaledM d 0 true).2=0 from h 0 (by omega))];exact if_pos h0
 | 2,_=>rw[if_neg (show ¬(scaledM d 0 true).2=0 from h 0 (by omega)),if_neg (show ¬(scaledM d 1 true).2=0 from h 1 (by omega))];exact if_pos h0
theorem best_no {d:Int} (h:∀j:Nat,j<3→(scaledM d (j:Int) true).2≠0):bestM d=-1:=by
 unfold bestM
 rw[if_neg (show ¬(scaledM d 0 true).2=0 from h 0 (by omega)),if_neg (show ¬(scaledM d 1 true).2=0 from h 1 (by omega)),if_neg (show ¬(scaledM d 2 true).2=0 from h 2 (by omega))]
set_option maxHeartbeats 4000000 in
set_option maxRecDepth 100000 in
theorem best_any (d:Int) (w:World) :
    Calls Tryz.prog 25 #[.int .i64 d] w fun e w'=>e=.returned (.int .i64 (bestM d))∧Keep Never w w':=by
  have HC:=qh (fun (W:World) (s:Int)=>scaled_any d s true W)
  go_enter Tryz.func25, Tryz.ntmps25
  go_wp2_with fail
  go_loopw [6] (fun si wr=>∃k:Nat,k≤3∧si=.int .i64 k∧Hid (Keep Never w wr∧∀j:Nat,j<k→(scaledM d (j:Int) true).2≠0)) (fun si _=>3 - (intOf si).toNat)
  case atStart=>exact⟨0,by omega,rfl,qh ⟨Keep.refl _ _,fun j hj=>absurd hj (by omega)⟩⟩
  case round=>
   obtain⟨k,hk,rfl,HH⟩:=hrel
   by_cases h0:k<3
   ·have hkz:(k:Int)<3:=by omega
    have HCk:=qh (HC.out wr (k:Int))
    obtain⟨a,ha⟩:∃z,(scaledM d (k:Int) true).1=z:=⟨_,rfl⟩
    obtain⟨e,he⟩:∃z,(scaledM d (k:Int) true).2=z:=⟨_,rfl⟩
    rw[ha,he] at HCk
    have HE:=qh he
    clear ha he
    by_cases g:e=0
    ·have t0:(e==0)=true:=by simpa using g
     have HF:Hid (bestM d=(k:Int)):=qh (best_at HH.out.2 (by omega) (HE.out.trans g))
     clear g h0
     go_wp2_with fail
     refine HCk.out.mono ?_
     rintro en w2 ⟨rfl,hk2⟩
     have HK2:=qh (HH.out.1.trans hk2)
     clear hk2 HCk
     go_wp2_with fail
     go_ret
     exact⟨by rw[HF.out];rfl,HK2.out⟩
    ·have t0:(e==0)=false:=by simpa using g
     have HN:Hid (∀j:Nat,j<k+1→(scaledM d (j:Int) true).2≠0):=qh (fun j hj=>by
      rcases Nat.lt_or_ge j k with h | h
      ·exact HH.out.2 j h
      ·obtain rfl:j=k:=by omega
       rw[HE.out];exact g)
     clear g
     go_wp2_with fail
     refine HCk.out.mono ?_
     rintro en w2 ⟨rfl,hk2⟩
     have HK2:=qh (HH.out.1.trans hk2)
     clear hk2 HCk
     go_wp2_with fail
     refine⟨⟨k+1,by omega,by go_num,qh ⟨HK2.out,HN.out⟩⟩,?_⟩
     simp[intOf];try omega
   ·obtain rfl:k=3:=by omega
    have HF:Hid (bestM d=-1):=qh (best_no HH.out.2)
    go_wp2_with fail
    go_ret
    exact⟨by rw[HF.out];rfl,HH.out.1⟩
end Go.Proofs.YtpapiojicbbheaaGreatDoor

namespace Go.Proofs.YtpapiojicbbheaaGreatDoor
open Go.RowKit
def RAt (w:World) (B p:Nat) (v:List Int) (u e:Int):Prop:=∃A n c,Blk w p 165 #[.slice A n c,.int .i64 u,.int .i64 e]∧Rd w B 1 A n (v.map (.int .i64))∧n≤c
theorem RAt.keep {S:Nat→Prop}{w w':World}{B p:Nat}{v:List Int}{u e:Int} (h:RAt w B p v u e) (hk:Keep S w w') (hS:∀k,S k→B≤k∧k≠p):RAt w' B p v u e:=by
 obtain⟨A,n,c,h1,h2,h3⟩:=h
 exact⟨A,n,c,h1.keep hk (fun h=>(hS _ h).2 rfl),h2.keep hk (fun k h=>(hS k h).1),h3⟩
theorem RAt.never {w w':World}{B p:Nat}{v:List Int}{u e:Int} (h:RAt w B p v u e) (hk:Keep Never w w'):RAt w' B p v u e:=h.keep hk (fun _ h=>h.elim)
theorem RAt.lt {w:World}{B p:Nat}{v:List Int}{u e:Int} (h:RAt w B p v u e):p<w.heap.size:=by
 obtain⟨A,n,c,h1,_⟩:=h
 exact h1.lt
theorem rd_tail {w:World}{B n:Nat}{A:Option Addr}{v:List Int} (h:Rd w B 1 A n (v.map (.int .i64))):v.length=n:=by
 have:=h.1
 simpa using this
theorem put1_keep {w:World}{b i:Nat} (v:Value):Keep (fun q=>q=b) w (w.setCell ⟨b,i,none⟩ v):=(Keep.refl (fun q=>q=b) w).set_ (p:=⟨b,i,none⟩) (.inl rfl) v
def OneRet (w:World) (B p:Nat) (v:List Int) (u x:Int) (e:Ending) (w':World):Prop:=e=.returned (.int .i64 (v.headD 0))∧RAt w' B p v.tail u x∧Keep (fun q=>q=p) w w'
set_option maxHeartbeats 4000000 in
set_option maxRecDepth 100000 in
theorem ro_any (p B:Nat) (v:List Int) (u x:Int) (w:World) (h:RAt w B p v u x) (hp:B≤p) :
    Calls Tryz.prog 120 #[.pointer (some ⟨p,0,none⟩)] w (OneRet w B p v u x):=by
  obtain⟨A,n,c,hb,hr,hc⟩:=h
  have hl:=rd_tail hr
  have HB:=qh hb
  have HR:=qh hr
  have HC:=qh hc
  cases v with
  | nil=>
   obtain rfl:n=0:=by simpa using hl.symm
   have c0:w.cell? ⟨p,0,none⟩=some (.slice A 0 c):=HB.out.cell 0
   clear hb hr hc hl
   go_enter Tryz.func120, Tryz.ntmps120
   go_wp2_with fail
   go_ret
   exact⟨rfl,⟨A,0,c,HB.out,HR.out,HC.out⟩,Keep.refl _ _⟩
  | cons x v=>
   have hn0:0<n:=by simp at hl;omega
   have t0:((n:Int)==0)=false:=by simp;omega
   obtain⟨ad,y,hA,_,hy,d0⟩:=hr.at1 hn0
   simp only[List.getElem?_cons_zero,Option.some.injEq] at hy
   subst hy
   subst hA
   have ea:ad.add 0=ad:=by unfold Addr.add;split <;> simp_all
   have d0':=d0
   rw[ea] at d0'
   have f0:=HB.out.frozen 0
   obtain⟨A',c',_,h2,h3,_,_,h6,h7⟩:=run_from Tryz.underlying22 Tryz.sizeOf3 (some ad) n c 1 hn0 1 rfl
   have HR2:=h2 w B _ hc hr
   have HC2:=qh (h3 hc)
   by_cases g:c=1
   ·rw[if_pos g] at h6
    subst h6
    have hcc:c'=0:=by omega
    subst hcc
    have HRx:=qh HR2
    subst g
    have c0:w.cell? ⟨p,0,none⟩=some (.slice (some ad) n 1):=HB.out.cell 0
    clear hb hr hc hl h2 h3 ea HR2 h7
    go_enter Tryz.func120, Tryz.ntmps120
    go_wp2_with fail
    go_ret
    have hk:=put1_keep (w:=w) (b:=p) (i:=0) (.slice (some ad) (n - 1) 0)
    refine⟨rfl,⟨(some ad),n - 1,0,?_,?_,HC2.out⟩,hk⟩
    ·have:=HB.out.set_ 0 (.slice (some ad) (n - 1) 0)
     simpa using this
    ·have h:=HRx.out.keep hk (fun k h=>by omega)
     simpa using h
   ·rw[if_neg g] at h6
    have e1:Option.map (fun z:Addr=>z.add (1*1)) (some ad)=some ⟨ad.block,ad.off+1,none⟩:=by simp[Addr.add]
    rw[e1] at h6
    subst h6
    subst h7
    have HRx:=qh HR2
    have c0:w.cell? ⟨p,0,none⟩=some (.slice (some ad) n c):=HB.out.cell 0
    clear hb hr hc hl h2 h3 ea HR2 e1
    go_enter Tryz.func120, Tryz.ntmps120
    go_wp2_with fail
    go_ret
    have hk:=put1_keep (w:=w) (b:=p) (i:=0) (.slice (some ⟨ad.block,ad.off+1,none⟩) (n - 1) (c - 1))
    refine⟨rfl,⟨(some ⟨ad.block,ad.off+1,none⟩),n - 1,(c - 1),?_,?_,HC2.out⟩,hk⟩
    ·have:=HB.out.set_ 0 (.slice (some ⟨ad.block,ad.off+1,none⟩) (n - 1) (c - 1))
     simpa using this
    ·have h:=HRx.out.keep hk (fun k h=>by omega)
     simpa using h
set_option maxHeartbeats 4000000 in
set_option maxRecDepth 100000 in
theorem fail_any (p B:Nat) (v:List Int) (u e0 x:Int) (w:World) (h:RAt w B p v u e0) (hp:B≤p) :
    Calls Tryz.prog 165 #[.pointer (some ⟨p,0,none⟩),.int .i64 x] w fun e w'=>e=.returned (.tuple #[])∧RAt w' B p v u (failR e0 x)∧Keep (fun q=>q=p) w w':=by
  obtain⟨A,n,c,hb,hr,hc⟩:=h
  have HB:=qh hb
  have HR:=qh hr
  have HC:=qh hc
  have c2:w.cell? ⟨p,2,none⟩=some (.int .i64 e0):=HB.out.cell 2
  have f2:=HB.out.frozen 2
  clear hb hr hc
  by_cases g:e0=0
  ·have t0:(e0==0)=true:=by simpa using g
   have HF:Hid (failR e0 x=x):=qh (if_pos g)
   clear g
   go_enter Tryz.func165, Tryz.ntmps165
   go_wp2_with fail
   (try simp only[Exit.inBlock,Exit.then])
   refine bodyPost_end (results_none rfl _ _ _) rfl ?_
   have hk:=put1_keep (w:=w) (b:=p) (i:=2) (.int .i64 x)
   refine⟨rfl,⟨A,n,c,?_,HR.out.keep hk (fun k h=>by omega),HC.out⟩,hk⟩
   rw[HF.out]
   have:=HB.out.set_ 2 (.int .i64 x)
   simpa using this
  ·have t0:(e0==0)=false:=by simpa using g
   have HF:Hid (failR e0 x=e0):=qh (if_neg g)
   clear g
   go_enter Tryz.func165, Tryz.ntmps165
   go_wp2_with fail
   (try simp only[Exit.inBlock,Exit.then])
   refine bodyPost_end (results_none rfl _ _ _) rfl ?_
   exact⟨rfl,⟨A,n,c,by rw[HF.out];exact HB.out,HR.out,HC.out⟩,Keep.refl _ _⟩
set_option maxHeartbeats 8000000 in
set_option maxRecDepth 100000 in
theorem far_any (p B:Nat) (v:List Int) (u e0:Int) (w:World) (h:RAt w B p v u e0) (hp:B≤p) :
    Calls Tryz.prog 122 #[.pointer (some ⟨p,0,none⟩)] w fun e w'=>e=.returned (.int .i64 (farR u v e0).1)∧RAt w' B p (farR u v e0).2.1 u (farR u v e0).2.2∧Keep (fun q=>q=p) w w':=by
  have HA:=qh h
  have HO:=qh (fun (W:World) (hW:RAt W B p v u e0)=>ro_any p B v u e0 W hW hp)
  have HDm:=qh (fun (W:World)=>dm_any (v.headD 0) u W)
  have HFl:=qh (fun (W:World) (hW:RAt W B p v.tail u e0)=>fail_any p B v.tail u e0 7 W hW hp)
  have c1:w.cell? ⟨p,1,none⟩=some (.int .i64 u):=by obtain⟨A,n,c,hb,_⟩:=h;exact hb.cell 1
  have HD:Hid (farR u v e0=((dmM (v.headD 0) u).1,v.tail,if (dmM (v.headD 0) u).2≠0 then failR e0 7 else e0)):=qh rfl
  obtain⟨d1,hd1⟩:∃z,(dmM (v.headD 0) u).1=z:=⟨_,rfl⟩
  obtain⟨d2,hd2⟩:∃z,(dmM (v.headD 0) u).2=z:=⟨_,rfl⟩
  rw[hd1,hd2] at HDm HD
  obtain⟨hd,hhd⟩:∃z,v.headD 0=z:=⟨_,rfl⟩
  rw[hhd] at HDm
  unfold OneRet at HO
  rw[hhd] at HO
  clear hd1 hd2 hhd h
  go_enter Tryz.func122, Tryz.ntmps122
  go_wp2_with fail
  go_region_law (first
    | (go_simp;refine(HO.out _ (by first | exact HA.out | exact HA.out.drew)).mono ?_;rintro en w3 ⟨rfl,hr3,hk3⟩;have HA3:=qh hr3;have HK3:Hid (Keep (fun q=>q=p) w w3):=qh (by first | exact hk3 | exact hk3.drewL);have m1:w3.cell? ⟨p,1,none⟩=some (.int .i64 u):=(by obtain⟨A,n,c,hb,_⟩:=hr3;exact hb.cell 1);clear hr3 hk3)
    | (go_simp;refine(HDm.out _).mono ?_;rintro en w4 ⟨rfl,hk4⟩;have HA4:=qh (HA3.out.never (by first | exact hk4 | exact hk4.drewL));have HK4:=qh (HK3.out.then_ (by first | exact hk4 | exact hk4.drewL) (fun _ _ h=>False.elim h));clear hk4))
  all_goals
   by_cases g:d2=0
   ·have t0:(d2 != 0)=false:=by simpa using g
    have HF:Hid (farR u v e0=(d1,v.tail,e0)):=qh (by rw[HD.out,if_neg (by simpa using g)])
    clear g
    go_wp2_with fail
    go_ret
    exact⟨by rw[HF.out];rfl,by rw[HF.out];exact HA4.out,HK4.out⟩
   ·have t0:(d2 != 0)=true:=by simpa using g
    have HF:Hid (farR u v e0=(d1,v.tail,failR e0 7)):=qh (by rw[HD.out,if_pos g])
    clear g
    go_wp2_with fail
    refine(HFl.out _ HA4.out).mono ?_
    rintro en w5 ⟨rfl,hr5,hk5⟩
    have HA5:=qh hr5
    have HK5:=qtr HK4 hk5
    clear hr5 hk5
    go_wp2_with fail
    go_ret
    exact⟨by rw[HF.out];rfl,by rw[HF.out];exact HA5.out,HK5.out⟩
end Go.Proofs.YtpapiojicbbheaaGreatDoor

namespace Go.Proofs.YtpapiojicbbheaaGreatDoor
open Go.RowKit
set_option maxRecDepth 100000 in
theorem sc_results {fn:Func}{r:Nat} (h:fn.results=#[.cell r 58]) {w:World}{b:Nat}{v0 v1:Value} (hb:Blk w b 58 #[v0,v1]) (tmps:Array Value) (ht:tmps.getD r undef=.pointer (some ⟨b,0,none⟩)) :
    (results fn tmps).run Tryz.prog w=.ok (.agg #[v0,v1]) w:=by
  have q0:w.cell? ⟨b,0,none⟩=some v0:=hb.cell 0
  have q1:w.cell? ⟨b,1,none⟩=some v1:=hb.cell 1
  have ht':tmps[r]?.getD undef=.pointer (some ⟨b,0,none⟩):=by rw[←Array.getD_eq_getD_getElem?];exact ht
  simp[results,h,ht',go_sem,q0,q1]
theorem RAt.u {w:World}{B p:Nat}{v:List Int}{u e:Int} (h:RAt w B p v u e):w.cell? ⟨p,1,none⟩=some (.int .i64 u):=by obtain⟨A,n,c,hb,_⟩:=h;exact hb.cell 1
theorem RAt.e {w:World}{B p:Nat}{v:List Int}{u e:Int} (h:RAt w B p v u e):w.cell? ⟨p,2,none⟩=some (.int .i64 e):=by obtain⟨A,n,c,hb,_⟩:=h;exact hb.cell 2
theorem sect_no {u from_:Int}{v:List Int}{e:Int} (h:v.tail.headD 0≠1):sectR u from_ v e=⟨(from_+(dmM (v.headD 0) u).1,0),v.tail.tail,if (dmM (v.headD 0) u).2≠0 then failR (failR e 20) 7 else failR e 20⟩:=by
 unfold sectR
 simp only[decide_eq_false h,Bool.false_eq_true,if_false,true_or,if_true]
theorem sect_bad {u from_:Int}{v:List Int}{e:Int} (h:v.tail.headD 0=1) (hb:v.tail.tail.headD 0<1∨1000<v.tail.tail.headD 0∨v.headD 0=0):sectR u from_ v e=⟨(from_+(dmM (v.headD 0) u).1,v.tail.tail.headD 0),v.tail.tail.tail.tail,if (dmM (v.headD 0) u).2≠0 then failR (failR e 20) 7 else failR e 20⟩:=by
 unfold sectR
 simp only[decide_eq_true h,if_true]
 rw[if_pos (Or.inr hb)]
theorem sect_good {u from_:Int}{v:List Int}{e:Int} (h:v.tail.headD 0=1) (hb:¬(v.tail.tail.headD 0<1∨1000<v.tail.tail.headD 0∨v.headD 0=0)):sectR u from_ v e=⟨(from_+(dmM (v.headD 0) u).1,v.tail.tail.headD 0),v.tail.tail.tail.tail,if (dmM (v.headD 0) u).2≠0 then failR e 7 else e⟩:=by
 unfold sectR
 simp only[decide_eq_true h,if_true]
 rw[if_neg (show ¬(true=false∨v.tail.tail.headD 0<1∨1000<v.tail.tail.headD 0∨v.headD 0=0) from fun h=>h.elim (fun h=>Bool.noConfusion h) hb)]
theorem dm_range (n s:Int):0≤(dmM n s).1∧(dmM n s).1≤3276600:=by
 have hr:=unit_range s
 unfold dmM
 split
 ·simp
 split
 ·simp
 ·rename_i h1 h2
  have hn1:n≤32766:=by omega
  have hm:=Int.mul_le_mul hn1 hr.2 hr.1 (by decide:(0:Int)≤32766)
  exact⟨Int.mul_nonneg (by omega) hr.1,by omega⟩
theorem put_two {w:World}{b t:Nat}{u0 u1:Value} (h:Blk w b t #[u0,u1]) (v0 v1:Value):Blk ((w.setCell ⟨b,0,none⟩ v0).setCell ⟨b,1,none⟩ v1) b t #[v0,v1]:=by
 have:=(h.set_ 0 v0).set_ 1 v1
 simpa using this
set_option maxHeartbeats 8000000 in
set_option maxRecDepth 100000 in
theorem sect_any (p B:Nat) (v:List Int) (u from_ e0:Int) (w:World) (h:RAt w B p v u e0) (hp:B≤p) (hf0:0≤from_) (hf1:from_≤1000000000) :
    Calls Tryz.prog 121 #[.pointer (some ⟨p,0,none⟩),.int .i64 from_] w fun e w'=>e=.returned (.agg #[.int .i64 (sectR u from_ v e0).s.1,.int .i64 (sectR u from_ v e0).s.2])∧RAt w' B p (sectR u from_ v e0).v u (sectR u from_ v e0).e∧Keep (fun q=>q=p) w w':=by
  have HO:=qh (fun (W:World) (v:List Int) (e:Int) (hW:RAt W B p v u e)=>ro_any p B v u e W hW hp)
  have HFl:=qh (fun (W:World) (v:List Int) (e x:Int) (hW:RAt W B p v u e)=>fail_any p B v u e x W hW hp)
  have HDm:=qh (fun (W:World)=>dm_any (v.headD 0) u W)
  unfold OneRet at HO
  obtain⟨raw,hraw⟩:∃z,v.headD 0=z:=⟨_,rfl⟩
  obtain⟨q,hq⟩:∃z,v.tail.headD 0=z:=⟨_,rfl⟩
  obtain⟨tm,htm⟩:∃z,v.tail.tail.headD 0=z:=⟨_,rfl⟩
  have HO1:=qh (fun W h=>HO.out W v e0 h)
  have HO2:=qh (fun W h=>HO.out W v.tail e0 h)
  have HO3:=qh (fun W h=>HO.out W v.tail.tail e0 h)
  have HO4:=qh (fun W h=>HO.out W v.tail.tail.tail e0 h)
  rw[hraw] at HO1
  rw[hq] at HO2
  rw[htm] at HO3
  have HXn:=qh (fun h=>sect_no (u:=u) (from_:=from_) (v:=v) (e:=e0) h)
  have HXb:=qh (fun h hb=>sect_bad (u:=u) (from_:=from_) (v:=v) (e:=e0) h hb)
  have HXg:=qh (fun h hb=>sect_good (u:=u) (from_:=from_) (v:=v) (e:=e0) h hb)
  have hdr:=dm_range (v.headD 0) u
  obtain⟨d1,hd1⟩:∃z,(dmM (v.headD 0) u).1=z:=⟨_,rfl⟩
  obtain⟨d2,hd2⟩:∃z,(dmM (v.headD 0) u).2=z:=⟨_,rfl⟩
  rw[hd1,hd2] at HDm HXn HXb HXg
  rw[hd1] at hdr
  rw[hraw] at HDm
  rw[hq] at HXn HXb HXg
  rw[hraw,htm] at HXb HXg
  have HWr:Hid (wrap64 (from_+d1)=from_+d1):=qh (by have:=IntWalk.i64_in (from_+d1) (by omega);rwa [IntWalk.i64_left] at this)
  have HpL:=h.lt
  clear hd1 hd2 hdr hraw hq htm HO
  obtain⟨w1,hw1⟩:∃V:World,w.alloc (.cells #[.int .i64 0,.int .i64 0] 58)=V:=⟨_,rfl⟩
  have k1:Keep Never w w1:=by rw[←hw1];exact(Keep.refl _ _).alloc _
  have b1:=Blk.new w 58 #[.int .i64 0,.int .i64 0]
  rw[hw1] at b1
  obtain⟨br,hbr⟩:∃q,w.heap.size=q:=⟨_,rfl⟩
  rw[hbr] at b1
  have HA1:=qh (h.never k1)
  have HK1:Hid (Keep (fun q=>q=p) w w1):=qh (k1.mono (fun _ _ h=>False.elim h))
  have HR1:=qh b1
  have HNe:Hid (¬br=p∧B≤br):=qh ⟨by omega,by omega⟩
  have HBr:Hid (w.heap.size=br):=qh hbr
  have HPl:=qh HpL
  clear k1 b1 h HpL
  go_enter Tryz.func121, Tryz.ntmps121
  go_wp2_with fail
  clear hw1 hbr
  refine(HO1.out w1 HA1.out).mono ?_
  rintro en w2 ⟨rfl,hr,hk⟩
  have HA2:=qh hr
  have HK2:=qtr HK1 hk
  have HR2:=qh (HR1.out.keep hk HNe.out.1)
  clear hr hk
  go_wp2_with fail
  refine(HO2.out w2 HA2.out).mono ?_
  rintro en w3 ⟨rfl,hr,hk⟩
  have HA3:=qh hr
  have HK3:=qtr HK2 hk
  have HR3:=qh (HR2.out.keep hk HNe.out.1)
  clear hr hk
  by_cases gq:q=1
  case neg=>
   have tq:(q==1)=false:=by simpa using gq
   have HX:=qh (HXn.out gq)
   clear gq
   have y0:(w3.alloc (.cells #[.int .i64 0,.int .i64 0] 58)).cell? ⟨w3.heap.size,0,none⟩=some (.int .i64 0):=(Blk.new w3 58 #[.int .i64 0,.int .i64 0]).cell 0
   have yf0:(w3.alloc (.cells #[.int .i64 0,.int .i64 0] 58)).frozen? ⟨w3.heap.size,0,none⟩=false:=(Blk.new w3 58 #[.int .i64 0,.int .i64 0]).frozen 0
   have y1:(w3.alloc (.cells #[.int .i64 0,.int .i64 0] 58)).cell? ⟨w3.heap.size,1,none⟩=some (.int .i64 0):=(Blk.new w3 58 #[.int .i64 0,.int .i64 0]).cell 1
   have yf1:(w3.alloc (.cells #[.int .i64 0,.int .i64 0] 58)).frozen? ⟨w3.heap.size,1,none⟩=false:=(Blk.new w3 58 #[.int .i64 0,.int .i64 0]).frozen 1
   go_upto_region 4 with(fail)
   obtain⟨w4,hW⟩:∃V:World,w3.alloc (.cells #[.int .i64 0,.int .i64 0] 58)=V:=⟨_,rfl⟩
   have k1:Keep Never w3 w4:=by rw[←hW];exact(Keep.refl _ _).alloc _
   have b1:=Blk.new w3 58 #[.int .i64 0,.int .i64 0]
   rw[hW] at b1 ⊢
   obtain⟨bs,hbs⟩:∃q,w3.heap.size=q:=⟨_,rfl⟩
   rw[hbs] at b1 ⊢
   have HLo:Hid (w.heap.size≤br∧w.heap.size≤bs):=qh ⟨by have:=HBr.out;omega,by rw[←hbs];exact HK3.out.size⟩
   have HNs:Hid (¬bs=p∧¬br=bs∧B≤bs):=qh ⟨by have:=HA3.out.lt;omega,by have:=HR3.out.lt;omega,by have:=HA3.out.lt;omega⟩
   have HA4:=qh (HA3.out.never k1)
   have HK4:=qh (HK3.out.then_ k1 (fun _ _ h=>False.elim h))
   have HR4:=qkb HR3 k1
   have HS4:=qh b1
   clear k1 b1 hW hbs y0 y1 yf0 yf1
   have z0:w4.cell? ⟨bs,0,none⟩=some (.int .i64 0):=HS4.out.cell 0
   have zf0:=HS4.out.frozen 0
   have z1:w4.cell? ⟨bs,1,none⟩=some (.int .i64 0):=HS4.out.cell 1
   have zf1:=HS4.out.frozen 1
   go_wp2_with fail
   clear z0 z1 zf0 zf1
   refine(HFl.out w4 v.tail.tail e0 20 HA4.out).mono ?_
   rintro en w5 ⟨rfl,hr,hk⟩
   have HA5:=qh hr
   have HK5:=qtr HK4 hk
   have HR5:=qh (HR4.out.keep hk HNe.out.1)
   have HS5:=qh (HS4.out.keep hk HNs.out.1)
   clear hr hk
   have m1:w5.cell? ⟨p,1,none⟩=some (.int .i64 u):=HA5.out.u
   go_wp2_with fail
   clear m1
   refine(HDm.out w5).mono ?_
   rintro en w6 ⟨rfl,hk⟩
   have HA6:=qh (HA5.out.never hk)
   have HK6:=qh (HK5.out.then_ hk (fun _ _ h=>False.elim h))
   have HR6:=qkb HR5 hk
   have HS6:=qkb HS5 hk
   clear hk
   by_cases gd:d2=0
   ·have td:(d2 != 0)=false:=by simpa using gd
    have HF:Hid (sectR u from_ v e0=⟨(from_+d1,0),v.tail.tail,(failR e0 20)⟩):=qh (by rw[HX.out,if_neg (by simpa using gd)])
    clear gd
    have z0:w6.cell? ⟨bs,0,none⟩=some (.int .i64 0):=HS6.out.cell 0
    have zf0:=HS6.out.frozen 0
    have z1:w6.cell? ⟨bs,1,none⟩=some (.int .i64 0):=HS6.out.cell 1
    have zf1:=HS6.out.frozen 1
    go_upto_region 13 with(fail)
    (try rw[HWr.out])
    obtain⟨wz,hW⟩:∃V:World,w6.setCell ⟨bs,0,none⟩ (.int .i64 (from_+d1))=V:=⟨_,rfl⟩
    rw[hW]
    have k1:Keep (fun q=>q=bs) w6 wz:=by rw[←hW];exact put1_keep _
    have HA50:=qh (HA6.out.keep k1 (fun k h=>by subst h;exact⟨HNs.out.2.2,HNs.out.1⟩))
    have HK50:=qh (HK6.out.then_ k1 (fun i hi h=>by subst h;have:=HLo.out.2;omega))
    have HR50:=qh (HR6.out.keep k1 HNs.out.2.1)
    have HS50:Hid (Blk wz bs 58 #[.int .i64 (from_+d1),.int .i64 0]):=qh (by rw[←hW];have:=HS6.out.set_ 0 (.int .i64 (from_+d1));simpa using this)
    clear hW k1 z0 z1 zf0 zf1
    have z0:wz.cell? ⟨bs,0,none⟩=some (.int .i64 (from_+d1)):=HS50.out.cell 0
    have zf0:=HS50.out.frozen 0
    have z1:wz.cell? ⟨bs,1,none⟩=some (.int .i64 0):=HS50.out.cell 1
    have zf1:=HS50.out.frozen 1
    have r0:wz.cell? ⟨br,0,none⟩=some (.int .i64 0):=HR50.out.cell 0
    have rf0:=HR50.out.frozen 0
    have r1:wz.cell? ⟨br,1,none⟩=some (.int .i64 0):=HR50.out.cell 1
    have rf1:=HR50.out.frozen 1
    go_wp2_with fail
    (try simp only[Exit.inBlock,Exit.then])
    have ha2:=HA50.out.keep (S:=fun q=>q=br) ((Keep.refl (fun q=>q=br) wz).set_ (p:=⟨br,0,none⟩) (.inl rfl) (.int .i64 (from_+d1))) (fun k (h:k=br)=>by rw[h];exact⟨HNe.out.2,HNe.out.1⟩)
    have ha3:=ha2.keep (S:=fun q=>q=br) ((Keep.refl (fun q=>q=br) _).set_ (p:=⟨br,1,none⟩) (.inl rfl) (.int .i64 0)) (fun k (h:k=br)=>by rw[h];exact⟨HNe.out.2,HNe.out.1⟩)
    refine bodyPost_ret (sc_results (fn:=Tryz.f121) (r:=4) rfl (put_two HR50.out (.int .i64 (from_+d1)) (.int .i64 0)) _ rfl) rfl ⟨by rw[HF.out],by rw[HF.out];exact ha3,?_⟩
    exact(HK50.out.set_ (p:=⟨br,0,none⟩) (.inr HLo.out.1) _).set_ (p:=⟨br,1,none⟩) (.inr HLo.out.1) _
   ·have td:(d2 != 0)=true:=by simpa using gd
    have HF:Hid (sectR u from_ v e0=⟨(from_+d1,0),v.tail.tail,failR (failR e0 20) 7⟩):=qh (by rw[HX.out,if_pos gd])
    clear gd
    go_wp2_with fail
    refine(HFl.out w6 v.tail.tail (failR e0 20) 7 HA6.out).mono ?_
    rintro en w7 ⟨rfl,hr,hk⟩
    have HA7:=qh hr
    have HK7:=qtr HK6 hk
    have HR7:=qh (HR6.out.keep hk HNe.out.1)
    have HS7:=qh (HS6.out.keep hk HNs.out.1)
    clear hr hk
    have z0:w7.cell? ⟨bs,0,none⟩=some (.int .i64 0):=HS7.out.cell 0
    have zf0:=HS7.out.frozen 0
    have z1:w7.cell? ⟨bs,1,none⟩=some (.int .i64 0):=HS7.out.cell 1
    have zf1:=HS7.out.frozen 1
    go_upto_region 13 with(fail)
    (try rw[HWr.out])
    obtain⟨wz,hW⟩:∃V:World,w7.setCell ⟨bs,0,none⟩ (.int .i64 (from_+d1))=V:=⟨_,rfl⟩
    rw[hW]
    have k1:Keep (fun q=>q=bs) w7 wz:=by rw[←hW];exact put1_keep _
    have HA50:=qh (HA7.out.keep k1 (fun k h=>by subst h;exact⟨HNs.out.2.2,HNs.out.1⟩))
    have HK50:=qh (HK7.out.then_ k1 (fun i hi h=>by subst h;have:=HLo.out.2;omega))
    have HR50:=qh (HR7.out.keep k1 HNs.out.2.1)
    have HS50:Hid (Blk wz bs 58 #[.int .i64 (from_+d1),.int .i64 0]):=qh (by rw[←hW];have:=HS7.out.set_ 0 (.int .i64 (from_+d1));simpa using this)
    clear hW k1 z0 z1 zf0 zf1
    have z0:wz.cell? ⟨bs,0,none⟩=some (.int .i64 (from_+d1)):=HS50.out.cell 0
    have zf0:=HS50.out.frozen 0
    have z1:wz.cell? ⟨bs,1,none⟩=some (.int .i64 0):=HS50.out.cell 1
    have zf1:=HS50.out.frozen 1
    have r0:wz.cell? ⟨br,0,none⟩=some (.int .i64 0):=HR50.out.cell 0
    have rf0:=HR50.out.frozen 0
    have r1:wz.cell? ⟨br,1,none⟩=some (.int .i64 0):=HR50.out.cell 1
    have rf1:=HR50.out.frozen 1
    go_wp2_with fail
    (try simp only[Exit.inBlock,Exit.then])
    have ha2:=HA50.out.keep (S:=fun q=>q=br) ((Keep.refl (fun q=>q=br) wz).set_ (p:=⟨br,0,none⟩) (.inl rfl) (.int .i64 (from_+d1))) (fun k (h:k=br)=>by rw[h];exact⟨HNe.out.2,HNe.out.1⟩)
    have ha3:=ha2.keep (S:=fun q=>q=br) ((Keep.refl (fun q=>q=br) _).set_ (p:=⟨br,1,none⟩) (.inl rfl) (.int .i64 0)) (fun k (h:k=br)=>by rw[h];exact⟨HNe.out.2,HNe.out.1⟩)
    refine bodyPost_ret (sc_results (fn:=Tryz.f121) (r:=4) rfl (put_two HR50.out (.int .i64 (from_+d1)) (.int .i64 0)) _ rfl) rfl ⟨by rw[HF.out],by rw[HF.out];exact ha3,?_⟩
    exact(HK50.out.set_ (p:=⟨br,0,none⟩) (.inr HLo.out.1) _).set_ (p:=⟨br,1,none⟩) (.inr HLo.out.1) _
  have tq:(q==1)=true:=by simpa using gq
  have y0:(w3.alloc (.cells #[.int .i64 0,.int .i64 0] 58)).cell? ⟨w3.heap.size,0,none⟩=some (.int .i64 0):=(Blk.new w3 58 #[.int .i64 0,.int .i64 0]).cell 0
  have yf0:(w3.alloc (.cells #[.int .i64 0,.int .i64 0] 58)).frozen? ⟨w3.heap.size,0,none⟩=false:=(Blk.new w3 58 #[.int .i64 0,.int .i64 0]).frozen 0
  have y1:(w3.alloc (.cells #[.int .i64 0,.int .i64 0] 58)).cell? ⟨w3.heap.size,1,none⟩=some (.int .i64 0):=(Blk.new w3 58 #[.int .i64 0,.int .i64 0]).cell 1
  have yf1:(w3.alloc (.cells #[.int .i64 0,.int .i64 0] 58)).frozen? ⟨w3.heap.size,1,none⟩=false:=(Blk.new w3 58 #[.int .i64 0,.int .i64 0]).frozen 1
  go_upto_region 4 with(fail)
  obtain⟨w4,hW⟩:∃V:World,w3.alloc (.cells #[.int .i64 0,.int .i64 0] 58)=V:=⟨_,rfl⟩
  have k1:Keep Never w3 w4:=by rw[←hW];exact(Keep.refl _ _).alloc _
  have b1:=Blk.new w3 58 #[.int .i64 0,.int .i64 0]
  rw[hW] at b1 ⊢
  obtain⟨bs,hbs⟩:∃q,w3.heap.size=q:=⟨_,rfl⟩
  rw[hbs] at b1 ⊢
  have HLo:Hid (w.heap.size≤br∧w.heap.size≤bs):=qh ⟨by have:=HBr.out;omega,by rw[←hbs];exact HK3.out.size⟩
  have HNs:Hid (¬bs=p∧¬br=bs∧B≤bs):=qh ⟨by have:=HA3.out.lt;omega,by have:=HR3.out.lt;omega,by have:=HA3.out.lt;omega⟩
  have HA4:=qh (HA3.out.never k1)
  have HK4:=qh (HK3.out.then_ k1 (fun _ _ h=>False.elim h))
  have HR4:=qkb HR3 k1
  have HS4:=qh b1
  clear k1 b1 hW hbs y0 y1 yf0 yf1
  have z0:w4.cell? ⟨bs,0,none⟩=some (.int .i64 0):=HS4.out.cell 0
  have zf0:=HS4.out.frozen 0
  have z1:w4.cell? ⟨bs,1,none⟩=some (.int .i64 0):=HS4.out.cell 1
  have zf1:=HS4.out.frozen 1
  go_wp2_with fail
  clear z0 z1 zf0 zf1
  refine(HO3.out w4 HA4.out).mono ?_
  rintro en w5 ⟨rfl,hr,hk⟩
  have HA5:=qh hr
  have HK5:=qtr HK4 hk
  have HR5:=qh (HR4.out.keep hk HNe.out.1)
  have HS5:=qh (HS4.out.keep hk HNs.out.1)
  clear hr hk
  have z0:w5.cell? ⟨bs,0,none⟩=some (.int .i64 0):=HS5.out.cell 0
  have zf0:=HS5.out.frozen 0
  have z1:w5.cell? ⟨bs,1,none⟩=some (.int .i64 0):=HS5.out.cell 1
  have zf1:=HS5.out.frozen 1
  go_upto_region 6 with(fail)
  obtain⟨w6,hW⟩:∃V:World,w5.setCell ⟨bs,1,none⟩ (.int .i64 tm)=V:=⟨_,rfl⟩
  rw[hW]
  have k1:Keep (fun q=>q=bs) w5 w6:=by rw[←hW];exact put1_keep _
  have HA6:=qh (HA5.out.keep k1 (fun k h=>by subst h;exact⟨HNs.out.2.2,HNs.out.1⟩))
  have HK6:=qh (HK5.out.then_ k1 (fun i hi h=>by subst h;have:=HLo.out.2;omega))
  have HR6:=qh (HR5.out.keep k1 HNs.out.2.1)
  have HS6:Hid (Blk w6 bs 58 #[.int .i64 0,.int .i64 tm]):=qh (by rw[←hW];have:=HS5.out.set_ 1 (.int .i64 tm);simpa using this)
  clear hW k1 z0 z1 zf0 zf1
  go_wp2_with fail
  refine(HO4.out w6 HA6.out).mono ?_
  rintro en w7 ⟨rfl,hr,hk⟩
  have HA7:=qh hr
  have HK7:=qtr HK6 hk
  have HR7:=qh (HR6.out.keep hk HNe.out.1)
  have HS7:=qh (HS6.out.keep hk HNs.out.1)
  clear hr hk
  have z0:w7.cell? ⟨bs,0,none⟩=some (.int .i64 0):=HS7.out.cell 0
  have zf0:=HS7.out.frozen 0
  have z1:w7.cell? ⟨bs,1,none⟩=some (.int .i64 tm):=HS7.out.cell 1
  have zf1:=HS7.out.frozen 1
  by_cases g0:tm<1
  ·have u0:decide (tm<1)=true:=by simpa using g0
   have HX:=qh (HXb.out gq (.inl g0))
   clear gq g0
   go_wp2_with fail
   clear z0 z1 zf0 zf1
   refine(HFl.out w7 v.tail.tail.tail.tail e0 20 HA7.out).mono ?_
   rintro en w8 ⟨rfl,hr,hk⟩
   have HA8:=qh hr
   have HK8:=qtr HK7 hk
   have HR8:=qh (HR7.out.keep hk HNe.out.1)
   have HS8:=qh (HS7.out.keep hk HNs.out.1)
   clear hr hk
   have m1:w8.cell? ⟨p,1,none⟩=some (.int .i64 u):=HA8.out.u
   go_wp2_with fail
   clear m1
   refine(HDm.out w8).mono ?_
   rintro en w9 ⟨rfl,hk⟩
   have HA9:=qh (HA8.out.never hk)
   have HK9:=qh (HK8.out.then_ hk (fun _ _ h=>False.elim h))
   have HR9:=qkb HR8 hk
   have HS9:=qkb HS8 hk
   clear hk
   by_cases gd:d2=0
   ·have td:(d2 != 0)=false:=by simpa using gd
    have HF:Hid (sectR u from_ v e0=⟨(from_+d1,tm),v.tail.tail.tail.tail,(failR e0 20)⟩):=qh (by rw[HX.out,if_neg (by simpa using gd)])
    clear gd
    have z0:w9.cell? ⟨bs,0,none⟩=some (.int .i64 0):=HS9.out.cell 0
    have zf0:=HS9.out.frozen 0
    have z1:w9.cell? ⟨bs,1,none⟩=some (.int .i64 tm):=HS9.out.cell 1
    have zf1:=HS9.out.frozen 1
    go_upto_region 13 with(fail)
    (try rw[HWr.out])
    obtain⟨wz,hW⟩:∃V:World,w9.setCell ⟨bs,0,none⟩ (.int .i64 (from_+d1))=V:=⟨_,rfl⟩
    rw[hW]
    have k1:Keep (fun q=>q=bs) w9 wz:=by rw[←hW];exact put1_keep _
    have HA50:=qh (HA9.out.keep k1 (fun k h=>by subst h;exact⟨HNs.out.2.2,HNs.out.1⟩))
    have HK50:=qh (HK9.out.then_ k1 (fun i hi h=>by subst h;have:=HLo.out.2;omega))
    have HR50:=qh (HR9.out.keep k1 HNs.out.2.1)
    have HS50:Hid (Blk wz bs 58 #[.int .i64 (from_+d1),.int .i64 tm]):=qh (by rw[←hW];have:=HS9.out.set_ 0 (.int .i64 (from_+d1));simpa using this)
    clear hW k1 z0 z1 zf0 zf1
    have z0:wz.cell? ⟨bs,0,none⟩=some (.int .i64 (from_+d1)):=HS50.out.cell 0
    have zf0:=HS50.out.frozen 0
    have z1:wz.cell? ⟨bs,1,none⟩=some (.int .i64 tm):=HS50.out.cell 1
    have zf1:=HS50.out.frozen 1
    have r0:wz.cell? ⟨br,0,none⟩=some (.int .i64 0):=HR50.out.cell 0
    have rf0:=HR50.out.frozen 0
    have r1:wz.cell? ⟨br,1,none⟩=some (.int .i64 0):=HR50.out.cell 1
    have rf1:=HR50.out.frozen 1
    go_wp2_with fail
    (try simp only[Exit.inBlock,Exit.then])
    have ha2:=HA50.out.keep (S:=fun q=>q=br) ((Keep.refl (fun q=>q=br) wz).set_ (p:=⟨br,0,none⟩) (.inl rfl) (.int .i64 (from_+d1))) (fun k (h:k=br)=>by rw[h];exact⟨HNe.out.2,HNe.out.1⟩)
    have ha3:=ha2.keep (S:=fun q=>q=br) ((Keep.refl (fun q=>q=br) _).set_ (p:=⟨br,1,none⟩) (.inl rfl) (.int .i64 tm)) (fun k (h:k=br)=>by rw[h];exact⟨HNe.out.2,HNe.out.1⟩)
    refine bodyPost_ret (sc_results (fn:=Tryz.f121) (r:=4) rfl (put_two HR50.out (.int .i64 (from_+d1)) (.int .i64 tm)) _ rfl) rfl ⟨by rw[HF.out],by rw[HF.out];exact ha3,?_⟩
    exact(HK50.out.set_ (p:=⟨br,0,none⟩) (.inr HLo.out.1) _).set_ (p:=⟨br,1,none⟩) (.inr HLo.out.1) _
   ·have td:(d2 != 0)=true:=by simpa using gd
    have HF:Hid (sectR u from_ v e0=⟨(from_+d1,tm),v.tail.tail.tail.tail,failR (failR e0 20) 7⟩):=qh (by rw[HX.out,if_pos gd])
    clear gd
    go_wp2_with fail
    refine(HFl.out w9 v.tail.tail.tail.tail (failR e0 20) 7 HA9.out).mono ?_
    rintro en w10 ⟨rfl,hr,hk⟩
    have HA10:=qh hr
    have HK10:=qtr HK9 hk
    have HR10:=qh (HR9.out.keep hk HNe.out.1)
    have HS10:=qh (HS9.out.keep hk HNs.out.1)
    clear hr hk
    have z0:w10.cell? ⟨bs,0,none⟩=some (.int .i64 0):=HS10.out.cell 0
    have zf0:=HS10.out.frozen 0
    have z1:w10.cell? ⟨bs,1,none⟩=some (.int .i64 tm):=HS10.out.cell 1
    have zf1:=HS10.out.frozen 1
    go_upto_region 13 with(fail)
    (try rw[HWr.out])
    obtain⟨wz,hW⟩:∃V:World,w10.setCell ⟨bs,0,none⟩ (.int .i64 (from_+d1))=V:=⟨_,rfl⟩
    rw[hW]
    have k1:Keep (fun q=>q=bs) w10 wz:=by rw[←hW];exact put1_keep _
    have HA50:=qh (HA10.out.keep k1 (fun k h=>by subst h;exact⟨HNs.out.2.2,HNs.out.1⟩))
    have HK50:=qh (HK10.out.then_ k1 (fun i hi h=>by subst h;have:=HLo.out.2;omega))
    have HR50:=qh (HR10.out.keep k1 HNs.out.2.1)
    have HS50:Hid (Blk wz bs 58 #[.int .i64 (from_+d1),.int .i64 tm]):=qh (by rw[←hW];have:=HS10.out.set_ 0 (.int .i64 (from_+d1));simpa using this)
    clear hW k1 z0 z1 zf0 zf1
    have z0:wz.cell? ⟨bs,0,none⟩=some (.int .i64 (from_+d1)):=HS50.out.cell 0
    have zf0:=HS50.out.frozen 0
    have z1:wz.cell? ⟨bs,1,none⟩=some (.int .i64 tm):=HS50.out.cell 1
    have zf1:=HS50.out.frozen 1
    have r0:wz.cell? ⟨br,0,none⟩=some (.int .i64 0):=HR50.out.cell 0
    have rf0:=HR50.out.frozen 0
    have r1:wz.cell? ⟨br,1,none⟩=some (.int .i64 0):=HR50.out.cell 1
    have rf1:=HR50.out.frozen 1
    go_wp2_with fail
    (try simp only[Exit.inBlock,Exit.then])
    have ha2:=HA50.out.keep (S:=fun q=>q=br) ((Keep.refl (fun q=>q=br) wz).set_ (p:=⟨br,0,none⟩) (.inl rfl) (.int .i64 (from_+d1))) (fun k (h:k=br)=>by rw[h];exact⟨HNe.out.2,HNe.out.1⟩)
    have ha3:=ha2.keep (S:=fun q=>q=br) ((Keep.refl (fun q=>q=br) _).set_ (p:=⟨br,1,none⟩) (.inl rfl) (.int .i64 tm)) (fun k (h:k=br)=>by rw[h];exact⟨HNe.out.2,HNe.out.1⟩)
    refine bodyPost_ret (sc_results (fn:=Tryz.f121) (r:=4) rfl (put_two HR50.out (.int .i64 (from_+d1)) (.int .i64 tm)) _ rfl) rfl ⟨by rw[HF.out],by rw[HF.out];exact ha3,?_⟩
    exact(HK50.out.set_ (p:=⟨br,0,none⟩) (.inr HLo.out.1) _).set_ (p:=⟨br,1,none⟩) (.inr HLo.out.1) _
  have u0:decide (tm<1)=false:=by simpa using g0
  by_cases g1:tm>1000
  ·have u1:decide (tm>1000)=true:=by simpa using g1
   have HX:=qh (HXb.out gq (.inr (.inl g1)))
   clear gq g0 g1
   go_wp2_with fail
   clear z0 z1 zf0 zf1
   refine(HFl.out w7 v.tail.tail.tail.tail e0 20 HA7.out).mono ?_
   rintro en w8 ⟨rfl,hr,hk⟩
   have HA8:=qh hr
   have HK8:=qtr HK7 hk
   have HR8:=qh (HR7.out.keep hk HNe.out.1)
   have HS8:=qh (HS7.out.keep hk HNs.out.1)
   clear hr hk
   have m1:w8.cell? ⟨p,1,none⟩=some (.int .i64 u):=HA8.out.u
   go_wp2_with fail
   clear m1
   refine(HDm.out w8).mono ?_
   rintro en w9 ⟨rfl,hk⟩
   have HA9:=qh (HA8.out.never hk)
   have HK9:=qh (HK8.out.then_ hk (fun _ _ h=>False.elim h))
   have HR9:=qkb HR8 hk
   have HS9:=qkb HS8 hk
   clear hk
   by_cases gd:d2=0
   ·have td:(d2 != 0)=false:=by simpa using gd
    have HF:Hid (sectR u from_ v e0=⟨(from_+d1,tm),v.tail.tail.tail.tail,(failR e0 20)⟩):=qh (by rw[HX.out,if_neg (by simpa using gd)])
    clear gd
    have z0:w9.cell? ⟨bs,0,none⟩=some (.int .i64 0):=HS9.out.cell 0
    have zf0:=HS9.out.frozen 0
    have z1:w9.cell? ⟨bs,1,none⟩=some (.int .i64 tm):=HS9.out.cell 1
    have zf1:=HS9.out.frozen 1
    go_upto_region 13 with(fail)
    (try rw[HWr.out])
    obtain⟨wz,hW⟩:∃V:World,w9.setCell ⟨bs,0,none⟩ (.int .i64 (from_+d1))=V:=⟨_,rfl⟩
    rw[hW]
    have k1:Keep (fun q=>q=bs) w9 wz:=by rw[←hW];exact put1_keep _
    have HA50:=qh (HA9.out.keep k1 (fun k h=>by subst h;exact⟨HNs.out.2.2,HNs.out.1⟩))
    have HK50:=qh (HK9.out.then_ k1 (fun i hi h=>by subst h;have:=HLo.out.2;omega))
    have HR50:=qh (HR9.out.keep k1 HNs.out.2.1)
    have HS50:Hid (Blk wz bs 58 #[.int .i64 (from_+d1),.int .i64 tm]):=qh (by rw[←hW];have:=HS9.out.set_ 0 (.int .i64 (from_+d1));simpa using this)
    clear hW k1 z0 z1 zf0 zf1
    have z0:wz.cell? ⟨bs,0,none⟩=some (.int .i64 (from_+d1)):=HS50.out.cell 0
    have zf0:=HS50.out.frozen 0
    have z1:wz.cell? ⟨bs,1,none⟩=some (.int .i64 tm):=HS50.out.cell 1
    have zf1:=HS50.out.frozen 1
    have r0:wz.cell? ⟨br,0,none⟩=some (.int .i64 0):=HR50.out.cell 0
    have rf0:=HR50.out.frozen 0
    have r1:wz.cell? ⟨br,1,none⟩=some (.int .i64 0):=HR50.out.cell 1
    have rf1:=HR50.out.frozen 1
    go_wp2_with fail
    (try simp only[Exit.inBlock,Exit.then])
    have ha2:=HA50.out.keep (S:=fun q=>q=br) ((Keep.refl (fun q=>q=br) wz).set_ (p:=⟨br,0,none⟩) (.inl rfl) (.int .i64 (from_+d1))) (fun k (h:k=br)=>by rw[h];exact⟨HNe.out.2,HNe.out.1⟩)
    have ha3:=ha2.keep (S:=fun q=>q=br) ((Keep.refl (fun q=>q=br) _).set_ (p:=⟨br,1,none⟩) (.inl rfl) (.int .i64 tm)) (fun k (h:k=br)=>by rw[h];exact⟨HNe.out.2,HNe.out.1⟩)
    refine bodyPost_ret (sc_results (fn:=Tryz.f121) (r:=4) rfl (put_two HR50.out (.int .i64 (from_+d1)) (.int .i64 tm)) _ rfl) rfl ⟨by rw[HF.out],by rw[HF.out];exact ha3,?_⟩
    exact(HK50.out.set_ (p:=⟨br,0,none⟩) (.inr HLo.out.1) _).set_ (p:=⟨br,1,none⟩) (.inr HLo.out.1) _
   ·have td:(d2 != 0)=true:=by simpa using gd
    have HF:Hid (sectR u from_ v e0=⟨(from_+d1,tm),v.tail.tail.tail.tail,failR (failR e0 20) 7⟩):=qh (by rw[HX.out,if_pos gd])
    clear gd
    go_wp2_with fail
    refine(HFl.out w9 v.tail.tail.tail.tail (failR e0 20) 7 HA9.out).mono ?_
    rintro en w10 ⟨rfl,hr,hk⟩
    have HA10:=qh hr
    have HK10:=qtr HK9 hk
    have HR10:=qh (HR9.out.keep hk HNe.out.1)
    have HS10:=qh (HS9.out.keep hk HNs.out.1)
    clear hr hk
    have z0:w10.cell? ⟨bs,0,none⟩=some (.int .i64 0):=HS10.out.cell 0
    have zf0:=HS10.out.frozen 0
    have z1:w10.cell? ⟨bs,1,none⟩=some (.int .i64 tm):=HS10.out.cell 1
    have zf1:=HS10.out.frozen 1
    go_upto_region 13 with(fail)
    (try rw[HWr.out])
    obtain⟨wz,hW⟩:∃V:World,w10.setCell ⟨bs,0,none⟩ (.int .i64 (from_+d1))=V:=⟨_,rfl⟩
    rw[hW]
    have k1:Keep (fun q=>q=bs) w10 wz:=by rw[←hW];exact put1_keep _
    have HA50:=qh (HA10.out.keep k1 (fun k h=>by subst h;exact⟨HNs.out.2.2,HNs.out.1⟩))
    have HK50:=qh (HK10.out.then_ k1 (fun i hi h=>by subst h;have:=HLo.out.2;omega))
    have HR50:=qh (HR10.out.keep k1 HNs.out.2.1)
    have HS50:Hid (Blk wz bs 58 #[.int .i64 (from_+d1),.int .i64 tm]):=qh (by rw[←hW];have:=HS10.out.set_ 0 (.int .i64 (from_+d1));simpa using this)
    clear hW k1 z0 z1 zf0 zf1
    have z0:wz.cell? ⟨bs,0,none⟩=some (.int .i64 (from_+d1)):=HS50.out.cell 0
    have zf0:=HS50.out.frozen 0
    have z1:wz.cell? ⟨bs,1,none⟩=some (.int .i64 tm):=HS50.out.cell 1
    have zf1:=HS50.out.frozen 1
    have r0:wz.cell? ⟨br,0,none⟩=some (.int .i64 0):=HR50.out.cell 0
    have rf0:=HR50.out.frozen 0
    have r1:wz.cell? ⟨br,1,none⟩=some (.int .i64 0):=HR50.out.cell 1
    have rf1:=HR50.out.frozen 1
    go_wp2_with fail
    (try simp only[Exit.inBlock,Exit.then])
    have ha2:=HA50.out.keep (S:=fun q=>q=br) ((Keep.refl (fun q=>q=br) wz).set_ (p:=⟨br,0,none⟩) (.inl rfl) (.int .i64 (from_+d1))) (fun k (h:k=br)=>by rw[h];exact⟨HNe.out.2,HNe.out.1⟩)
    have ha3:=ha2.keep (S:=fun q=>q=br) ((Keep.refl (fun q=>q=br) _).set_ (p:=⟨br,1,none⟩) (.inl rfl) (.int .i64 tm)) (fun k (h:k=br)=>by rw[h];exact⟨HNe.out.2,HNe.out.1⟩)
    refine bodyPost_ret (sc_results (fn:=Tryz.f121) (r:=4) rfl (put_two HR50.out (.int .i64 (from_+d1)) (.int .i64 tm)) _ rfl) rfl ⟨by rw[HF.out],by rw[HF.out];exact ha3,?_⟩
    exact(HK50.out.set_ (p:=⟨br,0,none⟩) (.inr HLo.out.1) _).set_ (p:=⟨br,1,none⟩) (.inr HLo.out.1) _
  have u1:decide (tm>1000)=false:=by simpa using g1
  by_cases g2:raw=0
  ·have u2:(raw==0)=true:=by simpa using g2
   have HX:=qh (HXb.out gq (.inr (.inr g2)))
   clear gq g0 g1 g2
   go_wp2_with fail
   clear z0 z1 zf0 zf1
   refine(HFl.out w7 v.tail.tail.tail.tail e0 20 HA7.out).mono ?_
   rintro en w8 ⟨rfl,hr,hk⟩
   have HA8:=qh hr
   have HK8:=qtr HK7 hk
   have HR8:=qh (HR7.out.keep hk HNe.out.1)
   have HS8:=qh (HS7.out.keep hk HNs.out.1)
   clear hr hk
   have m1:w8.cell? ⟨p,1,none⟩=some (.int .i64 u):=HA8.out.u
   go_wp2_with fail
   clear m1
   refine(HDm.out w8).mono ?_
   rintro en w9 ⟨rfl,hk⟩
   have HA9:=qh (HA8.out.never hk)
   have HK9:=qh (HK8.out.then_ hk (fun _ _ h=>False.elim h))
   have HR9:=qkb HR8 hk
   have HS9:=qkb HS8 hk
   clear hk
   by_cases gd:d2=0
   ·have td:(d2 != 0)=false:=by simpa using gd
    have HF:Hid (sectR u from_ v e0=⟨(from_+d1,tm),v.tail.tail.tail.tail,(failR e0 20)⟩):=qh (by rw[HX.out,if_neg (by simpa using gd)])
    clear gd
    have z0:w9.cell? ⟨bs,0,none⟩=some (.int .i64 0):=HS9.out.cell 0
    have zf0:=HS9.out.frozen 0
    have z1:w9.cell? ⟨bs,1,none⟩=some (.int .i64 tm):=HS9.out.cell 1
    have zf1:=HS9.out.frozen 1
    go_upto_region 13 with(fail)
    (try rw[HWr.out])
    obtain⟨wz,hW⟩:∃V:World,w9.setCell ⟨bs,0,none⟩ (.int .i64 (from_+d1))=V:=⟨_,rfl⟩
    rw[hW]
    have k1:Keep (fun q=>q=bs) w9 wz:=by rw[←hW];exact put1_keep _
    have HA50:=qh (HA9.out.keep k1 (fun k h=>by subst h;exact⟨HNs.out.2.2,HNs.out.1⟩))
    have HK50:=qh (HK9.out.then_ k1 (fun i hi h=>by subst h;have:=HLo.out.2;omega))
    have HR50:=qh (HR9.out.keep k1 HNs.out.2.1)
    have HS50:Hid (Blk wz bs 58 #[.int .i64 (from_+d1),.int .i64 tm]):=qh (by rw[←hW];have:=HS9.out.set_ 0 (.int .i64 (from_+d1));simpa using this)
    clear hW k1 z0 z1 zf0 zf1
    have z0:wz.cell? ⟨bs,0,none⟩=some (.int .i64 (from_+d1)):=HS50.out.cell 0
    have zf0:=HS50.out.frozen 0
    have z1:wz.cell? ⟨bs,1,none⟩=some (.int .i64 tm):=HS50.out.cell 1
    have zf1:=HS50.out.frozen 1
    have r0:wz.cell? ⟨br,0,none⟩=some (.int .i64 0):=HR50.out.cell 0
    have rf0:=HR50.out.frozen 0
    have r1:wz.cell? ⟨br,1,none⟩=some (.int .i64 0):=HR50.out.cell 1
    have rf1:=HR50.out.frozen 1
    go_wp2_with fail
    (try simp only[Exit.inBlock,Exit.then])
    have ha2:=HA50.out.keep (S:=fun q=>q=br) ((Keep.refl (fun q=>q=br) wz).set_ (p:=⟨br,0,none⟩) (.inl rfl) (.int .i64 (from_+d1))) (fun k (h:k=br)=>by rw[h];exact⟨HNe.out.2,HNe.out.1⟩)
    have ha3:=ha2.keep (S:=fun q=>q=br) ((Keep.refl (fun q=>q=br) _).set_ (p:=⟨br,1,none⟩) (.inl rfl) (.int .i64 tm)) (fun k (h:k=br)=>by rw[h];exact⟨HNe.out.2,HNe.out.1⟩)
    refine bodyPost_ret (sc_results (fn:=Tryz.f121) (r:=4) rfl (put_two HR50.out (.int .i64 (from_+d1)) (.int .i64 tm)) _ rfl) rfl ⟨by rw[HF.out],by rw[HF.out];exact ha3,?_⟩
    exact(HK50.out.set_ (p:=⟨br,0,none⟩) (.inr HLo.out.1) _).set_ (p:=⟨br,1,none⟩) (.inr HLo.out.1) _
   ·have td:(d2 != 0)=true:=by simpa using gd
    have HF:Hid (sectR u from_ v e0=⟨(from_+d1,tm),v.tail.tail.tail.tail,failR (failR e0 20) 7⟩):=qh (by rw[HX.out,if_pos gd])
    clear gd
    go_wp2_with fail
    refine(HFl.out w9 v.tail.tail.tail.tail (failR e0 20) 7 HA9.out).mono ?_
    rintro en w10 ⟨rfl,hr,hk⟩
    have HA10:=qh hr
    have HK10:=qtr HK9 hk
    have HR10:=qh (HR9.out.keep hk HNe.out.1)
    have HS10:=qh (HS9.out.keep hk HNs.out.1)
    clear hr hk
    have z0:w10.cell? ⟨bs,0,none⟩=some (.int .i64 0):=HS10.out.cell 0
    have zf0:=HS10.out.frozen 0
    have z1:w10.cell? ⟨bs,1,none⟩=some (.int .i64 tm):=HS10.out.cell 1
    have zf1:=HS10.out.frozen 1
    go_upto_region 13 with(fail)
    (try rw[HWr.out])
    obtain⟨wz,hW⟩:∃V:World,w10.setCell ⟨bs,0,none⟩ (.int .i64 (from_+d1))=V:=⟨_,rfl⟩
    rw[hW]
    have k1:Keep (fun q=>q=bs) w10 wz:=by rw[←hW];exact put1_keep _
    have HA50:=qh (HA10.out.keep k1 (fun k h=>by subst h;exact⟨HNs.out.2.2,HNs.out.1⟩))
    have HK50:=qh (HK10.out.then_ k1 (fun i hi h=>by subst h;have:=HLo.out.2;omega))
    have HR50:=qh (HR10.out.keep k1 HNs.out.2.1)
    have HS50:Hid (Blk wz bs 58 #[.int .i64 (from_+d1),.int .i64 tm]):=qh (by rw[←hW];have:=HS10.out.set_ 0 (.int .i64 (from_+d1));simpa using this)
    clear hW k1 z0 z1 zf0 zf1
    have z0:wz.cell? ⟨bs,0,none⟩=some (.int .i64 (from_+d1)):=HS50.out.cell 0
    have zf0:=HS50.out.frozen 0
    have z1:wz.cell? ⟨bs,1,none⟩=some (.int .i64 tm):=HS50.out.cell 1
    have zf1:=HS50.out.frozen 1
    have r0:wz.cell? ⟨br,0,none⟩=some (.int .i64 0):=HR50.out.cell 0
    have rf0:=HR50.out.frozen 0
    have r1:wz.cell? ⟨br,1,none⟩=some (.int .i64 0):=HR50.out.cell 1
    have rf1:=HR50.out.frozen 1
    go_wp2_with fail
    (try simp only[Exit.inBlock,Exit.then])
    have ha2:=HA50.out.keep (S:=fun q=>q=br) ((Keep.refl (fun q=>q=br) wz).set_ (p:=⟨br,0,none⟩) (.inl rfl) (.int .i64 (from_+d1))) (fun k (h:k=br)=>by rw[h];exact⟨HNe.out.2,HNe.out.1⟩)
    have ha3:=ha2.keep (S:=fun q=>q=br) ((Keep.refl (fun q=>q=br) _).set_ (p:=⟨br,1,none⟩) (.inl rfl) (.int .i64 tm)) (fun k (h:k=br)=>by rw[h];exact⟨HNe.out.2,HNe.out.1⟩)
    refine bodyPost_ret (sc_results (fn:=Tryz.f121) (r:=4) rfl (put_two HR50.out (.int .i64 (from_+d1)) (.int .i64 tm)) _ rfl) rfl ⟨by rw[HF.out],by rw[HF.out];exact ha3,?_⟩
    exact(HK50.out.set_ (p:=⟨br,0,none⟩) (.inr HLo.out.1) _).set_ (p:=⟨br,1,none⟩) (.inr HLo.out.1) _
  have u2:(raw==0)=false:=by simpa using g2
  have HX:=qh (HXg.out gq (by rintro(h | h | h);exact g0 h;exact g1 h;exact g2 h))
  clear gq g0 g1 g2
  have m1:w7.cell? ⟨p,1,none⟩=some (.int .i64 u):=HA7.out.u
  go_wp2_with fail
  clear m1 z0 z1 zf0 zf1
  refine(HDm.out w7).mono ?_
  rintro en w8 ⟨rfl,hk⟩
  have HA8:=qh (HA7.out.never hk)
  have HK8:=qh (HK7.out.then_ hk (fun _ _ h=>False.elim h))
  have HR8:=qkb HR7 hk
  have HS8:=qkb HS7 hk
  clear hk
  by_cases gd:d2=0
  ·have td:(d2 != 0)=false:=by simpa using gd
   have HF:Hid (sectR u from_ v e0=⟨(from_+d1,tm),v.tail.tail.tail.tail,e0⟩):=qh (by rw[HX.out,if_neg (by simpa using gd)])
   clear gd
   have z0:w8.cell? ⟨bs,0,none⟩=some (.int .i64 0):=HS8.out.cell 0
   have zf0:=HS8.out.frozen 0
   have z1:w8.cell? ⟨bs,1,none⟩=some (.int .i64 tm):=HS8.out.cell 1
   have zf1:=HS8.out.frozen 1
   go_upto_region 13 with(fail)
   (try rw[HWr.out])
   obtain⟨wz,hW⟩:∃V:World,w8.setCell ⟨bs,0,none⟩ (.int .i64 (from_+d1))=V:=⟨_,rfl⟩
   rw[hW]
   have k1:Keep (fun q=>q=bs) w8 wz:=by rw[←hW];exact put1_keep _
   have HA50:=qh (HA8.out.keep k1 (fun k h=>by subst h;exact⟨HNs.out.2.2,HNs.out.1⟩))
   have HK50:=qh (HK8.out.then_ k1 (fun i hi h=>by subst h;have:=HLo.out.2;omega))
   have HR50:=qh (HR8.out.keep k1 HNs.out.2.1)
   have HS50:Hid (Blk wz bs 58 #[.int .i64 (from_+d1),.int .i64 tm]):=qh (by rw[←hW];have:=HS8.out.set_ 0 (.int .i64 (from_+d1));simpa using this)
   clear hW k1 z0 z1 zf0 zf1
   have z0:wz.cell? ⟨bs,0,none⟩=some (.int .i64 (from_+d1)):=HS50.out.cell 0
   have zf0:=HS50.out.frozen 0
   have z1:wz.cell? ⟨bs,1,none⟩=some (.int .i64 tm):=HS50.out.cell 1
   have zf1:=HS50.out.frozen 1
   have r0:wz.cell? ⟨br,0,none⟩=some (.int .i64 0):=HR50.out.cell 0
   have rf0:=HR50.out.frozen 0
   have r1:wz.cell? ⟨br,1,none⟩=some (.int .i64 0):=HR50.out.cell 1
   have rf1:=HR50.out.frozen 1
   go_wp2_with fail
   (try simp only[Exit.inBlock,Exit.then])
   have ha2:=HA50.out.keep (S:=fun q=>q=br) ((Keep.refl (fun q=>q=br) wz).set_ (p:=⟨br,0,none⟩) (.inl rfl) (.int .i64 (from_+d1))) (fun k (h:k=br)=>by rw[h];exact⟨HNe.out.2,HNe.out.1⟩)
   have ha3:=ha2.keep (S:=fun q=>q=br) ((Keep.refl (fun q=>q=br) _).set_ (p:=⟨br,1,none⟩) (.inl rfl) (.int .i64 tm)) (fun k (h:k=br)=>by rw[h];exact⟨HNe.out.2,HNe.out.1⟩)
   refine bodyPost_ret (sc_results (fn:=Tryz.f121) (r:=4) rfl (put_two HR50.out (.int .i64 (from_+d1)) (.int .i64 tm)) _ rfl) rfl ⟨by rw[HF.out],by rw[HF.out];exact ha3,?_⟩
   exact(HK50.out.set_ (p:=⟨br,0,none⟩) (.inr HLo.out.1) _).set_ (p:=⟨br,1,none⟩) (.inr HLo.out.1) _
  ·have td:(d2 != 0)=true:=by simpa using gd
   have HF:Hid (sectR u from_ v e0=⟨(from_+d1,tm),v.tail.tail.tail.tail,failR e0 7⟩):=qh (by rw[HX.out,if_pos gd])
   clear gd
   go_wp2_with fail
   refine(HFl.out w8 v.tail.tail.tail.tail e0 7 HA8.out).mono ?_
   rintro en w9 ⟨rfl,hr,hk⟩
   have HA9:=qh hr
   have HK9:=qtr HK8 hk
   have HR9:=qh (HR8.out.keep hk HNe.out.1)
   have HS9:=qh (HS8.out.keep hk HNs.out.1)
   clear hr hk
   have z0:w9.cell? ⟨bs,0,none⟩=some (.int .i64 0):=HS9.out.cell 0
   have zf0:=HS9.out.frozen 0
   have z1:w9.cell? ⟨bs,1,none⟩=some (.int .i64 tm):=HS9.out.cell 1
   have zf1:=HS9.out.frozen 1
   go_upto_region 13 with(fail)
   (try rw[HWr.out])
   obtain⟨wz,hW⟩:∃V:World,w9.setCell ⟨bs,0,none⟩ (.int .i64 (from_+d1))=V:=⟨_,rfl⟩
   rw[hW]
   have k1:Keep (fun q=>q=bs) w9 wz:=by rw[←hW];exact put1_keep _
   have HA50:=qh (HA9.out.keep k1 (fun k h=>by subst h;exact⟨HNs.out.2.2,HNs.out.1⟩))
   have HK50:=qh (HK9.out.then_ k1 (fun i hi h=>by subst h;have:=HLo.out.2;omega))
   have HR50:=qh (HR9.out.keep k1 HNs.out.2.1)
   have HS50:Hid (Blk wz bs 58 #[.int .i64 (from_+d1),.int .i64 tm]):=qh (by rw[←hW];have:=HS9.out.set_ 0 (.int .i64 (from_+d1));simpa using this)
   clear hW k1 z0 z1 zf0 zf1
   have z0:wz.cell? ⟨bs,0,none⟩=some (.int .i64 (from_+d1)):=HS50.out.cell 0
   have zf0:=HS50.out.frozen 0
   have z1:wz.cell? ⟨bs,1,none⟩=some (.int .i64 tm):=HS50.out.cell 1
   have zf1:=HS50.out.frozen 1
   have r0:wz.cell? ⟨br,0,none⟩=some (.int .i64 0):=HR50.out.cell 0
   have rf0:=HR50.out.frozen 0
   have r1:wz.cell? ⟨br,1,none⟩=some (.int .i64 0):=HR50.out.cell 1
   have rf1:=HR50.out.frozen 1
   go_wp2_with fail
   (try simp only[Exit.inBlock,Exit.then])
   have ha2:=HA50.out.keep (S:=fun q=>q=br) ((Keep.refl (fun q=>q=br) wz).set_ (p:=⟨br,0,none⟩) (.inl rfl) (.int .i64 (from_+d1))) (fun k (h:k=br)=>by rw[h];exact⟨HNe.out.2,HNe.out.1⟩)
   have ha3:=ha2.keep (S:=fun q=>q=br) ((Keep.refl (fun q=>q=br) _).set_ (p:=⟨br,1,none⟩) (.inl rfl) (.int .i64 tm)) (fun k (h:k=br)=>by rw[h];exact⟨HNe.out.2,HNe.out.1⟩)
   refine bodyPost_ret (sc_results (fn:=Tryz.f121) (r:=4) rfl (put_two HR50.out (.int .i64 (from_+d1)) (.int .i64 tm)) _ rfl) rfl ⟨by rw[HF.out],by rw[HF.out];exact ha3,?_⟩
   exact(HK50.out.set_ (p:=⟨br,0,none⟩) (.inr HLo.out.1) _).set_ (p:=⟨br,1,none⟩) (.inr HLo.out.1) _
end Go.Proofs.YtpapiojicbbheaaGreatDoor

namespace Go.Proofs.YtpapiojicbbheaaGreatDoor
open Go.RowKit
set_option maxHeartbeats 1000000 in
set_option maxRecDepth 100000 in
theorem nomW_any (r:Bool) (w:World):Calls Tryz.prog 77 #[.bool r] w fun e w'=>e=.returned (.int .i64 (nomI r))∧w'=w:=by
 cases r
 all_goals
  go_enter Tryz.func77, Tryz.ntmps77
  go_wp2_with fail
  go_ret
  exact⟨rfl,rfl⟩
theorem RAt.fz {w:World}{B p:Nat}{v:List Int}{u e:Int} (h:RAt w B p v u e) {i:Nat}:w.frozen? ⟨p,i,none⟩=false:=by obtain⟨A,n,c,hb,_⟩:=h;exact hb.frozen i
theorem RAt.putU {w:World}{B p:Nat}{v:List Int}{u e:Int} (h:RAt w B p v u e) (hp:B≤p) (u2:Int):RAt (w.setCell ⟨p,1,none⟩ (.int .i64 u2)) B p v u2 e:=by
 obtain⟨A,n,c,h1,h2,h3⟩:=h
 refine⟨A,n,c,?_,h2.keep (put1_keep (w:=w) (b:=p) (i:=1) (.int .i64 u2)) (fun k h=>by omega),h3⟩
 have:=h1.set_ 1 (.int .i64 u2)
 simpa using this
theorem RAt.not {w:World}{B p:Nat}{v:List Int}{u e:Int} (h:RAt w B p v u e) {g t:Nat}{cs:Array Value} (hg:Blk w g t cs) (ht : 165 ≠ t):¬g=p:=by
 obtain⟨A,n,c,h1,_⟩:=h
 exact fun e=>h1.ne_ hg ht e.symm
theorem RAt.row {w:World}{B p:Nat}{v:List Int}{u e:Int} (h:RAt w B p v u e) {base t size n c:Nat}{A:Option Addr}{xs:List Value} (ho:Own w base t size A n c xs) (ht:t ≠ 165):∀k,InRow A k→k≠p:=by
 obtain⟨_,_,_,h1,_⟩:=h
 exact ho.ne_blk h1 ht
structure SecI (u:Int) (N:Nat) (res:Except Int (List Sc×List Int)) (i:Nat) (at_:Int) (v:List Int) (acc:List Sc):Prop where
  le:i≤N
  n8:N≤8
  lo:0≤at_
  hi:at_≤3276600*i
  len:acc.length=i
  go:res=match sectsR u (N - i) at_ v with | .error e=>.error e | .ok z=>.ok (acc++z.1,z.2)
theorem SecI.start {u:Int}{N:Nat}{v:List Int} (h:N≤8):SecI u N (sectsR u N 0 v) 0 0 v []:=
  ⟨Nat.zero_le _,h,Int.le_refl _,by omega,rfl,by rw[Nat.sub_zero];cases sectsR u N 0 v with | error e=>rfl | ok z=>rfl⟩
theorem SecI.bad {u:Int}{N:Nat}{res:Except Int (List Sc×List Int)}{i:Nat}{at_:Int}{v:List Int}{acc:List Sc} (h:SecI u N res i at_ v acc) (hi:i<N) (he:(sectR u at_ v 0).e≠0):res=.error (sectR u at_ v 0).e:=by
 rw[h.go,show N - i=(N - (i+1))+1 by omega]
 unfold sectsR
 rw[if_pos he]
theorem sect_far (u at_:Int) (v:List Int):(sectR u at_ v 0).s.1=at_+(dmM (v.headD 0) u).1:=rfl
theorem SecI.next {u:Int}{N:Nat}{res:Except Int (List Sc×List Int)}{i:Nat}{at_:Int}{v:List Int}{acc:List Sc} (h:SecI u N res i at_ v acc) (hi:i<N) (he:(sectR u at_ v 0).e=0):SecI u N res (i+1) (sectR u at_ v 0).s.1 (sectR u at_ v 0).v (acc++[(sectR u at_ v 0).s]):=by
 have hd:=dm_range (v.headD 0) u
 have h1:=h.lo
 have h2:=h.hi
 refine⟨by omega,h.n8,by rw[sect_far];omega,by rw[sect_far];push_cast;omega,by simp[h.len],?_⟩
 rw[h.go,show N - i=(N - (i+1))+1 by omega]
 conv=>lhs;unfold sectsR
 rw[if_neg (by rw[he];simp)]
 cases sectsR u (N - (i+1)) (sectR u at_ v 0).s.1 (sectR u at_ v 0).v with
 | error e=>rfl
 | ok z=>simp
theorem SecI.fin {u:Int}{N:Nat}{res:Except Int (List Sc×List Int)}{at_:Int}{v:List Int}{acc:List Sc} (h:SecI u N res N at_ v acc):res=.ok (acc,v):=by
 rw[h.go,Nat.sub_self]
 simp[sectsR]
def SecsRet (r:Except Int (List Sc×Int)) (bm:Nat) (v0 v1 v2:Value) (w:World) (e:Ending) (w':World):Prop:=
  Keep (fun q=>q=bm) w w'∧match r with
    | .ok z=>e=.returned (.int .i64 0)∧∃A n c,Blk w' bm 38 #[v0,v1,v2,.slice A n c,.int .i64 z.2]∧n=z.1.length∧Own w' w.heap.size 58 2 A n c (scCells z.1)
    | .error x=>x≠0∧e=.returned (.int .i64 x)∧∃A n c g,Blk w' bm 38 #[v0,v1,v2,.slice A n c,.int .i64 g]
theorem gap_zero (u:Int) (v:List Int):gapR u v=(if (if v.headD 0=1 then v.tail.tail.tail else v.tail).headD 0=1 then ((dmM ((if v.headD 0=1 then v.tail.tail.tail else v.tail).tail.headD 0) u).1,if (dmM ((if v.headD 0=1 then v.tail.tail.tail else v.tail).tail.headD 0) u).2≠0 then 7 else 0) else (0,0)):=rfl
set_option maxHeartbeats 8000000 in
set_option maxRecDepth 100000 in
theorem secs_any (B bm:Nat) (ref:Int) (rv:Bool) (P:Value) (A:Option Addr) (n c:Nat) (V:List Int) (w:World) (hr:Rd w B 1 A n (V.map (.int .i64))) (hc:n≤c) (hB:B≤w.heap.size) (hBm:B≤bm) (hV:∀x∈V,i64_ x) (hm:Blk w bm 38 #[.int .i64 ref,.bool rv,P,.slice none 0 0,.int .i64 0]) :
    Calls Tryz.prog 67 #[.pointer (some ⟨bm,0,none⟩),.slice A n c] w (SecsRet (secsM rv V) bm (.int .i64 ref) (.bool rv) P w):=by
  have HO:=qh (fun (W:World) (v:List Int) (u e:Int) (hW:RAt W B w.heap.size v u e)=>ro_any w.heap.size B v u e W hW hB)
  have HSe:=qh (fun (W:World) (v:List Int) (u a:Int) (hW:RAt W B w.heap.size v u 0) (h0:0≤a) (h1:a≤1000000000)=>sect_any w.heap.size B v u a 0 W hW hB h0 h1)
  have HFa:=qh (fun (W:World) (v:List Int) (u e:Int) (hW:RAt W B w.heap.size v u e)=>far_any w.heap.size B v u e W hW hB)
  have HNm:=qh (nomW_any rv)
  unfold OneRet at HO
  obtain⟨w1,hw1⟩:∃V:World,w.alloc (.cells #[.slice A n c,.int .i64 0,.int .i64 0] 165)=V:=⟨_,rfl⟩
  have k1:Keep Never w w1:=by rw[←hw1];exact(Keep.refl _ _).alloc _
  have B1:=Blk.new w 165 #[.slice A n c,.int .i64 0,.int .i64 0]
  rw[hw1] at B1
  obtain⟨bp,hbp⟩:∃q,w.heap.size=q:=⟨_,rfl⟩
  rw[hbp] at B1
  have HA1:Hid (RAt w1 B bp V 0 0):=qh ⟨A,n,c,B1,hr.keep k1 (fun _ h=>h.elim),hc⟩
  have HM1:=qh (hm.keep k1 (fun h=>h))
  have HK1:Hid (Keep (fun q=>q=bm) w w1):=qh (k1.mono (fun _ _ h=>False.elim h))
  have HP:Hid (w.heap.size=bp∧B≤bp∧bm<bp∧B≤bm):=qh ⟨hbp,by omega,by have:=hm.lt;omega,hBm⟩
  have m1:w1.cell? ⟨bm,1,none⟩=some (.bool rv):=HM1.out.cell 1
  rw[hbp] at HO HSe HFa
  clear k1 B1 hr hm
  go_enter Tryz.func67, Tryz.ntmps67
  go_wp2_with fail
  clear hw1 hbp
  obtain⟨q,hq⟩:∃z,V.headD 0=z:=⟨_,rfl⟩
  have HO1:=qh (fun W h=>HO.out W V 0 0 h)
  rw[hq] at HO1
  have HQ:=qh hq
  clear hq
  obtain⟨nr,hnr⟩:∃z,nomI rv=z:=⟨_,rfl⟩
  rw[hnr] at HNm
  have HNr:=qh hnr
  clear hnr
  go_cut [20] (fun s20 wc=>s20=.bool (q != nr)∧Hid (RAt wc B bp V.tail 0 0∧Keep (fun z=>z=bp) w1 wc))
  case first=>
   go_region_law (first
     | (go_simp;refine(HO1.out _ (by first | exact HA1.out | exact HA1.out.drew)).mono ?_;rintro en w3 ⟨rfl,hr,hk⟩;have HA3:=qh hr;have HK3:Hid (Keep (fun z=>z=bp) w1 w3):=qh (by first | exact hk | exact hk.drewL);have m3:w3.cell? ⟨bm,1,none⟩=some (.bool rv):=(HM1.out.keep HK3.out (by have:=HP.out;omega)).cell 1;clear hr hk)
     | (go_simp;refine(HNm.out _).mono ?_;rintro en w4 ⟨rfl,rfl⟩))
   all_goals
    go_wp2_with fail
    go_meet
    exact⟨rfl,qh ⟨by first | exact HA3.out | exact HA3.out.drew,by first | exact HK3.out | exact HK3.out.drew⟩⟩
  case rest=>
  obtain⟨rfl,hR⟩:=hcut
  rename World=>w2
  have HA2:=qh hR.out.1
  have HM2:=qh (HM1.out.keep hR.out.2 (by have:=HP.out;omega))
  have HK2:Hid (Keep (fun q=>q=bm) w w2):=qh (HK1.out.then_ hR.out.2 (fun i hi h=>by have:=HP.out;omega))
  clear hR HO1 m1 HM1 HK1 HA1
  by_cases g0:q=nr
  case neg=>
   have t0:(q != nr)=true:=by simpa using g0
   have HF:Hid (secsM rv V=.error 20):=qh (by unfold secsM;rw[if_pos (by rw[HQ.out,HNr.out];exact g0)])
   clear g0
   go_wp2_with fail
   go_ret
   refine⟨HK2.out,?_⟩
   rw[HF.out]
   exact⟨by decide,rfl,_,_,_,_,HM2.out⟩
  have t0:(q != nr)=false:=by simpa using g0
  have HD0:Hid (secsM rv V=secs2 (V.tail.headD 0) (V.tail.tail.tail.tail.headD 0) V.tail.tail.tail.tail.tail):=qh (by unfold secsM;rw[if_neg (by rw[HQ.out,HNr.out];simpa using g0)])
  clear g0
  have HO2:=qh (fun W h=>HO.out W V.tail 0 0 h)
  obtain⟨u,hu⟩:∃z,V.tail.headD 0=z:=⟨_,rfl⟩
  obtain⟨my,hmy⟩:∃z,V.tail.tail.tail.tail.headD 0=z:=⟨_,rfl⟩
  rw[hu] at HO2
  rw[hu,hmy] at HD0
  have HO3:=qh (fun W h=>HO.out W V.tail.tail u 0 h)
  have HO4:=qh (fun W h=>HO.out W V.tail.tail.tail u 0 h)
  have HO5:=qh (fun W h=>HO.out W V.tail.tail.tail.tail u 0 h)
  rw[hmy] at HO5
  have HMy:Hid (-9223372036854775808≤my):=qh (by
   rw[←hmy]
   rcases hv5:V.tail.tail.tail.tail with _ | ⟨x,l⟩
   ·simp
   ·have hm:x∈V:=List.mem_of_mem_tail (List.mem_of_mem_tail (List.mem_of_mem_tail (List.mem_of_mem_tail (by rw[hv5];simp))))
    exact(hV x hm).1)
  clear hu hmy
  go_wp2_with fail
  refine(HO2.out w2 HA2.out).mono ?_
  rintro en w3 ⟨rfl,hr,hk⟩
  have HA3:=qh hr
  have HM3:=qh (HM2.out.keep hk (by have:=HP.out;omega))
  have HK3:=qh (HK2.out.then_ hk (fun i hi h=>by have:=HP.out;omega))
  clear hr hk
  have z1:w3.cell? ⟨bp,1,none⟩=some (.int .i64 0):=HA3.out.u
  have zf:w3.frozen? ⟨bp,1,none⟩=false:=HA3.out.fz
  go_upto_region 5 with(fail)
  obtain⟨w4,hw4⟩:∃W:World,w3.setCell ⟨bp,1,none⟩ (.int .i64 u)=W:=⟨_,rfl⟩
  rw[hw4]
  have kb:Keep (fun q=>q=bp) w3 w4:=by rw[←hw4];exact put1_keep _
  have HA4:Hid (RAt w4 B bp V.tail.tail u 0):=qh (by rw[←hw4];exact HA3.out.putU HP.out.2.1 u)
  have HM4:=qh (HM3.out.keep kb (by have:=HP.out;omega))
  have HK4:=qh (HK3.out.then_ kb (fun i hi h=>by have:=HP.out;omega))
  clear hw4 kb z1 zf
  go_wp2_with fail
  refine(HO3.out w4 HA4.out).mono ?_
  rintro en w5 ⟨rfl,hr,hk⟩
  have HA5:=qh hr
  have HM5:=qh (HM4.out.keep hk (by have:=HP.out;omega))
  have HK5:=qh (HK4.out.then_ hk (fun i hi h=>by have:=HP.out;omega))
  clear hr hk
  go_wp2_with fail
  refine(HO4.out w5 HA5.out).mono ?_
  rintro en w6 ⟨rfl,hr,hk⟩
  have HA6:=qh hr
  have HM6:=qh (HM5.out.keep hk (by have:=HP.out;omega))
  have HK6:=qh (HK5.out.then_ hk (fun i hi h=>by have:=HP.out;omega))
  clear hr hk
  go_wp2_with fail
  refine(HO5.out w6 HA6.out).mono ?_
  rintro en w7 ⟨rfl,hr,hk⟩
  have HA7:=qh hr
  have HM7:=qh (HM6.out.keep hk (by have:=HP.out;omega))
  have HK7:=qh (HK6.out.then_ hk (fun i hi h=>by have:=HP.out;omega))
  clear hr hk
  by_cases g1:8≤my
  ·have t1:decide (my≥8)=true:=by simpa using g1
   have HF:Hid (secsM rv V=.error 2):=qh (by rw[HD0.out];unfold secs2;rw[if_pos g1])
   clear g1
   go_wp2_with fail
   go_ret
   refine⟨HK7.out,?_⟩
   rw[HF.out]
   exact⟨by decide,rfl,_,_,_,_,HM7.out⟩
  have t1:decide (my≥8)=false:=by simpa using g1
  have HD1:Hid (secsM rv V=secs4 u (sectsR u (my+1).toNat 0 V.tail.tail.tail.tail.tail)):=qh (by rw[HD0.out];unfold secs2;rw[if_neg g1])
  have hmy0:=HMy.out
  have hw1:IntKind.i64.wrap (my+1)=my+1:=IntWalk.i64_in _ (by omega)
  have hw1':wrap64 (my+1)=my+1:=by have:=hw1;rwa [IntWalk.i64_left] at this
  have hn8:(my+1).toNat≤8:=by omega
  have HNt:Hid (∀k:Nat,(k:Int)<my+1↔k<(my+1).toNat):=qh (fun k=>by omega)
  obtain⟨N,hN⟩:∃z,(my+1).toNat=z:=⟨_,rfl⟩
  rw[hN] at HD1 HNt hn8
  have HI0:=qh (SecI.start (u:=u) (N:=N) (v:=V.tail.tail.tail.tail.tail) hn8)
  obtain⟨res,hres⟩:∃z,sectsR u N 0 V.tail.tail.tail.tail.tail=z:=⟨_,rfl⟩
  rw[hres] at HD1 HI0
  have HN8:=qh hn8
  have eg:=enters_of Tryz.func121 (by kernel_rfl) rfl
  clear hN hres g1 hmy0 hn8 HD0 HO2 HO3 HO4 HO5
  go_wp2_with fail
  (try rw[hw1'])
  obtain⟨my1,hmy1⟩:∃z,my+1=z:=⟨_,rfl⟩
  rw[hmy1] at HNt
  (try rw[hmy1])
  clear hmy1 hw1 hw1' HMy
  go_loopw [8,38] (fun ta ti wr=>∃(k:Nat) (a:Int) (v:List Int) (acc:List Sc) (As:Option Addr) (ns cs:Nat),ti=.int .i64 k∧ta=.int .i64 a∧k≤N∧ns≤8∧Hid (SecI u N res k a v acc∧RAt wr B bp v u 0∧Blk wr bm 38 #[.int .i64 ref,.bool rv,P,.slice As ns cs,.int .i64 0]∧ns=acc.length∧Own wr w.heap.size 58 2 As ns cs (scCells acc)∧Keep (fun q=>q=bm) w wr)) (fun _ ti _=>N - (intOf ti).toNat)
  case atStart=>exact⟨0,0,_,[],none,0,0,rfl,rfl,Nat.zero_le _,Nat.zero_le _,qh ⟨HI0.out,HA7.out,HM7.out,rfl,Own.nil _ _ _ _,HK7.out⟩⟩
  case round=>
   obtain⟨k,a,v,acc,As,ns,cs,rfl,rfl,hkN,hns,HH⟩:=hrel
   have HIr:=qh HH.out.1
   have HAr:=qh HH.out.2.1
   have HMr:=qh HH.out.2.2.1
   have HNs:=qh HH.out.2.2.2.1
   have HOr:=qh HH.out.2.2.2.2.1
   have HKr:=qh HH.out.2.2.2.2.2
   clear HH
   by_cases h0:k<N
   ·have hkz:(k:Int)<my1:=(HNt.out k).2 h0
    have tk:decide ((k:Int)<my1)=true:=by simpa using hkz
    have hk8:k<8:=by have:=HN8.out;omega
    have HC:=qh (HSe.out wr v u a HAr.out HIr.out.lo (by have:=HIr.out.hi;omega))
    have HBd:=qh (HIr.out.bad h0)
    have HNx:=qh (HIr.out.next h0)
    obtain⟨o,ho⟩:∃z,sectR u a v 0=z:=⟨_,rfl⟩
    rw[ho] at HC HBd HNx
    obtain⟨⟨s1,s2⟩,v2,e2⟩:=o
    dsimp only at HC HBd HNx
    clear ho
    go_wp2_with fail
    refine HC.out.mono ?_
    rintro en w8 ⟨rfl,hr,hk⟩
    have HA8:=qh hr
    have HM8:=qh (HMr.out.keep hk (by have:=HP.out;omega))
    have HO8:=qh (HOr.out.keep hk (fun q h1 h2=>HAr.out.row HOr.out (by decide) q h1 h2))
    have HK8:=qh (HKr.out.then_ hk (fun i hi h=>by have:=HP.out;omega))
    clear hr hk HC
    obtain⟨w9,hw9⟩:∃V:World,w8.alloc (.cells #[.int .i64 s1,.int .i64 s2] 58)=V:=⟨_,rfl⟩
    have k9:Keep Never w8 w9:=by rw[←hw9];exact(Keep.refl _ _).alloc _
    have B9:=Blk.new w8 58 #[.int .i64 s1,.int .i64 s2]
    rw[hw9] at B9
    obtain⟨bs,hbs⟩:∃q,w8.heap.size=q:=⟨_,rfl⟩
    rw[hbs] at B9
    have HA9:=qh (HA8.out.never k9)
    have HM9:=qkb HM8 k9
    have HO9:=qko HO8 k9
    have HK9:=qh (HK8.out.then_ k9 (fun _ _ h=>False.elim h))
    have HB9:=qh B9
    have HNb:Hid (∀q,InRow As q→q≠bs):=qh (fun q h e=>by have h1:=(HO8.out.row h).2;omega)
    have e9:w9.cell? ⟨bp,2,none⟩=some (.int .i64 e2):=HA9.out.e
    clear k9 B9
    by_cases ge:e2=0
    case neg=>
     have te:(e2 != 0)=true:=by simpa using ge
     have HF:Hid (secsM rv V=.error e2):=qh (by rw[HD1.out,HBd.out ge];rfl)
     have HGe:=qh ge
     clear ge
     go_wp2_with fail
     go_ret
     refine⟨HK9.out,?_⟩
     rw[HF.out]
     exact⟨HGe.out,rfl,_,_,_,_,HM9.out⟩
    have te:(e2 != 0)=false:=by simpa using ge
    have HI9:=qh (HNx.out ge)
    subst ge
    have m3:w9.cell? ⟨bm,3,none⟩=some (.slice As ns cs):=HM9.out.cell 3
    obtain⟨b0,b1⟩:=bc2 HB9.out
    have m3a:∀o,(w9.alloc o).cell? ⟨bm,3,none⟩=some (.slice As ns cs):=fun o=>(HM9.out.alloc o).cell 3
    have hz9:w.heap.size≤w9.heap.size:=HK9.out.size
    go_upto_region 17 with(fail)
    clear e9
    go_cut [] (fun wc=>∃A6 c6,Hid (RAt wc B bp v2 u 0∧Blk wc bm 38 #[.int .i64 ref,.bool rv,P,.slice A6 (ns+1) c6,.int .i64 0]∧Own wc w.heap.size 58 2 A6 (ns+1) c6 (scCells (acc++[(s1,s2)]))∧Keep (fun q=>q=bm) w wc∧Blk wc bs 58 #[.int .i64 s1,.int .i64 s2]))
    case first=>
     go_region_law (refine step_app _ rfl (.tmp 56) (.tmp 58) _ rfl elemSc (w.heap.size) (A:=As) (n:=ns) (c:=cs) (by go_simp) (HO9.out.alloc _) _ (A':=some ⟨_,0,none⟩) (m:=1) (c':=1) (news:=[.int .i64 s1,.int .i64 s2]) (by go_simp) (Rd.of_blk (n:=1) (cs:=[.int .i64 s1,.int .i64 s2]) (Blk.new _ _ _) rfl) (by simp[Value.oneCell']) (by omega) (by unfold maxLen;omega) (by simp;omega) ?_;intro A16 c16 w16 hown hk hrow;have hk16:Keep (InRow As) w9 w16:=(by first | exact(((Keep.refl (InRow As) w9).alloc _).drew).trans hk | exact(((Keep.refl (InRow As) w9).drew).alloc _).trans hk | exact((Keep.refl (InRow As) w9).alloc _).trans hk);have HO16:=qh hown;have HA16:=qh (HA9.out.keep hk16 (fun q h=>⟨by have h1:=(HO9.out.row h).1;have:=HP.out;omega,HA9.out.row HO9.out (by decide) q h⟩));have HM16:=qh (HM9.out.keep hk16 (fun hi=>HO9.out.ne_blk HM9.out (by decide) _ hi rfl));have HB16:=qh (HB9.out.keep hk16 (fun hi=>HNb.out _ hi rfl));have HK16:=qh (HK9.out.then_ hk16 (fun i hi h=>by have h1:=(HO9.out.row h).1;omega));have m3:w16.cell? ⟨bm,3,none⟩=some (.slice As ns cs):=HM16.out.cell 3;have mf3:=HM16.out.frozen 3;clear hk16;clear hown hk hrow)
     all_goals
      go_wp2_with fail
      go_meet
      have hm16:=HM16.out
      have hk17:Keep (fun q=>q=bm) w16 (w16.setCell ⟨bm,3,none⟩ (.slice A16 (ns+1) c16)):=put1_keep _
      refine⟨A16,c16,qh ⟨HA16.out.keep hk17 (fun q h=>by subst h;have:=HP.out;omega),?_,?_,HK16.out.trans hk17,HB16.out.keep hk17 (fun h=>HB16.out.ne_ HM16.out (by decide) h)⟩⟩
      ·have:=HM16.out.set_ 3 (.slice A16 (ns+1) c16)
       simpa using this
      ·rw[scCells_app]
       exact HO16.out.far (HO16.out.ne_blk HM16.out (by decide)) _
    case rest=>
    obtain⟨A6,c6,hR⟩:=hcut
    rename World=>w10
    have HA10:=qh hR.out.1
    have HM10:=qh hR.out.2.1
    have HO10:=qh hR.out.2.2.1
    have HK10:=qh hR.out.2.2.2.1
    have b0:w10.cell? ⟨bs,0,none⟩=some (.int .i64 s1):=hR.out.2.2.2.2.cell 0
    clear hR b1 m3 m3a hz9
    go_wp2_with fail
    go_roundw
    case measure=>simp[intOf];try omega
    case rel=>exact⟨k+1,s1,v2,acc++[(s1,s2)],A6,ns+1,c6,by go_num,rfl,by omega,by have h1:=HI9.out.len;have h2:=HNs.out;simp at h1;omega,qh ⟨HI9.out,HA10.out,HM10.out,by rw[HNs.out];simp,HO10.out,HK10.out⟩⟩
   ·obtain rfl:k=N:=by omega
    have hkz:¬(k:Int)<my1:=fun h=>h0 ((HNt.out k).1 h)
    have tk:decide ((k:Int)<my1)=false:=by simpa using hkz
    have HD2:Hid (secsM rv V=secs3 u (acc,v)):=qh (by rw[HD1.out,HIr.out.fin];rfl)
    clear HIr hkz h0
    obtain⟨x1,hx1⟩:∃z,v.headD 0=z:=⟨_,rfl⟩
    have HX1:=qh hx1
    clear hx1
    go_wp2_with fail
    have hw:=HO.out wr v u 0 HAr.out
    rw[HX1.out] at hw
    refine hw.mono ?_
    rintro en w50 ⟨rfl,hr,hk⟩
    have HA50:=qh hr
    have HM50:=qh (HMr.out.keep hk (by have:=HP.out;omega))
    have HO50:=qh (HOr.out.keep hk (fun q h1 h2=>HAr.out.row HOr.out (by decide) q h1 h2))
    have HK50:=qh (HKr.out.then_ hk (fun i hi h=>by have:=HP.out;omega))
    clear hr hk hw
    by_cases gx:x1=1
    ·have tx:(x1==1)=true:=by simpa using gx
     have HW:Hid (gapR u v=if (v.tail.tail.tail).headD 0=1 then ((dmM ((v.tail.tail.tail).tail.headD 0) u).1,if (dmM ((v.tail.tail.tail).tail.headD 0) u).2≠0 then 7 else 0) else (0,0)):=qh (by rw[gap_zero,if_pos (show v.headD 0=1 by rw[HX1.out];exact gx)])
     have HX2:Hid (v.tail.headD 0=v.tail.headD 0):=qh rfl
     have HX3:Hid (v.tail.tail.headD 0=v.tail.tail.headD 0):=qh rfl
     clear gx
     go_wp2_with fail
     have hw:=HO.out w50 v.tail u 0 HA50.out
     refine hw.mono ?_
     rintro en w51 ⟨rfl,hr,hk⟩
     have HA51:=qh hr
     have HM51:=qh (HM50.out.keep hk (by have:=HP.out;omega))
     have HO51:=qh (HO50.out.keep hk (fun q h1 h2=>HA50.out.row HO50.out (by decide) q h1 h2))
     have HK51:=qh (HK50.out.then_ hk (fun i hi h=>by have:=HP.out;omega))
     clear hr hk hw
     go_wp2_with fail
     have hw:=HO.out w51 v.tail.tail u 0 HA51.out
     refine hw.mono ?_
     rintro en w52 ⟨rfl,hr,hk⟩
     have HA52:=qh hr
     have HM52:=qh (HM51.out.keep hk (by have:=HP.out;omega))
     have HO52:=qh (HO51.out.keep hk (fun q h1 h2=>HA51.out.row HO51.out (by decide) q h1 h2))
     have HK52:=qh (HK51.out.then_ hk (fun i hi h=>by have:=HP.out;omega))
     clear hr hk hw
     go_wp2_with fail
     obtain⟨y,hy⟩:∃z,(v.tail.tail.tail).headD 0=z:=⟨_,rfl⟩
     have HY:=qh hy
     clear hy
     have hw:=HO.out w52 (v.tail.tail.tail) u 0 HA52.out
     rw[HY.out] at hw
     refine hw.mono ?_
     rintro en w53 ⟨rfl,hr,hk⟩
     have HA53:=qh hr
     have HM53:=qh (HM52.out.keep hk (by have:=HP.out;omega))
     have HO53:=qh (HO52.out.keep hk (fun q h1 h2=>HA52.out.row HO52.out (by decide) q h1 h2))
     have HK53:=qh (HK52.out.then_ hk (fun i hi h=>by have:=HP.out;omega))
     clear hr hk hw
     by_cases gy:y=1
     case neg=>
      have ty:(y==1)=false:=by simpa using gy
      have HF:Hid (secsM rv V=.ok (acc,0)):=qh (by rw[HD2.out];unfold secs3;rw[HW.out];simp only;rw[if_neg (show ¬(v.tail.tail.tail).headD 0=1 by rw[HY.out];exact gy)];rfl)
      have e9:w53.cell? ⟨bp,2,none⟩=some (.int .i64 0):=HA53.out.e
      clear gy
      go_wp2_with fail
      go_ret
      refine⟨HK53.out,?_⟩
      rw[HF.out]
      exact⟨rfl,As,ns,cs,HM53.out,HNs.out,HO53.out⟩
     have ty:(y==1)=true:=by simpa using gy
     have HG:Hid (secsM rv V=if (farR u (v.tail.tail.tail).tail 0).2.2≠0 then .error (farR u (v.tail.tail.tail).tail 0).2.2 else .ok (acc,(farR u (v.tail.tail.tail).tail 0).1)):=qh (by
      rw[HD2.out];unfold secs3;rw[HW.out];simp only;rw[if_pos (show (v.tail.tail.tail).headD 0=1 by rw[HY.out];exact gy)];rfl)
     have hw:=HFa.out w53 (v.tail.tail.tail).tail u 0 HA53.out
     obtain⟨fr,hfr⟩:∃z,farR u (v.tail.tail.tail).tail 0=z:=⟨_,rfl⟩
     rw[hfr] at hw HG
     have HC:=qh hw
     obtain⟨d1,v3,e3⟩:=fr
     dsimp only at HC HG
     clear hw hfr gy
     go_wp2_with fail
     refine HC.out.mono ?_
     rintro en w60 ⟨rfl,hr,hk⟩
     have HA60:=qh hr
     have HM60:=qh (HM53.out.keep hk (by have:=HP.out;omega))
     have HO60:=qh (HO53.out.keep hk (fun q h1 h2=>HA53.out.row HO53.out (by decide) q h1 h2))
     have HK60:=qh (HK53.out.then_ hk (fun i hi h=>by have:=HP.out;omega))
     have m4:w60.cell? ⟨bm,4,none⟩=some (.int .i64 0):=HM60.out.cell 4
     have mf4:=HM60.out.frozen 4
     clear hr hk HC
     go_upto_region 25 with(fail)
     obtain⟨w61,hw61⟩:∃W:World,w60.setCell ⟨bm,4,none⟩ (.int .i64 d1)=W:=⟨_,rfl⟩
     rw[hw61]
     have kb:Keep (fun q=>q=bm) w60 w61:=by rw[←hw61];exact put1_keep _
     have HA61:=qh (HA60.out.keep kb (fun q h=>by subst h;have:=HP.out;omega))
     have HM61:Hid (Blk w61 bm 38 #[.int .i64 ref,.bool rv,P,.slice As ns cs,.int .i64 d1]):=qh (by rw[←hw61];have:=HM60.out.set_ 4 (.int .i64 d1);simpa using this)
     have HO61:=qh (HO60.out.keep kb (fun q h1 h2=>HO60.out.ne_blk HM60.out (by decide) q h1 h2))
     have HK61:=qtr HK60 kb
     have e9:w61.cell? ⟨bp,2,none⟩=some (.int .i64 e3):=HA61.out.e
     clear hw61 kb m4 mf4
     go_wp2_with fail
     go_ret
     refine⟨HK61.out,?_⟩
     rw[HG.out]
     by_cases ge:e3=0
     ·rw[if_neg (by simpa using ge),ge]
      exact⟨rfl,As,ns,cs,HM61.out,HNs.out,HO61.out⟩
     ·rw[if_pos ge]
      exact⟨ge,rfl,_,_,_,_,HM61.out⟩
    ·have tx:(x1==1)=false:=by simpa using gx
     have HW:Hid (gapR u v=if (v.tail).headD 0=1 then ((dmM ((v.tail).tail.headD 0) u).1,if (dmM ((v.tail).tail.headD 0) u).2≠0 then 7 else 0) else (0,0)):=qh (by rw[gap_zero,if_neg (show ¬v.headD 0=1 by rw[HX1.out];exact gx)])
     clear gx
     go_wp2_with fail
     obtain⟨y,hy⟩:∃z,(v.tail).headD 0=z:=⟨_,rfl⟩
     have HY:=qh hy
     clear hy
     have hw:=HO.out w50 (v.tail) u 0 HA50.out
     rw[HY.out] at hw
     refine hw.mono ?_
     rintro en w51 ⟨rfl,hr,hk⟩
     have HA51:=qh hr
     have HM51:=qh (HM50.out.keep hk (by have:=HP.out;omega))
     have HO51:=qh (HO50.out.keep hk (fun q h1 h2=>HA50.out.row HO50.out (by decide) q h1 h2))
     have HK51:=qh (HK50.out.then_ hk (fun i hi h=>by have:=HP.out;omega))
     clear hr hk hw
     by_cases gy:y=1
     case neg=>
      have ty:(y==1)=false:=by simpa using gy
      have HF:Hid (secsM rv V=.ok (acc,0)):=qh (by rw[HD2.out];unfold secs3;rw[HW.out];simp only;rw[if_neg (show ¬(v.tail).headD 0=1 by rw[HY.out];exact gy)];rfl)
      have e9:w51.cell? ⟨bp,2,none⟩=some (.int .i64 0):=HA51.out.e
      clear gy
      go_wp2_with fail
      go_ret
      refine⟨HK51.out,?_⟩
      rw[HF.out]
      exact⟨rfl,As,ns,cs,HM51.out,HNs.out,HO51.out⟩
     have ty:(y==1)=true:=by simpa using gy
     have HG:Hid (secsM rv V=if (farR u (v.tail).tail 0).2.2≠0 then .error (farR u (v.tail).tail 0).2.2 else .ok (acc,(farR u (v.tail).tail 0).1)):=qh (by
      rw[HD2.out];unfold secs3;rw[HW.out];simp only;rw[if_pos (show (v.tail).headD 0=1 by rw[HY.out];exact gy)];rfl)
     have hw:=HFa.out w51 (v.tail).tail u 0 HA51.out
     obtain⟨fr,hfr⟩:∃z,farR u (v.tail).tail 0=z:=⟨_,rfl⟩
     rw[hfr] at hw HG
     have HC:=qh hw
     obtain⟨d1,v3,e3⟩:=fr
     dsimp only at HC HG
     clear hw hfr gy
     go_wp2_with fail
     refine HC.out.mono ?_
     rintro en w60 ⟨rfl,hr,hk⟩
     have HA60:=qh hr
     have HM60:=qh (HM51.out.keep hk (by have:=HP.out;omega))
     have HO60:=qh (HO51.out.keep hk (fun q h1 h2=>HA51.out.row HO51.out (by decide) q h1 h2))
     have HK60:=qh (HK51.out.then_ hk (fun i hi h=>by have:=HP.out;omega))
     have m4:w60.cell? ⟨bm,4,none⟩=some (.int .i64 0):=HM60.out.cell 4
     have mf4:=HM60.out.frozen 4
     clear hr hk HC
     go_upto_region 25 with(fail)
     obtain⟨w61,hw61⟩:∃W:World,w60.setCell ⟨bm,4,none⟩ (.int .i64 d1)=W:=⟨_,rfl⟩
     rw[hw61]
     have kb:Keep (fun q=>q=bm) w60 w61:=by rw[←hw61];exact put1_keep _
     have HA61:=qh (HA60.out.keep kb (fun q h=>by subst h;have:=HP.out;omega))
     have HM61:Hid (Blk w61 bm 38 #[.int .i64 ref,.bool rv,P,.slice As ns cs,.int .i64 d1]):=qh (by rw[←hw61];have:=HM60.out.set_ 4 (.int .i64 d1);simpa using this)
     have HO61:=qh (HO60.out.keep kb (fun q h1 h2=>HO60.out.ne_blk HM60.out (by decide) q h1 h2))
     have HK61:=qtr HK60 kb
     have e9:w61.cell? ⟨bp,2,none⟩=some (.int .i64 e3):=HA61.out.e
     clear hw61 kb m4 mf4
     go_wp2_with fail
     go_ret
     refine⟨HK61.out,?_⟩
     rw[HG.out]
     by_cases ge:e3=0
     ·rw[if_neg (by simpa using ge),ge]
      exact⟨rfl,As,ns,cs,HM61.out,HNs.out,HO61.out⟩
     ·rw[if_pos ge]
      exact⟨ge,rfl,_,_,_,_,HM61.out⟩
end Go.Proofs.YtpapiojicbbheaaGreatDoor
