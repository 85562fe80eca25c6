/- Texts of this claim, together: SpnI, SpnJ, SpnK, SpnL, SpnO, SpnT, TopH, TopO, TopP. -/
import Derived.Test.YtpapiojicbbheaaGreatDoorTc01
import Derived.Lib.AppendZerosOnto
import Derived.RangeFuncNested
import Derived.RangeFuncBound
import Derived.RangeFuncCalls
import Derived.RangeFuncLeaves
import Derived.OwnWalkIn
import Derived.TacticsInMore
import Derived.LoopNIn
import Derived.LoopIn
import Derived.Laws.EntriesVeiled
import Derived.Test.YtpapiojicbbheaaGreatDoorTc00
import Derived.IntWalk
import Derived.Test.YtpapiojicbbheaaGreatDoorTc02
namespace Go.Proofs.YtpapiojicbbheaaGreatDoor
open Go.RowKit
attribute [local go_sem] Oper.semAt_some
structure JOk (J:(Nat→Prop)→List (Sp×Bool)→World→Prop):Prop where
  box:∀T T' pre W cs,J T pre W→(∀q,T' q→T q∨q=W.heap.size)→J T' pre (W.alloc (.cells cs 145))
  weak:∀T T' pre W,J T pre W→(∀q,T' q→T q)→J T' pre W
  put:∀T pre W q i v,J T pre W→T q→J T pre (W.setCell ⟨q,i,none⟩ v)
def NoB (_:Nat):Prop:=False
def RoundOk (F:Fence) (n l N:Nat) (Z:Nat→Prop) (J:(Nat→Prop)→List (Sp×Bool)→World→Prop):Prop:=
  ∀(T:Nat→Prop) (pre:List (Sp×Bool)) (x:Sp×Bool) (W:World),J T pre W→(∀q,T q→q<W.heap.size)→pre.length<N →
   YieldAt F (n - 1) Tryz.prog l #[.agg #[.int .i64 x.1.1,.int .i64 x.1.2.1,.int .i64 x.1.2.2],.bool x.2] W fun e W'=>e=.returned (.bool true)∧J T (pre++[x]) W'∧Keep (fun q=>Z q∧¬T q) W W'
set_option maxHeartbeats 8000000 in
set_option maxRecDepth 100000 in
theorem pieces1_in (F:Fence) (n:Nat) (h75:F.fn 222) (hro:F.round=none) (hn:1≤n) (l N pa pb na ca nb cb B B':Nat) (Aa Ab:Option Addr) (a b:List Sp) (Z:Nat→Prop) (J:(Nat→Prop)→List (Sp×Bool)→World→Prop) (hJ:JOk J)
    (hY:RoundOk F n l N Z J) (W:World) (hpa:W.cell? ⟨pa,0,none⟩=some (.slice Aa na ca)) (hpb:W.cell? ⟨pb,0,none⟩=some (.slice Ab nb cb)) (hZ:¬Z pa∧¬Z pb) (ha:Rd W B 3 Aa na (spCells a)) (hb:Rd W B' 3 Ab nb (spCells b))
    (hZa:∀ad,Aa=some ad→0<na→¬Z ad.block) (hZb:∀ad,Ab=some ad→0<nb→¬Z ad.block) (hna:na≤1000000) (hnb:nb≤1000000) (h0:J NoB [] W) (hZn:∀q,W.heap.size≤q→Z q) (hN:na*(2*nb+1)≤N) :
    CallsIn F n Tryz.prog 222 #[.func (.yield l) #[] #[],.pointer (some ⟨pa,0,none⟩),.pointer (some ⟨pb,0,none⟩)] W fun e W'=>(∃v,e=.returned v)∧J NoB (piecesM a b) W':=by
  have HR:=qh (And.intro ha hb)
  have HZ:=qh (And.intro hZ (And.intro hZa (And.intro hZb hZn)))
  have HL:Hid (a.length=na∧b.length=nb):=qh ⟨ha.sp_len,hb.sp_len⟩
  have HC:=qh (And.intro hpa hpb)
  have HJ:=qh hJ
  have HY:=qh hY
  have H0:=qh h0
  clear ha hb hZ hZa hZb hZn hJ hY h0
  refine callsIn_of_wp Tryz.func222 rfl h75 ?_ hro
  simp only[Tryz.ntmps222, List.size_toArray,List.length_cons,List.length_nil,Nat.reduceAdd,Nat.reduceSub,Array.replicate_succ,Array.replicate_zero,List.push_toArray,List.append_toArray,List.nil_append,List.cons_append]
  gi_wp2
  gi_loopw [10] (fun i wr=>∃k:Nat,k≤na∧i=.int .i64 k∧Hid (J NoB (piecesM (a.take k) b) wr∧Keep Z W wr)) (fun i _=>na - (intOf i).toNat)
  case atStart=>exact⟨0,by omega,rfl,qh ⟨by simpa[piecesM] using H0.out,Keep.refl _ _⟩⟩
  case round=>
   obtain⟨k,hk,rfl,HH⟩:=hrel
   by_cases hlt:k<na
   ·have hkz:(k:Int)<(na:Int):=by omega
    have hrd:=HR.out.1.keep_far HH.out.2 HZ.out.2.1
    obtain⟨ad,s,hA,_,hs,c0,c1,c2⟩:=hrd.sp hlt
    subst hA
    have hpb':wr.cell? ⟨pb,0,none⟩=some (.slice Ab nb cb):=(HH.out.2.cell (cell_lt HC.out.2) HZ.out.1.2).trans HC.out.2
    obtain⟨s1,s2,s3⟩:=s
    simp only at c0 c1 c2
    have hpc:piecesM (a.take (k+1)) b=piecesM (a.take k) b++pieceM (s1,s2,s3) b:=by
     obtain⟨h2,h3⟩:=List.getElem?_eq_some_iff.1 hs
     rw[List.take_succ_eq_append_getElem h2,h3];simp[piecesM]
    have Hpc:=qh hpc
    have HlN:Hid ((piecesM (a.take (k+1)) b).length≤N):=qh (by
     have h1:=piecesM_len (a.take (k+1)) b
     have h2:(a.take (k+1)).length≤na:=by rw[List.length_take];have:=HL.out.1;omega
     rw[HL.out.2] at h1
     exact Nat.le_trans h1 (Nat.le_trans (Nat.mul_le_mul_right _ h2) hN))
    obtain⟨w5,hw5⟩:∃w5:World,wr.alloc (.cells #[.int .i64 s1,.int .i64 s2,.int .i64 s3] 145)=w5:=⟨_,rfl⟩
    have hB5:=Blk.new wr 145 #[.int .i64 s1,.int .i64 s2,.int .i64 s3]
    have hk5:Keep Z W w5:=by rw[←hw5];exact HH.out.2.alloc _
    have hJ5:J (fun q=>q=wr.heap.size) (piecesM (a.take k) b) w5:=by rw[←hw5];exact HJ.out.box _ _ _ _ _ HH.out.1 (fun q h=>.inr h)
    rw[hw5] at hB5
    have HB5:=qh hB5
    have HK5:=qh hk5
    have HJ5:=qh hJ5
    have Hbs:Hid (W.heap.size≤wr.heap.size):=qh HH.out.2.size
    obtain⟨bs,hbs⟩:∃q,wr.heap.size=q:=⟨_,rfl⟩
    rw[hbs] at HB5 HJ5 Hbs
    have hpb5:w5.cell? ⟨pb,0,none⟩=some (.slice Ab nb cb):=(HK5.out.cell (cell_lt HC.out.2) HZ.out.1.2).trans HC.out.2
    clear hrd hs hpc hB5 hk5 hJ5 HH
    gi_wp2
    gi_loopw [16] (fun i wi=>∃(j:Nat) (lo:Int) (pre:List (Sp×Bool)),j≤nb∧i=.int .i64 j∧Hid (J (fun q=>q=bs) pre wi∧Keep Z W wi∧Blk wi bs 145 #[.int .i64 s1,.int .i64 lo,.int .i64 s3]∧pre++pieceM (s1,lo,s3) (b.drop j)=piecesM (a.take (k+1)) b)) (fun i _=>nb - (intOf i).toNat)
    case atStart=>exact⟨0,s2,_,by omega,rfl,qh ⟨HJ5.out,HK5.out,HB5.out,by rw[Hpc.out];rfl⟩⟩
    case round=>
     obtain⟨j,lo,pre,hj,rfl,HI⟩:=hrel
     obtain⟨wi,rfl⟩:∃wi:World,wi=wr:=⟨_,rfl⟩
     by_cases hjb:j<nb
     ·have hjz:(j:Int)<(nb:Int):=by omega
      have hrd:=HR.out.2.keep_far HI.out.2.1 HZ.out.2.2.1
      obtain⟨ad2,x,hA2,_,hx,e0,e1,e2⟩:=hrd.sp hjb
      subst hA2
      obtain⟨x1,x2,x3⟩:=x
      simp only at e0 e1 e2
      have Hdr:Hid (b.drop j=(x1,x2,x3)::b.drop (j+1)):=qh (by
       obtain⟨h2,h3⟩:=List.getElem?_eq_some_iff.1 hx
       rw[List.drop_eq_getElem_cons h2,h3])
      have Heq:=qh HI.out.2.2.2
      obtain⟨w6,hw6⟩:∃w6:World,wi.alloc (.cells #[.int .i64 x1,.int .i64 x2,.int .i64 x3] 145)=w6:=⟨_,rfl⟩
      have hbl:=Blk.new wi 145 #[.int .i64 x1,.int .i64 x2,.int .i64 x3]
      have hbs6:=HI.out.2.2.1.alloc (.cells #[.int .i64 x1,.int .i64 x2,.int .i64 x3] 145)
      have hk6:Keep Z W (wi.alloc (.cells #[.int .i64 x1,.int .i64 x2,.int .i64 x3] 145)):=HI.out.2.1.alloc _
      have hj6:J (fun q=>q=bs∨q=wi.heap.size) pre (wi.alloc (.cells #[.int .i64 x1,.int .i64 x2,.int .i64 x3] 145))∧J (fun q=>q=bs) pre (wi.alloc (.cells #[.int .i64 x1,.int .i64 x2,.int .i64 x3] 145)):=⟨HJ.out.box _ _ _ _ _ HI.out.1 (fun q h=>h),HJ.out.box _ _ _ _ _ HI.out.1 (fun q h=>.inl h)⟩
      rw[hw6] at hbl hbs6 hk6 hj6
      obtain⟨bx,hbx⟩:∃q,wi.heap.size=q:=⟨_,rfl⟩
      rw[hbx] at hbl hj6
      have HX6:=qh hbl
      have HS6:=qh hbs6
      have HK6:=qh hk6
      have HJ6:=qh hj6
      obtain⟨y0,y1,y2⟩:=bc3 hbs6
      obtain⟨z0,z1,z2⟩:=bc3 hbl
      have HT:Hid (∀q,(q=bs∨q=bx)→q<w6.heap.size):=qh (fun q h=>by rcases h with rfl | rfl;exact hbs6.lt;exact hbl.lt)
      clear hrd hx hbl hbs6 hk6 hj6 HI c0 c1 c2
      by_cases hc1:x1=s1
      ·have t1:(x1 != s1)=false:=by simpa using hc1
       by_cases hc2:x3≤lo
       ·have t2:decide (x3≤lo)=true:=by simpa using hc2
        have hJ8:J (fun q=>q=bs) pre w6:=HJ6.out.2
        have HF:Hid (J (fun q=>q=bs) pre w6∧Keep Z W w6∧Blk w6 bs 145 #[.int .i64 s1,.int .i64 lo,.int .i64 s3]∧pre++pieceM (s1,lo,s3) (b.drop (j+1))=piecesM (a.take (k+1)) b):=by
         refine qh ⟨hJ8,HK6.out,HS6.out,?_⟩
         rw[←Heq.out,Hdr.out,pieceM,if_pos (by exact .inr (.inl hc2))]
        clear hJ8 hc1 hc2
        gi_wp2
        go_roundw
        case rel=>exact⟨j+1,lo,pre,by omega,by go_num,HF⟩
        case measure=>simp[intOf];try omega
       ·have t2:decide (x3≤lo)=false:=by simpa using hc2
        by_cases hc3:x2≥s3
        ·have t3:decide (x2≥s3)=true:=by simpa using hc3
         have hJ8:J (fun q=>q=bs) pre w6:=HJ6.out.2
         have HF:Hid (J (fun q=>q=bs) pre w6∧Keep Z W w6∧Blk w6 bs 145 #[.int .i64 s1,.int .i64 lo,.int .i64 s3]∧pre++pieceM (s1,lo,s3) (b.drop (j+1))=piecesM (a.take (k+1)) b):=by
          refine qh ⟨hJ8,HK6.out,HS6.out,?_⟩
          rw[←Heq.out,Hdr.out,pieceM,if_pos (by exact .inr (.inr hc3))]
         clear hJ8 hc1 hc2 hc3
         gi_wp2
         go_roundw
         case rel=>exact⟨j+1,lo,pre,by omega,by go_num,HF⟩
         case measure=>simp[intOf];try omega
        ·have t3:decide (x2≥s3)=false:=by simpa using hc3
         have Hstep:Hid (pieceM (s1,lo,s3) (b.drop j)=(if lo<x2 then [((s1,lo,x2),false)] else [])++((s1,max lo x2,min s3 x3),true)::pieceM (s1,min s3 x3,s3) (b.drop (j+1))):=qh (by
          rw[Hdr.out,pieceM,if_neg (by simp only;omega)])
         clear hc1 hc2 hc3
         by_cases hc4:x2>lo
         ·have t4:decide (x2>lo)=true:=by simpa using hc4
          have Hst:=qh (Hstep.out.trans (by rw[if_pos hc4]))
          clear Hstep hc4
          obtain⟨fn,tmps,assign,body,hy,hR⟩:=HY.out _ pre ((s1,lo,x2),false) w6 HJ6.out.1 HT.out (by have h1:=congrArg List.length Heq.out;rw[Hst.out] at h1;simp only[List.length_append,List.length_cons] at h1;have:=HlN.out;omega)
          dsimp only at hy
          gi_wp2
          refine hR.mono ?_
          rintro e w7 ⟨rfl,hJ7,hk7⟩
          have HS7:=qh (HS6.out.keep hk7 (fun h=>h.2 (.inl rfl)))
          have HX7:=qh (HX6.out.keep hk7 (fun h=>h.2 (.inr rfl)))
          have HK7:=qh (HK6.out.trans (hk7.mono (fun _ _ h=>h.1)))
          have HJ7:=qh hJ7
          clear hJ7 hk7 hy hR y0 y1 y2 z0 z1 z2
          obtain⟨v0,v1,v2⟩:=bc3 HS7.out
          obtain⟨u0,u1,u2⟩:=bc3 HX7.out
          obtain⟨fn2,tmps2,assign2,body2,hy2,hR2⟩:=HY.out _ (pre++[((s1,lo,x2),false)]) ((s1,max lo x2,min s3 x3),true) w7 HJ7.out (fun q h=>by rcases h with rfl | rfl;exact HS7.out.lt;exact HX7.out.lt) (by have h1:=congrArg List.length Heq.out;rw[Hst.out] at h1;simp only[List.length_append,List.length_cons,List.length_nil] at h1 ⊢;have:=HlN.out;omega)
          dsimp only at hy2
          gi_wp2
          refine hR2.mono ?_
          rintro e w8 ⟨rfl,hJ8,hk8⟩
          have hs8:=HS7.out.keep hk8 (fun h=>h.2 (.inl rfl))
          have hx8:=HX7.out.keep hk8 (fun h=>h.2 (.inr rfl))
          obtain⟨r0,r1,r2⟩:=bc3 hs8
          have r3:w8.cell? ⟨bx,2,none⟩=some (.int .i64 x3):=hx8.cell 2
          have r4:w8.frozen? ⟨bs,1,none⟩=false:=hs8.frozen 1
          have HF:Hid (J (fun q=>q=bs) ((pre++[((s1,lo,x2),false)])++[((s1,max lo x2,min s3 x3),true)]) (w8.setCell ⟨bs,1,none⟩ (.int .i64 (min s3 x3)))∧Keep Z W (w8.setCell ⟨bs,1,none⟩ (.int .i64 (min s3 x3)))∧Blk (w8.setCell ⟨bs,1,none⟩ (.int .i64 (min s3 x3))) bs 145 #[.int .i64 s1,.int .i64 (min s3 x3),.int .i64 s3]∧((pre++[((s1,lo,x2),false)])++[((s1,max lo x2,min s3 x3),true)])++pieceM (s1,min s3 x3,s3) (b.drop (j+1))=piecesM (a.take (k+1)) b):=by
           refine qh ⟨HJ.out.weak _ _ _ _ (HJ.out.put _ _ _ bs 1 _ hJ8 (.inl rfl)) (fun q h=>.inl h),(HK7.out.trans (hk8.mono (fun _ _ h=>h.1))).set_ (p:=⟨bs,1,none⟩) (.inr Hbs.out) _,hs8.set_ 1 _,?_⟩
           rw[←Heq.out,Hst.out]
           simp
          clear hJ8 hk8 hs8 hx8
          gi_wp2
          go_roundw
          case rel=>exact⟨j+1,min s3 x3,_,by omega,by go_num,HF⟩
          case measure=>simp[intOf];try omega
         ·have t4:decide (x2>lo)=false:=by simpa using hc4
          have Hst:=qh (Hstep.out.trans (by rw[if_neg hc4]))
          clear Hstep hc4 y0 y1 y2 z0 z1 z2
          obtain⟨v0,v1,v2⟩:=bc3 HS6.out
          obtain⟨u0,u1,u2⟩:=bc3 HX6.out
          obtain⟨fn2,tmps2,assign2,body2,hy2,hR2⟩:=HY.out _ pre ((s1,max lo x2,min s3 x3),true) w6 HJ6.out.1 (fun q h=>by rcases h with rfl | rfl;exact HS6.out.lt;exact HX6.out.lt) (by have h1:=congrArg List.length Heq.out;rw[Hst.out] at h1;simp only[List.length_append,List.length_cons,List.length_nil] at h1 ⊢;have:=HlN.out;omega)
          dsimp only at hy2
          gi_wp2
          refine⟨fun _ h=>(by cases h),?_⟩
          gi_wp2
          refine hR2.mono ?_
          rintro e w8 ⟨rfl,hJ8,hk8⟩
          have hs8:=HS6.out.keep hk8 (fun h=>h.2 (.inl rfl))
          have hx8:=HX6.out.keep hk8 (fun h=>h.2 (.inr rfl))
          obtain⟨r0,r1,r2⟩:=bc3 hs8
          have r3:w8.cell? ⟨bx,2,none⟩=some (.int .i64 x3):=hx8.cell 2
          have r4:w8.frozen? ⟨bs,1,none⟩=false:=hs8.frozen 1
          have HF:Hid (J (fun q=>q=bs) (pre++[((s1,max lo x2,min s3 x3),true)]) (w8.setCell ⟨bs,1,none⟩ (.int .i64 (min s3 x3)))∧Keep Z W (w8.setCell ⟨bs,1,none⟩ (.int .i64 (min s3 x3)))∧Blk (w8.setCell ⟨bs,1,none⟩ (.int .i64 (min s3 x3))) bs 145 #[.int .i64 s1,.int .i64 (min s3 x3),.int .i64 s3]∧(pre++[((s1,max lo x2,min s3 x3),true)])++pieceM (s1,min s3 x3,s3) (b.drop (j+1))=piecesM (a.take (k+1)) b):=by
           refine qh ⟨HJ.out.weak _ _ _ _ (HJ.out.put _ _ _ bs 1 _ hJ8 (.inl rfl)) (fun q h=>.inl h),(HK6.out.trans (hk8.mono (fun _ _ h=>h.1))).set_ (p:=⟨bs,1,none⟩) (.inr Hbs.out) _,hs8.set_ 1 _,?_⟩
           rw[←Heq.out,Hst.out]
           simp
          clear hJ8 hk8 hs8 hx8
          gi_wp2
          go_roundw
          case rel=>exact⟨j+1,min s3 x3,_,by omega,by go_num,HF⟩
          case measure=>simp[intOf];try omega
      ·have t1:(x1 != s1)=true:=by simpa using hc1
       have hJ8:J (fun q=>q=bs) pre w6:=HJ6.out.2
       have HF:Hid (J (fun q=>q=bs) pre w6∧Keep Z W w6∧Blk w6 bs 145 #[.int .i64 s1,.int .i64 lo,.int .i64 s3]∧pre++pieceM (s1,lo,s3) (b.drop (j+1))=piecesM (a.take (k+1)) b):=by
        refine qh ⟨hJ8,HK6.out,HS6.out,?_⟩
        rw[←Heq.out,Hdr.out,pieceM,if_pos (by exact .inl hc1)]
       clear hJ8 hc1
       gi_wp2
       go_roundw
       case rel=>exact⟨j+1,lo,pre,by omega,by go_num,HF⟩
       case measure=>simp[intOf];try omega
     ·obtain rfl:j=nb:=by omega
      have hjz:¬(j:Int)<(j:Int):=by omega
      have hbe:b.drop j=[]:=List.drop_eq_nil_of_le (by have:=HL.out.2;omega)
      have heq:=HI.out.2.2.2
      rw[hbe] at heq
      have HJi:=qh HI.out.1
      have HKi:=qh HI.out.2.1
      have HSi:=qh HI.out.2.2.1
      obtain⟨y0,y1,y2⟩:=bc3 HSi.out
      clear HI c0 c1 c2 hbe
      by_cases hlo:lo<s3
      ·have t1:decide (lo<s3)=true:=by simpa using hlo
       have Heq:=qh (heq.symm.trans (show pre++pieceM (s1,lo,s3) []=pre++[((s1,lo,s3),false)] by unfold pieceM;rw[if_pos hlo]))
       obtain⟨fn,tmps,assign,body,hy,hR⟩:=HY.out _ pre ((s1,lo,s3),false) wi HJi.out (fun q h=>by subst h;exact HSi.out.lt) (by have h1:=congrArg List.length Heq.out;simp only[List.length_append,List.length_cons,List.length_nil] at h1;have:=HlN.out;omega)
       dsimp only at hy
       clear heq hlo
       gi_wp2
       refine hR.mono ?_
       rintro e w7 ⟨rfl,hJ7,hk7⟩
       have HF:Hid (J NoB (piecesM (a.take (k+1)) b) w7∧Keep Z W w7):=qh ⟨by rw[Heq.out];exact HJ.out.weak _ _ _ _ hJ7 (fun _ h=>h.elim),HKi.out.trans (hk7.mono (fun _ _ h=>h.1))⟩
       clear hJ7 hk7 hy hR y0 y1 y2
       gi_wp2
       go_roundw
       case rel=>exact⟨k+1,by omega,by go_num,HF⟩
       case measure=>simp[intOf];try omega
      ·have t1:decide (lo<s3)=false:=by simpa using hlo
       have Heq:=qh (heq.symm.trans (show pre++pieceM (s1,lo,s3) []=pre by unfold pieceM;rw[if_neg hlo];simp))
       have HF:Hid (J NoB (piecesM (a.take (k+1)) b) wi∧Keep Z W wi):=qh ⟨by rw[Heq.out];exact HJ.out.weak _ _ _ _ HJi.out (fun _ h=>h.elim),HKi.out⟩
       clear heq hlo
       gi_wp2
       refine⟨fun _ h=>(by cases h),?_⟩
       gi_wp2
       go_roundw
       case rel=>exact⟨k+1,by omega,by go_num,HF⟩
       case measure=>simp[intOf];try omega
   ·obtain rfl:k=na:=by omega
    have hkz:¬(k:Int)<(k:Int):=by omega
    gi_wp2
    go_end0
    exact⟨⟨_,rfl⟩,by have:=HH.out.1;rwa [List.take_of_length_le (by have:=HL.out.1;omega)] at this⟩
end Go.Proofs.YtpapiojicbbheaaGreatDoor

namespace Go.Proofs.YtpapiojicbbheaaGreatDoor
open Go.RowKit
attribute [local go_sem] Oper.semAt_some
def KeepRet (W:World) (ob base:Nat) (Ao:Option Addr) (out:List Sp) (W':World):Prop:=
  ∃(A':Option Addr) (n' c':Nat),n'=out.length∧Blk W' ob 72 #[.slice A' n' c']∧Own W' base 145 3 A' n' c' (spCells out)∧Keep (fun q=>q=ob∨InRow Ao q) W W'∧∀q,InRow A' q→InRow Ao q∨W.heap.size≤q
set_option maxHeartbeats 2000000 in
set_option maxRecDepth 100000 in
theorem kept1_any (s:Sp) (has which:Bool) (wb ob base:Nat) (Ao:Option Addr) (no co:Nat) (out:List Sp) (w:World) (hw:w.cell? ⟨wb,0,none⟩=some (.bool which)) (hb:Blk w ob 72 #[.slice Ao no co]) (hno:no=out.length) (ho:Own w base 145 3 Ao no co (spCells out)) (hn:no≤100000000000) (hbase:base≤w.heap.size) :
    Calls Tryz.prog 188 #[.agg #[.int .i64 s.1,.int .i64 s.2.1,.int .i64 s.2.2],.bool has,.pointer (some ⟨wb,0,none⟩),.pointer (some ⟨ob,0,none⟩)] w fun e w'=>e=.returned (.tuple #[])∧KeepRet w ob base Ao (out++if has==which then [s] else []) w':=by
  obtain⟨s1,s2,s3⟩:=s
  simp only
  obtain⟨w1,hw1⟩:∃w1:World,w.alloc (.cells #[.int .i64 s1,.int .i64 s2,.int .i64 s3] 145)=w1:=⟨_,rfl⟩
  have hk1:Keep Never w w1:=by rw[←hw1];exact(Keep.refl _ _).alloc _
  have hx:=Blk.new w 145 #[.int .i64 s1,.int .i64 s2,.int .i64 s3]
  rw[hw1] at hx
  obtain⟨bx,hbx⟩:∃q,w.heap.size=q:=⟨_,rfl⟩
  have hobx:ob<bx:=by rw[←hbx];exact hb.lt
  rw[hbx] at hx
  have HB:=qh (hb.keep hk1 (fun h=>h))
  have HO:=qh (ho.keep hk1 (fun _ _ h=>h))
  have HX:=qh hx
  have HK:=qh hk1
  have Hno:=qh hno
  have Hbase:=qh hbase
  have HBx:=qh hbx
  have hwc:w1.cell? ⟨wb,0,none⟩=some (.bool which):=(hk1.cell (cell_lt hw) (fun h=>h)).trans hw
  have o0:w1.cell? ⟨ob,0,none⟩=some (.slice Ao no co):=HB.out.cell 0
  have f0:w1.frozen? ⟨ob,0,none⟩=false:=HB.out.frozen 0
  obtain⟨x0,x1,x2⟩:=bc3 hx
  clear hw hb ho hk1 hx hno hbase
  by_cases hc:has=which
  ·subst hc
   have t1:(has==has)=true:=by simp
   rw[if_pos t1]
   have Hnin:Hid (¬InRow Ao ob):=qh (fun h=>HO.out.ne_blk HB.out (by decide) ob h rfl)
   have hsz:base≤(w1.alloc (.cells #[.int .i64 s1,.int .i64 s2,.int .i64 s3] 145)).heap.size:=by have:=HK.out.size;have:=Hbase.out;simp;omega
   go_enter Tryz.func188, Tryz.ntmps188
   go_wp2_with (at_builtin;refine wpList_app _ rfl (.tmp 9) (.tmp 11) _ rfl elemSp base (A:=Ao) (n:=no) (c:=co) (by go_simp) (HO.out.alloc _) _ (A':=some ⟨w1.heap.size,0,none⟩) (m:=1) (c':=1) (by go_simp) (Rd.of_blk (n:=1) (cs:=[.int .i64 s1,.int .i64 s2,.int .i64 s3]) (Blk.new w1 _ _) rfl) (by simp[Value.oneCell']) (by omega) (by unfold maxLen;omega) hsz ?_;intro A5 c5 w5 hown5 hk5 hrow5;have hb5:=(HB.out.alloc (.cells #[.int .i64 s1,.int .i64 s2,.int .i64 s3] 145)).keep hk5 Hnin.out;have o5:w5.cell? ⟨ob,0,none⟩=some (.slice Ao no co):=hb5.cell 0;have f5:w5.frozen? ⟨ob,0,none⟩=false:=hb5.frozen 0;have HB5:=qh hb5;have HO5:=qh hown5;have HK5:=qh hk5;clear hb5 hown5 hk5)
   go_end0
   refine⟨rfl,A5,no+1,c5,by simp[Hno.out],HB5.out.set_ 0 _,?_,?_,fun q h=>?_⟩
   ·rw[spCells_app]
    exact HO5.out.far (p:=⟨ob,0,none⟩) (HO5.out.ne_blk HB5.out (by decide)) _
   ·exact(((HK.out.mono (fun _ _ h=>h.elim)).alloc _).then_ HK5.out (fun _ _ h=>.inr h)).set_ (p:=⟨ob,0,none⟩) (.inl (.inl rfl)) _
   ·rcases hrow5 q h with h | h
    ·exact .inl h
    ·right;simp at h;have:=HK.out.size;have:=HBx.out;omega
  ·have t1:(has==which)=false:=by simpa using hc
   rw[if_neg (by rw[t1];simp)]
   clear hc
   go_enter Tryz.func188, Tryz.ntmps188
   go_wp2
   go_end0
   refine⟨rfl,Ao,no,co,by simp[Hno.out],HB.out,by rw[List.append_nil];exact HO.out,HK.out.mono (fun _ _ h=>h.elim),fun q h=>.inl h⟩
structure KI (w:World) (ob:Nat) (which:Bool) (l:Nat) (lp:Loop) (T:Nat→Prop) (pre:List (Sp×Bool)) (W:World):Prop where
  keep:Keep (fun q=>q=ob∨w.heap.size≤q) w W
  mine:∀q,T q→w.heap.size≤q∧q≠l∧q≠w.heap.size∧q<W.heap.size
  row:∃(Ao:Option Addr) (no co:Nat),no=(keptM which pre).length∧Blk W ob 72 #[.slice Ao no co]∧Own W w.heap.size 145 3 Ao no co (spCells (keptM which pre))∧∀q,InRow Ao q→¬T q
  loop:W.heap[l]?=some (.loop lp)
  dfr:W.heap[w.heap.size]?=some (.deferred (some []))
theorem own_other {w w':World}{base e size n c:Nat}{A:Option Addr}{xs:List Value} (h:Own w base e size A n c xs) {S:Nat→Prop} (hk:Keep S w w') (hS:∀q o,S q→w.heap[q]?=some o→o.isCells=false):Own w' base e size A n c xs:=by
 refine h.keep hk (fun q hq hs=>?_)
 obtain⟨ad,rfl,rfl⟩:=hq
 rcases h.form with⟨h1,_⟩ | ⟨g',cur,h1,hg,hb,_⟩
 ·cases h1
 ·injection h1 with h1
  subst h1
  have:=hS _ _ hs hb
  cases this
theorem Own.cells_of {w:World}{base e size n c:Nat}{A:Option Addr}{xs:List Value} (h:Own w base e size A n c xs) {q:Nat} (hq:InRow A q) {o:Obj} (ho:w.heap[q]?=some o):o.isCells=true:=by
 obtain⟨ad,rfl,rfl⟩:=hq
 rcases h.form with⟨h1,_⟩ | ⟨g',cur,h1,hg,hb,_⟩
 ·cases h1
 ·injection h1 with h1
  subst h1
  unfold Blk at hb
  rw[hb] at ho
  injection ho with ho
  subst ho
  rfl
theorem putObj_keep (W:World) (l:Nat) (o:Obj) (_hl:l<W.heap.size):Keep (fun q=>q=l) W (W.putObj l o):=by
 have hg:=grownBy_putObj' W l o
 exact⟨hg.os,hg.tape,hg.output,hg.size,fun k hk hn=>hg.block k hk (fun e=>hn (by injection e))⟩
namespace KI
variable {w W W':World}{ob l:Nat}{which:Bool}{lp:Loop}{T T':Nat→Prop}{pre:List (Sp×Bool)}
theorem lt (h:KI w ob which l lp T pre W):l<W.heap.size∧w.heap.size<W.heap.size:=⟨(Array.getElem?_eq_some_iff.1 h.loop).1,(Array.getElem?_eq_some_iff.1 h.dfr).1⟩
theorem box (h:KI w ob which l lp T pre W) (cs:Array Value) (hT:∀q,T' q→T q∨q=W.heap.size):KI w ob which l lp T' pre (W.alloc (.cells cs 145)):=by
 have hlt:=h.lt
 refine⟨h.keep.alloc _,fun q hq=>?_,?_,(Below.heap_alloc W _ _ hlt.1).trans h.loop,(Below.heap_alloc W _ _ hlt.2).trans h.dfr⟩
 ·rcases hT q hq with h' | rfl
  ·have:=h.mine q h'
   rw[World.size_alloc]
   omega
  ·rw[World.size_alloc]
   exact⟨by omega,by omega,by omega,by omega⟩
 ·obtain⟨Ao,no,co,h1,h2,h3,h4⟩:=h.row
  refine⟨Ao,no,co,h1,h2.alloc _,h3.alloc _,fun q hq hq'=>?_⟩
  rcases hT q hq' with h' | rfl
  ·exact h4 q hq h'
  ·have:=(h3.row hq).2;omega
theorem weak (h:KI w ob which l lp T pre W) (hT:∀q,T' q→T q):KI w ob which l lp T' pre W:=by
 refine⟨h.keep,fun q hq=>h.mine q (hT q hq),?_,h.loop,h.dfr⟩
 obtain⟨Ao,no,co,h1,h2,h3,h4⟩:=h.row
 exact⟨Ao,no,co,h1,h2,h3,fun q hq hq'=>h4 q hq (hT q hq')⟩
theorem put (h:KI w ob which l lp T pre W) (hob:ob<w.heap.size) {q:Nat} (hq:T q) (i:Nat) (v:Value):KI w ob which l lp T pre (W.setCell ⟨q,i,none⟩ v):=by
 have hm:=h.mine q hq
 refine⟨h.keep.set_ (p:=⟨q,i,none⟩) (.inl (.inr hm.1)) v,fun q' h'=>by have:=h.mine q' h';simpa[World.setCell] using this,?_,(KeepsOthers.setCell W _ v).same _ _ h.loop rfl,(KeepsOthers.setCell W _ v).same _ _ h.dfr rfl⟩
 obtain⟨Ao,no,co,h1,h2,h3,h4⟩:=h.row
 exact⟨Ao,no,co,h1,h2.far (p:=⟨q,i,none⟩) (by simp only;omega) v,h3.far (p:=⟨q,i,none⟩) (fun k hk e=>by simp only at e;subst e;exact h4 _ hk hq) v,h4⟩
theorem turn (h:KI w ob which l lp T pre W) (hl:w.heap.size<l) (hob:ob<w.heap.size) (lp':Loop):KI w ob which l lp' T pre (W.putObj l (.loop lp')):=by
 have hlt:=h.lt
 have hk:=putObj_keep W l (.loop lp') hlt.1
 refine⟨h.keep.trans (hk.mono (fun q _ e=>.inr (by omega))),fun q' h'=>by have:=h.mine q' h';have:=hk.size;omega,?_,World.putObj_heap_same hlt.1,(World.putObj_heap_other (by omega)).trans h.dfr⟩
 obtain⟨Ao,no,co,h1,h2,h3,h4⟩:=h.row
 exact⟨Ao,no,co,h1,h2.keep hk (by omega),own_other h3 hk (fun q o e ho=>by subst e;rw[h.loop] at ho;injection ho with ho;subst ho;rfl),h4⟩
end KI
end Go.Proofs.YtpapiojicbbheaaGreatDoor

namespace Go.Proofs.YtpapiojicbbheaaGreatDoor
open Go.RowKit
attribute [local go_sem] Oper.semAt_some
theorem pieces_any (A1 A2:Option Addr) (n1 c1 n2 c2:Nat) (w:World):Calls Tryz.prog 189 #[.slice A1 n1 c1,.slice A2 n2 c2] w fun e w'=>e=.returned (.func (.func 222) #[] #[.pointer (some ⟨w.heap.size,0,none⟩),.pointer (some ⟨w.heap.size+1,0,none⟩)])∧w'=(w.alloc (.cells #[.slice A1 n1 c1] 72)).alloc (.cells #[.slice A2 n2 c2] 72):=by
 go_enter Tryz.func189, Tryz.ntmps189
 go_wp2
 go_ret
 exact⟨rfl,rfl⟩
theorem wpIn_range_kept {g:Operand}{ps:Array Tmp}{assign body:Code}{Q:Exit→Act→World→Prop}{a:Act}{w0:World} (pa pb na ca nb cb B B' ob:Nat) (Aa Ab:Option Addr) (m1 m2:List Sp) (which:Bool)
    (hg:a.eval g=.func (.func 222) #[] #[.pointer (some ⟨pa,0,none⟩),.pointer (some ⟨pb,0,none⟩)]) (hps:ps.size=2)
    (hpa:w0.cell? ⟨pa,0,none⟩=some (.slice Aa na ca)) (hpb:w0.cell? ⟨pb,0,none⟩=some (.slice Ab nb cb)) (hne:pa≠ob∧pb≠ob) (h1:Rd w0 B 3 Aa na (spCells m1)) (h2:Rd w0 B' 3 Ab nb (spCells m2))
    (hZa:∀ad,Aa=some ad→0<na→ad.block≠ob∧ad.block<w0.heap.size) (hZb:∀ad,Ab=some ad→0<nb→ad.block≠ob∧ad.block<w0.heap.size) (hna:na≤1000000) (hnb:nb≤1000000)
    (hob:Blk w0 ob 72 #[.slice none 0 0]) (a₁:Nat→Sp×Bool→Act)
    (hassign:∀(l:Nat) (x:Sp×Bool) (W:World) (K:Act→World→Prop),K (a₁ W.heap.size x) (W.alloc (.cells #[.int .i64 x.1.1,.int .i64 x.1.2.1,.int .i64 x.1.2.2] 145)) →
      assign.wpIn (Fence.wide.inRound l) 1 Tryz.prog (Exit.then K (fun _ _ _=>False)) { tmps:=(ps.zip #[.agg #[.int .i64 x.1.1,.int .i64 x.1.2.1,.int .i64 x.1.2.2],.bool x.2]).foldl (fun t (p,v)=>t.setIfInBounds p v) a.tmps,defers:=[] } W)
    (hbody:∀(l:Nat) (lp:Loop) (T:Nat→Prop) (pre:List (Sp×Bool)) (x:Sp×Bool) (q:Nat) (W:World),KI w0 ob which l lp T pre W→Blk W q 145 #[.int .i64 x.1.1,.int .i64 x.1.2.1,.int .i64 x.1.2.2]→w0.heap.size<l→pre.length<na*(2*nb+1) →
      body.wpIn (Fence.wide.inRound l) 1 Tryz.prog (fun e _ W'=>e=.normal∧KI w0 ob which l lp T (pre++[x]) W'∧Keep (fun q=>(q=ob∨w0.heap.size≤q)∧¬T q) W W') (a₁ q x) W)
    (hdone:∀(l:Nat) (lp:Loop) (W:World),KI w0 ob which l lp NoB (piecesM m1 m2) W→Q .normal { a with defers:={ target:=.collected w0.heap.size,args:=#[] }::a.defers } W) :
    (Code.rangeFunc g ps assign body).wpIn Fence.wide 3 Tryz.prog Q a w0:=by
  refine wpIn_rangeFunc ?_
  intro fn hfn
  rw[show Fence.wide.round=none from rfl]
  obtain⟨rec,hrec⟩:∃rec:LoopState→Option Code→Loop,rec=fun st pe=>{ state:=st,pending:=pe,fn,tmps:=a.tmps,params:=ps,assign,body,defers:=w0.heap.size }:=⟨_,rfl⟩
  obtain⟨W1,hW1⟩:∃W1,(w0.alloc (.deferred (some []))).alloc (.loop (rec .ready none))=W1:=⟨_,rfl⟩
  have hL1:W1.heap[w0.heap.size+1]?=some (.loop (rec .ready none)):=by
   rw[←hW1];have:=World.alloc_heap_new (w0.alloc (.deferred (some []))) (.loop (rec .ready none));rwa [World.size_alloc] at this
  have hD1:W1.heap[w0.heap.size]?=some (.deferred (some [])):=by
   rw[←hW1];exact(Below.heap_alloc _ _ _ (by simp)).trans (World.alloc_heap_new w0 _)
  have hk1:Keep Never w0 W1:=by rw[←hW1];exact((Keep.refl Never w0).alloc _).alloc _
  have hK1:KI w0 ob which (w0.heap.size+1) (rec .ready none) NoB [] W1:=
    ⟨hk1.mono (fun _ _ h=>h.elim),fun q h=>h.elim,⟨none,0,0,rfl,hob.keep hk1 (fun h=>h),Own.nil _ _ _ _,fun q h=>by obtain⟨_,h,_⟩:=h;cases h⟩,hL1,hD1⟩
  have hobl:=hob.lt
  have hJ:JOk (fun T pre W=>KI w0 ob which (w0.heap.size+1) (rec .ready none) T pre W):=⟨fun T T' pre W cs h hT=>h.box cs hT,fun T T' pre W h hT=>h.weak hT,fun T pre W q i v h hq=>h.put hobl hq i v⟩
  refine⟨w0.heap.size+1,[{ target:=.collected w0.heap.size,args:=#[] }],W1,{ target:=.fn (.func 222) #[.pointer (some ⟨pa,0,none⟩),.pointer (some ⟨pb,0,none⟩)],args:=#[.func (.yield (w0.heap.size+1)) #[] #[]] },W1, 222,
    #[.func (.yield (w0.heap.size+1)) #[] #[]]++#[.pointer (some ⟨pa,0,none⟩),.pointer (some ⟨pb,0,none⟩)],W1,?_,?_,?_,?_,fun _=>by omega,?_⟩
  ·rw[←hW1,hrec];exact run_enterLoop_outer _ _ _ _ _
  ·simp only[resolve,hg]
   simp[go_sem]
  ·intro f' hf';trivial
  ·have eg:∀args w,(callFunc 222 args).run Tryz.prog w=.ok (.enter 222 args) w:=enters_of Tryz.func222 (by kernel_rfl) rfl
   simp[invoke,go_sem,eg]
  ·refine(pieces1_in Fence.wide 2 trivial rfl (by omega) (w0.heap.size+1) (na*(2*nb+1)) pa pb na ca nb cb B B' Aa Ab m1 m2 (fun q=>q=ob∨w0.heap.size≤q) _ hJ ?_ W1
     ((hk1.cell (cell_lt hpa) (fun h=>h)).trans hpa) ((hk1.cell (cell_lt hpb) (fun h=>h)).trans hpb) ?_ (h1.keep hk1 (fun _ h=>h.elim)) (h2.keep hk1 (fun _ h=>h.elim)) ?_ ?_ hna hnb hK1 (fun q hq=>.inr (Nat.le_trans hk1.size hq)) (Nat.le_refl _)).mono ?_
   ·
    intro T pre x W hI hT hlen
    have hlt:=hI.lt
    have hy:=run_yield (P:=Tryz.prog) (args:=#[.agg #[.int .i64 x.1.1,.int .i64 x.1.2.1,.int .i64 x.1.2.2],.bool x.2]) hI.loop (by rw[hrec];exact hps.symm)
    rw[hrec] at hy
    refine⟨fn,_,assign,body,hy,roundIn_of_wpIn hfn (hassign _ x W _ ?_)⟩
    have hI2:=hI.box (T':=T) #[.int .i64 x.1.1,.int .i64 x.1.2.1,.int .i64 x.1.2.2] (fun q h=>.inl h)
    have hbx:=Blk.new W 145 #[.int .i64 x.1.1,.int .i64 x.1.2.1,.int .i64 x.1.2.2]
    have hka:Keep Never W (W.alloc (.cells #[.int .i64 x.1.1,.int .i64 x.1.2.1,.int .i64 x.1.2.2] 145)):=(Keep.refl Never W).alloc _
    refine⟨_,run_beginRound hI2.loop (by rw[hrec]),?_⟩
    have hI3:=hI2.turn (by omega) hobl { rec .ready none with state:=.busy }
    have hp3:=putObj_keep (W.alloc (.cells #[.int .i64 x.1.1,.int .i64 x.1.2.1,.int .i64 x.1.2.2] 145)) (w0.heap.size+1) (.loop { rec .ready none with state:=.busy }) hI2.lt.1
    refine wpIn_mono (hbody _ _ T pre x W.heap.size _ hI3 (hbx.keep hp3 (by omega)) (by omega) hlen) ?_
    rintro e a3 W3 ⟨rfl,hI4,hk4⟩
    refine⟨_,_,run_endRound (P:=Tryz.prog) none hI4.loop,rfl,?_,?_⟩
    ·have:=hI4.turn (by omega) hobl { { rec .ready none with state:=.busy } with state:=.ready,pending:=none }
     rw[hrec] at this ⊢
     exact this
    ·have hp5:=putObj_keep W3 (w0.heap.size+1) (.loop { { rec .ready none with state:=.busy } with state:=if (none:Option Code).isNone then .ready else .done,pending:=none }) hI4.lt.1
     have hTl:¬T (w0.heap.size+1):=fun h=>(hI.mine _ h).2.1 rfl
     exact(((hka.mono (fun _ _ h=>h.elim)).trans (hp3.mono (fun q _ h=>by subst h;exact⟨.inr (by omega),hTl⟩))).trans hk4).trans (hp5.mono (fun q _ h=>by subst h;exact⟨.inr (by omega),hTl⟩))
   ·constructor
    ·rintro(h | h)
     ·exact hne.1 h
     ·have:=cell_lt hpa;simp only at this;omega
    ·rintro(h | h)
     ·exact hne.2 h
     ·have:=cell_lt hpb;simp only at this;omega
   ·intro ad hA hp
    obtain⟨h3,h4⟩:=hZa ad hA hp
    omega
   ·intro ad hA hp
    obtain⟨h3,h4⟩:=hZb ad hA hp
    omega
   ·rintro e W2 ⟨⟨v,rfl⟩,hI⟩
    refine⟨none,_,(by have:=run_endLoop (P:=Tryz.prog) hI.loop (by rw[hrec];simp);rw[hrec] at this;exact this),?_⟩
    exact hdone _ _ _ (hI.turn (by omega) hobl _)
set_option maxHeartbeats 8000000 in
set_option maxRecDepth 100000 in
theorem kept_any (A1 A2:Option Addr) (n1 c1 n2 c2 B:Nat) (a b:List Sp) (which:Bool) (w:World) (h1:Rd w B 3 A1 n1 (spCells a)) (hA1:A1=none→c1=0) (hc1:n1≤c1) (h2:Rd w B 3 A2 n2 (spCells b)) (hA2:A2=none→c2=0) (hc2:n2≤c2) (hn1:n1≤200000) (hn2:n2≤200000) (hB:B≤w.heap.size) :
    Calls Tryz.prog 152 #[.slice A1 n1 c1,.slice A2 n2 c2,.bool which] w (SpRet w fun m=>NormalS m∧(∀e x,hasL m e x=(hasL a e x&&(hasL b e x==which)))∧m.length≤n1*(2*n2+1)):=by
  obtain⟨wA,hwA⟩:∃wA:World,((w.alloc (.cells #[.bool which] 4)).alloc (.cells #[.slice none 0 0] 72)).alloc (.cells #[.func (.func 188) #[] #[.pointer (some ⟨w.heap.size,0,none⟩),.pointer (some ⟨w.heap.size+1,0,none⟩)]] 232)=wA:=⟨_,rfl⟩
  refine(callsIn_wide (n:=3)).1 ?_
  refine callsIn_of_wp_marks Tryz.func152 rfl trivial ?_ rfl
  simp only[Tryz.ntmps152, List.size_toArray,List.length_cons,List.length_nil,Nat.reduceAdd,Nat.reduceSub,Array.replicate_succ,Array.replicate_zero,List.push_toArray,List.append_toArray,List.nil_append,List.cons_append]
  have hkA:Keep Never w wA:=by rw[←hwA];exact(((Keep.refl Never w).alloc _).alloc _).alloc _
  have hWb:Blk wA w.heap.size 4 #[.bool which]:=by rw[←hwA];exact((Blk.new w _ _).alloc _).alloc _
  have hOb:Blk wA (w.heap.size+1) 72 #[.slice none 0 0]:=by
   have:=(Blk.new (w.alloc (.cells #[.bool which] 4)) 72 #[.slice none 0 0]).alloc (.cells #[.func (.func 188) #[] #[.pointer (some ⟨w.heap.size,0,none⟩),.pointer (some ⟨w.heap.size+1,0,none⟩)]] 232)
   rw[World.size_alloc] at this
   rw[←hwA];exact this
  have hFb:Blk wA (w.heap.size+1+1) 232 #[.func (.func 188) #[] #[.pointer (some ⟨w.heap.size,0,none⟩),.pointer (some ⟨w.heap.size+1,0,none⟩)]]:=by
   have:=Blk.new ((w.alloc (.cells #[.bool which] 4)).alloc (.cells #[.slice none 0 0] 72)) 232 #[.func (.func 188) #[] #[.pointer (some ⟨w.heap.size,0,none⟩),.pointer (some ⟨w.heap.size+1,0,none⟩)]]
   rw[World.size_alloc,World.size_alloc] at this
   rw[←hwA];exact this
  have HWA:=qh (And.intro hkA (And.intro hWb (And.intro hOb hFb)))
  have HN1:=qh (norm_any A1 n1 c1 B a wA (h1.keep hkA (fun _ h=>h.elim)) hA1 hc1 (by omega) (Nat.le_trans hB hkA.size))
  have HN2:=qh (fun W (hk:Keep Never w W)=>norm_any A2 n2 c2 B b W (h2.keep hk (fun _ h=>h.elim)) hA2 hc2 (by omega) (Nat.le_trans hB hk.size))
  have HLn:=qh (And.intro h1.sp_len h2.sp_len)
  have HBw:=qh hB
  clear h1 h2 hA1 hA2 hc1 hc2 hkA hWb hOb hFb hB
  gi_wp2_with fail
  refine⟨trivial,(callsIn_wide.2 HN1.out).mono ?_⟩
  rintro e w1 ⟨m1,A3,n3,c3,rfl,hn3,ho3,hk1,hp3,hl3⟩
  have HK1:=qh (HWA.out.1.trans hk1)
  have HKA1:=qh hk1
  have HO3:=qh ho3
  have HP3:=qh (And.intro hn3 (And.intro hp3 hl3))
  have HN2':=qh (HN2.out w1 HK1.out)
  clear hn3 ho3 hk1 hp3 hl3 HN1 HN2
  gi_wp2_with fail
  refine⟨trivial,(callsIn_wide.2 HN2'.out).mono ?_⟩
  rintro e w2 ⟨m2,A4,n4,c4,rfl,hn4,ho4,hk2,hp4,hl4⟩
  have HK2:=qtr HK1 hk2
  have HKA2:=qtr HKA1 hk2
  have HO3':=qko HO3 hk2
  have HO4:=qh ho4
  have HP4:=qh (And.intro hn4 (And.intro hp4 hl4))
  clear hn4 ho4 hk2 hp4 hl4 HN2'
  gi_wp2_with fail
  refine⟨trivial,(callsIn_wide.2 (pieces_any A3 A4 n3 c3 n4 c4 w2)).mono ?_⟩
  rintro e w3 ⟨rfl,rfl⟩
  obtain⟨w0,hw0⟩:∃w0:World,(w2.alloc (.cells #[.slice A3 n3 c3] 72)).alloc (.cells #[.slice A4 n4 c4] 72)=w0:=⟨_,rfl⟩
  have hk0:Keep Never w2 w0:=by rw[←hw0];exact((Keep.refl Never w2).alloc _).alloc _
  have hpa:Blk w0 w2.heap.size 72 #[.slice A3 n3 c3]:=by rw[←hw0];exact(Blk.new w2 _ _).alloc _
  have hpb:Blk w0 (w2.heap.size+1) 72 #[.slice A4 n4 c4]:=by
   have:=Blk.new (w2.alloc (.cells #[.slice A3 n3 c3] 72)) 72 #[.slice A4 n4 c4]
   rw[World.size_alloc] at this
   rw[←hw0];exact this
  rw[hw0]
  have HK0:=qtr HK2 hk0
  have HKA0:=qtr HKA2 hk0
  have HOB:=qh (HWA.out.2.2.1.keep HKA0.out (fun h=>h))
  have HWB:=qh (HWA.out.2.1.keep HKA0.out (fun h=>h))
  have HFB:=qh (HWA.out.2.2.2.keep HKA0.out (fun h=>h))
  have HO3f:=qh (HO3'.out.keep hk0 (fun _ _ h=>h))
  have HO4f:=qko HO4 hk0
  have hobl:=HWA.out.2.2.2.lt
  have hA0:=HKA0.out.size
  have hw2s:=HKA2.out.size
  have hlen3:n3≤n1:=by have h1:=HP3.out;have h2:=HLn.out;omega
  have hlen4:n4≤n2:=by have h1:=HP4.out;have h2:=HLn.out;omega
  gi_wp2_with fail
  refine wpIn_range_kept (ps:=#[17,18]) w2.heap.size (w2.heap.size+1) n3 c3 n4 c4 w0.heap.size w0.heap.size (w.heap.size+1) A3 A4 m1 m2 which ?_ rfl (hpa.cell 0) (hpb.cell 0) ⟨by omega,by omega⟩ HO3f.out.rd HO4f.out.rd
    (fun ad hA _=>⟨HO3f.out.ne_blk HOB.out (by decide) _ ⟨ad,hA,rfl⟩,(HO3f.out.row ⟨ad,hA,rfl⟩).2⟩) (fun ad hA _=>⟨HO4f.out.ne_blk HOB.out (by decide) _ ⟨ad,hA,rfl⟩,(HO4f.out.row ⟨ad,hA,rfl⟩).2⟩) (by omega) (by omega) HOB.out
    (fun q x=>{ tmps:=#[Value.slice A1 n1 c1,Value.slice A2 n2 c2,Value.bool which,undef,undef,Value.pointer (some { block:=w.heap.size,off:=0 }),Value.slice none 0 0,Value.pointer (some { block:=w.heap.size+1,off:=0 }),Value.pointer (some { block:=w.heap.size+1+1,off:=0 }),Value.pointer (some ⟨q,0,none⟩),Value.bool x.2,
          Value.func (Fn.func 188) #[] #[Value.pointer (some { block:=w.heap.size,off:=0 }),Value.pointer (some { block:=w.heap.size+1,off:=0 })],Value.slice A1 n1 c1,Value.slice A3 n3 c3,Value.slice A2 n2 c2,Value.slice A4 n4 c4,
          Value.func (Fn.func 222) #[] #[Value.pointer (some { block:=w2.heap.size,off:=0 }),Value.pointer (some { block:=w2.heap.size+1,off:=0 })],Value.agg #[.int .i64 x.1.1,.int .i64 x.1.2.1,.int .i64 x.1.2.2],Value.bool x.2,undef,undef,undef,undef,undef,undef],defers:=[] }) ?_ ?_ ?_
  ·rfl
  ·intro l x W K hK
   obtain⟨⟨x1,x2,x3⟩,xb⟩:=x
   simp only at hK ⊢
   gi_wp2
   exact hK
  ·intro l lp T pre x q W hI hx hl hlen
   obtain⟨⟨x1,x2,x3⟩,xb⟩:=x
   simp only at hx ⊢
   obtain⟨Ao,no,co,hno,hB,hO,hT⟩:=hI.row
   have hkw:∀p:Nat,p<w0.heap.size→p≠w.heap.size+1→W.heap[p]?=w0.heap[p]?:=fun p hp hne=>hI.keep.block p hp (fun h=>by rcases h with h | h <;> omega)
   have hwb:W.cell? ⟨w.heap.size,0,none⟩=some (.bool which):=(hI.keep.cell (p:=⟨w.heap.size,0,none⟩) (by simp only;omega) (fun h=>by rcases h with h | h <;> (simp only at h;omega))).trans (HWB.out.cell 0)
   have hfb:W.cell? ⟨w.heap.size+1+1,0,none⟩=some (.func (.func 188) #[] #[.pointer (some ⟨w.heap.size,0,none⟩),.pointer (some ⟨w.heap.size+1,0,none⟩)]):=(hI.keep.cell (p:=⟨w.heap.size+1+1,0,none⟩) (by simp only;omega) (fun h=>by rcases h with h | h <;> (simp only at h;omega))).trans (HFB.out.cell 0)
   have hnob:no≤100000000000:=by
    have h1:(keptM which pre).length≤pre.length:=by unfold keptM;rw[List.length_map];exact List.length_filter_le _ _
    have h2:n3*(2*n4+1)≤200000*(2*200000+1):=Nat.mul_le_mul (by omega) (by omega)
    omega
   have hc:=kept1_any (x1,x2,x3) xb which w.heap.size (w.heap.size+1) w0.heap.size Ao no co (keptM which pre) W hwb hB hno hO hnob hI.keep.size
   simp only at hc
   have HC:=qh hc
   have HI:=qh hI
   have HO:=qh hO
   have HT:=qh hT
   have x0:W.cell? ⟨q,0,none⟩=some (.int .i64 x1):=hx.cell 0
   have x1':W.cell? ⟨q,1,none⟩=some (.int .i64 x2):=hx.cell 1
   have x2':W.cell? ⟨q,2,none⟩=some (.int .i64 x3):=hx.cell 2
   have eg:∀args w,(callFunc 188 args).run Tryz.prog w=.ok (.enter 188 args) w:=enters_of Tryz.func188 (by kernel_rfl) rfl
   clear hc hI hB hO hT hno hx hkw
   gi_wp2_with fail
   refine⟨trivial,(CallsIn.inRound l (callsIn_wide.2 HC.out)).mono ?_⟩
   rintro e W' ⟨rfl,A',n',c',hn',hB',hO',hk',hr'⟩
   gi_wp2
   have hmine:=HI.out.mine
   have hlt:=HI.out.lt
   have hS:∀q,(q=w.heap.size+1∨InRow Ao q)→(q=w.heap.size+1∨w0.heap.size≤q)∧¬T q:=fun q h=>by
    rcases h with rfl | h
    ·exact⟨.inl rfl,fun h=>by have:=hmine _ h;omega⟩
    ·exact⟨.inr (HO.out.row h).1,HT.out q h⟩
   have hkp:keptM which (pre++[((x1,x2,x3),xb)])=keptM which pre++(if xb==which then [(x1,x2,x3)] else []):=by
    rw[keptM_app]
    congr 1
    unfold keptM
    cases xb <;> cases which <;> rfl
   refine⟨⟨HI.out.keep.trans (hk'.mono (fun q _ h=>(hS q h).1)),fun q h=>by have:=hmine q h;have:=hk'.size;omega,⟨A',n',c',by rw[hkp];exact hn',hB',by rw[hkp];exact hO',fun q hq hT=>?_⟩,?_,?_⟩,hk'.mono (fun q _ h=>hS q h)⟩
   ·rcases hr' q hq with h | h
    ·exact HT.out q h hT
    ·have:=hmine q hT;omega
   ·refine(hk'.block l hlt.1 (fun h=>?_)).trans HI.out.loop
    rcases h with h | h
    ·omega
    ·have:=HO.out.cells_of h HI.out.loop;cases this
   ·refine(hk'.block _ hlt.2 (fun h=>?_)).trans HI.out.dfr
    rcases h with h | h
    ·omega
    ·have:=HO.out.cells_of h HI.out.dfr;cases this
  ·intro l lp W hI
   obtain⟨Ao,no,co,hno,hB,hO,_⟩:=hI.row
   have hKw:Keep Never w W:=HK0.out.then_ hI.keep (fun i hi h=>by rcases h with h | h <;> omega)
   have hnob:no≤100000000000:=by
    have h1:(keptM which (piecesM m1 m2)).length≤(piecesM m1 m2).length:=by unfold keptM;rw[List.length_map];exact List.length_filter_le _ _
    have h2:n3*(2*n4+1)≤200000*(2*200000+1):=Nat.mul_le_mul (by omega) (by omega)
    have h3:=piecesM_len m1 m2
    rw[←HP3.out.1,←HP4.out.1] at h3
    omega
   have HN:=qh (norm_any Ao no co W.heap.size (keptM which (piecesM m1 m2)) W hO.rd (fun h=>by
    rcases hO.form with⟨_,_,h2,_⟩ | ⟨_,_,h2,_⟩
    ·exact h2
    ·rw[h] at h2;cases h2) hO.cap_le hnob (Nat.le_refl _))
   have o0:W.cell? ⟨w.heap.size+1,0,none⟩=some (.slice Ao no co):=hB.cell 0
   have HKw:=qh hKw
   have HDf:=qh hI.dfr
   have Hno:=qh hno
   clear hI hno hB hO hKw
   gi_wp2_with fail
   refine⟨trivial,(callsIn_wide.2 HN.out).mono ?_⟩
   rintro e w5 ⟨m,A5,n5,c5,rfl,hn5,ho5,hk5,hp5,hl5⟩
   have hdf:w5.heap[w0.heap.size]?=some (.deferred (some [])):=(hk5.block _ (Array.getElem?_eq_some_iff.1 HDf.out).1 (fun h=>h)).trans HDf.out
   have HK5:=qtr HKw hk5
   have HO5:=qh (Own.less ho5 HKw.out.size)
   have HP5:=qh (And.intro hn5 (And.intro hp5 hl5))
   have HD5:=qh hdf
   clear hn5 ho5 hk5 hp5 hl5 hdf
   gi_wp2_with fail
   have hlt5:=(Array.getElem?_eq_some_iff.1 HD5.out).1
   have hpk:=putObj_keep w5 w0.heap.size (.deferred none) hlt5
   have hfin:SpRet w (fun m=>NormalS m∧(∀e x,hasL m e x=(hasL a e x&&(hasL b e x==which)))∧m.length≤n1*(2*n2+1)) (.returned (.slice A5 n5 c5)) (w5.putObj w0.heap.size (.deferred none)):=by
    refine⟨m,A5,n5,c5,rfl,HP5.out.1,own_other HO5.out hpk (fun q o e ho=>by subst e;rw[HD5.out] at ho;injection ho with ho;subst ho;rfl),HK5.out.then_ hpk (fun i hi h=>by have:=HK0.out.size;omega),HP5.out.2.1.1,fun e x=>?_,?_⟩
    ·rw[HP5.out.2.1.2 e x,piecesM_has which HP3.out.2.1.1 HP4.out.2.1.1,HP3.out.2.1.2,HP4.out.2.1.2]
    ·have h1:(keptM which (piecesM m1 m2)).length≤(piecesM m1 m2).length:=by unfold keptM;rw[List.length_map];exact List.length_filter_le _ _
     have h3:=piecesM_len m1 m2
     have h5:=HP5.out.2.2
     rw[←HP3.out.1,←HP4.out.1] at h3
     have h4:n3*(2*n4+1)≤n1*(2*n2+1):=Nat.mul_le_mul hlen3 (by omega)
     omega
   refine⟨by simp,.inl ⟨_,_,rfl,run_takeDeferred HD5.out,?_⟩⟩
   refine⟨_,results_tmp rfl _ _ _,?_⟩
   exact hfin
end Go.Proofs.YtpapiojicbbheaaGreatDoor

namespace Go.Proofs.YtpapiojicbbheaaGreatDoor
open Go.RowKit
def KeptIs (a b:List Sp) (which:Bool) (m:List Sp):Prop:=NormalS m∧(∀e x,hasL m e x=(hasL a e x&&(hasL b e x==which)))
structure SpAt (w:World) (B:Nat) (A:Option Addr) (n c:Nat) (l:List Sp):Prop where
  rd:Rd w B 3 A n (spCells l)
  nil:A=none→c=0
  cap:n≤c
theorem SpAt.keep {w w':World}{B n c:Nat}{A:Option Addr}{l:List Sp} (h:SpAt w B A n c l) (hk:Keep Never w w'):SpAt w' B A n c l:=⟨h.rd.keep hk (fun _ h=>h.elim),h.nil,h.cap⟩
theorem SpAt.of_own {w:World}{base n c:Nat}{A:Option Addr}{l:List Sp} (h:Own w base 145 3 A n c (spCells l)):SpAt w w.heap.size A n c l:=
  ⟨h.rd,(fun e=>by
   rcases h.form with⟨_,_,h2,_⟩ | ⟨_,_,h2,_⟩
   ·exact h2
   ·rw[e] at h2;cases h2),h.cap_le⟩
theorem SpAt.more {w:World}{B B' n c:Nat}{A:Option Addr}{l:List Sp} (h:SpAt w B A n c l) (hB:B≤B'):SpAt w B' A n c l:=⟨h.rd.more hB,h.nil,h.cap⟩
theorem SpAt.len {w:World}{B n c:Nat}{A:Option Addr}{l:List Sp} (h:SpAt w B A n c l):l.length=n:=h.rd.sp_len
set_option maxHeartbeats 1000000 in
set_option maxRecDepth 100000 in
theorem minus_any (B A1 n1 c1 A2 n2 c2) (a b:List Sp) (w:World) (h1:SpAt w B A1 n1 c1 a) (h2:SpAt w B A2 n2 c2 b) (hn1:n1≤200000) (hn2:n2≤200000) (hB:B≤w.heap.size) :
    Calls Tryz.prog 99 #[.slice A1 n1 c1,.slice A2 n2 c2] w (SpRet w fun m=>KeptIs a b false m∧m.length≤n1*(2*n2+1)):=by
  have HK:=qh (kept_any A1 A2 n1 c1 n2 c2 B a b false w h1.rd h1.nil h1.cap h2.rd h2.nil h2.cap hn1 hn2 hB)
  clear h1 h2 hn1 hn2 hB
  go_enter Tryz.func99, Tryz.ntmps99
  go_wp2_with fail
  refine HK.out.mono ?_
  rintro e w' ⟨m,A,n,c,rfl,hn,ho,hk,hp,hq,hl⟩
  have H:=qh (And.intro hn (And.intro ho (And.intro hk (And.intro hp (And.intro hq hl)))))
  clear hn ho hk hp hq hl HK
  go_wp2_with fail
  go_ret
  exact⟨m,A,n,c,rfl,H.out.1,H.out.2.1,H.out.2.2.1,⟨H.out.2.2.2.1,H.out.2.2.2.2.1⟩,H.out.2.2.2.2.2⟩
def withinB (a b:List Sp) (r:Bool):Prop:=r=true↔∀e x,hasL a e x=true→hasL b e x=true
theorem kept_nil {a b m:List Sp}{which:Bool} (h:KeptIs a b which m):m=[]↔∀e x,¬(hasL a e x=true∧hasL b e x=which):=by
 constructor
 ·rintro rfl e x ⟨h1,h2⟩
  have:=h.2 e x
  rw[h1,h2,hasL_nil] at this
  simp at this
 ·intro hx
  cases m with
  | nil=>rfl
  | cons s m=>
   have h1:=h.1.head
   rw[h.2,Bool.and_eq_true,beq_iff_eq] at h1
   exact absurd h1 (hx _ _)
set_option maxHeartbeats 1000000 in
set_option maxRecDepth 100000 in
theorem within_any (B A1 n1 c1 A2 n2 c2) (a b:List Sp) (w:World) (h1:SpAt w B A1 n1 c1 a) (h2:SpAt w B A2 n2 c2 b) (hn1:n1≤200000) (hn2:n2≤200000) (hB:B≤w.heap.size) :
    Calls Tryz.prog 37 #[.slice A1 n1 c1,.slice A2 n2 c2] w fun e w'=>∃r,e=.returned (.bool r)∧withinB a b r∧Keep Never w w':=by
  have HK:=qh (minus_any B A1 n1 c1 A2 n2 c2 a b w h1 h2 hn1 hn2 hB)
  clear h1 h2 hn1 hn2 hB
  go_enter Tryz.func37, Tryz.ntmps37
  go_wp2_with fail
  refine HK.out.mono ?_
  rintro e w' ⟨m,A,n,c,rfl,hn,ho,hk,hp,hl⟩
  have hm:withinB a b (decide (n=0)):=by
   unfold withinB
   rw[decide_eq_true_eq,hn,List.length_eq_zero_iff,kept_nil hp]
   constructor
   ·intro h e x hx
    have:=h e x
    cases hb:hasL b e x
    ·exact absurd ⟨hx,hb⟩ this
    ·rfl
   ·rintro h e x ⟨h1,h2⟩
    rw[h e x h1] at h2;cases h2
  have HM:=qh hm
  have Hk:=qh hk
  clear hn ho hk hp hl HK hm
  by_cases h0:n=0
  ·have t0:((n:Int)==0)=true:=by simp[h0]
   have HM2:Hid (withinB a b true):=by have:=HM.out;rwa [decide_eq_true h0] at this
   clear h0 HM
   go_wp2_with fail
   go_ret
   exact⟨true,rfl,HM2.out,Hk.out⟩
  ·have t0:((n:Int)==0)=false:=by simp;omega
   have HM2:Hid (withinB a b false):=by have:=HM.out;rwa [decide_eq_false h0] at this
   clear h0 HM
   go_wp2_with fail
   go_ret
   exact⟨false,rfl,HM2.out,Hk.out⟩
end Go.Proofs.YtpapiojicbbheaaGreatDoor

namespace Go.Proofs.YtpapiojicbbheaaGreatDoor
open Go.RowKit
def SpAns (w:World) (p:List Sp→Prop) (e:Ending) (w':World):Prop:=∃m A n c,e=.returned (.slice A n c)∧Hid (n=m.length)∧SpAt w' w'.heap.size A n c m∧Keep Never w w'∧p m
theorem SpRet.ans {w:World}{p:List Sp→Prop}{e:Ending}{w':World} (h:SpRet w p e w'):SpAns w p e w':=by
 obtain⟨m,A,n,c,he,hn,ho,hk,hp⟩:=h
 exact⟨m,A,n,c,he,qh hn,SpAt.of_own ho,hk,hp⟩
end Go.Proofs.YtpapiojicbbheaaGreatDoor

namespace Go.Proofs.YtpapiojicbbheaaGreatDoor
open Go.RowKit
theorem nilAt (w:World):SpAt w w.heap.size none 0 0 []:=⟨Rd.nil _ _ _ _,fun _=>rfl,Nat.le_refl _⟩
end Go.Proofs.YtpapiojicbbheaaGreatDoor

namespace Go.Proofs.YtpapiojicbbheaaGreatDoor
open Go.RowKit
def PredInt (g:Nat) (lb:Array Value) (p:Int→Bool) (w:World):Prop:=
  ∀(W:World) (s:Int),Keep Never w W→Calls Tryz.prog g (#[.int .i64 s]++lb) W fun e w'=>e=.returned (.bool (p s))∧Keep Never W w'
def IdxRetI (p:Int→Bool) (l:List Int) (w:World) (e:Ending) (w':World):Prop:=
  ((∃(i:Nat) (s:Int),e=.returned (.int .i64 i)∧l[i]?=some s∧p s=true∧∀x∈l.take i,p x=false)∨(e=.returned (.int .i64 (-1))∧∀x∈l,p x=false))∧Keep Never w w'
set_option maxHeartbeats 1000000 in
set_option maxRecDepth 100000 in
theorem indexfi_any (g:Nat) (lb:Array Value) (p:Int→Bool) (eg:∀args w,(callFunc g args).run Tryz.prog w=.ok (.enter g args) w) (A:Option Addr) (n c B:Nat) (l:List Int) (w:World) (hr:Rd w B 1 A n (l.map (.int .i64))) (hp:PredInt g lb p w) (hn:n≤100000000000) :
    Calls Tryz.prog 153 #[.slice A n c,.func (.func g) #[] lb] w (IdxRetI p l w):=by
  have HL:Hid (l.length=n):=qh (by have:=hr.1;rw[List.length_map] at this;omega)
  have HR:=qh hr
  have HP:=qh hp
  clear hr hp
  go_enter Tryz.func153, Tryz.ntmps153
  go_wp2_with fail
  go_loopw [5,8] (fun _ s8 wr=>∃k:Nat,k≤n∧s8=.int .i64 k∧Hid (Keep Never w wr∧∀x∈l.take k,p x=false)) (fun _ i _=>n - (intOf i).toNat)
  case atStart=>exact⟨0,by omega,rfl,qh ⟨Keep.refl _ _,by simp⟩⟩
  case round=>
   obtain⟨k,hk,rfl,HH⟩:=hrel
   by_cases h0:k<n
   ·have hki:(k:Int)<(n:Int):=by omega
    obtain⟨ad,s,hA,_,hs,c0⟩:=(HR.out.keep HH.out.1 (fun _ h=>h.elim)).at1 h0
    subst hA
    have hcall:=HP.out wr s HH.out.1
    have Hs:=qh hs
    have htk:Hid (l.take (k+1)=l.take k++[s]):=qh (by
     obtain⟨h2,h3⟩:=List.getElem?_eq_some_iff.1 hs
     rw[List.take_succ_eq_append_getElem h2,h3])
    clear hs
    cases hps:p s with
    | true=>
     rw[hps] at hcall
     have Hps:=qh hps
     clear hps
     go_wp2_with (go_at_fn g;refine hcall.mono ?_;rintro e w' ⟨rfl,hk'⟩)
     go_ret
     exact⟨.inl ⟨k,_,rfl,Hs.out,Hps.out,HH.out.2⟩,HH.out.1.trans hk'⟩
    | false=>
     rw[hps] at hcall
     have Hps:=qh hps
     clear hps
     go_wp2_with (go_at_fn g;refine hcall.mono ?_;rintro e w' ⟨rfl,hk'⟩)
     go_roundw
     case measure=>simp[intOf];try omega
     case rel=>
      refine⟨k+1,by omega,by go_num,qh ⟨HH.out.1.trans hk',fun x hx=>?_⟩⟩
      rw[htk.out] at hx
      rcases List.mem_append.1 hx with hx | hx
      ·exact HH.out.2 x hx
      ·simp at hx;subst hx;exact Hps.out
   ·obtain rfl:k=n:=by omega
    have hki:¬(k:Int)<(k:Int):=by omega
    have HN:Hid (∀x∈l,p x=false):=qh (by have:=HH.out.2;rwa [List.take_of_length_le (by have:=HL.out;omega)] at this)
    go_wp2_with fail
    go_ret
    exact⟨.inr ⟨rfl,HN.out⟩,HH.out.1⟩
set_option maxHeartbeats 1000000 in
set_option maxRecDepth 100000 in
theorem containsfi_any (g:Nat) (lb:Array Value) (p:Int→Bool) (eg:∀args w,(callFunc g args).run Tryz.prog w=.ok (.enter g args) w) (A:Option Addr) (n c B:Nat) (l:List Int) (w:World) (hr:Rd w B 1 A n (l.map (.int .i64))) (hp:PredInt g lb p w) (hn:n≤100000000000) :
    Calls Tryz.prog 100 #[.slice A n c,.func (.func g) #[] lb] w fun e w'=>e=.returned (.bool (l.any p))∧Keep Never w w':=by
  have HI:=qh (indexfi_any g lb p eg A n c B l w hr hp hn)
  clear hr hp
  go_enter Tryz.func100, Tryz.ntmps100
  go_wp2_with fail
  refine HI.out.mono ?_
  rintro e w' ⟨⟨i,s,rfl,h1,h2,h3⟩ | ⟨rfl,h1⟩,hk⟩
  ·have HA:Hid (l.any p=true):=qh (List.any_eq_true.2 ⟨s,List.mem_of_getElem? h1,h2⟩)
   have HK:=qh hk
   have hi:decide ((i:Int)≥0)=true:=by simp
   clear h1 h2 h3 hk
   go_wp2_with fail
   go_ret
   exact⟨by rw[HA.out];rfl,HK.out⟩
  ·have HA:Hid (l.any p=false):=qh (by rw[List.any_eq_false];intro x hx;rw[h1 x hx];simp)
   have HK:=qh hk
   clear h1 hk
   go_wp2_with fail
   go_ret
   exact⟨by rw[HA.out];rfl,HK.out⟩
def wrongB (n:Int):Bool:=decide (n<1) || decide (n>1000000)
set_option maxHeartbeats 1000000 in
set_option maxRecDepth 100000 in
theorem over1_any (n:Int) (w:World):Calls Tryz.prog 140 #[.int .i64 n] w fun e w'=>e=.returned (.bool (wrongB n))∧Keep Never w w':=by
 by_cases h1:n<1
 ·have t1:decide (n<1)=true:=by simpa using h1
  have HF:Hid (wrongB n=true):=qh (by unfold wrongB;rw[t1];rfl)
  clear h1
  go_enter Tryz.func140, Tryz.ntmps140
  go_wp2_with fail
  go_ret
  exact⟨by rw[HF.out];rfl,Keep.refl _ _⟩
 ·have t1:decide (n<1)=false:=by simpa using h1
  by_cases h2:n>1000000
  ·have t2:decide (n>1000000)=true:=by simpa using h2
   have HF:Hid (wrongB n=true):=qh (by unfold wrongB;rw[t1,t2];rfl)
   clear h1 h2
   go_enter Tryz.func140, Tryz.ntmps140
   go_wp2_with fail
   go_ret
   exact⟨by rw[HF.out];rfl,Keep.refl _ _⟩
  ·have t2:decide (n>1000000)=false:=by simpa using h2
   have HF:Hid (wrongB n=false):=qh (by unfold wrongB;rw[t1,t2];rfl)
   clear h1 h2
   go_enter Tryz.func140, Tryz.ntmps140
   go_wp2_with fail
   go_ret
   exact⟨by rw[HF.out];rfl,Keep.refl _ _⟩
theorem wrong_any (A:Option Addr) (n c B:Nat) (l:List Int) (w:World) (hr:Rd w B 1 A n (l.map (.int .i64))) (hn:n≤100000000000) :
    Calls Tryz.prog 100 #[.slice A n c,.func (.func 140) #[] #[]] w fun e w'=>e=.returned (.bool (l.any wrongB))∧Keep Never w w':=
  containsfi_any _ _ wrongB (enters_of Tryz.func140 (by kernel_rfl) rfl) A n c B l w hr (fun W s _=>over1_any s W) hn
def cutS (es:List Int) (lo hi:Int) (at_:Int) (s:Stp):Sp:=
  if s.2=true then (s.1,es.getD s.1.toNat 0 - min (hi - at_) (es.getD s.1.toNat 0),es.getD s.1.toNat 0 - max (lo - at_) 0) else (s.1,max (lo - at_) 0,min (hi - at_) (es.getD s.1.toNat 0))
def overE (t:Tp) (p:List Stp) (lo hi:Int):Int:=
  if (lenM t p).2≠0 then (lenM t p).2 else if t.1.any wrongB=true∨lo<0∨lo>hi∨hi>(lenM t p).1 then 1 else 0
end Go.Proofs.YtpapiojicbbheaaGreatDoor

namespace Go.Proofs.YtpapiojicbbheaaGreatDoor
open Go.RowKit
def firstE (f:Nat→Int):Nat→Int
  | 0=>0
  | k+1=>if firstE f k≠0 then firstE f k else f k
theorem firstE_zero {f:Nat→Int}:∀{n:Nat},(∀j,j<n→f j=0)→firstE f n=0
  | 0,_=>rfl
  | n+1,h=>by unfold firstE;rw[firstE_zero (fun j hj=>h j (by omega)),if_neg (by simp),h n (by omega)]
theorem firstE_at {f:Nat→Int}{k e:Int}{i:Nat}:∀{n:Nat},i<n→(∀j,j<i→f j=0)→f i=e→e≠0→firstE f n=e
  | 0,h,_,_,_=>by omega
  | n+1,h,h0,h1,h2=>by
   unfold firstE
   by_cases hi:i<n
   ·rw[firstE_at (k:=k) hi h0 h1 h2,if_pos h2]
   ·obtain rfl:i=n:=by omega
    rw[firstE_zero h0,if_neg (by simp),h1]
def jErr (t:Tp) (i:Nat):Int:=match t.2.1[i]? with
  | some j=>if endB t.1.length j.1=false∨endB t.1.length j.2=false∨j.1=j.2 then 1 else if joinB (t.2.1.take i) j.1 j.2=true then 5 else 0
  | none=>0
def bErr (t:Tp) (i:Nat):Int:=match t.2.2.1[i]? with
  | some b=>if b.1<0∨16777214<b.1∨thereB t.1.length b.2.1=false∨b.2.2<0∨t.1.getD b.2.1.toNat 0<b.2.2 then 1 else if (balM (t.2.2.1.take i) b.1).isSome=true then 5 else 0
  | none=>0
def rErr (t:Tp) (i:Nat):Int:=match t.2.2.2[i]? with
  | some r=>if routedM t r≠0 then routedM t r else if (rtM (t.2.2.2.take i) r.1).isSome=true then 5 else 0
  | none=>0
def checkM (t:Tp):Int:=
  if 40<t.1.length∨80<t.2.1.length∨80<t.2.2.1.length∨30<t.2.2.2.length then 2
  else if t.1.any wrongB=true then 1
  else if firstE (jErr t) t.2.1.length≠0 then firstE (jErr t) t.2.1.length
  else if firstE (bErr t) t.2.2.1.length≠0 then firstE (bErr t) t.2.2.1.length
  else firstE (rErr t) t.2.2.2.length
structure TpSmall (x:TA) (t:Tp):Prop where
  e:x.ne≤100000000
  j:x.nj≤100000000
  b:x.nb≤100000000
  r:x.nr≤100000000
  p:∀r∈t.2.2.2,r.2.1.length≤100000000
set_option maxHeartbeats 1000000 in
set_option maxRecDepth 100000 in
theorem chk1_any (n:Int) (w:World):Calls Tryz.prog 101 #[.int .i64 n] w fun e w'=>e=.returned (.bool (wrongB n))∧Keep Never w w':=by
 by_cases h1:n<1
 ·have t1:decide (n<1)=true:=by simpa using h1
  have HF:Hid (wrongB n=true):=qh (by unfold wrongB;rw[t1];rfl)
  clear h1
  go_enter Tryz.func101, Tryz.ntmps101
  go_wp2_with fail
  go_ret
  exact⟨by rw[HF.out];rfl,Keep.refl _ _⟩
 ·have t1:decide (n<1)=false:=by simpa using h1
  by_cases h2:n>1000000
  ·have t2:decide (n>1000000)=true:=by simpa using h2
   have HF:Hid (wrongB n=true):=qh (by unfold wrongB;rw[t1,t2];rfl)
   clear h1 h2
   go_enter Tryz.func101, Tryz.ntmps101
   go_wp2_with fail
   go_ret
   exact⟨by rw[HF.out];rfl,Keep.refl _ _⟩
  ·have t2:decide (n>1000000)=false:=by simpa using h2
   have HF:Hid (wrongB n=false):=qh (by unfold wrongB;rw[t1,t2];rfl)
   clear h1 h2
   go_enter Tryz.func101, Tryz.ntmps101
   go_wp2_with fail
   go_ret
   exact⟨by rw[HF.out];rfl,Keep.refl _ _⟩
theorem wrongc_any (A:Option Addr) (n c B:Nat) (l:List Int) (w:World) (hr:Rd w B 1 A n (l.map (.int .i64))) (hn:n≤100000000000) :
    Calls Tryz.prog 100 #[.slice A n c,.func (.func 101) #[] #[]] w fun e w'=>e=.returned (.bool (l.any wrongB))∧Keep Never w w':=
  containsfi_any _ _ wrongB (enters_of Tryz.func101 (by kernel_rfl) rfl) A n c B l w hr (fun W s _=>chk1_any s W) hn
set_option maxHeartbeats 40000000 in
set_option maxRecDepth 100000 in
theorem check_any (x:TA) (t:Tp) (B:Nat) (w:World) (ht:TpAt w B x t) (hs:TpSmall x t) (hB:B≤w.heap.size) :
    Calls Tryz.prog 39 #[.agg x.cs] w fun e w'=>e=.returned (.int .i64 (checkM t))∧Keep Never w w':=by
  have HT:=qh (fun i W=>there_any x i W)
  have HEn:Hid (∀(a1 a2:Int) W,Calls Tryz.prog 102 #[.agg x.cs,.agg #[.int .i64 a1,.int .i64 a2]] W fun e w'=>e=.returned (.bool (endB x.ne (a1,a2)))∧Keep Never W w'):=qh (fun a1 a2 W=>end_any x (a1,a2) W)
  have HRd:Hid (∀(r:Rt) A n c W,Keep Never w W→repStp.Sl W B A n c r.2.1→n≤100000000→Calls Tryz.prog 104 #[.agg x.cs,.agg #[.int .i64 r.1,.slice A n c,.int .i64 r.2.2.1,.int .i64 r.2.2.2]] W fun e w'=>e=.returned (.int .i64 (routedM t r))∧Keep Never W w'):=qh (fun r A n c W hk hr hn=>routed_any x t B r A n c W (ht.keep hk) hr hs.j hs.b hn)
  have HTp:=qh ht
  have HSm:=qh hs
  have HGB:=qh hB
  have qe:∀(w:World) (x1 x2 y1 y2:Int),(binOp .eql 132 (.agg #[.int .i64 x1,.int .i64 x2]) (.agg #[.int .i64 y1,.int .i64 y2])).run Tryz.prog w=.ok (.bool (sameE x1 x2 y1 y2)) w:=run_eq_end
  have HL:Hid (x.ne=t.1.length∧x.nj=t.2.1.length∧x.nb=t.2.2.1.length∧x.nr=t.2.2.2.length):=qh ⟨ht.e.len,ht.j.len,ht.b.len,ht.r.len⟩
  obtain⟨Ae,ne,ce,Aj,nj,cj,Ab,nb,cb,Ar,nr,cr⟩:=x
  simp only[TA.cs] at HT HEn HRd HL ⊢
  have hns:=hs
  obtain⟨hn1,hn2,hn3,hn4,hn5⟩:=hns
  simp only at hn1 hn2 hn3 hn4
  have HP5:=qh hn5
  obtain⟨w1,hw1⟩:∃wb:World,w.alloc (.cells #[.slice Ae ne ce,.slice Aj nj cj,.slice Ab nb cb,.slice Ar nr cr] 27)=wb:=⟨_,rfl⟩
  have k1:Keep Never w w1:=by rw[←hw1];exact(Keep.refl _ _).alloc _
  have b1:=Blk.new w 27 #[.slice Ae ne ce,.slice Aj nj cj,.slice Ab nb cb,.slice Ar nr cr]
  rw[hw1] at b1
  have HB1:=qh b1
  have HK:=qh k1
  obtain⟨y0,y1,y2,y3⟩:=bc4 HB1.out
  have HWr:=qh (wrongc_any Ae ne ce B t.1 w1 (int_rd (ht.e.keep k1 (fun _ h=>h.elim))) (by omega))
  clear k1 b1 ht hs hB hn5
  by_cases g1:40<ne
  ·have t1:decide ((ne:Int)>40)=true:=by simp;omega
   have HF:Hid (checkM t=2):=qh (by unfold checkM;rw[if_pos (.inl (by rw[←HL.out.1];exact g1))])
   clear g1
   go_enter Tryz.func39, Tryz.ntmps39
   go_wp2_with fail
   go_ret
   exact⟨by rw[HF.out];rfl,HK.out⟩
  have t1:decide ((ne:Int)>40)=false:=by simp;omega
  by_cases g2:80<nj
  ·have t2:decide ((nj:Int)>80)=true:=by simp;omega
   have HF:Hid (checkM t=2):=qh (by unfold checkM;rw[if_pos (.inr (.inl (by rw[←HL.out.2.1];exact g2)))])
   clear g1 g2
   go_enter Tryz.func39, Tryz.ntmps39
   go_wp2_with fail
   go_ret
   exact⟨by rw[HF.out];rfl,HK.out⟩
  have t2:decide ((nj:Int)>80)=false:=by simp;omega
  by_cases g3:80<nb
  ·have t3:decide ((nb:Int)>80)=true:=by simp;omega
   have HF:Hid (checkM t=2):=qh (by unfold checkM;rw[if_pos (.inr (.inr (.inl (by rw[←HL.out.2.2.1];exact g3))))])
   clear g1 g2 g3
   go_enter Tryz.func39, Tryz.ntmps39
   go_wp2_with fail
   go_ret
   exact⟨by rw[HF.out];rfl,HK.out⟩
  have t3:decide ((nb:Int)>80)=false:=by simp;omega
  by_cases g4:30<nr
  ·have t4:decide ((nr:Int)>30)=true:=by simp;omega
   have HF:Hid (checkM t=2):=qh (by unfold checkM;rw[if_pos (.inr (.inr (.inr (by rw[←HL.out.2.2.2];exact g4))))])
   clear g1 g2 g3 g4
   go_enter Tryz.func39, Tryz.ntmps39
   go_wp2_with fail
   go_ret
   exact⟨by rw[HF.out];rfl,HK.out⟩
  have t4:decide ((nr:Int)>30)=false:=by simp;omega
  have HN1:Hid (¬(40<t.1.length∨80<t.2.1.length∨80<t.2.2.1.length∨30<t.2.2.2.length)):=qh (by have:=HL.out;omega)
  clear g1 g2 g3 g4
  go_enter Tryz.func39, Tryz.ntmps39
  go_wp2_with fail
  refine HWr.out.mono ?_
  rintro e w2 ⟨rfl,hk2⟩
  have HK2:=qh hk2
  have y1':w2.cell? ⟨w.heap.size,1,none⟩=some (.slice Aj nj cj):=keepT hk2 y1
  clear hk2 HWr y0 y1 y2 y3 t1 t2 t3 t4
  cases hwr:t.1.any wrongB with
  | true=>
   have HF:Hid (checkM t=1):=qh (by unfold checkM;rw[if_neg HN1.out,if_pos hwr])
   clear hwr
   go_wp2_with fail
   go_ret
   exact⟨by rw[HF.out];rfl,HK.out.trans HK2.out⟩
  | false=>
   have HN2:Hid (¬t.1.any wrongB=true):=qh (by rw[hwr];simp)
   clear hwr
   go_wp2_with fail
   clear y1'
   go_loopw [3,4,42] (fun _ _ i wr=>∃k:Nat,k≤nj∧i=.int .i64 k∧Hid (Keep Never w1 wr∧∀j,j<k→jErr t j=0)) (fun _ _ i _=>nj - (intOf i).toNat)
   case atStart=>exact⟨0,by omega,rfl,qh ⟨HK2.out,fun j h=>by omega⟩⟩
   case round=>
    obtain⟨k,hk,rfl,HH⟩:=hrel
    by_cases h0:k<nj
    ·have hkz:(k:Int)<(nj:Int):=by omega
     obtain⟨ad,j,hA,_,hj,c0,c1,c2,c3⟩:=jt_at (HTp.out.keep (HK.out.trans HH.out.1)).j h0
     subst hA
     obtain⟨⟨x1,x2⟩,x3,x4⟩:=j
     simp only at c0 c1 c2 c3
     obtain⟨W1,hW1⟩:∃W:World,wr.alloc (.cells #[.int .i64 x1,.int .i64 x2,.int .i64 x3,.int .i64 x4] 134)=W:=⟨_,rfl⟩
     have K1:Keep Never wr W1:=by rw[←hW1];exact(Keep.refl _ _).alloc _
     have B1:=Blk.new wr 134 #[.int .i64 x1,.int .i64 x2,.int .i64 x3,.int .i64 x4]
     rw[hW1] at B1
     have HKW:=qh (HH.out.1.trans K1)
     have HJb:=qh B1
     obtain⟨d0,d1,d2,d3⟩:=bc4 B1
     have hb1:=HB1.out.keep HKW.out (fun h=>h)
     obtain⟨y0,y1,y2,y3⟩:=bc4 hb1
     have Hj:=qh hj
     have HJe:Hid ((endB ne (x1,x2)=false∨endB ne (x3,x4)=false∨((x1,x2):En)=(x3,x4))→checkM t=1):=qh (fun h=>by
      have h1:jErr t k=1:=by unfold jErr;rw[hj];simp only;rw[←HL.out.1,if_pos h]
      have h2:firstE (jErr t) t.2.1.length=1:=firstE_at (k:=0) (by rw[←HL.out.2.1];exact h0) HH.out.2 h1 (by decide)
      unfold checkM;rw[if_neg HN1.out,if_neg HN2.out,h2,if_pos (by decide)])
     clear hj K1 B1 hb1
     go_wp2_with fail
     refine(HEn.out _ _ _).mono ?_
     rintro e w3 ⟨rfl,hk3⟩
     have HK3:=qtr HKW hk3
     have HJ3:=qkb HJb hk3
     clear hk3 c0 c1 c2 c3 d0 d1 d2 d3 y0 y1 y2 y3
     obtain⟨d0,d1,d2,d3⟩:=bc4 HJ3.out
     have hb1:=HB1.out.keep HK3.out (fun h=>h)
     obtain⟨y0,y1,y2,y3⟩:=bc4 hb1
     clear hb1
     cases he1:endB ne (x1,x2) with
     | false=>
      have HF:=qh (HJe.out (.inl he1))
      clear he1
      go_wp2_with fail
      go_ret
      exact⟨by rw[HF.out];rfl,HK.out.trans HK3.out⟩
     | true=>
      have HE1:=qh he1
      clear he1
      go_wp2_with fail
      refine(HEn.out _ _ _).mono ?_
      rintro e w4 ⟨rfl,hk4⟩
      have HK4:=qtr HK3 hk4
      have HJ4:=qkb HJ3 hk4
      clear hk4 d0 d1 d2 d3 y0 y1 y2 y3
      obtain⟨d0,d1,d2,d3⟩:=bc4 HJ4.out
      have y1:w4.cell? ⟨w.heap.size,1,none⟩=some (.slice (some ad) nj cj):=(HB1.out.keep HK4.out (fun h=>h)).cell 1
      cases he2:endB ne (x3,x4) with
      | false=>
       have HF:=qh (HJe.out (.inr (.inl he2)))
       clear he2
       go_wp2_with fail
       go_ret
       exact⟨by rw[HF.out];rfl,HK.out.trans HK4.out⟩
      | true=>
       have HE2:=qh he2
       clear he2
       rcases Bool.eq_false_or_eq_true (sameE x1 x2 x3 x4) with t1 | t1
       ·have HF:=qh (HJe.out (.inr (.inr (of_decide_eq_true t1))))
        go_wp2_with fail
        go_ret
        exact⟨by rw[HF.out];rfl,HK.out.trans HK4.out⟩
       ·have HNe:Hid (¬((x1,x2):En)=(x3,x4)):=qh (of_decide_eq_false t1)
        have hq:=run_front Tryz.underlying23 Tryz.sizeOf134 (some ad) nj cj k hk HTp.out.j.cap
        have HJs:Hid (∀W,Keep Never w W→Calls Tryz.prog 103 #[.agg #[.slice none 0 0,.slice (some ad) k cj,.slice none 0 0,.slice none 0 0],.agg #[.int .i64 x1,.int .i64 x2],.agg #[.int .i64 x3,.int .i64 x4]] W fun e w'=>e=.returned (.bool (joinB (t.2.1.take k) (x1,x2) (x3,x4)))∧Keep Never W w'):=qh (fun W hk0=>joins_any ⟨none,0,0,some ad,k,cj,none,0,0,none,0,0⟩ ([],t.2.1.take k,[],[]) B (x1,x2) (x3,x4) W ⟨Rep.Sl.nil _ _ _,Sl.front (HTp.out.keep hk0).j hk,Rep.Sl.nil _ _ _,Rep.Sl.nil _ _ _⟩ (by show k≤100000000;omega))
        have HS4:Hid (∀w',Keep Never w4 w'→Keep Never w4 w'∧w'.cell? ⟨wr.heap.size,0,none⟩=some (.int .i64 x1)∧w'.cell? ⟨wr.heap.size,1,none⟩=some (.int .i64 x2)∧w'.cell? ⟨wr.heap.size,2,none⟩=some (.int .i64 x3)∧w'.cell? ⟨wr.heap.size,3,none⟩=some (.int .i64 x4)∧w'.cell? ⟨w.heap.size,1,none⟩=some (.slice (some ad) nj cj)):=qh (fun w' h=>⟨h,keepT h d0,keepT h d1,keepT h d2,keepT h d3,keepT h y1⟩)
        obtain⟨jb,hjb⟩:∃b,joinB (t.2.1.take k) (x1,x2) (x3,x4)=b:=⟨_,rfl⟩
        rw[hjb] at HJs
        have HJv:=qh hjb
        have HKw:=qh (HK.out.trans HK4.out)
        clear hjb
        go_wp2_with fail
        go_region_held3 (fun w'=>Keep Never w4 w'∧w'.cell? ⟨wr.heap.size,0,none⟩=some (.int .i64 x1)∧w'.cell? ⟨wr.heap.size,1,none⟩=some (.int .i64 x2)∧w'.cell? ⟨wr.heap.size,2,none⟩=some (.int .i64 x3)∧w'.cell? ⟨wr.heap.size,3,none⟩=some (.int .i64 x4)∧w'.cell? ⟨w.heap.size,1,none⟩=some (.slice (some ad) nj cj))
          (first| assumption | exact HS4.out _ ((Keep.refl Never w4).drew) | exact HS4.out _ (Keep.trans (And.left (by assumption)) hk'))
          (first
            | (go_at_call 103; refine(HJs.out _ (HKw.out.trans (by first | exact(Keep.refl Never w4).drew | exact And.left (by assumption)))).mono ?_;rintro e w' ⟨rfl,hk'⟩))
        rename_i hS
        have HKe:=qh (HK4.out.trans (And.left hS))
        clear hS hq d0 d1 d2 d3 y1 HJs HS4 HEn HRd
        cases jb with
        | true=>
         have HF:Hid (checkM t=5):=qh (by
          have h1:jErr t k=5:=by unfold jErr;rw[Hj.out];simp only;rw[←HL.out.1,if_neg (by rw[HE1.out,HE2.out];simpa using HNe.out),if_pos HJv.out]
          have h2:firstE (jErr t) t.2.1.length=5:=firstE_at (k:=0) (by rw[←HL.out.2.1];exact h0) HH.out.2 h1 (by decide)
          unfold checkM;rw[if_neg HN1.out,if_neg HN2.out,h2,if_pos (by decide)])
         go_wp2_with fail
         go_ret
         exact⟨by rw[HF.out];rfl,HK.out.trans HKe.out⟩
        | false=>
         have HZ:Hid (jErr t k=0):=qh (by unfold jErr;rw[Hj.out];simp only;rw[←HL.out.1,if_neg (by rw[HE1.out,HE2.out];simpa using HNe.out),if_neg (by rw[HJv.out];simp)])
         go_wp2_with fail
         refine⟨⟨k+1,by omega,by go_num,qh ⟨HKe.out,fun j hj=>?_⟩⟩,?_⟩
         ·by_cases e:j=k
          ·rw[e];exact HZ.out
          ·exact HH.out.2 j (by omega)
         ·simp[intOf];try omega
    ·obtain rfl:k=nj:=by omega
     have hkz:¬(k:Int)<(k:Int):=by omega
     have HN3:Hid (¬firstE (jErr t) t.2.1.length≠0):=qh (by rw[firstE_zero (fun j hj=>HH.out.2 j (by rw[HL.out.2.1];exact hj))];simp)
     have HKr:=qh HH.out.1
     have y2:wr.cell? ⟨w.heap.size,2,none⟩=some (.slice Ab nb cb):=(HB1.out.keep HH.out.1 (fun h=>h)).cell 2
     clear HH HEn
     go_wp2_with fail
     clear y2
     go_loopw [5,6,7,8,80] (fun _ _ _ _ i wr=>∃q:Nat,q≤nb∧i=.int .i64 q∧Hid (Keep Never w1 wr∧∀j,j<q→bErr t j=0)) (fun _ _ _ _ i _=>nb - (intOf i).toNat)
     case atStart=>exact⟨0,by omega,rfl,qh ⟨HKr.out,fun j h=>by omega⟩⟩
     case round=>
      rename Nat=>nj
      obtain⟨k,hk,rfl,HH⟩:=hrel
      by_cases h0:k<nb
      ·have hkz:(k:Int)<(nb:Int):=by omega
       obtain⟨ad,b,hA,_,hb,c0,c1,c2⟩:=(bl_rd (HTp.out.keep (HK.out.trans HH.out.1)).b).sp h0
       simp only at hA
       subst hA
       obtain⟨x1,x2,x3⟩:=b
       simp only at c0 c1 c2
       obtain⟨W1,hW1⟩:∃W:World,wr.alloc (.cells #[.int .i64 x1,.int .i64 x2,.int .i64 x3] 94)=W:=⟨_,rfl⟩
       have K1:Keep Never wr W1:=by rw[←hW1];exact(Keep.refl _ _).alloc _
       have B1:=Blk.new wr 94 #[.int .i64 x1,.int .i64 x2,.int .i64 x3]
       rw[hW1] at B1
       have HKW:=qh (HH.out.1.trans K1)
       obtain⟨d0,d1,d2⟩:=bc3 B1
       have hb1:=HB1.out.keep HKW.out (fun h=>h)
       have y2o:wr.cell? ⟨w.heap.size,2,none⟩=some (.slice (some ad) nb cb):=(HB1.out.keep HH.out.1 (fun h=>h)).cell 2
       obtain⟨y0,y1,y2,y3⟩:=bc4 hb1
       have Hb:=qh hb
       have HBe:Hid ((x1<0∨16777214<x1∨thereB ne x2=false∨x3<0∨t.1.getD x2.toNat 0<x3)→checkM t=1):=qh (fun h=>by
        have h1:bErr t k=1:=by unfold bErr;rw[hb];simp only;rw[←HL.out.1,if_pos h]
        have h2:firstE (bErr t) t.2.2.1.length=1:=firstE_at (k:=0) (by rw[←HL.out.2.2.1];exact h0) HH.out.2 h1 (by decide)
        unfold checkM;rw[if_neg HN1.out,if_neg HN2.out,if_neg HN3.out,h2,if_pos (by decide)])
       have hTt:=HT.out x2
       clear hb K1 B1 hb1 HRd HT
       go_wp2_with fail
       clear c0 c1 c2 hW1 y2o
       by_cases g1:x1<0
       ·have t1:decide (x1<0)=true:=by simpa using g1
        have HF:=qh (HBe.out (.inl g1))
        have HS8:Hid (∀w',Keep Never W1 w'→Keep Never W1 w'∧w'.cell? ⟨wr.heap.size,0,none⟩=some (.int .i64 x1)∧w'.cell? ⟨wr.heap.size,1,none⟩=some (.int .i64 x2)∧w'.cell? ⟨wr.heap.size,2,none⟩=some (.int .i64 x3)∧w'.cell? ⟨w.heap.size,0,none⟩=some (.slice Ae ne ce)∧w'.cell? ⟨w.heap.size,1,none⟩=some (.slice Aj nj cj)∧w'.cell? ⟨w.heap.size,2,none⟩=some (.slice (some ad) nb cb)∧w'.cell? ⟨w.heap.size,3,none⟩=some (.slice Ar nr cr)∧w'.cell? ⟨wr.heap.size,0,none⟩=some (.int .i64 x1)):=qh (fun w' h=>⟨h,keepT h d0,keepT h d1,keepT h d2,keepT h y0,keepT h y1,keepT h y2,keepT h y3,keepT h d0⟩)
        clear g1 hTt HBe
        refine wp_region_noPanic ?_
        refine wp_region_held_drew (S:=(fun w'=>Keep Never W1 w'∧w'.cell? ⟨wr.heap.size,0,none⟩=some (.int .i64 x1)∧w'.cell? ⟨wr.heap.size,1,none⟩=some (.int .i64 x2)∧w'.cell? ⟨wr.heap.size,2,none⟩=some (.int .i64 x3)∧w'.cell? ⟨w.heap.size,0,none⟩=some (.slice Ae ne ce)∧w'.cell? ⟨w.heap.size,1,none⟩=some (.slice Aj nj cj)∧w'.cell? ⟨w.heap.size,2,none⟩=some (.slice (some ad) nb cb)∧w'.cell? ⟨w.heap.size,3,none⟩=some (.slice Ar nr cr)∧w'.cell? ⟨wr.heap.size,0,none⟩=some (.int .i64 x1))) (by kernel_rfl) ?_ (fun hHeld=>?_)
        ·exact HS8.out _ ((Keep.refl Never W1).drew)
        refine qT 0 ?_
        try simp only[qy]
        refine qT 1 ?_
        try simp only[qy]
        refine qT 2 ?_
        try simp only[qy]
        refine qT 3 ?_
        try simp only[qy]
        refine qU 4 ?_
        try simp only[qy]
        refine qU 5 ?_
        try simp only[qy]
        refine qU 6 ?_
        try simp only[qy]
        refine qT 7 ?_
        try simp only[qy]
        refine qT 8 ?_
        try simp only[qy]
        refine qU 9 ?_
        try simp only[qy]
        refine qU 10 ?_
        try simp only[qy]
        refine qU 11 ?_
        try simp only[qy]
        refine qU 12 ?_
        try simp only[qy]
        refine qU 13 ?_
        try simp only[qy]
        refine qT 14 ?_
        try simp only[qy]
        refine qT 15 ?_
        try simp only[qy]
        refine qU 16 ?_
        try simp only[qy]
        refine qU 17 ?_
        try simp only[qy]
        refine qU 18 ?_
        try simp only[qy]
        refine qT 19 ?_
        try simp only[qy]
        refine qT 20 ?_
        try simp only[qy]
        refine qU 21 ?_
        try simp only[qy]
        refine qU 22 ?_
        try simp only[qy]
        refine qU 23 ?_
        try simp only[qy]
        refine qU 24 ?_
        try simp only[qy]
        refine qU 25 ?_
        try simp only[qy]
        refine qU 26 ?_
        try simp only[qy]
        refine qU 27 ?_
        try simp only[qy]
        refine qU 28 ?_
        try simp only[qy]
        refine qU 29 ?_
        try simp only[qy]
        refine qT 30 ?_
        try simp only[qy]
        refine wpAnyH_done (by kernel_rfl) ?_ _
        refine NoPanic.normal ?_
        have hS:=hHeld
        have HKe:=qh (And.left hS)
        clear hS hHeld HS8 d0 d1 d2 y0 y1 y2 y3
        go_wp2_with fail
        go_ret
        exact⟨by rw[HF.out];rfl,HK.out.trans (HKW.out.trans HKe.out)⟩
       have t1:decide (x1<0)=false:=by simpa using g1
       by_cases g2:16777214<x1
       ·have t2:decide (x1>16777214)=true:=by simpa using g2
        have HF:=qh (HBe.out (.inr (.inl g2)))
        have HS8:Hid (∀w',Keep Never W1 w'→Keep Never W1 w'∧w'.cell? ⟨wr.heap.size,0,none⟩=some (.int .i64 x1)∧w'.cell? ⟨wr.heap.size,1,none⟩=some (.int .i64 x2)∧w'.cell? ⟨wr.heap.size,2,none⟩=some (.int .i64 x3)∧w'.cell? ⟨w.heap.size,0,none⟩=some (.slice Ae ne ce)∧w'.cell? ⟨w.heap.size,1,none⟩=some (.slice Aj nj cj)∧w'.cell? ⟨w.heap.size,2,none⟩=some (.slice (some ad) nb cb)∧w'.cell? ⟨w.heap.size,3,none⟩=some (.slice Ar nr cr)∧w'.cell? ⟨wr.heap.size,0,none⟩=some (.int .i64 x1)):=qh (fun w' h=>⟨h,keepT h d0,keepT h d1,keepT h d2,keepT h y0,keepT h y1,keepT h y2,keepT h y3,keepT h d0⟩)
        clear g1 g2 hTt HBe
        refine wp_region_noPanic ?_
        refine wp_region_held_drew (S:=(fun w'=>Keep Never W1 w'∧w'.cell? ⟨wr.heap.size,0,none⟩=some (.int .i64 x1)∧w'.cell? ⟨wr.heap.size,1,none⟩=some (.int .i64 x2)∧w'.cell? ⟨wr.heap.size,2,none⟩=some (.int .i64 x3)∧w'.cell? ⟨w.heap.size,0,none⟩=some (.slice Ae ne ce)∧w'.cell? ⟨w.heap.size,1,none⟩=some (.slice Aj nj cj)∧w'.cell? ⟨w.heap.size,2,none⟩=some (.slice (some ad) nb cb)∧w'.cell? ⟨w.heap.size,3,none⟩=some (.slice Ar nr cr)∧w'.cell? ⟨wr.heap.size,0,none⟩=some (.int .i64 x1))) (by kernel_rfl) ?_ (fun hHeld=>?_)
        ·exact HS8.out _ ((Keep.refl Never W1).drew)
        refine qT 0 ?_
        try simp only[qy]
        refine qT 1 ?_
        try simp only[qy]
        refine qT 2 ?_
        try simp only[qy]
        refine qT 3 ?_
        try simp only[qy]
        refine qT 4 ?_
        try simp only[qy]
        refine qT 5 ?_
        try simp only[qy]
        refine qT 6 ?_
        try simp only[qy]
        refine qT 7 ?_
        try simp only[qy]
        refine qT 8 ?_
        try simp only[qy]
        refine qU 9 ?_
        try simp only[qy]
        refine qU 10 ?_
        try simp only[qy]
        refine qU 11 ?_
        try simp only[qy]
        refine qU 12 ?_
        try simp only[qy]
        refine qU 13 ?_
        try simp only[qy]
        refine qT 14 ?_
        try simp only[qy]
        refine qT 15 ?_
        try simp only[qy]
        refine qU 16 ?_
        try simp only[qy]
        refine qU 17 ?_
        try simp only[qy]
        refine qU 18 ?_
        try simp only[qy]
        refine qT 19 ?_
        try simp only[qy]
        refine qT 20 ?_
        try simp only[qy]
        refine qU 21 ?_
        try simp only[qy]
        refine qU 22 ?_
        try simp only[qy]
        refine qU 23 ?_
        try simp only[qy]
        refine qU 24 ?_
        try simp only[qy]
        refine qU 25 ?_
        try simp only[qy]
        refine qU 26 ?_
        try simp only[qy]
        refine qU 27 ?_
        try simp only[qy]
        refine qU 28 ?_
        try simp only[qy]
        refine qU 29 ?_
        try simp only[qy]
        refine qT 30 ?_
        try simp only[qy]
        refine wpAnyH_done (by kernel_rfl) ?_ _
        refine NoPanic.normal ?_
        have hS:=hHeld
        have HKe:=qh (And.left hS)
        clear hS hHeld HS8 d0 d1 d2 y0 y1 y2 y3
        go_wp2_with fail
        go_ret
        exact⟨by rw[HF.out];rfl,HK.out.trans (HKW.out.trans HKe.out)⟩
       have t2:decide (x1>16777214)=false:=by simpa using g2
       cases htb:thereB ne x2 with
       | false=>
        rw[htb] at hTt
        have HTt:=qh hTt
        have HF:=qh (HBe.out (.inr (.inr (.inl htb))))
        have HS8:Hid (∀w',Keep Never W1 w'→Keep Never W1 w'∧w'.cell? ⟨wr.heap.size,0,none⟩=some (.int .i64 x1)∧w'.cell? ⟨wr.heap.size,1,none⟩=some (.int .i64 x2)∧w'.cell? ⟨wr.heap.size,2,none⟩=some (.int .i64 x3)∧w'.cell? ⟨w.heap.size,0,none⟩=some (.slice Ae ne ce)∧w'.cell? ⟨w.heap.size,1,none⟩=some (.slice Aj nj cj)∧w'.cell? ⟨w.heap.size,2,none⟩=some (.slice (some ad) nb cb)∧w'.cell? ⟨w.heap.size,3,none⟩=some (.slice Ar nr cr)∧w'.cell? ⟨wr.heap.size,0,none⟩=some (.int .i64 x1)):=qh (fun w' h=>⟨h,keepT h d0,keepT h d1,keepT h d2,keepT h y0,keepT h y1,keepT h y2,keepT h y3,keepT h d0⟩)
        clear g1 g2 hTt htb HBe
        refine wp_region_noPanic ?_
        refine wp_region_held_drew (S:=(fun w'=>Keep Never W1 w'∧w'.cell? ⟨wr.heap.size,0,none⟩=some (.int .i64 x1)∧w'.cell? ⟨wr.heap.size,1,none⟩=some (.int .i64 x2)∧w'.cell? ⟨wr.heap.size,2,none⟩=some (.int .i64 x3)∧w'.cell? ⟨w.heap.size,0,none⟩=some (.slice Ae ne ce)∧w'.cell? ⟨w.heap.size,1,none⟩=some (.slice Aj nj cj)∧w'.cell? ⟨w.heap.size,2,none⟩=some (.slice (some ad) nb cb)∧w'.cell? ⟨w.heap.size,3,none⟩=some (.slice Ar nr cr)∧w'.cell? ⟨wr.heap.size,0,none⟩=some (.int .i64 x1))) (by kernel_rfl) ?_ (fun hHeld=>?_)
        ·exact HS8.out _ ((Keep.refl Never W1).drew)
        refine qT 0 ?_
        try simp only[qy]
        refine qT 1 ?_
        try simp only[qy]
        refine qT 2 ?_
        try simp only[qy]
        refine qT 3 ?_
        try simp only[qy]
        refine qT 4 ?_
        try simp only[qy]
        refine qT 5 ?_
        try simp only[qy]
        refine qT 6 ?_
        try simp only[qy]
        refine qT 7 ?_
        try simp only[qy]
        refine qT 8 ?_
        try simp only[qy]
        refine qT 9 ?_
        try simp only[qy]
        refine qT 10 ?_
        try simp only[qy]
        refine qT 11 ?_
        try simp only[qy]
        refine wpAnyH_ready (rs:=[12]) (by kernel_rfl) (by simp) ?_
        refine AllReadyH.cons (o:=?_) ?_ (fun K hK=>?_) AllReadyH.nil
        rotate_left 1
        ·(simp only[qz];rfl)
        go_simp
        first
         | (go_at_call 84; refine(HTt.out _).mono ?_;rintro e w' ⟨rfl,hk'⟩)
        (try go_wp2_with fail)
        refine hK.out _ _ ?_ (fun hHeld=>?_)
        ·(try dsimp only);exact HS8.out _ (Keep.trans (And.left (by assumption)) hk')
        clear hK K
        try simp only[qy]
        refine qT 13 ?_
        try simp only[qy]
        refine qT 14 ?_
        try simp only[qy]
        refine qT 15 ?_
        try simp only[qy]
        refine qU 16 ?_
        try simp only[qy]
        refine qU 17 ?_
        try simp only[qy]
        refine qU 18 ?_
        try simp only[qy]
        refine qT 19 ?_
        try simp only[qy]
        refine qT 20 ?_
        try simp only[qy]
        refine qU 21 ?_
        try simp only[qy]
        refine qU 22 ?_
        try simp only[qy]
        refine qU 23 ?_
        try simp only[qy]
        refine qU 24 ?_
        try simp only[qy]
        refine qU 25 ?_
        try simp only[qy]
        refine qU 26 ?_
        try simp only[qy]
        refine qU 27 ?_
        try simp only[qy]
        refine qU 28 ?_
        try simp only[qy]
        refine qU 29 ?_
        try simp only[qy]
        refine qT 30 ?_
        try simp only[qy]
        refine wpAnyH_done (by kernel_rfl) ?_ _
        refine NoPanic.normal ?_
        have hS:=hHeld
        have HKe:=qh (And.left hS)
        clear hS hHeld HS8 d0 d1 d2 y0 y1 y2 y3
        go_wp2_with fail
        go_ret
        exact⟨by rw[HF.out];rfl,HK.out.trans (HKW.out.trans HKe.out)⟩
       | true=>
        rw[htb] at hTt
        have HTt:=qh hTt
        by_cases g3:x3<0
        ·have t3:decide (x3<0)=true:=by simpa using g3
         have HF:=qh (HBe.out (.inr (.inr (.inr (.inl g3)))))
         have HS8:Hid (∀w',Keep Never W1 w'→Keep Never W1 w'∧w'.cell? ⟨wr.heap.size,0,none⟩=some (.int .i64 x1)∧w'.cell? ⟨wr.heap.size,1,none⟩=some (.int .i64 x2)∧w'.cell? ⟨wr.heap.size,2,none⟩=some (.int .i64 x3)∧w'.cell? ⟨w.heap.size,0,none⟩=some (.slice Ae ne ce)∧w'.cell? ⟨w.heap.size,1,none⟩=some (.slice Aj nj cj)∧w'.cell? ⟨w.heap.size,2,none⟩=some (.slice (some ad) nb cb)∧w'.cell? ⟨w.heap.size,3,none⟩=some (.slice Ar nr cr)∧w'.cell? ⟨wr.heap.size,0,none⟩=some (.int .i64 x1)):=qh (fun w' h=>⟨h,keepT h d0,keepT h d1,keepT h d2,keepT h y0,keepT h y1,keepT h y2,keepT h y3,keepT h d0⟩)
         clear g1 g2 g3 hTt htb HBe
         refine wp_region_noPanic ?_
         refine wp_region_held_drew (S:=(fun w'=>Keep Never W1 w'∧w'.cell? ⟨wr.heap.size,0,none⟩=some (.int .i64 x1)∧w'.cell? ⟨wr.heap.size,1,none⟩=some (.int .i64 x2)∧w'.cell? ⟨wr.heap.size,2,none⟩=some (.int .i64 x3)∧w'.cell? ⟨w.heap.size,0,none⟩=some (.slice Ae ne ce)∧w'.cell? ⟨w.heap.size,1,none⟩=some (.slice Aj nj cj)∧w'.cell? ⟨w.heap.size,2,none⟩=some (.slice (some ad) nb cb)∧w'.cell? ⟨w.heap.size,3,none⟩=some (.slice Ar nr cr)∧w'.cell? ⟨wr.heap.size,0,none⟩=some (.int .i64 x1))) (by kernel_rfl) ?_ (fun hHeld=>?_)
         ·exact HS8.out _ ((Keep.refl Never W1).drew)
         refine qT 0 ?_
         try simp only[qy]
         refine qT 1 ?_
         try simp only[qy]
         refine qT 2 ?_
         try simp only[qy]
         refine qT 3 ?_
         try simp only[qy]
         refine qT 4 ?_
         try simp only[qy]
         refine qT 5 ?_
         try simp only[qy]
         refine qT 6 ?_
         try simp only[qy]
         refine qT 7 ?_
         try simp only[qy]
         refine qT 8 ?_
         try simp only[qy]
         refine qT 9 ?_
         try simp only[qy]
         refine qT 10 ?_
         try simp only[qy]
         refine qT 11 ?_
         try simp only[qy]
         refine wpAnyH_ready (rs:=[12]) (by kernel_rfl) (by simp) ?_
         refine AllReadyH.cons (o:=?_) ?_ (fun K hK=>?_) AllReadyH.nil
         rotate_left 1
         ·(simp only[qz];rfl)
         go_simp
         first
          | (go_at_call 84; refine(HTt.out _).mono ?_;rintro e w' ⟨rfl,hk'⟩)
         (try go_wp2_with fail)
         refine hK.out _ _ ?_ (fun hHeld=>?_)
         ·(try dsimp only);exact HS8.out _ (Keep.trans (And.left (by assumption)) hk')
         clear hK K
         try simp only[qy]
         refine qT 13 ?_
         try simp only[qy]
         refine qT 14 ?_
         try simp only[qy]
         refine qT 15 ?_
         try simp only[qy]
         refine qT 16 ?_
         try simp only[qy]
         refine qT 17 ?_
         try simp only[qy]
         refine qT 18 ?_
         try simp only[qy]
         refine qT 19 ?_
         try simp only[qy]
         refine qT 20 ?_
         try simp only[qy]
         refine qU 21 ?_
         try simp only[qy]
         refine qU 22 ?_
         try simp only[qy]
         refine qU 23 ?_
         try simp only[qy]
         refine qU 24 ?_
         try simp only[qy]
         refine qU 25 ?_
         try simp only[qy]
         refine qU 26 ?_
         try simp only[qy]
         refine qU 27 ?_
         try simp only[qy]
         refine qU 28 ?_
         try simp only[qy]
         refine qU 29 ?_
         try simp only[qy]
         refine qT 30 ?_
         try simp only[qy]
         refine wpAnyH_done (by kernel_rfl) ?_ _
         refine NoPanic.normal ?_
         have hS:=hHeld
         have HKe:=qh (And.left hS)
         clear hS hHeld HS8 d0 d1 d2 y0 y1 y2 y3
         go_wp2_with fail
         go_ret
         exact⟨by rw[HF.out];rfl,HK.out.trans (HKW.out.trans HKe.out)⟩
        have t3:decide (x3<0)=false:=by simpa using g3
        have hin:=there_in htb
        have HTb:=qh htb
        obtain⟨e,rfl⟩:∃e:Nat,x2=(e:Int):=⟨x2.toNat,by omega⟩
        have hen:e<ne:=by omega
        obtain⟨ad2,v,hA2,_,hv,g0⟩:=(int_rd (HTp.out.keep (HK.out.trans HKW.out)).e).at1 hen
        simp only at hA2
        subst hA2
        have hez:(e:Int)<(ne:Int):=by omega
        have he0:(0:Int)≤(e:Int):=by omega
        have HV:Hid (t.1.getD (e:Int).toNat 0=v):=qh (by rw[List.getD_eq_getElem?_getD,Int.toNat_natCast,hv];rfl)
        clear hv htb hTt hin
        by_cases g4:v<x3
        ·have t4:decide (x3>v)=true:=by simpa using g4
         have HF:=qh (HBe.out (.inr (.inr (.inr (.inr (by rw[HV.out];exact g4))))))
         have HS8:Hid (∀w',Keep Never W1 w'→Keep Never W1 w'∧w'.cell? ⟨wr.heap.size,0,none⟩=some (.int .i64 x1)∧w'.cell? ⟨wr.heap.size,1,none⟩=some (.int .i64 (e:Int))∧w'.cell? ⟨wr.heap.size,2,none⟩=some (.int .i64 x3)∧w'.cell? ⟨w.heap.size,0,none⟩=some (.slice (some ad2) ne ce)∧w'.cell? ⟨w.heap.size,1,none⟩=some (.slice Aj nj cj)∧w'.cell? ⟨w.heap.size,2,none⟩=some (.slice (some ad) nb cb)∧w'.cell? ⟨w.heap.size,3,none⟩=some (.slice Ar nr cr)∧w'.cell? (ad2.add e)=some (.int .i64 v)):=qh (fun w' h=>⟨h,keepT h d0,keepT h d1,keepT h d2,keepT h y0,keepT h y1,keepT h y2,keepT h y3,keepT h g0⟩)
         clear g1 g2 g3 g4 HBe
         refine wp_region_noPanic ?_
         refine wp_region_held_drew (S:=(fun w'=>Keep Never W1 w'∧w'.cell? ⟨wr.heap.size,0,none⟩=some (.int .i64 x1)∧w'.cell? ⟨wr.heap.size,1,none⟩=some (.int .i64 (e:Int))∧w'.cell? ⟨wr.heap.size,2,none⟩=some (.int .i64 x3)∧w'.cell? ⟨w.heap.size,0,none⟩=some (.slice (some ad2) ne ce)∧w'.cell? ⟨w.heap.size,1,none⟩=some (.slice Aj nj cj)∧w'.cell? ⟨w.heap.size,2,none⟩=some (.slice (some ad) nb cb)∧w'.cell? ⟨w.heap.size,3,none⟩=some (.slice Ar nr cr)∧w'.cell? (ad2.add e)=some (.int .i64 v))) (by kernel_rfl) ?_ (fun hHeld=>?_)
         ·exact HS8.out _ ((Keep.refl Never W1).drew)
         refine qT 0 ?_
         try simp only[qy]
         refine qT 1 ?_
         try simp only[qy]
         refine qT 2 ?_
         try simp only[qy]
         refine qT 3 ?_
         try simp only[qy]
         refine qT 4 ?_
         try simp only[qy]
         refine qT 5 ?_
         try simp only[qy]
         refine qT 6 ?_
         try simp only[qy]
         refine qT 7 ?_
         try simp only[qy]
         refine qT 8 ?_
         try simp only[qy]
         refine qT 9 ?_
         try simp only[qy]
         refine qT 10 ?_
         try simp only[qy]
         refine qT 11 ?_
         try simp only[qy]
         refine wpAnyH_ready (rs:=[12]) (by kernel_rfl) (by simp) ?_
         refine AllReadyH.cons (o:=?_) ?_ (fun K hK=>?_) AllReadyH.nil
         rotate_left 1
         ·(simp only[qz];rfl)
         go_simp
         first
          | (go_at_call 84; refine(HTt.out _).mono ?_;rintro e w' ⟨rfl,hk'⟩)
         (try go_wp2_with fail)
         refine hK.out _ _ ?_ (fun hHeld=>?_)
         ·(try dsimp only);exact HS8.out _ (Keep.trans (And.left (by assumption)) hk')
         clear hK K
         try simp only[qy]
         refine qT 13 ?_
         try simp only[qy]
         refine qT 14 ?_
         try simp only[qy]
         refine qT 15 ?_
         try simp only[qy]
         refine qT 16 ?_
         try simp only[qy]
         refine qT 17 ?_
         try simp only[qy]
         refine qT 18 ?_
         try simp only[qy]
         refine qT 19 ?_
         try simp only[qy]
         refine qT 20 ?_
         try simp only[qy]
         refine qT 21 ?_
         try simp only[qy]
         refine qT 22 ?_
         try simp only[qy]
         refine qT 23 ?_
         try simp only[qy]
         refine qT 24 ?_
         try simp only[qy]
         refine qT 25 ?_
         try simp only[qy]
         refine qT 26 ?_
         try simp only[qy]
         refine qT 27 ?_
         try simp only[qy]
         refine qT 28 ?_
         try simp only[qy]
         refine qT 29 ?_
         try simp only[qy]
         refine qT 30 ?_
         try simp only[qy]
         refine wpAnyH_done (by kernel_rfl) ?_ _
         refine NoPanic.normal ?_
         have hS:=hHeld
         have HKe:=qh (And.left hS)
         clear hS hHeld HS8 d0 d1 d2 y0 y1 y2 y3
         go_wp2_with fail
         go_ret
         exact⟨by rw[HF.out];rfl,HK.out.trans (HKW.out.trans HKe.out)⟩
        have t4:decide (x3>v)=false:=by simpa using g4
        have HNb:Hid (¬(x1<0∨16777214<x1∨thereB ne (e:Int)=false∨x3<0∨t.1.getD (e:Int).toNat 0<x3)):=qh (by rw[HV.out,HTb.out];simp;omega)
        have HS8:Hid (∀w',Keep Never W1 w'→Keep Never W1 w'∧w'.cell? ⟨wr.heap.size,0,none⟩=some (.int .i64 x1)∧w'.cell? ⟨wr.heap.size,1,none⟩=some (.int .i64 (e:Int))∧w'.cell? ⟨wr.heap.size,2,none⟩=some (.int .i64 x3)∧w'.cell? ⟨w.heap.size,0,none⟩=some (.slice (some ad2) ne ce)∧w'.cell? ⟨w.heap.size,1,none⟩=some (.slice Aj nj cj)∧w'.cell? ⟨w.heap.size,2,none⟩=some (.slice (some ad) nb cb)∧w'.cell? ⟨w.heap.size,3,none⟩=some (.slice Ar nr cr)∧w'.cell? (ad2.add e)=some (.int .i64 v)):=qh (fun w' h=>⟨h,keepT h d0,keepT h d1,keepT h d2,keepT h y0,keepT h y1,keepT h y2,keepT h y3,keepT h g0⟩)
        clear g1 g2 g3 g4 HBe
        refine wp_region_noPanic ?_
        refine wp_region_held_drew (S:=(fun w'=>Keep Never W1 w'∧w'.cell? ⟨wr.heap.size,0,none⟩=some (.int .i64 x1)∧w'.cell? ⟨wr.heap.size,1,none⟩=some (.int .i64 (e:Int))∧w'.cell? ⟨wr.heap.size,2,none⟩=some (.int .i64 x3)∧w'.cell? ⟨w.heap.size,0,none⟩=some (.slice (some ad2) ne ce)∧w'.cell? ⟨w.heap.size,1,none⟩=some (.slice Aj nj cj)∧w'.cell? ⟨w.heap.size,2,none⟩=some (.slice (some ad) nb cb)∧w'.cell? ⟨w.heap.size,3,none⟩=some (.slice Ar nr cr)∧w'.cell? (ad2.add e)=some (.int .i64 v))) (by kernel_rfl) ?_ (fun hHeld=>?_)
        ·exact HS8.out _ ((Keep.refl Never W1).drew)
        refine qT 0 ?_
        try simp only[qy]
        refine qT 1 ?_
        try simp only[qy]
        refine qT 2 ?_
        try simp only[qy]
        refine qT 3 ?_
        try simp only[qy]
        refine qT 4 ?_
        try simp only[qy]
        refine qT 5 ?_
        try simp only[qy]
        refine qT 6 ?_
        try simp only[qy]
        refine qT 7 ?_
        try simp only[qy]
        refine qT 8 ?_
        try simp only[qy]
        refine qT 9 ?_
        try simp only[qy]
        refine qT 10 ?_
        try simp only[qy]
        refine qT 11 ?_
        try simp only[qy]
        refine wpAnyH_ready (rs:=[12]) (by kernel_rfl) (by simp) ?_
        refine AllReadyH.cons (o:=?_) ?_ (fun K hK=>?_) AllReadyH.nil
        rotate_left 1
        ·(simp only[qz];rfl)
        go_simp
        first
         | (go_at_call 84; refine(HTt.out _).mono ?_;rintro e w' ⟨rfl,hk'⟩)
        (try go_wp2_with fail)
        refine hK.out _ _ ?_ (fun hHeld=>?_)
        ·(try dsimp only);exact HS8.out _ (Keep.trans (And.left (by assumption)) hk')
        clear hK K
        try simp only[qy]
        refine qT 13 ?_
        try simp only[qy]
        refine qT 14 ?_
        try simp only[qy]
        refine qT 15 ?_
        try simp only[qy]
        refine qT 16 ?_
        try simp only[qy]
        refine qT 17 ?_
        try simp only[qy]
        refine qT 18 ?_
        try simp only[qy]
        refine qT 19 ?_
        try simp only[qy]
        refine qT 20 ?_
        try simp only[qy]
        refine qT 21 ?_
        try simp only[qy]
        refine qT 22 ?_
        try simp only[qy]
        refine qT 23 ?_
        try simp only[qy]
        refine qT 24 ?_
        try simp only[qy]
        refine qT 25 ?_
        try simp only[qy]
        refine qT 26 ?_
        try simp only[qy]
        refine qT 27 ?_
        try simp only[qy]
        refine qT 28 ?_
        try simp only[qy]
        refine qT 29 ?_
        try simp only[qy]
        refine qT 30 ?_
        try simp only[qy]
        refine wpAnyH_done (by kernel_rfl) ?_ _
        refine NoPanic.normal ?_
        have hS:=hHeld
        have HKe:=qh (HKW.out.trans (And.left hS))
        have p0:=hS.2.1
        have q2:=hS.2.2.2.2.2.2.1
        clear hS hHeld HS8 HTt g0 d0 d1 d2 y0 y1 y2 y3 t1 t2 t3 t4 hez he0
        have hq:=run_front Tryz.underlying24 Tryz.sizeOf94 (some ad) nb cb k hk HTp.out.b.cap
        obtain⟨ob,hob⟩:∃b,balM (t.2.2.1.take k) x1=b:=⟨_,rfl⟩
        have HBc0:∀W,Keep Never w W→Calls Tryz.prog 55 #[.agg #[.slice none 0 0,.slice none 0 0,.slice (some ad) k cb,.slice none 0 0],.int .i64 x1] W (BalRet ob W):=fun W hk0=>by
         have:=bal_any ⟨none,0,0,none,0,0,some ad,k,cb,none,0,0⟩ ([],[],t.2.2.1.take k,[]) B x1 W ⟨Rep.Sl.nil _ _ _,Rep.Sl.nil _ _ _,Sl.front (HTp.out.keep hk0).b hk,Rep.Sl.nil _ _ _⟩ (by show k≤100000000;omega)
         simp only at this
         rw[hob] at this
         exact this
        obtain⟨o1,ho1⟩:∃z,(ob.getD (0,0,0)).1=z:=⟨_,rfl⟩
        obtain⟨o2,ho2⟩:∃z,(ob.getD (0,0,0)).2.1=z:=⟨_,rfl⟩
        obtain⟨o3,ho3⟩:∃z,(ob.getD (0,0,0)).2.2=z:=⟨_,rfl⟩
        obtain⟨os,hos⟩:∃z,ob.isSome=z:=⟨_,rfl⟩
        unfold BalRet at HBc0
        rw[ho1,ho2,ho3,hos] at HBc0
        have HBc:=qh HBc0
        have HOs:Hid ((balM (t.2.2.1.take k) x1).isSome=os):=qh (by rw[hob];exact hos)
        have HS2:Hid (∀W,Keep Never w' W→Keep Never w' W∧W.cell? ⟨wr.heap.size,0,none⟩=some (.int .i64 x1)∧W.cell? ⟨w.heap.size,2,none⟩=some (.slice (some ad) nb cb)):=qh (fun W h=>⟨h,keepT h p0,keepT h q2⟩)
        have HKw:=qh (HK.out.trans HKe.out)
        clear hob ho1 ho2 ho3 hos HBc0 hk'
        go_wp2_with fail
        go_region_held3 (fun W=>Keep Never w' W∧W.cell? ⟨wr.heap.size,0,none⟩=some (.int .i64 x1)∧W.cell? ⟨w.heap.size,2,none⟩=some (.slice (some ad) nb cb))
          (first| assumption | exact HS2.out _ ((Keep.refl Never w').drew) | exact HS2.out _ (Keep.trans (And.left (by assumption)) hk9) | exact HS2.out _ (Keep.alloc (And.left (by assumption)) _) | exact HS2.out _ (Keep.alloc (Keep.trans ((Keep.refl Never w').drew) hk9) _) | exact HS2.out _ (put3_keep (And.left (by assumption)) (by first | exact Nat.le_refl _ | exact(Keep.size (And.left (by assumption))) | omega) _ _ _))
          (first
            | (go_at_call 55; refine(HBc.out _ (HKw.out.trans (by first | exact And.left (by assumption) | exact(Keep.refl Never w').drew))).mono ?_;rintro e w9 ⟨rfl,hk9⟩;have nb9:Blk w9 w'.heap.size 94 #[.int .i64 0,.int .i64 0,.int .i64 0]:=(by first | exact Blk.keep (Blk.new _ _ _) hk9 (fun h=>h) | exact Blk.keep (Blk.drew (Blk.new _ _ _)) hk9 (fun h=>h));have n0:w9.cell? ⟨w'.heap.size,0,none⟩=some (.int .i64 0):=nb9.cell 0;have n1:w9.cell? ⟨w'.heap.size,1,none⟩=some (.int .i64 0):=nb9.cell 1;have n2:w9.cell? ⟨w'.heap.size,2,none⟩=some (.int .i64 0):=nb9.cell 2;have m0:w9.frozen? ⟨w'.heap.size,0,none⟩=false:=nb9.frozen 0;have m1:w9.frozen? ⟨w'.heap.size,1,none⟩=false:=nb9.frozen 1;have m2:w9.frozen? ⟨w'.heap.size,2,none⟩=false:=nb9.frozen 2)
            | (go_at_call 55; refine(HBc.out _ (HKw.out.trans (by first | exact And.left (by assumption) | exact(Keep.refl Never w').drew))).mono ?_;rintro e w9 ⟨rfl,hk9⟩))
        all_goals
         rename_i hS
         have HKf:=qh (HKe.out.trans (And.left hS))
         clear hS
         clear p0 q2 hq HBc HS2 hk9
         (try clear nb9 n0 n1 n2 m0 m1 m2)
         cases os with
         | true=>
          have HF:Hid (checkM t=5):=qh (by
           have h1:bErr t k=5:=by unfold bErr;rw[Hb.out];simp only;rw[←HL.out.1,if_neg HNb.out,if_pos HOs.out]
           have h2:firstE (bErr t) t.2.2.1.length=5:=firstE_at (k:=0) (by rw[←HL.out.2.2.1];exact h0) HH.out.2 h1 (by decide)
           unfold checkM;rw[if_neg HN1.out,if_neg HN2.out,if_neg HN3.out,h2,if_pos (by decide)])
          go_wp2_with fail
          go_ret
          exact⟨by rw[HF.out];rfl,HK.out.trans HKf.out⟩
         | false=>
          have HZ:Hid (bErr t k=0):=qh (by unfold bErr;rw[Hb.out];simp only;rw[←HL.out.1,if_neg HNb.out,if_neg (by rw[HOs.out];simp)])
          go_wp2_with fail
          refine⟨⟨k+1,by omega,by go_num,qh ⟨HKf.out,fun j hj=>?_⟩⟩,?_⟩
          ·by_cases e:j=k
           ·rw[e];exact HZ.out
           ·exact HH.out.2 j (by omega)
          ·simp[intOf];try omega
      ·obtain rfl:k=nb:=by omega
       have hkz:¬(k:Int)<(k:Int):=by omega
       have HN4:Hid (¬firstE (bErr t) t.2.2.1.length≠0):=qh (by rw[firstE_zero (fun j hj=>HH.out.2 j (by rw[HL.out.2.2.1];exact hj))];simp)
       have HKr:=qh HH.out.1
       have y3:wr.cell? ⟨w.heap.size,3,none⟩=some (.slice Ar nr cr):=(HB1.out.keep HH.out.1 (fun h=>h)).cell 3
       clear HH HT
       go_wp2_with fail
       clear y3
       go_loopw [9,10,11,12,13,132] (fun _ _ _ _ _ i wr=>∃q:Nat,q≤nr∧i=.int .i64 q∧Hid (Keep Never w1 wr∧∀j,j<q→rErr t j=0)) (fun _ _ _ _ _ i _=>nr - (intOf i).toNat)
       case atStart=>exact⟨0,by omega,rfl,qh ⟨HKr.out,fun j h=>by omega⟩⟩
       case round=>
        rename Nat=>nb
        obtain⟨k,hk,rfl,HH⟩:=hrel
        by_cases h0:k<nr
        ·have hkz:(k:Int)<(nr:Int):=by omega
         obtain⟨ad,r,A2,n2,d2,hA,_,hr,c0,c1,c2,c3,hsl⟩:=rt_at2 (HTp.out.keep (HK.out.trans HH.out.1)).r h0
         simp only at hA
         subst hA
         obtain⟨x1,p,x2,x3⟩:=r
         simp only at c0 c1 c2 c3 hsl
         obtain⟨W1,hW1⟩:∃W:World,wr.alloc (.cells #[.int .i64 x1,.slice A2 n2 d2,.int .i64 x2,.int .i64 x3] 64)=W:=⟨_,rfl⟩
         have K1:Keep Never wr W1:=by rw[←hW1];exact(Keep.refl _ _).alloc _
         have B1:=Blk.new wr 64 #[.int .i64 x1,.slice A2 n2 d2,.int .i64 x2,.int .i64 x3]
         rw[hW1] at B1
         have HKW:=qh (HH.out.1.trans K1)
         obtain⟨d0,d1⟩:=bc2 B1
         have d2':W1.cell? ⟨wr.heap.size,2,none⟩=some (.int .i64 x2):=B1.cell 2
         have d3:W1.cell? ⟨wr.heap.size,3,none⟩=some (.int .i64 x3):=B1.cell 3
         have hb1:=HB1.out.keep HKW.out (fun h=>h)
         have y3o:wr.cell? ⟨w.heap.size,3,none⟩=some (.slice (some ad) nr cr):=(HB1.out.keep HH.out.1 (fun h=>h)).cell 3
         obtain⟨y0,y1,y2,y3⟩:=bc4 hb1
         have hn2:n2≤100000000:=by have h5:p.length≤100000000:=HP5.out _ (List.mem_of_getElem? hr);have:=hsl.len;omega
         have HRr:=HRd.out (x1,p,x2,x3) A2 n2 d2 W1 (HK.out.trans HKW.out) (hsl.keep K1 (fun _ h=>h.elim)) hn2
         obtain⟨re,hre⟩:∃z,routedM t (x1,p,x2,x3)=z:=⟨_,rfl⟩
         rw[hre] at HRr
         have HRc:=qh HRr
         have HRe:=qh hre
         have Hr:=qh hr
         have HBr:=qh B1
         clear hr K1 B1 hb1 HRr hre hsl HRd
         go_wp2_with fail
         refine HRc.out.mono ?_
         rintro e w5 ⟨rfl,hk5⟩
         have HK5:=qtr HKW hk5
         have p0:w5.cell? ⟨wr.heap.size,0,none⟩=some (.int .i64 x1):=keepT hk5 d0
         have q3:w5.cell? ⟨w.heap.size,3,none⟩=some (.slice (some ad) nr cr):=keepT hk5 y3
         clear hk5 HRc c0 c1 c2 c3 hW1 d0 d1 d2' d3 y0 y1 y2 y3 y3o
         by_cases g0:re=0
         case neg=>
          have t0:(re != 0)=true:=by simpa using g0
          have t0':(re==0)=false:=by simpa using g0
          have HF:Hid (checkM t=re):=qh (by
           have h1:rErr t k=re:=by unfold rErr;rw[Hr.out];simp only;rw[HRe.out,if_pos g0]
           have h2:firstE (rErr t) t.2.2.2.length=re:=firstE_at (k:=0) (by rw[←HL.out.2.2.2];exact h0) HH.out.2 h1 g0
           unfold checkM;rw[if_neg HN1.out,if_neg HN2.out,if_neg HN3.out,if_neg HN4.out,h2])
          clear g0
          go_wp2_with fail
          go_ret
          exact⟨by rw[HF.out];rfl,HK.out.trans HK5.out⟩
         subst g0
         have hq:=run_front Tryz.underlying25 Tryz.sizeOf64 (some ad) nr cr k hk HTp.out.r.cap
         obtain⟨ob,hob⟩:∃b,rtM (t.2.2.2.take k) x1=b:=⟨_,rfl⟩
         have HBc0:∀W,Keep Never w W→Calls Tryz.prog 28 #[.agg #[.slice none 0 0,.slice none 0 0,.slice none 0 0,.slice (some ad) k cr],.int .i64 x1] W (RtRet ob W):=fun W hk0=>by
          have:=route_any ⟨none,0,0,none,0,0,none,0,0,some ad,k,cr⟩ ([],[],[],t.2.2.2.take k) B x1 W ⟨Rep.Sl.nil _ _ _,Rep.Sl.nil _ _ _,Rep.Sl.nil _ _ _,Sl.front (HTp.out.keep hk0).r hk⟩ (by show k≤100000000;omega) (fun r hr=>HP5.out r (List.mem_of_mem_take hr)) (Nat.le_trans HGB.out hk0.size)
          simp only at this
          rw[hob] at this
          exact this
         obtain⟨o1,ho1⟩:∃z,(ob.getD (0,[],0,0)).1=z:=⟨_,rfl⟩
         obtain⟨o2,ho2⟩:∃z,(ob.getD (0,[],0,0)).2.2.1=z:=⟨_,rfl⟩
         obtain⟨o3,ho3⟩:∃z,(ob.getD (0,[],0,0)).2.2.2=z:=⟨_,rfl⟩
         obtain⟨os,hos⟩:∃z,ob.isSome=z:=⟨_,rfl⟩
         unfold RtRet at HBc0
         rw[ho1,ho2,ho3,hos] at HBc0
         have HBc:=qh HBc0
         have HOs:Hid ((rtM (t.2.2.2.take k) x1).isSome=os):=qh (by rw[hob];exact hos)
         have HS2:Hid (∀W,Keep Never w5 W→Keep Never w5 W∧W.cell? ⟨wr.heap.size,0,none⟩=some (.int .i64 x1)∧W.cell? ⟨w.heap.size,3,none⟩=some (.slice (some ad) nr cr)):=qh (fun W h=>⟨h,keepT h p0,keepT h q3⟩)
         have HKw:=qh (HK.out.trans HK5.out)
         clear hob ho1 ho2 ho3 hos HBc0
         go_wp2_with fail
         go_region_held3 (fun W=>Keep Never w5 W∧W.cell? ⟨wr.heap.size,0,none⟩=some (.int .i64 x1)∧W.cell? ⟨w.heap.size,3,none⟩=some (.slice (some ad) nr cr))
           (first| assumption | exact HS2.out _ ((Keep.refl Never w5).drew) | exact HS2.out _ (Keep.trans (And.left (by assumption)) hk9) | exact HS2.out _ (Keep.alloc (And.left (by assumption)) _) | exact HS2.out _ (Keep.alloc (Keep.trans ((Keep.refl Never w5).drew) hk9) _) | exact HS2.out _ (put4_keep (And.left (by assumption)) (.inr (by first | exact Nat.le_refl _ | exact(Keep.size (And.left (by assumption))) | omega)) _ _ _ _))
           (first
             | (go_at_call 28; refine(HBc.out _ (HKw.out.trans (by first | exact And.left (by assumption) | exact(Keep.refl Never w5).drew))).mono ?_;rintro e w9 ⟨A9,n9,c9,rfl,hsl9,hk9⟩;have nb9:Blk w9 w5.heap.size 64 #[.int .i64 0,.slice none 0 0,.int .i64 0,.int .i64 0]:=(by first | exact Blk.keep (Blk.new _ _ _) hk9 (fun h=>h) | exact Blk.keep (Blk.drew (Blk.new _ _ _)) hk9 (fun h=>h));have n0:w9.cell? ⟨w5.heap.size,0,none⟩=some (.int .i64 0):=nb9.cell 0;have n1:w9.cell? ⟨w5.heap.size,1,none⟩=some (.slice none 0 0):=nb9.cell 1;have n2:w9.cell? ⟨w5.heap.size,2,none⟩=some (.int .i64 0):=nb9.cell 2;have n3:w9.cell? ⟨w5.heap.size,3,none⟩=some (.int .i64 0):=nb9.cell 3;have m0:w9.frozen? ⟨w5.heap.size,0,none⟩=false:=nb9.frozen 0;have m1:w9.frozen? ⟨w5.heap.size,1,none⟩=false:=nb9.frozen 1;have m2:w9.frozen? ⟨w5.heap.size,2,none⟩=false:=nb9.frozen 2;have m3:w9.frozen? ⟨w5.heap.size,3,none⟩=false:=nb9.frozen 3)
             | (go_at_call 28; refine(HBc.out _ (HKw.out.trans (by first | exact And.left (by assumption) | exact(Keep.refl Never w5).drew))).mono ?_;rintro e w9 ⟨A9,n9,c9,rfl,hsl9,hk9⟩))
         all_goals
          rename_i hS
          have HKf:=qh (HK5.out.trans (And.left hS))
          clear hS
          clear p0 q3 hq HBc HS2 hk9 hsl9
          (try clear nb9 n0 n1 n2 n3 m0 m1 m2 m3)
          cases os with
          | true=>
           have HF:Hid (checkM t=5):=qh (by
            have h1:rErr t k=5:=by unfold rErr;rw[Hr.out];simp only;rw[if_neg (by rw[HRe.out];simp),if_pos HOs.out]
            have h2:firstE (rErr t) t.2.2.2.length=5:=firstE_at (k:=0) (by rw[←HL.out.2.2.2];exact h0) HH.out.2 h1 (by decide)
            unfold checkM;rw[if_neg HN1.out,if_neg HN2.out,if_neg HN3.out,if_neg HN4.out,h2])
           go_wp2_with fail
           go_ret
           exact⟨by rw[HF.out];rfl,HK.out.trans HKf.out⟩
          | false=>
           have HZ:Hid (rErr t k=0):=qh (by unfold rErr;rw[Hr.out];simp only;rw[if_neg (by rw[HRe.out];simp),if_neg (by rw[HOs.out];simp)])
           go_wp2_with fail
           refine⟨⟨k+1,by omega,by go_num,qh ⟨HKf.out,fun j hj=>?_⟩⟩,?_⟩
           ·by_cases e:j=k
            ·rw[e];exact HZ.out
            ·exact HH.out.2 j (by omega)
           ·simp[intOf];try omega
        ·obtain rfl:k=nr:=by omega
         have hkz:¬(k:Int)<(k:Int):=by omega
         have HF:Hid (checkM t=0):=qh (by unfold checkM;rw[if_neg HN1.out,if_neg HN2.out,if_neg HN3.out,if_neg HN4.out,firstE_zero (fun j hj=>HH.out.2 j (by rw[HL.out.2.2.2];exact hj))])
         have HKe:=qh (HK.out.trans HH.out.1)
         clear HH
         go_wp2_with fail
         go_ret
         exact⟨by rw[HF.out];rfl,HKe.out⟩
end Go.Proofs.YtpapiojicbbheaaGreatDoor

namespace Go.Proofs.YtpapiojicbbheaaGreatDoor
open Go.RowKit
def sameS (x1:Int) (x2:Bool) (y1:Int) (y2:Bool):Bool:=decide (((x1,x2):Stp)=(y1,y2))
theorem run_eq_stp (w:World) (x1:Int) (x2:Bool) (y1:Int) (y2:Bool):(binOp .eql 30 (.agg #[.int .i64 x1,.bool x2]) (.agg #[.int .i64 y1,.bool y2])).run Tryz.prog w=.ok (.bool (sameS x1 x2 y1 y2)) w:=by
 by_cases h1:x1=y1
 ·have t1:(x1==y1)=true:=by simpa using h1
  by_cases h2:x2=y2
  ·have t2:(x2==y2)=true:=by simpa using h2
   have hd:sameS x1 x2 y1 y2=true:=decide_eq_true (by rw[h1,h2])
   rw[hd]
   clear h1 h2 hd
   go_simp
  ·have t2:(x2==y2)=false:=by simpa using h2
   have hd:sameS x1 x2 y1 y2=false:=decide_eq_false (by simp[h2])
   rw[hd]
   clear h1 h2 hd
   go_simp
 ·have t1:(x1==y1)=false:=by simpa using h1
  have hd:sameS x1 x2 y1 y2=false:=decide_eq_false (by simp[h1])
  rw[hd]
  clear h1 hd
  go_simp
end Go.Proofs.YtpapiojicbbheaaGreatDoor
