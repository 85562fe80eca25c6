/- Texts of this claim, together: SpnC, Slc, Sld, SpnD, LaySort, SpnE, SpnF, SpnG, StpS, TopD. -/
import Derived.Test.YtpapiojicbbheaaGreatDoorTc00
import Derived.Deep.RegionHeld3
import Derived.Shelf.GgClosure.Gives
import Derived.Lib.SliceRun
import Derived.Test.YtpapiojicbbheaaGreatDoorRows
import Derived.Shelf.SlSortCmp.WholeK
import Derived.StillTailTactics
namespace Go.Proofs.YtpapiojicbbheaaGreatDoor
open Go.RowKit
def i64_ (n:Int):Prop:=-9223372036854775808≤n∧n≤9223372036854775807
def spIn (s:Sp):Prop:=i64_ s.1∧i64_ s.2.1∧i64_ s.2.2
def spCell (s:Sp):List Value:=[.int .i64 s.1,.int .i64 s.2.1,.int .i64 s.2.2]
def spCells (l:List Sp):List Value:=l.flatMap spCell
theorem spCells_cons (s:Sp) (l:List Sp):spCells (s::l)=.int .i64 s.1::.int .i64 s.2.1::.int .i64 s.2.2::spCells l:=rfl
theorem spCells_nil:spCells []=[]:=rfl
theorem spCells_app (l m:List Sp):spCells (l++m)=spCells l++spCells m:=by simp[spCells]
theorem len_spCells (l:List Sp):(spCells l).length=l.length*3:=by
 induction l with
 | nil=>rfl
 | cons s l ih=>rw[spCells_cons];simp only[List.length_cons,ih];omega
theorem spCells_one (l:List Sp):∀u∈spCells l,u.oneCell'=true:=by
 induction l with
 | nil=>intro u hu;cases hu
 | cons s l ih=>
  intro u hu
  rw[spCells_cons] at hu
  rcases List.mem_cons.1 hu with rfl | hu
  ·rfl
  rcases List.mem_cons.1 hu with rfl | hu
  ·rfl
  rcases List.mem_cons.1 hu with rfl | hu
  ·rfl
  exact ih u hu
theorem spCells_at:∀(l:List Sp) {i:Nat}{s:Sp},l[i]?=some s→(spCells l)[i*3]?=some (.int .i64 s.1)∧(spCells l)[i*3+1]?=some (.int .i64 s.2.1)∧(spCells l)[i*3+2]?=some (.int .i64 s.2.2):=by
 intro l
 induction l with
 | nil=>intro i s h;simp at h
 | cons y l ih=>
  intro i s h
  cases i with
  | zero=>simp only[List.getElem?_cons_zero,Option.some.injEq] at h;subst h;exact⟨rfl,rfl,rfl⟩
  | succ i=>
   simp only[List.getElem?_cons_succ] at h
   obtain⟨h1,h2,h3⟩:=ih h
   rw[spCells_cons,show (i+1)*3=i*3+1+1+1 by omega,show i*3+1+1+1+1=(i*3+1)+1+1+1 by omega,show i*3+1+1+1+2=(i*3+2)+1+1+1 by omega]
   simp only[List.getElem?_cons_succ]
   exact⟨h1,h2,h3⟩
theorem spCells_set2:∀(l:List Sp) {i:Nat}{s:Sp},l[i]?=some s→∀m,spCells (l.set i (s.1,s.2.1,m))=(spCells l).set (i*3+2) (.int .i64 m):=by
 intro l
 induction l with
 | nil=>intro i s h;simp at h
 | cons y l ih=>
  intro i s h m
  cases i with
  | zero=>
   simp only[List.getElem?_cons_zero,Option.some.injEq] at h
   subst h
   rfl
  | succ i=>
   simp only[List.getElem?_cons_succ] at h
   rw[List.set_cons_succ,spCells_cons,spCells_cons,ih h m,show (i+1)*3+2=(i*3+2)+1+1+1 by omega,List.set_cons_succ,List.set_cons_succ,List.set_cons_succ]
theorem spCells_take:∀(l:List Sp) (k:Nat),(spCells l).take (k*3)=spCells (l.take k)
  | [],k=>by simp[spCells_nil]
  | s::l,0=>by simp[spCells_nil]
  | s::l,k+1=>by
   rw[List.take_succ_cons,spCells_cons,spCells_cons,show (k+1)*3=k*3+1+1+1 by omega,List.take_succ_cons,List.take_succ_cons,List.take_succ_cons,spCells_take l k]
theorem Rd.sp {w:World}{B n k:Nat}{A:Option Addr}{l:List Sp} (h:Rd w B 3 A n (spCells l)) (hk:k<n):∃ad s,A=some ad∧ad.block<B∧l[k]?=some s∧w.cell? (ad.add (k*3))=some (.int .i64 s.1) ∧
    w.cell? ⟨(ad.add (k*3)).block,(ad.add (k*3)).off+1,none⟩=some (.int .i64 s.2.1)∧w.cell? ⟨(ad.add (k*3)).block,(ad.add (k*3)).off+2,none⟩=some (.int .i64 s.2.2):=by
  obtain⟨ad,e,hb,hc⟩:=h.2 (by omega)
  have hl:k<l.length:=by have:=h.1;rw[len_spCells] at this;omega
  have hs:l[k]?=some l[k]:=List.getElem?_eq_getElem hl
  obtain⟨a0,a1,a2⟩:=spCells_at l hs
  have c0:=hc _ _ a0
  have c1:=hc _ _ a1
  have c2:=hc _ _ a2
  rw[fld _ _ (by omega)] at c1 c2
  exact⟨ad,l[k],e,hb,hs,c0,c1,c2⟩
theorem Rd.sp_len {w:World}{B n:Nat}{A:Option Addr}{l:List Sp} (h:Rd w B 3 A n (spCells l)):l.length=n:=by have:=h.1;rw[len_spCells] at this;omega
def repSp:Rep Sp:=Rep.int.pair (Rep.int.pair Rep.int)
theorem repSp_cells {w:World}{B:Nat}{s:Sp}{cs:List Value} (h:repSp.cells w B s cs):cs=spCell s∧spIn s:=by
 obtain⟨c,d,rfl,⟨rfl,h1⟩,c',d',rfl,⟨rfl,h2⟩,⟨rfl,h3⟩⟩:=h
 exact⟨rfl,h1,h2,h3⟩
theorem sps_rd {w:World}{B n c:Nat}{A:Option Addr}{l:List Sp} (h:repSp.Sl w B A n c l):Rd w B 3 A n (spCells l)∧n=l.length∧n≤c∧c≤maxLen∧(A=none→c=0)∧∀s∈l,spIn s:=by
 obtain⟨h1,h2,h3,h4,css,h5,h6⟩:=h
 have hf:css.flatten=spCells l∧∀s∈l,spIn s:=by
  clear h5 h1
  induction l generalizing css with
  | nil=>cases css with
    | nil=>simp[spCells_nil]
    | cons b m=>exact h6.elim
  | cons a l ih=>cases css with
    | nil=>exact h6.elim
    | cons b m=>
     obtain⟨e1,e2⟩:=ih m h6.2
     obtain⟨e3,e4⟩:=repSp_cells h6.1
     refine⟨by rw[List.flatten_cons,e1,e3];rfl,fun s hs=>?_⟩
     rcases List.mem_cons.1 hs with rfl | hs
     ·exact e4
     ·exact e2 s hs
 exact⟨by rw[←hf.1];exact h5,h1,h2,h3,h4,hf.2⟩
set_option maxRecDepth 100000 in
theorem elemSp:Elem Tryz.prog 72 145 3 24:=⟨Tryz.underlying72, _,_,rfl,rfl,rfl,rfl,rfl,by omega⟩
end Go.Proofs.YtpapiojicbbheaaGreatDoor

namespace Go.Proofs.YtpapiojicbbheaaGreatDoor
open Go.RowKit
theorem run_from {P:Program}{t e size:Nat} (ht:P.underlying t=some (.slice e)) (hsz:∀w,(sizeOf e).run P w=.ok size w) (A:Option Addr) (n c k:Nat) (hk:k≤n) (x:Int) (hx:x=k) :
    ∃A' c',(∀w,(Instr.slice t (.slice A n c) (some (.int .i64 x)) none none).run P w=.ok (.slice A' (n - k) c') w)∧(∀w B xs,n≤c→Rd w B size A n xs→Rd w B size A' (n - k) (xs.drop (k*size)))∧(n≤c→n - k≤c')∧c'≤c∧(∀q,InRow A' q→InRow A q)∧A'=(if c=k then A else A.map (·.add (k*size)))∧c'=c - k:=by
  refine⟨if c=k then A else A.map (·.add (k*size)),c - k,fun w=>?_,fun w B xs hc h=>h.cut hk hc,fun h=>by omega,by omega,fun q hq=>?_,rfl,rfl⟩
  ·subst hx
   simp[Instr.slice,run_underlying ht,Instr.sliceBounds,Instr.sliceBound,asIntOf,hsz,hk,Result.andThen]
  ·obtain⟨ad,h1,h2⟩:=hq
   split at h1
   ·exact⟨ad,h1,h2⟩
   ·rcases A with _ | a0
    ·cases h1
    ·injection h1 with h1
     exact⟨a0,rfl,by rw[←h2,←h1,block_add]⟩
theorem wpList_from {P:Program}{w:World}{ops:Array Oper}{rest:List Oper}{o:Oper}{a:Act}{Q:Exit→Act→World→Prop} (hgd:o.guard=none) (s l:Operand) (t:TypeId) (ho:o.op=.slice t s (some l) none none)
    {e size:Nat} (ht:P.underlying t=some (.slice e)) (hsz:∀w,(sizeOf e).run P w=.ok size w) (A:Option Addr) (n c k:Nat) (hs:a.eval s=.slice A n c) (x:Int) (hl:a.eval l=.int .i64 x) (hx:x=k) (hk:k≤n)
    (h:∀A' c',Hid ((∀w B xs,n≤c→Rd w B size A n xs→Rd w B size A' (n - k) (xs.drop (k*size)))∧(n≤c→n - k≤c')∧c'≤c∧(∀q,InRow A' q→InRow A q))→wpList P ops Q rest (a.put o.dst (.slice A' (n - k) c')) w) :
    wpList P ops Q (o::rest) a w:=by
  obtain⟨A',c',h1,h2,h3,h4,h5,_⟩:=run_from (P:=P) ht hsz A n c k hk x hx
  refine wpList_plain hgd fun K hK=>?_
  unfold Oper.wp
  simp only[execOp,ho,Option.map_some,Option.map_none,hs,hl]
  have he:P.underlying t=some (.slice (P.elem t)):=by simp[Program.elem,ht]
  simp only[Sem.run_bind,run_sliceAt_slice _ _ _ _ _ _ he,h1,Result.andThen,Sem.run_pure,Oper.upon]
  exact hK _ _ (h A' c' ⟨h2,h3,h4,h5⟩)
end Go.Proofs.YtpapiojicbbheaaGreatDoor

namespace Go.Proofs.YtpapiojicbbheaaGreatDoor
open Go.RowKit
theorem Rd.front {w:World}{B size n k:Nat}{A:Option Addr}{xs:List Value} (h:Rd w B size A n xs) (hk:k≤n):Rd w B size A k (xs.take (k*size)):=by
 refine⟨?_,fun hp=>?_⟩
 ·rw[List.length_take,h.1,Nat.min_eq_left (Nat.mul_le_mul_right _ hk)]
 ·obtain⟨ad,e,hb,hc⟩:=h.2 (by omega)
  refine⟨ad,e,hb,fun j u hu=>hc j u ?_⟩
  rw[List.getElem?_take] at hu
  split at hu
  ·exact hu
  ·cases hu
end Go.Proofs.YtpapiojicbbheaaGreatDoor

namespace Go.Proofs.YtpapiojicbbheaaGreatDoor
open Go.RowKit
theorem some15_any (s:Sp) (w:World):Calls Tryz.prog 149 #[.agg #[.int .i64 s.1,.int .i64 s.2.1,.int .i64 s.2.2]] w fun e w'=>e=.returned (.bool (someS s))∧Keep Never w w':=by
 obtain⟨a,b,c⟩:=s
 simp only
 by_cases h1:0≤a
 ·by_cases h2:0≤b
  ·by_cases h3:b<c
   ·by_cases h4:c≤1000000
    ·have hs:Hid (someS (a,b,c)=true):=qh (someS_iff.2 ⟨h1,h2,h3,h4⟩)
     go_enter Tryz.func149, Tryz.ntmps149
     go_wp2
     go_ret
     exact⟨by rw[hs.out];rfl,(Keep.refl Never w).alloc _⟩
    ·have hs:Hid (someS (a,b,c)=false):=qh (by rw[←not_true_iff,someS_iff];simp only;omega)
     go_enter Tryz.func149, Tryz.ntmps149
     go_wp2
     go_ret
     exact⟨by rw[hs.out];rfl,(Keep.refl Never w).alloc _⟩
   ·have hs:Hid (someS (a,b,c)=false):=qh (by rw[←not_true_iff,someS_iff];simp only;omega)
    go_enter Tryz.func149, Tryz.ntmps149
    go_wp2
    go_ret
    exact⟨by rw[hs.out];rfl,(Keep.refl Never w).alloc _⟩
  ·have hs:Hid (someS (a,b,c)=false):=qh (by rw[←not_true_iff,someS_iff];simp only;omega)
   go_enter Tryz.func149, Tryz.ntmps149
   go_wp2
   go_ret
   exact⟨by rw[hs.out];rfl,(Keep.refl Never w).alloc _⟩
 ·have hs:Hid (someS (a,b,c)=false):=qh (by rw[←not_true_iff,someS_iff];simp only;omega)
  go_enter Tryz.func149, Tryz.ntmps149
  go_wp2
  go_ret
  exact⟨by rw[hs.out];rfl,(Keep.refl Never w).alloc _⟩
def PredSp (g:Nat) (lb:Array Value) (p:Sp→Bool) (w:World):Prop:=
  ∀(W:World) (s:Sp),Keep Never w W→Calls Tryz.prog g (#[.agg #[.int .i64 s.1,.int .i64 s.2.1,.int .i64 s.2.2]]++lb) W fun e w'=>e=.returned (.bool (p s))∧Keep Never W w'
def IdxRet (p:Sp→Bool) (l:List Sp) (w:World) (e:Ending) (w':World):Prop:=
  ((∃(i:Nat) (s:Sp),e=.returned (.int .i64 i)∧l[i]?=some s∧p s=true∧∀x∈l.take i,p x=false)∨(e=.returned (.int .i64 (-1))∧∀x∈l,p x=false))∧Keep Never w w'
set_option maxHeartbeats 1000000 in
set_option maxRecDepth 100000 in
theorem indexf_any (g:Nat) (lb:Array Value) (p:Sp→Bool) (eg:∀args w,(callFunc g args).run Tryz.prog w=.ok (.enter g args) w) (A:Option Addr) (n c B:Nat) (l:List Sp) (w:World) (hr:Rd w B 3 A n (spCells l)) (hp:PredSp g lb p w) (hn:n≤100000000000) :
    Calls Tryz.prog 186 #[.slice A n c,.func (.func g) #[] lb] w (IdxRet p l w):=by
  have HL:=qh hr.sp_len
  have HR:=qh hr
  have HP:=qh hp
  clear hr hp
  go_enter Tryz.func186, Tryz.ntmps186
  go_wp2_with fail
  go_loopw [5,8] (fun _ s8 wr=>∃k:Nat,k≤n∧s8=.int .i64 k∧Hid (Keep Never w wr∧∀x∈l.take k,p x=false)) (fun _ i _=>n - (intOf i).toNat)
  case atStart=>exact⟨0,by omega,rfl,qh ⟨Keep.refl _ _,by simp⟩⟩
  case round=>
   obtain⟨k,hk,rfl,HH⟩:=hrel
   by_cases h0:k<n
   ·have hki:(k:Int)<(n:Int):=by omega
    obtain⟨ad,s,hA,_,hs,c0,c1,c2⟩:=(HR.out.keep HH.out.1 (fun _ h=>h.elim)).sp h0
    subst hA
    have hcall:=HP.out wr s HH.out.1
    have Hs:=qh hs
    have htk:Hid (l.take (k+1)=l.take k++[s]):=qh (by
     obtain⟨h2,h3⟩:=List.getElem?_eq_some_iff.1 hs
     rw[List.take_succ_eq_append_getElem h2,h3])
    clear hs
    obtain⟨s1,s2,s3⟩:=s
    simp only at c0 c1 c2 hcall
    cases hps:p (s1,s2,s3) with
    | true=>
     rw[hps] at hcall
     have Hps:=qh hps
     clear hps
     go_wp2_with (go_at_fn g;refine hcall.mono ?_;rintro e w' ⟨rfl,hk'⟩)
     go_ret
     exact⟨.inl ⟨k,_,rfl,Hs.out,Hps.out,HH.out.2⟩,HH.out.1.trans hk'⟩
    | false=>
     rw[hps] at hcall
     have Hps:=qh hps
     clear hps
     go_wp2_with (go_at_fn g;refine hcall.mono ?_;rintro e w' ⟨rfl,hk'⟩)
     go_roundw
     case measure=>simp[intOf];try omega
     case rel=>
      refine⟨k+1,by omega,by go_num,qh ⟨HH.out.1.trans hk',fun x hx=>?_⟩⟩
      rw[htk.out] at hx
      rcases List.mem_append.1 hx with hx | hx
      ·exact HH.out.2 x hx
      ·simp at hx;subst hx;exact Hps.out
   ·obtain rfl:k=n:=by omega
    have hki:¬(k:Int)<(k:Int):=by omega
    have HN:Hid (∀x∈l,p x=false):=qh (by have:=HH.out.2;rwa [List.take_of_length_le (by have:=HL.out;omega)] at this)
    go_wp2_with fail
    go_ret
    exact⟨.inr ⟨rfl,HN.out⟩,HH.out.1⟩
set_option maxHeartbeats 1000000 in
set_option maxRecDepth 100000 in
theorem clone_any (A:Option Addr) (n c B:Nat) (l:List Sp) (w:World) (hr:Rd w B 3 A n (spCells l)) (hA:A=none→c=0) (hnc:n≤c) (hn:n≤100000000000) (_hB:B≤w.heap.size) :
    Calls Tryz.prog 147 #[.slice A n c] w fun e w'=>∃A' c',e=.returned (.slice A' n c')∧Own w' w.heap.size 145 3 A' n c' (spCells l)∧Keep Never w w':=by
  have HR:=qh hr
  have HL:=qh hr.sp_len
  clear hr
  have q22:∀(w:World) (a:Option Addr) (n c n' c':Nat),(binOp .eql 72 (.slice a n c) (.slice none n' c')).run Tryz.prog w=.ok (.bool a.isNone) w:=fun w a n c n' c'=>Lib.run_eql_slice_nil w _ _ a n c n' c' Tryz.underlying72
  cases A with
  | none=>
   obtain rfl:=hA rfl
   obtain rfl:n=0:=by omega
   have hl:l=[]:=List.eq_nil_of_length_eq_zero HL.out
   subst hl
   clear hA
   go_enter Tryz.func147, Tryz.ntmps147
   go_wp2_with fail
   go_ret
   exact⟨none,0,rfl,Own.nil _ _ _ _,Keep.refl _ _⟩
  | some ad=>
   clear hA
   have HO:Hid (Own (w.alloc (.cells #[] 145)) w.heap.size 145 3 (some ⟨w.heap.size,0,none⟩) 0 0 []):=qh (by
    have h:=Own.lit w 145 #[] 0 3 (by unfold maxLen;omega) rfl
    simpa using h)
   have HK:Hid (Keep Never w (w.alloc (.cells #[] 145))):=qh ((Keep.refl Never w).alloc _)
   have HR1:=qh (HR.out.keep HK.out (fun _ h=>h.elim))
   have hsz:w.heap.size≤(w.alloc (.cells #[] 145)).heap.size:=by simp
   go_enter Tryz.func147, Tryz.ntmps147
   go_wp2_with (at_builtin;refine wpList_app _ rfl (.tmp 5) (.tmp 6) _ rfl elemSp w.heap.size (n:=0) (c:=0) rfl HO.out B (m:=n) rfl HR1.out (spCells_one _) (by omega) (by unfold maxLen;omega) hsz ?_;intro A5 c5 w5 hown hk5 hrow)
   go_ret
   refine⟨A5,c5,by simp,by simpa using hown,HK.out.then_ hk5 (fun i hi h=>?_)⟩
   have:=(HO.out.row h).1
   omega
end Go.Proofs.YtpapiojicbbheaaGreatDoor

namespace Go.Proofs.YtpapiojicbbheaaGreatDoor
open Go.Proofs Go.Shelf
def sortSp_ren:Go.Shelf.Ren:=⟨fun | 6=>150 | 15=>135 | 14=>187 | 28=>183 | 29=>184 | 20=>214 | 21=>215 | 22=>216 | 23=>217 | 24=>218 | 25=>219 | 26=>220 | 27=>221 | 46=>225 | 47=>207 | 48=>208 | 49=>226 | 50=>227 | 57=>228 | n=>n,fun | 22=>72 | 24=>145 | 25=>190 | 3=>3 | 39=>168 | 0=>0 | 53=>224 | 55=>226 | 4=>4 | 46=>217 | 45=>216 | 50=>221 | 5=>5 | 9=>9 | 66=>250 | 70=>254 | 76=>266 | 77=>53 | n=>n,fun | n=>n⟩
theorem sortSp:Go.Proofs.SlLaysF0.n6 Tryz.prog sortSp_ren:={
  mixed:=by kernel_rfl
  f6:=⟨Tryz.f150.name,by decide,Tryz.func150.trans (congrArg some (by kernel_rfl))⟩
  f14:=⟨Tryz.f187.name,by decide,Tryz.func187.trans (congrArg some (by kernel_rfl))⟩
  f15:=Tryz.func135.trans (congrArg some (by kernel_rfl))
  f20:=⟨Tryz.f214.name,by decide,Tryz.func214.trans (congrArg some (by kernel_rfl))⟩
  f21:=⟨Tryz.f215.name,by decide,Tryz.func215.trans (congrArg some (by kernel_rfl))⟩
  f22:=⟨Tryz.f216.name,by decide,Tryz.func216.trans (congrArg some (by kernel_rfl))⟩
  f23:=⟨Tryz.f217.name,by decide,Tryz.func217.trans (congrArg some (by kernel_rfl))⟩
  f24:=⟨Tryz.f218.name,by decide,Tryz.func218.trans (congrArg some (by kernel_rfl))⟩
  f25:=⟨Tryz.f219.name,by decide,Tryz.func219.trans (congrArg some (by kernel_rfl))⟩
  f26:=⟨Tryz.f220.name,by decide,Tryz.func220.trans (congrArg some (by kernel_rfl))⟩
  f27:=⟨Tryz.f221.name,by decide,Tryz.func221.trans (congrArg some (by kernel_rfl))⟩
  f28:=Tryz.func183.trans (congrArg some (by kernel_rfl))
  f29:=Tryz.func184.trans (congrArg some (by kernel_rfl))
  f46:=⟨Tryz.f225.name,by decide,Tryz.func225.trans (congrArg some (by kernel_rfl))⟩
  f47:=Tryz.func207.trans (congrArg some (by kernel_rfl))
  f48:=Tryz.func208.trans (congrArg some (by kernel_rfl))
  f49:=⟨Tryz.f226.name,by decide,Tryz.func226.trans (congrArg some (by kernel_rfl))⟩
  f50:=⟨Tryz.f227.name,by decide,Tryz.func227.trans (congrArg some (by kernel_rfl))⟩
  f57:=⟨Tryz.f228.name,by decide,Tryz.func228.trans (congrArg some (by kernel_rfl))⟩
  t0:=Tryz.underlying0
  a0:=Tryz.isAgg0
  z0:=Tryz.sizeOf0
  v0:=Tryz.zeroValue0
  t3:=Tryz.underlying3
  a3:=Tryz.isAgg3
  z3:=Tryz.sizeOf3
  v3:=Tryz.zeroValue3
  t4:=Tryz.underlying4
  a4:=Tryz.isAgg4
  z4:=Tryz.sizeOf4
  v4:=Tryz.zeroValue4
  t5:=Tryz.underlying5
  a5:=Tryz.isAgg5
  z5:=Tryz.sizeOf5
  v5:=Tryz.zeroValue5
  t9:=Tryz.underlying9
  a9:=Tryz.isAgg9
  z9:=Tryz.sizeOf9
  v9:=Tryz.zeroValue9
  t22:=Tryz.underlying72
  a22:=Tryz.isAgg72
  z22:=Tryz.sizeOf72
  v22:=Tryz.zeroValue72
  t25:=Tryz.underlying190
  a25:=Tryz.isAgg190
  z25:=Tryz.sizeOf190
  v25:=Tryz.zeroValue190
  t39:=Tryz.underlying168
  a39:=Tryz.isAgg168
  z39:=Tryz.sizeOf168
  v39:=Tryz.zeroValue168
  t45:=Tryz.underlying216
  a45:=Tryz.isAgg216
  z45:=Tryz.sizeOf216
  v45:=Tryz.zeroValue216
  t46:=Tryz.underlying217
  a46:=Tryz.isAgg217
  z46:=Tryz.sizeOf217
  v46:=Tryz.zeroValue217
  t50:=Tryz.underlying221
  a50:=Tryz.isAgg221
  z50:=Tryz.sizeOf221
  v50:=Tryz.zeroValue221
  t53:=Tryz.underlying224
  a53:=Tryz.isAgg224
  z53:=Tryz.sizeOf224
  v53:=Tryz.zeroValue224
  t55:=Tryz.underlying226
  a55:=Tryz.isAgg226
  z55:=Tryz.sizeOf226
  v55:=Tryz.zeroValue226
  t66:=Tryz.underlying250
  a66:=Tryz.isAgg250
  z66:=Tryz.sizeOf250
  v66:=Tryz.zeroValue250
  t70:=Tryz.underlying254
  a70:=Tryz.isAgg254
  z70:=Tryz.sizeOf254
  v70:=Tryz.zeroValue254
  t76:=Tryz.underlying266
  a76:=Tryz.isAgg266
  z76:=Tryz.sizeOf266
  v76:=Tryz.zeroValue266
  t77:=Tryz.underlying53
  a77:=Tryz.isAgg53
  z77:=Tryz.sizeOf53
  v77:=Tryz.zeroValue53 }
end Go.Proofs.YtpapiojicbbheaaGreatDoor

namespace Go.Proofs.YtpapiojicbbheaaGreatDoor
open Go.RowKit Go.Sort
theorem norm1_any (s:Sp) (w:World):Calls Tryz.prog 148 #[.agg #[.int .i64 s.1,.int .i64 s.2.1,.int .i64 s.2.2]] w fun e w'=>e=.returned (.bool (!someS s))∧Keep Never w w':=by
 obtain⟨s1,s2,s3⟩:=s
 simp only
 have HS:Hid (∀W,Calls Tryz.prog 149 #[.agg #[.int .i64 s1,.int .i64 s2,.int .i64 s3]] W fun e w'=>e=.returned (.bool (someS (s1,s2,s3)))∧Keep Never W w'):=qh (fun W=>some15_any (s1,s2,s3) W)
 go_enter Tryz.func148, Tryz.ntmps148
 go_wp2_with fail
 refine(HS.out _).mono ?_
 rintro e w' ⟨rfl,hk⟩
 go_wp2_with fail
 go_ret
 exact⟨rfl,((Keep.refl Never w).alloc _).trans hk⟩
def cmpI (a b:Int):Int:=if a<b then -1 else if b<a then 1 else 0
def cmpS (x y:Sp):Int:=if cmpI x.1 y.1≠0 then cmpI x.1 y.1 else cmpI x.2.1 y.2.1
theorem cmpI_neg {a b:Int}:cmpI a b<0↔a<b:=by unfold cmpI;split <;> (try split) <;> omega
theorem cmpI_zero {a b:Int}:cmpI a b=0↔a=b:=by unfold cmpI;split <;> (try split) <;> omega
theorem cmpS_neg {x y:Sp}:cmpS x y<0↔x.1<y.1∨(x.1=y.1∧x.2.1<y.2.1):=by
 unfold cmpS
 split
 ·rename_i h;rw[cmpI_neg];rw[Ne,cmpI_zero] at h;omega
 ·rename_i h;rw[cmpI_neg];rw[Ne,cmpI_zero] at h;omega
theorem lt_cmpS (x y:Sp):ltOf cmpS x y=true↔x.1<y.1∨(x.1=y.1∧x.2.1<y.2.1):=by unfold ltOf;rw[decide_eq_true_eq,cmpS_neg]
theorem swo_cmpS:SWO (ltOf cmpS) where
  irrefl x:=by rw[←not_true_iff,lt_cmpS];omega
  trans x y z h1 h2:=by rw[lt_cmpS] at *;omega
  ntrans x y z h1 h2:=by rw[←not_true_iff,lt_cmpS] at *;omega
theorem isnan_any (a:Int) (w:World):Calls Tryz.prog 136 #[.int .i64 a] w fun e w'=>e=.returned (.bool false)∧w=w':=by
 have h:(a != a)=false:=by simp
 go_enter Tryz.func136, Tryz.ntmps136
 go_wp2
 go_ret
 exact⟨rfl,rfl⟩
theorem compare_any (a b:Int) (w:World):Calls Tryz.prog 89 #[.int .i64 a,.int .i64 b] w fun e w'=>e=.returned (.int .i64 (cmpI a b))∧w=w':=by
 have HN:Hid (∀a W,Calls Tryz.prog 136 #[.int .i64 a] W fun e w'=>e=.returned (.bool false)∧W=w'):=qh isnan_any
 have HC:Hid ((a<b→cmpI a b=-1)∧(b<a→cmpI a b=1)∧(a=b→cmpI a b=0)):=qh (by unfold cmpI;refine⟨fun h=>?_,fun h=>?_,fun h=>?_⟩ <;> split <;> (try split) <;> omega)
 by_cases h1:a<b
 ·have h2:¬a>b:=by omega
  go_enter Tryz.func89, Tryz.ntmps89
  go_wp2_with (go_at_call 136; refine(HN.out _ _).mono ?_;rintro e w' ⟨rfl,rfl⟩)
  go_ret
  exact⟨by rw[HC.out.1 h1];rfl,rfl⟩
 ·by_cases h2:a>b
  ·go_enter Tryz.func89, Tryz.ntmps89
   go_wp2_with (go_at_call 136; refine(HN.out _ _).mono ?_;rintro e w' ⟨rfl,rfl⟩)
   go_ret
   exact⟨by rw[HC.out.2.1 h2];rfl,rfl⟩
  ·go_enter Tryz.func89, Tryz.ntmps89
   go_wp2_with (go_at_call 136; refine(HN.out _ _).mono ?_;rintro e w' ⟨rfl,rfl⟩)
   go_ret
   exact⟨by rw[HC.out.2.2 (by omega)];rfl,rfl⟩
def orI (a b:Int):Int:=if a≠0 then a else b
theorem or_any (g t:Nat) (a b:Int) (w:World) (hb:Blk w g t #[.int .i64 a,.int .i64 b]):Calls Tryz.prog 88 #[.slice (some ⟨g,0,none⟩) 2 2] w fun e w'=>e=.returned (.int .i64 (orI a b))∧w=w':=by
 unfold orI
 have q0:=hb.cell 0
 have q1:=hb.cell 1
 clear hb
 go_enter Tryz.func88, Tryz.ntmps88
 go_wp2
 go_loop [5,8] (fun _ i=>i=.int .i64 0∨(i=.int .i64 1∧a=0)∨(i=.int .i64 2∧a=0∧b=0)) (fun _ i=>2 - (intOf i).toNat)
 case atStart=>exact .inl rfl
 case round=>
  rcases hrel with rfl | ⟨rfl,ha⟩ | ⟨rfl,ha,hb⟩
  ·by_cases h:a=0
   ·have h1:(a != 0)=false:=by simpa using h
    go_wp2
    go_round
    case rel=>exact .inr (.inl ⟨rfl,h⟩)
    case measure=>simp[intOf]
   ·have h1:(a != 0)=true:=by simpa using h
    go_wp2
    go_ret
    exact⟨rfl,rfl⟩
  ·by_cases h:b=0
   ·have h1:(b != 0)=false:=by simpa using h
    go_wp2
    go_round
    case rel=>exact .inr (.inr ⟨rfl,ha,h⟩)
    case measure=>simp[intOf]
   ·have h1:(b != 0)=true:=by simpa using h
    go_wp2
    go_ret
    exact⟨rfl,rfl⟩
  ·go_wp2
   go_ret
   exact⟨rfl,rfl⟩
set_option maxHeartbeats 1000000 in
set_option maxRecDepth 100000 in
theorem norm2_any (x y:Sp) (w:World):Calls Tryz.prog 151 #[.agg #[.int .i64 x.1,.int .i64 x.2.1,.int .i64 x.2.2],.agg #[.int .i64 y.1,.int .i64 y.2.1,.int .i64 y.2.2]] w fun e w'=>e=.returned (.int .i64 (cmpS x y))∧∃q os,w'=grow (w.drewN q) os:=by
 obtain⟨x1,x2,x3⟩:=x
 obtain⟨y1,y2,y3⟩:=y
 simp only
 have HC:Hid (∀a b W,Calls Tryz.prog 89 #[.int .i64 a,.int .i64 b] W fun e w'=>e=.returned (.int .i64 (cmpI a b))∧W=w'):=qh compare_any
 have HR:Hid (cmpS (x1,x2,x3) (y1,y2,y3)=orI (cmpI x1 y1) (cmpI x2 y2)):=qh rfl
 obtain⟨WB,hWB⟩:∃W:World,(w.alloc (.cells #[.int .i64 x1,.int .i64 x2,.int .i64 x3] 145)).alloc (.cells #[.int .i64 y1,.int .i64 y2,.int .i64 y3] 145)=W:=⟨_,rfl⟩
 have hx:=((Blk.new w 145 #[.int .i64 x1,.int .i64 x2,.int .i64 x3]).alloc (.cells #[.int .i64 y1,.int .i64 y2,.int .i64 y3] 145))
 have hy:Blk ((w.alloc (.cells #[.int .i64 x1,.int .i64 x2,.int .i64 x3] 145)).alloc (.cells #[.int .i64 y1,.int .i64 y2,.int .i64 y3] 145)) (w.heap.size+1) 145 #[.int .i64 y1,.int .i64 y2,.int .i64 y3]:=by
  have:=Blk.new (w.alloc (.cells #[.int .i64 x1,.int .i64 x2,.int .i64 x3] 145)) 145 #[.int .i64 y1,.int .i64 y2,.int .i64 y3]
  rwa [World.size_alloc] at this
 rw[hWB] at hx hy
 have HW:Hid (WB=grow w #[.cells #[.int .i64 x1,.int .i64 x2,.int .i64 x3] 145, .cells #[.int .i64 y1,.int .i64 y2,.int .i64 y3] 145]):=qh (by rw[←hWB,alloc_eq_grow,alloc_eq_grow,grow_grow];rfl)
 obtain⟨q0,q1⟩:=bc2 hx
 obtain⟨r0,r1⟩:=bc2 hy
 clear hx hy
 go_enter Tryz.func151, Tryz.ntmps151
 go_wp2_with fail
 go_region_held3 (fun w'=>w'.cell? ⟨w.heap.size,0,none⟩=some (.int .i64 x1)∧w'.cell? ⟨w.heap.size,1,none⟩=some (.int .i64 x2)∧w'.cell? ⟨w.heap.size+1,0,none⟩=some (.int .i64 y1)∧w'.cell? ⟨w.heap.size+1,1,none⟩=some (.int .i64 y2)) (refine⟨?_,?_,?_,?_⟩ <;> go_keep)
   (first
     | (go_at_call 89; refine(HC.out _ _ _).mono ?_;rintro e w5 ⟨rfl,rfl⟩)
     | (go_at_call 88; refine(or_any _ _ (cmpI x1 y1) (cmpI x2 y2) _ (Blk.new _ _ _).drew).mono ?_;rintro e w6 ⟨rfl,rfl⟩))
 clear q0 q1 r0 r1
 go_wp2_with fail
 go_ret
 exact⟨by rw[HR.out];rfl,1,_,by rw[HW.out,alloc_eq_grow,grow_grow];rfl⟩
theorem cmpLays_sp (blk off size:Nat) (w:World):Go.Proofs.CmpLays Tryz.prog 151 #[] spCell 3 cmpS blk off size w:=
  fun _ _ _ _ x y=>norm2_any x y _
theorem flat_sp (d:Array Sp):∀j,j<d.size*3→(flatK spCell 3 d)[j]! = (spCells d.toList)[j]!:=by
 intro j hj
 rw[get_flatK _ _ _ _ hj]
 have hd:j / 3<d.size:=by omega
 have hs:d.toList[j / 3]?=some d[j / 3]!:=by rw[Array.getElem?_toList,getElem!_pos d _ hd,Array.getElem?_eq_getElem hd]
 obtain⟨a0,a1,a2⟩:=spCells_at _ hs
 have h3:j % 3=0∨j % 3=1∨j % 3=2:=by omega
 have e:j=j / 3*3+j % 3:=by omega
 rcases h3 with h | h | h
 ·have:(spCells d.toList)[j]?=some (.int .i64 (d[j / 3]!).1):=by rw[←a0];congr 1;omega
  rw[h,List.getElem!_eq_getElem?_getD (l:=spCells d.toList),this];rfl
 ·have:(spCells d.toList)[j]?=some (.int .i64 (d[j / 3]!).2.1):=by rw[←a1];congr 1;omega
  rw[h,List.getElem!_eq_getElem?_getD (l:=spCells d.toList),this];rfl
 ·have:(spCells d.toList)[j]?=some (.int .i64 (d[j / 3]!).2.2):=by rw[←a2];congr 1;omega
  rw[h,List.getElem!_eq_getElem?_getD (l:=spCells d.toList),this];rfl
theorem holds_of_own {w:World}{base n c g:Nat}{l:List Sp} (h:Own w base 145 3 (some ⟨g,0,none⟩) n c (spCells l)):HoldsK spCell 3 w g 0 l.toArray:=by
 intro j hj
 rw[size_flatK] at hj
 have hj':j<(spCells l).length:=by rw[len_spCells];simpa using hj
 have hu:(spCells l)[j]?=some (spCells l)[j]:=List.getElem?_eq_getElem hj'
 have h1:=World.ownsRow.cells h (g:=g) rfl j _ hu
 have e0:(⟨g,0,none⟩:Addr).add j=⟨g,j,none⟩:=by unfold Addr.add;split <;> simp_all
 rw[e0] at h1
 have h2:=h.frozen rfl j
 rw[e0] at h2
 rw[Nat.zero_add,flat_sp _ j (by simpa using hj)]
 refine⟨by rw[h1];simp[List.getElem!_eq_getElem?_getD,hu],h2⟩
theorem own_sort {w:World}{base n c g m:Nat}{l l':List Sp} (os:Array Obj) (h:Own w base 145 3 (some ⟨g,0,none⟩) n c (spCells l)) (hl:l'.length=l.length) (_hb:base≤w.heap.size) :
    Own (sortWorldK spCell 3 w g 0 m l'.toArray os) base 145 3 (some ⟨g,0,none⟩) n c (spCells l')∧Keep (InRow (some ⟨g,0,none⟩)) w (sortWorldK spCell 3 w g 0 m l'.toArray os):=by
  have hlen:=h.len
  rw[len_spCells] at hlen
  obtain⟨g',cur,hA,hbg,hB,hnc,hcm,hcs,hct⟩:∃g' cur,(some ⟨g,0,none⟩:Option Addr)=some ⟨g',0,none⟩∧base≤g'∧Blk w g' 145 cur∧n≤c∧c≤maxLen∧cur.size=c*3∧cur.toList.take (n*3)=spCells l:=by
   rcases h.form with⟨h1,_⟩ | h1
   ·cases h1
   ·exact h1
  injection hA with hA
  injection hA with hA
  subst hA
  have hglt:=hB.lt
  obtain⟨F,hF⟩:∃F,flatK spCell 3 l'.toArray=F:=⟨_,rfl⟩
  have hFs:F.size=n*3:=by rw[←hF,size_flatK];simp;omega
  have hFat:∀j,j<n*3→F[j]! = (spCells l')[j]!:=fun j hj=>by
   have:=flat_sp l'.toArray j (by simp;omega)
   rwa [hF] at this
  have hheap:(sortWorldK spCell 3 w g 0 m l'.toArray os).heap=w.heap.modify g (onCells (putCells id 0 F))++os:=by
   unfold sortWorldK grow putRowK putRow mapBlock
   rw[hF]
   rfl
  have hat:(sortWorldK spCell 3 w g 0 m l'.toArray os).heap[g]?=some (.cells (putCells id 0 F cur) 145 (0,0)):=by
   unfold Blk at hB
   rw[hheap,Array.getElem?_append_left (by simpa using hglt),Array.getElem?_modify,if_pos rfl,hB]
   rfl
  have hother:∀k,k<w.heap.size→k≠g→(sortWorldK spCell 3 w g 0 m l'.toArray os).heap[k]?=w.heap[k]?:=fun k hk hne=>by
   rw[hheap,Array.getElem?_append_left (by simpa using hk),Array.getElem?_modify,if_neg (by omega)]
  refine⟨⟨by rw[len_spCells];omega,.inr ⟨g,c,putCells id 0 F cur,rfl,hbg,hat,hnc,hcm,by simp[putCells,hcs],?_⟩⟩,⟨rfl,rfl,rfl,by rw[hheap];simp,fun k hk hn=>hother k hk (fun e=>hn ⟨_,rfl,e.symm⟩)⟩⟩
  have hcl:n*3≤cur.size:=by rw[hcs];omega
  refine List.ext_getElem? fun j=>?_
  rw[List.getElem?_take]
  by_cases hj:j<n*3
  ·rw[if_pos hj,Array.getElem?_toList]
   have h1:(spCells l')[j]?=some (spCells l')[j]!:=by
    rw[getElem!_pos _ _ (by rw[len_spCells];omega),List.getElem?_eq_getElem]
   rw[h1,←hFat j hj]
   unfold putCells
   rw[Array.getElem?_mapIdx,Array.getElem?_eq_getElem (by omega)]
   simp only[Option.map_some]
   rw[if_pos (by omega)]
   rfl
  ·rw[if_neg hj,List.getElem?_eq_none (by rw[len_spCells];omega)]
end Go.Proofs.YtpapiojicbbheaaGreatDoor

namespace Go.Proofs.YtpapiojicbbheaaGreatDoor
open Go.RowKit
theorem add0 (g j:Nat):(⟨g,0,none⟩:Addr).add j=⟨g,j,none⟩:=by unfold Addr.add;split <;> simp_all
theorem Own.cell0 {w:World}{base e size n c g:Nat}{xs:List Value} (h:Own w base e size (some ⟨g,0,none⟩) n c xs) {j:Nat}{u:Value} (hj:xs[j]?=some u):w.cell? ⟨g,j,none⟩=some u:=by
 have:=World.ownsRow.cells h (g:=g) rfl j u hj
 rwa [add0] at this
theorem Own.frozen0 {w:World}{base e size n c g:Nat}{xs:List Value} (h:Own w base e size (some ⟨g,0,none⟩) n c xs) (j:Nat):w.frozen? ⟨g,j,none⟩=false:=by
 have:=h.frozen rfl j
 rwa [add0] at this
theorem Own.front {w:World}{base e size n c k:Nat}{A:Option Addr}{xs:List Value} (h:Own w base e size A n c xs) (hk:k≤n):Own w base e size A k c (xs.take (k*size)):=by
 have hl:=h.len
 have hks:k*size≤n*size:=Nat.mul_le_mul_right _ hk
 refine⟨by rw[List.length_take];omega,?_⟩
 rcases h.2 with⟨h1,h2⟩ | ⟨g,cap,cur,h1,h2,h3,h4,h5,h6,h7⟩
 ·injection h1 with a b d
  subst h2
  obtain rfl:k=0:=by omega
  exact .inl ⟨by rw[a,d],rfl⟩
 ·injection h1 with a b d
  subst d
  refine .inr ⟨g,c,cur,by rw[a],h2,h3,by omega,h5,h6,?_⟩
  rw[←h7,List.take_take,Nat.min_eq_left hks]
theorem setCells_cons (w:World) (g o:Nat) (v:Value) (r:List Value):w.setCells g o (v::r)=(w.setCell ⟨g,o,none⟩ v).setCells g (o+1) r:=rfl
theorem Own.behind {base e size n c g:Nat}{xs:List Value}:∀(vs:List Value) (o:Nat) (w:World),Own w base e size (some ⟨g,0,none⟩) n c xs→n*size≤o→Own (w.setCells g o vs) base e size (some ⟨g,0,none⟩) n c xs∧Keep (InRow (some ⟨g,0,none⟩)) w (w.setCells g o vs)
  | [],o,w,h,_=>⟨h,Keep.refl _ _⟩
  | v::r,o,w,h,ho=>by
   have h1:=h.stored rfl o v
   rw[add0,List.set_eq_of_length_le (by rw[h.len];exact ho)] at h1
   obtain⟨h2,h3⟩:=Own.behind r (o+1) _ h1 (by omega)
   rw[setCells_cons]
   exact⟨h2,((Keep.refl _ w).set_ (p:=⟨g,o,none⟩) (.inl ⟨_,rfl,rfl⟩) v).trans h3⟩
theorem run_clear_sp (w:World) (ty:TypeId) {base n c g i:Nat}{xs:List Value} (h:Own w base 145 3 (some ⟨g,0,none⟩) n c xs) (hi:i<n) :
    (Builtin.clear_ #[72] ty #[.slice (some ⟨g,i*3,none⟩) (n - i) (c - i)]).run Tryz.prog w=.ok (.tuple #[]) (w.setCells g (i*3) (Builtin.zeroCells #[.int .i64 0,.int .i64 0,.int .i64 0] (n - i)).toList):=by
  have hsz:(Builtin.zeroCells #[Value.int .i64 0,.int .i64 0,.int .i64 0] (n - i)).size=(n - i)*3:=by simp[size_zeroCells]
  have hone:∀v∈(Builtin.zeroCells #[Value.int .i64 0,.int .i64 0,.int .i64 0] (n - i)).toList,v.oneCell'=true:=by
   intro v hv
   simp[Builtin.zeroCells] at hv
   obtain⟨a,_,rfl⟩:=hv
   have h3:a % 3=0∨a % 3=1∨a % 3=2:=by omega
   rcases h3 with h3 | h3 | h3 <;> simp[h3,Value.oneCell']
  have hst:=run_storeCells_cells (P:=Tryz.prog) g (i*3) (Builtin.zeroCells #[Value.int .i64 0,.int .i64 0,.int .i64 0] (n - i)).toList 0 w
    (fun j hj=>by
     have hj':i*3+j<xs.length:=by rw[h.len];simp at hj;rw[hsz] at hj;omega
     have:=World.ownsRow.cells h (g:=g) rfl (i*3+j) _ (List.getElem?_eq_getElem hj')
     rw[add0] at this
     rw[Nat.add_zero,this];rfl)
    (fun j _=>by
     have:=h.frozen rfl (i*3+j)
     rw[add0] at this
     rw[Nat.add_zero];exact this)
    hone
  simp only[Nat.add_zero] at hst
  obtain⟨m,hm⟩:∃m,n - i=m+1:=⟨n - i - 1,by omega⟩
  rw[hm] at hst ⊢
  have hz:∀w,(zeroValue 145).run Tryz.prog w=.ok (.agg #[.int .i64 0,.int .i64 0,.int .i64 0]) w:=Tryz.zeroValue145
  simp[Builtin.clear_,run_underlying Tryz.underlying72, hz,Value.cells,hst]
theorem wpList_from0 {P:Program}{w:World}{ops:Array Oper}{rest:List Oper}{o:Oper}{a:Act}{Q:Exit→Act→World→Prop} (hgd:o.guard=none) (s l:Operand) (t:TypeId) (ho:o.op=.slice t s (some l) none none)
    {e size:Nat} (ht:P.underlying t=some (.slice e)) (hsz:∀w,(sizeOf e).run P w=.ok size w) (g n c k:Nat) (hs:a.eval s=.slice (some ⟨g,0,none⟩) n c) (x:Int) (hl:a.eval l=.int .i64 x) (hx:x=k) (hk:k≤n) (hkc:k<c)
    (h:wpList P ops Q rest (a.put o.dst (.slice (some ⟨g,k*size,none⟩) (n - k) (c - k))) w) :
    wpList P ops Q (o::rest) a w:=by
  obtain⟨A',c',h1,_,_,_,_,h6,h7⟩:=run_from (P:=P) ht hsz (some ⟨g,0,none⟩) n c k hk x hx
  rw[if_neg (by omega)] at h6
  simp only[Option.map_some,add0] at h6
  subst h6 h7
  refine wpList_plain hgd fun K hK=>?_
  unfold Oper.wp
  simp only[execOp,ho,Option.map_some,Option.map_none,hs,hl]
  have he:P.underlying t=some (.slice (P.elem t)):=by simp[Program.elem,ht]
  simp only[Sem.run_bind,run_sliceAt_slice _ _ _ _ _ _ he,h1,Result.andThen,Sem.run_pure,Oper.upon]
  exact hK _ _ h
theorem wpList_upto0 {P:Program}{w:World}{ops:Array Oper}{rest:List Oper}{o:Oper}{a:Act}{Q:Exit→Act→World→Prop} (hgd:o.guard=none) (s r:Operand) (t:TypeId) (ho:o.op=.slice t s none (some r) none)
    {e size:Nat} (ht:P.underlying t=some (.slice e)) (hsz:∀w,(sizeOf e).run P w=.ok size w) (g n c j:Nat) (hs:a.eval s=.slice (some ⟨g,0,none⟩) n c) (y:Int) (hr:a.eval r=.int .i64 y) (hy:y=j) (hj:j≤n) (hc:n≤c)
    (h:wpList P ops Q rest (a.put o.dst (.slice (some ⟨g,0,none⟩) j c)) w) :
    wpList P ops Q (o::rest) a w:=by
  subst hy
  have h1:∀w,(Instr.slice t (.slice (some ⟨g,0,none⟩) n c) none (some (.int .i64 j)) none).run P w=.ok (.slice (some ⟨g,0,none⟩) j c) w:=fun w=>by
   have hjc:j≤c:=by omega
   simp[Instr.slice,run_underlying ht,Instr.sliceBounds,Instr.sliceBound,asIntOf,hsz,hjc,Result.andThen,add0]
  refine wpList_plain hgd fun K hK=>?_
  unfold Oper.wp
  simp only[execOp,ho,Option.map_some,Option.map_none,hs,hr]
  have he:P.underlying t=some (.slice (P.elem t)):=by simp[Program.elem,ht]
  simp only[Sem.run_bind,run_sliceAt_slice _ _ _ _ _ _ he,h1,Result.andThen,Sem.run_pure,Oper.upon]
  exact hK _ _ h
theorem own_put {w:World}{base n c g i:Nat}{l:List Sp} (s:Sp) (h:Own w base 145 3 (some ⟨g,0,none⟩) n c (spCells l)) (hi:i<n) :
    Own (((w.setCell ⟨g,i*3,none⟩ (.int .i64 s.1)).setCell ⟨g,i*3+1,none⟩ (.int .i64 s.2.1)).setCell ⟨g,i*3+2,none⟩ (.int .i64 s.2.2)) base 145 3 (some ⟨g,0,none⟩) n c (spCells (l.set i s)) ∧
      Keep (InRow (some ⟨g,0,none⟩)) w (((w.setCell ⟨g,i*3,none⟩ (.int .i64 s.1)).setCell ⟨g,i*3+1,none⟩ (.int .i64 s.2.1)).setCell ⟨g,i*3+2,none⟩ (.int .i64 s.2.2)):=by
  have h1:=((h.stored rfl (i*3) (.int .i64 s.1)).stored rfl (i*3+1) (.int .i64 s.2.1)).stored rfl (i*3+2) (.int .i64 s.2.2)
  rw[add0,add0,add0] at h1
  have hlen:l.length=n:=by have:=h.len;rw[len_spCells] at this;omega
  have he:∀(l:List Sp) (i:Nat),i<l.length→(((spCells l).set (i*3) (.int .i64 s.1)).set (i*3+1) (.int .i64 s.2.1)).set (i*3+2) (.int .i64 s.2.2)=spCells (l.set i s):=by
   intro l
   induction l with
   | nil=>intro i hi;simp at hi
   | cons y l ih=>
    intro i hi
    cases i with
    | zero=>rfl
    | succ i=>
     rw[List.set_cons_succ,spCells_cons,spCells_cons,←ih i (by simpa using hi),show (i+1)*3=i*3+1+1+1 by omega]
     simp only[show i*3+1+1+1+1=(i*3+1)+1+1+1 by omega,show i*3+1+1+1+2=(i*3+2)+1+1+1 by omega,List.set_cons_succ]
  rw[he l i (by omega)] at h1
  exact⟨h1,(((Keep.refl _ w).set_ (p:=⟨g,i*3,none⟩) (.inl ⟨_,rfl,rfl⟩) _).set_ (p:=⟨g,i*3+1,none⟩) (.inl ⟨_,rfl,rfl⟩) _).set_ (p:=⟨g,i*3+2,none⟩) (.inl ⟨_,rfl,rfl⟩) _⟩
theorem filter_take {l:List Sp}{j:Nat}{s:Sp} (h:l[j]?=some s) (p:Sp→Bool):(l.take (j+1)).filter p=(l.take j).filter p++(if p s=true then [s] else []):=by
 rw[List.take_add_one,h,List.filter_append]
 simp[List.filter_cons]
set_option maxHeartbeats 2000000 in
set_option maxRecDepth 100000 in
theorem deletef_any (base:Nat) (A:Option Addr) (n c:Nat) (l:List Sp) (w:World) (ho:Own w base 145 3 A n c (spCells l)) (hn:n≤100000000000) :
    Calls Tryz.prog 146 #[.slice A n c,.func (.func 148) #[] #[]] w fun e w'=>e=.returned (.slice A (l.filter someS).length c)∧Own w' base 145 3 A (l.filter someS).length c (spCells (l.filter someS))∧Keep (InRow A) w w':=by
  have HO:=qh ho
  have HL:Hid (l.length=n):=qh ho.rd.sp_len
  have HI:=qh (indexf_any 148 #[] (fun s=>!someS s) (enters_of Tryz.func148 (by kernel_rfl) rfl) A n c _ l w ho.rd (fun W s _=>norm1_any s W) hn)
  have HN:Hid (∀(s:Sp) W,Calls Tryz.prog 148 #[.agg #[.int .i64 s.1,.int .i64 s.2.1,.int .i64 s.2.2]] W fun e w'=>e=.returned (.bool (!someS s))∧Keep Never W w'):=qh norm1_any
  have eg:∀args w,(callFunc 148 args).run Tryz.prog w=.ok (.enter 148 args) w:=enters_of Tryz.func148 (by kernel_rfl) rfl
  clear ho
  go_enter Tryz.func146, Tryz.ntmps146
  go_wp2_with fail
  refine HI.out.mono ?_
  rintro e w1 ⟨⟨i0,s0,rfl,h1,h2,h3⟩ | ⟨rfl,h1⟩,hk⟩
  rotate_left
  ·have HF:Hid (l.filter someS=l):=qh (List.filter_eq_self.2 (fun x hx=>by have:=h1 x hx;simpa using this))
   have HK:=qh hk
   have HO1:=qko HO hk
   clear h1 hk
   go_wp2_with fail
   go_ret
   exact⟨by rw[HF.out,HL.out];rfl,by rw[HF.out,HL.out];exact HO1.out,HK.out.mono (fun _ _ h=>h.elim)⟩
  ·have hi0:i0<n:=by have:=(List.getElem?_eq_some_iff.1 h1).1;have:=HL.out;omega
   obtain⟨g,cur,rfl,hbg,hB,hnc,hcm,hcs,hct⟩:∃g cur,A=some ⟨g,0,none⟩∧base≤g∧Blk w g 145 cur∧n≤c∧c≤maxLen∧cur.size=c*3∧cur.toList.take (n*3)=spCells l:=by
    rcases HO.out.form with⟨_,h,_⟩ | h
    ·omega
    ·exact h
   have HS0:Hid (l.take i0=(l.take (i0+1)).filter someS):=qh (by
    have h4:(l.take i0).filter someS=l.take i0:=List.filter_eq_self.2 (fun x hx=>by have:=h3 x hx;simpa using this)
    rw[filter_take h1,h4,if_neg (by simpa using h2)];simp)
   have HO1:=qko HO hk
   have HK1:=qh hk
   have b0:((i0:Int)==-1)=false:=beq_eq_false_iff_ne.2 (by omega)
   clear hB hcs hct h1 h2 h3 hk HI
   go_wp2_with fail
   go_loopw [5,6,7] (fun s5 s6 _ wr=>∃i j:Nat,s5=.int .i64 i∧s6=.int .i64 j∧i<j∧j≤n∧Hid (∃cur:List Sp,Own wr base 145 3 (some ⟨g,0,none⟩) n c (spCells cur)∧cur.take i=(l.take j).filter someS∧cur.drop j=l.drop j∧Keep (InRow (some ⟨g,0,none⟩)) w wr))
     (fun _ j _ _=>n - (intOf j).toNat)
   case atStart=>exact⟨i0,i0+1,rfl,by go_num,by omega,by omega,qh ⟨l,HO1.out,HS0.out,rfl,HK1.out.mono (fun _ _ h=>h.elim)⟩⟩
   case round=>
    obtain⟨i,j,rfl,rfl,hij,hjn,HH⟩:=hrel
    by_cases h0:j<n
    ·obtain⟨cur2,ho,ht,hd,hk⟩:=HH.out
     have hjz:(j:Int)<(n:Int):=by omega
     have hlc:cur2.length=n:=ho.rd.sp_len
     have hs:cur2[j]?=some cur2[j]:=List.getElem?_eq_getElem (by omega)
     have hsl:l[j]?=some cur2[j]:=by
      have e1:(cur2.drop j)[0]?=cur2[j]?:=by rw[List.getElem?_drop,Nat.add_zero]
      have e2:(l.drop j)[0]?=l[j]?:=by rw[List.getElem?_drop,Nat.add_zero]
      rw[←e2,←hd,e1,hs]
     obtain⟨a0,a1,a2⟩:=spCells_at _ hs
     have c0:=ho.cell0 a0
     have c1:=ho.cell0 a1
     have c2:=ho.cell0 a2
     obtain⟨so,hso⟩:∃so,cur2[i]?=some so:=⟨_,List.getElem?_eq_getElem (by omega)⟩
     obtain⟨o0,o1,o2⟩:=spCells_at _ hso
     generalize cur2[j]=s at *
     have HP:=qh (HN.out s)
     have HO2:=qh ho
     have Hk:=qh hk
     have Ht:=qh ht
     have Hd:=qh hd
     have Hsl:=qh hsl
     have Hlc:=qh hlc
     have HQ:=qh (And.intro o0 (And.intro o1 o2))
     obtain⟨s1,s2,s3⟩:=s
     simp only at c0 c1 c2 HP
     have hkb:Hid (Keep Never wr (wr.alloc (.cells #[.int .i64 s1,.int .i64 s2,.int .i64 s3] 145))∧Blk (wr.alloc (.cells #[.int .i64 s1,.int .i64 s2,.int .i64 s3] 145)) wr.heap.size 145 #[.int .i64 s1,.int .i64 s2,.int .i64 s3]):=qh ⟨(Keep.refl Never wr).alloc _,Blk.new wr _ _⟩
     clear ho hk ht hd hsl hlc hs hso a0 a1 a2 o0 o1 o2 HH
     cases hsm:someS (s1,s2,s3) with
     | false=>
      rw[hsm] at HP
      have HF:Hid ((l.take (j+1)).filter someS=(l.take j).filter someS):=qh (by rw[filter_take Hsl.out,if_neg (by rw[hsm];simp)];simp)
      clear hsm
      go_wp2_with (go_at_fn 148; refine(HP.out _).mono ?_;rintro e w' ⟨rfl,hk'⟩)
      have HFin:Hid (∃cur:List Sp,Own w' base 145 3 (some ⟨g,0,none⟩) n c (spCells cur)∧cur.take i=(l.take (j+1)).filter someS∧cur.drop (j+1)=l.drop (j+1)∧Keep (InRow (some ⟨g,0,none⟩)) w w'):=by
       have hk2:Keep Never wr w':=hkb.out.1.trans hk'
       refine qh ⟨cur2,HO2.out.keep hk2 (fun _ _ h=>h),by rw[HF.out];exact Ht.out,?_,Hk.out.trans (hk2.mono (fun _ _ h=>h.elim))⟩
       rw[←List.drop_drop,←List.drop_drop,Hd.out]
      clear hk'
      go_roundw
      case measure=>simp[intOf];try omega
      case rel=>exact⟨i,j+1,rfl,by go_num,by omega,by omega,HFin⟩
     | true=>
      rw[hsm] at HP
      have HF:Hid ((l.take (j+1)).filter someS=(l.take j).filter someS++[(s1,s2,s3)]):=qh (by rw[filter_take Hsl.out,if_pos hsm])
      clear hsm
      go_wp2_with fail
      go_at_fn 148
      refine(HP.out _).mono ?_
      rintro e w' ⟨rfl,hk'⟩
      have hk2:Keep Never wr w':=hkb.out.1.trans hk'
      have HO3:=qko HO2 hk2
      have HK3:=qh (Hk.out.trans (hk2.mono (fun _ _ h=>h.elim)))
      have hb3:=hkb.out.2.keep hk' (fun h=>h)
      obtain⟨b1,b2,b3⟩:=bc3 hb3
      have d0:=HO3.out.cell0 HQ.out.1
      have d1:=HO3.out.cell0 HQ.out.2.1
      have d2:=HO3.out.cell0 HQ.out.2.2
      have f0:=HO3.out.frozen0 (i*3)
      have f1:=HO3.out.frozen0 (i*3+1)
      have f2:=HO3.out.frozen0 (i*3+2)
      have hiz:(i:Int)<(n:Int):=by omega
      have hPut:=own_put (s1,s2,s3) HO3.out (show i<n by omega)
      simp only at hPut
      have HFin:Hid (∃cur:List Sp,Own (((w'.setCell ⟨g,i*3,none⟩ (.int .i64 s1)).setCell ⟨g,i*3+1,none⟩ (.int .i64 s2)).setCell ⟨g,i*3+2,none⟩ (.int .i64 s3)) base 145 3 (some ⟨g,0,none⟩) n c (spCells cur)∧cur.take (i+1)=(l.take (j+1)).filter someS∧cur.drop (j+1)=l.drop (j+1)∧Keep (InRow (some ⟨g,0,none⟩)) w (((w'.setCell ⟨g,i*3,none⟩ (.int .i64 s1)).setCell ⟨g,i*3+1,none⟩ (.int .i64 s2)).setCell ⟨g,i*3+2,none⟩ (.int .i64 s3))):=by
       refine qh ⟨cur2.set i (s1,s2,s3),hPut.1,?_,?_,HK3.out.trans hPut.2⟩
       ·rw[HF.out,List.take_add_one,List.getElem?_set_self (by have:=Hlc.out;omega),List.take_set,List.set_eq_of_length_le (by simp;omega),Ht.out]
        rfl
       ·rw[List.drop_set_of_lt (by omega),←List.drop_drop,←List.drop_drop,Hd.out]
      clear hPut hk' hk2 hb3 c0 c1 c2
      go_wp2_with fail
      go_roundw
      case measure=>simp[intOf];try omega
      case rel=>exact⟨i+1,j+1,by go_num,by go_num,by omega,by omega,HFin⟩
    ·obtain rfl:j=n:=by omega
     obtain⟨cur2,ho,ht,hd,hk⟩:=HH.out
     have hjz:¬(j:Int)<(j:Int):=by omega
     have hlen:i=(l.filter someS).length:=by
      have h1:=congrArg List.length ht
      rw[List.length_take,ho.rd.sp_len,Nat.min_eq_left (by omega),List.take_of_length_le (by have:=HL.out;omega)] at h1
      exact h1
     have hcl:∀ty,(Builtin.clear_ #[72] ty #[.slice (some ⟨g,i*3,none⟩) (j - i) (c - i)]).run Tryz.prog wr=.ok (.tuple #[]) (wr.setCells g (i*3) (Builtin.zeroCells #[.int .i64 0,.int .i64 0,.int .i64 0] (j - i)).toList):=fun ty=>run_clear_sp wr ty ho hij
     have hB:=(ho.front (show i≤j by omega)).behind (Builtin.zeroCells #[.int .i64 0,.int .i64 0,.int .i64 0] (j - i)).toList (i*3) wr (Nat.le_refl _)
     rw[spCells_take,ht,List.take_of_length_le (by have:=HL.out;omega)] at hB
     generalize wr.setCells g (i*3) (Builtin.zeroCells #[.int .i64 0,.int .i64 0,.int .i64 0] (j - i)).toList=w9 at *
     have HB:=qh hB
     have Hk:=qh hk
     have Hlen:=qh hlen
     clear hB hk ht hd ho hlen HH
     go_wp2_with (first| (refine wpList_from0 rfl (.tmp 36) (.tmp 37) _ rfl Tryz.underlying72 Tryz.sizeOf145 g j c i (by go_simp) _ (by go_simp) rfl (by omega) (by omega) ?_) | (refine wpList_upto0 rfl (.tmp 39) (.tmp 40) _ rfl Tryz.underlying72 Tryz.sizeOf145 g j c i (by go_simp) _ (by go_simp) rfl (by omega) (by omega) ?_))
     go_ret
     exact⟨by rw[←Hlen.out];rfl,by rw[←Hlen.out];exact HB.out.1,Hk.out.trans HB.out.2⟩
end Go.Proofs.YtpapiojicbbheaaGreatDoor

namespace Go.Proofs.YtpapiojicbbheaaGreatDoor
open Go.RowKit Go.Shelf
theorem sort0_insert (w:World):Calls Tryz.prog 214 #[.slice none 0 0,.int .i64 0,.int .i64 0,.func (.func 151) #[] #[]] w fun e w'=>e=.returned (.tuple #[])∧w'=w:=by
 go_enter Tryz.func214, Tryz.ntmps214
 go_wp2
 refine wp_loop_rounds 1 ?_
 rw[rounds_succ]
 go_wp2
 go_end0
 exact⟨rfl,rfl⟩
theorem sort0_pdq (lim:Int) (w:World):Calls Tryz.prog 187 #[.slice none 0 0,.int .i64 0,.int .i64 0,.int .i64 lim,.func (.func 151) #[] #[]] w fun e w'=>e=.returned (.tuple #[])∧w'=w:=by
 have hi:=sort0_insert
 go_enter Tryz.func187, Tryz.ntmps187
 go_wp2
 refine wp_loop_rounds 1 ?_
 rw[rounds_succ]
 go_wp2_with (go_at_call 214; refine(hi _).mono ?_;rintro e w' ⟨rfl,rfl⟩)
 (try simp only[Exit.inBlock,Exit.then])
 refine bodyPost_ret (results_none rfl _ _ _) rfl ?_
 exact⟨rfl,rfl⟩
theorem sort0_any (w:World):Calls Tryz.prog 150 #[.slice none 0 0,.func (.func 151) #[] #[]] w fun e w'=>e=.returned (.tuple #[])∧w'=w:=by
 have hp:=sort0_pdq
 have hl:∀W,Calls Tryz.prog 135 #[.int .u64 0] W fun e w'=>e=.returned (.int .i64 (Lib.bitLen 0:Nat))∧w'=W:=fun W=>
  Any.bits_Len (SlLaysF0.n15.bits (P:=Tryz.prog) (ρ:=sortSp_ren) { sortSp with }) 0 W (by omega) (by omega)
 go_enter Tryz.func150, Tryz.ntmps150
 go_wp2_with (first| (go_at_call 135; refine(hl _).mono ?_;rintro e w' ⟨rfl,rfl⟩) | (go_at_call 187; refine(hp _ _).mono ?_;rintro e w' ⟨rfl,rfl⟩))
 go_end0
 exact⟨rfl,rfl⟩
theorem sortf_any (base:Nat) (A:Option Addr) (n c:Nat) (l:List Sp) (w:World) (ho:Own w base 145 3 A n c (spCells l)) (hb:base≤w.heap.size) (hn:n≤100000000000) :
    Calls Tryz.prog 150 #[.slice A n c,.func (.func 151) #[] #[]] w fun e w'=>e=.returned (.tuple #[])∧∃l':List Sp,l'.Perm l∧l'.Pairwise leS∧Own w' base 145 3 A n c (spCells l')∧Keep (InRow A) w w':=by
  have hlen:l.length=n:=ho.rd.sp_len
  rcases ho.form with⟨rfl,rfl,rfl,_⟩ | ⟨g,cur,rfl,hbg,hB,_⟩
  ·obtain rfl:=List.eq_nil_of_length_eq_zero hlen
   refine(sort0_any w).mono ?_
   rintro e w' ⟨rfl,rfl⟩
   exact⟨rfl,[],List.Perm.refl _,List.Pairwise.nil,ho,Keep.refl _ _⟩
  ·have hcon:=AnyQ.slices_SortFunc (P:=Tryz.prog) (ρ:=sortSp_ren) sortSp 3 Tryz.isAgg145 Tryz.sizeOf145 spCell (fun _=>rfl) (fun x v hv=>by simp[spCell] at hv;rcases hv with rfl | rfl | rfl <;> rfl) cmpS swo_cmpS 151 #[] g 0 c l.toArray w (enters_of Tryz.func151 (by kernel_rfl) rfl) (cmpLays_sp g 0 _ w) (holds_of_own ho) hB.lt (by simp;omega)
   have e1:l.toArray.size=n:=by simpa using hlen
   rw[e1] at hcon
   refine Calls.mono (show Calls Tryz.prog 150 _ _ _ from hcon) ?_
   rintro e w' ⟨rfl,d',m,os,hp,hs,rfl⟩
   have hsz:d'.size=n:=hp.1.trans e1
   have hperm:d'.toList.Perm l:=by
    have h:=hp.2.2
    rw[Array.extract_eq_self_of_le (by omega),Array.extract_eq_self_of_le (by omega)] at h
    simpa using h
   obtain⟨h1,h2⟩:=own_sort (m:=m) (l':=d'.toList) os ho (by simpa[hlen] using hsz) hb
   simp only[Array.toArray_toList] at h1 h2
   refine⟨rfl,d'.toList,hperm,?_,h1,h2⟩
   rw[List.pairwise_iff_getElem]
   intro i j hi hj hij
   have h3:=hs i j (Nat.zero_le _) hij (by simpa[hsz] using hj)
   have hi':i<d'.size:=by simpa using hi
   have hj':j<d'.size:=by simpa using hj
   rw[getElem!_pos d' i hi',getElem!_pos d' j hj',←not_true_iff,lt_cmpS] at h3
   simp only[Array.getElem_toList]
   unfold leS
   omega
def SpRet (w:World) (p:List Sp→Prop) (e:Ending) (w':World):Prop:=
  ∃(m:List Sp) (A:Option Addr) (n c:Nat),e=.returned (.slice A n c)∧n=m.length∧Own w' w.heap.size 145 3 A n c (spCells m)∧Keep Never w w'∧p m
set_option maxHeartbeats 4000000 in
set_option maxRecDepth 100000 in
theorem norm_any (A:Option Addr) (n c B:Nat) (l:List Sp) (w:World) (hr:Rd w B 3 A n (spCells l)) (hA:A=none→c=0) (hnc:n≤c) (hn:n≤100000000000) (hB:B≤w.heap.size) :
    Calls Tryz.prog 95 #[.slice A n c] w (SpRet w fun m=>NormOf l m∧m.length≤l.length):=by
  have HC:=qh (clone_any A n c B l w hr hA hnc hn hB)
  have HL:Hid (l.length=n):=qh hr.sp_len
  clear hr hA hnc hB
  go_enter Tryz.func95, Tryz.ntmps95
  go_wp2_with fail
  refine HC.out.mono ?_
  rintro e w1 ⟨A1,c1,rfl,ho1,hk1⟩
  have HD:=qh (deletef_any w.heap.size A1 n c1 l w1 ho1 hn)
  have HK1:=qh hk1
  have HI1:Hid (∀k,InRow A1 k→w.heap.size≤k):=qh (fun k h=>(ho1.row h).1)
  have hfl:(l.filter someS).length≤n:=by rw[←HL.out];exact List.length_filter_le _ _
  clear ho1 hk1 HC
  go_wp2_with fail
  refine HD.out.mono ?_
  rintro e w2 ⟨rfl,ho2,hk2⟩
  have HK2:Hid (Keep Never w w2):=qh (HK1.out.then_ hk2 (fun i hi h=>by have:=HI1.out i h;omega))
  obtain⟨m,hm⟩:∃m,(l.filter someS).length=m:=⟨_,rfl⟩
  rw[hm] at ho2 hfl ⊢
  have hmn:m≤100000000000:=by omega
  have HS:=qh (sortf_any w.heap.size A1 m c1 _ w2 ho2 HK2.out.size hmn)
  have HM:=qh hm
  clear ho2 hk2 HD hm hfl
  go_wp2_with fail
  refine HS.out.mono ?_
  rintro e w3 ⟨rfl,l',hp,hs,ho3,hk3⟩
  have HK3:Hid (Keep Never w w3):=qh (HK2.out.then_ hk3 (fun i hi h=>by have:=HI1.out i h;omega))
  have HO3:=qh ho3
  have HP:=qh (norm_of hp hs)
  have HL3:Hid (l'.length=m):=qh ho3.rd.sp_len
  have hlm:Hid (m≤l.length):=qh (by rw[←HM.out];exact List.length_filter_le _ _)
  clear hp hs ho3 hk3 HS
  go_wp2_with fail
  go_loopw [4,6,7,15] (fun s4 _ _ s15 wr=>∃(j no co:Nat) (Ao:Option Addr),j≤m∧s15=.int .i64 j∧s4=.slice Ao no co∧Hid (∃out:List Sp,no=out.length∧no≤j∧Own wr w3.heap.size 145 3 Ao no co (spCells out)∧out=(l'.take j).foldl normStep []∧Keep Never w3 wr))
    (fun _ _ _ j _=>m - (intOf j).toNat)
  case atStart=>exact⟨0,0,0,none,by omega,rfl,rfl,qh ⟨[],rfl,by omega,Own.nil _ _ _ _,rfl,Keep.refl _ _⟩⟩
  case round=>
   obtain⟨j,no,co,Ao,hj,rfl,rfl,HH⟩:=hrel
   obtain⟨out,hno,hnj,ho,hout,hk⟩:=HH.out
   by_cases h0:j<m
   ·have hjz:(j:Int)<(m:Int):=by omega
    have hrd:=HO3.out.keep hk (fun _ _ h=>h)
    obtain⟨ad,s,hA1,_,hs,c0,c1',c2⟩:=hrd.rd.sp h0
    subst hA1
    have hstep:(l'.take (j+1)).foldl normStep []=normStep out s:=by
     obtain⟨h2,h3⟩:=List.getElem?_eq_some_iff.1 hs
     rw[List.take_succ_eq_append_getElem h2,h3,List.foldl_append,←hout];rfl
    have HStep:=qh hstep
    have HO:=qh ho
    have Hk:=qh hk
    have Hno:=qh hno
    obtain⟨s1,s2,s3⟩:=s
    simp only at c0 c1' c2
    have hkb:Hid (Keep Never wr (wr.alloc (.cells #[.int .i64 s1,.int .i64 s2,.int .i64 s3] 145))∧Blk (wr.alloc (.cells #[.int .i64 s1,.int .i64 s2,.int .i64 s3] 145)) wr.heap.size 145 #[.int .i64 s1,.int .i64 s2,.int .i64 s3]):=qh ⟨(Keep.refl Never wr).alloc _,Blk.new wr _ _⟩
    rcases List.eq_nil_or_concat out with rfl | ⟨l0,t,rfl⟩
    ·
     obtain rfl:no=0:=by simpa using Hno.out
     have hF:Hid (normStep [] (s1,s2,s3)=[(s1,s2,s3)]):=qh rfl
     clear hs hstep ho hk hno hout HH hrd
     go_wp2_with fail
     go_quiet (fail)
     have hkq:=hkb.out.1.drewN nq
     have hbq:=hkb.out.2.drewN nq
     obtain⟨wq,hwq⟩:∃W:World,(wr.alloc (.cells #[.int .i64 s1,.int .i64 s2,.int .i64 s3] 145)).drewN nq=W:=⟨_,rfl⟩
     rw[hwq] at hkq hbq ⊢
     obtain⟨b0,b1,b2⟩:=bc3 hbq
     have HOq:=qko HO hkq
     have HKq:=qtr Hk hkq
     have hsz3:w3.heap.size≤(wq.alloc (.cells #[.int .i64 s1,.int .i64 s2,.int .i64 s3] 145)).heap.size:=by have:=HKq.out.size;simp;omega
     clear hwq hkq hbq
     go_wp2_with (at_builtin;refine wpList_app _ rfl (.tmp 56) (.tmp 58) _ rfl elemSp w3.heap.size (A:=Ao) (n:=0) (c:=co) (by go_simp) (HOq.out.alloc _) _ (A':=some ⟨wq.heap.size,0,none⟩) (m:=1) (c':=1) (by go_simp) (Rd.of_blk (n:=1) (cs:=[.int .i64 s1,.int .i64 s2,.int .i64 s3]) (Blk.new wq _ _) rfl) (by simp[Value.oneCell']) (by omega) (by unfold maxLen;omega) hsz3 ?_;intro A5 c5 w5 hown5 hk5 hrow5)
     have HFin:Hid (∃out:List Sp,0+1=out.length∧0+1≤j+1∧Own w5 w3.heap.size 145 3 A5 (0+1) c5 (spCells out)∧out=(l'.take (j+1)).foldl normStep []∧Keep Never w3 w5):=by
      refine qh ⟨[(s1,s2,s3)],rfl,by omega,by simpa[spCells,spCell] using hown5,by rw[HStep.out,hF.out],(HKq.out.alloc _).then_ hk5 (fun i hi h=>?_)⟩
      have:=(HO.out.row h).1
      omega
     clear hown5 hk5 hrow5
     go_wp2_with fail
     go_roundw
     case measure=>simp[intOf];try omega
     case rel=>exact⟨j+1,0+1,c5,A5,by omega,by go_num,rfl,HFin⟩
    ·rw[List.concat_eq_append] at *
     obtain⟨k0,hk0⟩:∃k0,l0.length=k0:=⟨_,rfl⟩
     have Hk0:Hid (no=k0+1∧l0.length=k0):=qh ⟨by have:=Hno.out;simp at this;omega,hk0⟩
     have hk0lt:k0<no:=by have:=Hk0.out.1;omega
     have hk0z:(k0:Int)<(no:Int):=by omega
     have hk0s:(no:Int) - 1=(k0:Int):=by have:=Hk0.out.1;omega
     have hk00:(0:Int)≤(k0:Int):=by omega
     obtain⟨g,cur,rfl,hbg,hB,hnc,hcm,hcs,hct⟩:∃g cur,Ao=some ⟨g,0,none⟩∧w3.heap.size≤g∧Blk wr g 145 cur∧no≤co∧co≤maxLen∧cur.size=co*3∧cur.toList.take (no*3)=spCells (l0++[t]):=by
      rcases HO.out.form with⟨_,h,_⟩ | h
      ·omega
      ·exact h
     have ht:(l0++[t])[k0]?=some t:=by rw[List.getElem?_append_right (by omega),hk0];simp
     obtain⟨a0,a1,a2⟩:=spCells_at _ ht
     have t0:=(HO.out.alloc (.cells #[.int .i64 s1,.int .i64 s2,.int .i64 s3] 145)).cell0 a0
     have t1:=(HO.out.alloc (.cells #[.int .i64 s1,.int .i64 s2,.int .i64 s3] 145)).cell0 a1
     have t2:=(HO.out.alloc (.cells #[.int .i64 s1,.int .i64 s2,.int .i64 s3] 145)).cell0 a2
     have hF0:=normStep_app l0 t (s1,s2,s3)
     obtain⟨t1',t2',t3'⟩:=t
     simp only at t0 t1 t2 hF0
     clear hs hstep ho hk hno hout HH hrd hB hcs hct a0 a1 a2 hk0
     by_cases hc1:t1'=s1
     ·have e1:(t1'==s1)=true:=by simpa using hc1
      by_cases hc2:s2≤t3'
      ·have e2:decide (t3'≥s2)=true:=by simpa using hc2
       have hF:=qh (hF0.trans (if_pos ⟨hc1,hc2⟩))
       clear hF0 hc1 hc2
       go_wp2_with fail
       go_quiet (fail)
       have hkq:=hkb.out.1.drewN nq
       have hbq:=hkb.out.2.drewN nq
       obtain⟨wq,hwq⟩:∃W:World,(wr.alloc (.cells #[.int .i64 s1,.int .i64 s2,.int .i64 s3] 145)).drewN nq=W:=⟨_,rfl⟩
       rw[hwq] at hkq hbq ⊢
       have b2:wq.cell? ⟨wr.heap.size,2,none⟩=some (.int .i64 s3):=hbq.cell 2
       have HOq:=qko HO hkq
       have HKq:=qtr Hk hkq
       have t2q:=HOq.out.cell0 (spCells_at _ ht).2.2
       simp only at t2q
       have f2q:=HOq.out.frozen0 (k0*3+2)
       have hset:(l0++[(t1',t2',t3')]).set k0 (t1',t2',max t3' s3)=l0++[(t1',t2',max t3' s3)]:=by
        have h1:=Hk0.out.2
        rw[List.set_append_right _ _ (by omega),h1,Nat.sub_self];rfl
       have hcs:=spCells_set2 _ ht (max t3' s3)
       simp only at hcs
       rw[hset] at hcs
       obtain⟨mx,hmx⟩:∃z,max t3' s3=z:=⟨_,rfl⟩
       rw[hmx] at hF hcs
       have HOs:Hid (Own (wq.setCell ⟨g,k0*3+2,none⟩ (.int .i64 mx)) w3.heap.size 145 3 (some ⟨g,0,none⟩) no co (spCells (l0++[(t1',t2',mx)]))):=by
        have h1:=HOq.out.stored rfl (k0*3+2) (.int .i64 mx)
        rw[add0,←hcs] at h1
        exact qh h1
       have HKs:Hid (Keep Never w3 (wq.setCell ⟨g,k0*3+2,none⟩ (.int .i64 mx))):=qh (HKq.out.set_ (p:=⟨g,k0*3+2,none⟩) (.inr hbg) _)
       have HMx:=qh hmx
       clear hwq hkq hbq t0 t1 t2 ht hset hcs hmx
       go_wp2_with fail
       go_still_tail 12,(by kernel_rfl)
       change wpList _ _ _ _ _ wq.drew
       go_wp2_with fail
       rw[HMx.out]
       go_roundw
       case measure=>simp[intOf];try omega
       case rel=>exact⟨j+1,no,co,_,by omega,by go_num,rfl,qh ⟨_,by have:=Hk0.out;simp;omega,by omega,HOs.out.drew,by rw[HStep.out,hF.out],HKs.out.drew⟩⟩
      ·have e2:decide (t3'≥s2)=false:=by simpa using hc2
       have hF:=qh (hF0.trans (if_neg (by omega)))
       clear hF0 hc1 hc2
       go_wp2_with fail
       go_quiet (fail)
       have hkq:=hkb.out.1.drewN nq
       have hbq:=hkb.out.2.drewN nq
       obtain⟨wq,hwq⟩:∃W:World,(wr.alloc (.cells #[.int .i64 s1,.int .i64 s2,.int .i64 s3] 145)).drewN nq=W:=⟨_,rfl⟩
       rw[hwq] at hkq hbq ⊢
       obtain⟨b0,b1,b2⟩:=bc3 hbq
       have HOq:=qko HO hkq
       have HKq:=qtr Hk hkq
       have hsz3:w3.heap.size≤(wq.alloc (.cells #[.int .i64 s1,.int .i64 s2,.int .i64 s3] 145)).heap.size:=by have:=HKq.out.size;simp;omega
       clear hwq hkq hbq
       go_wp2_with (at_builtin;refine wpList_app _ rfl (.tmp 56) (.tmp 58) _ rfl elemSp w3.heap.size (A:=some ⟨g,0,none⟩) (n:=no) (c:=co) (by go_simp) (HOq.out.alloc _) _ (A':=some ⟨wq.heap.size,0,none⟩) (m:=1) (c':=1) (by go_simp) (Rd.of_blk (n:=1) (cs:=[.int .i64 s1,.int .i64 s2,.int .i64 s3]) (Blk.new wq _ _) rfl) (by simp[Value.oneCell']) (by omega) (by unfold maxLen;omega) hsz3 ?_;intro A5 c5 w5 hown5 hk5 hrow5)
       have HFin:Hid (∃out:List Sp,no+1=out.length∧no+1≤j+1∧Own w5 w3.heap.size 145 3 A5 (no+1) c5 (spCells out)∧out=(l'.take (j+1)).foldl normStep []∧Keep Never w3 w5):=by
        refine qh ⟨l0++[(t1',t2',t3')]++[(s1,s2,s3)],by have:=Hk0.out;simp;omega,by omega,by simpa[spCells,spCell] using hown5,by rw[HStep.out,hF.out],(HKq.out.alloc _).then_ hk5 (fun i hi h=>?_)⟩
        have:=(HO.out.row h).1
        omega
       clear hown5 hk5 hrow5
       go_wp2_with fail
       go_roundw
       case measure=>simp[intOf];try omega
       case rel=>exact⟨j+1,no+1,c5,A5,by omega,by go_num,rfl,HFin⟩
     ·have e1:(t1'==s1)=false:=by simpa using hc1
      have hF:=qh (hF0.trans (if_neg (by omega)))
      clear hF0 hc1
      go_wp2_with fail
      go_quiet (fail)
      have hkq:=hkb.out.1.drewN nq
      have hbq:=hkb.out.2.drewN nq
      obtain⟨wq,hwq⟩:∃W:World,(wr.alloc (.cells #[.int .i64 s1,.int .i64 s2,.int .i64 s3] 145)).drewN nq=W:=⟨_,rfl⟩
      rw[hwq] at hkq hbq ⊢
      obtain⟨b0,b1,b2⟩:=bc3 hbq
      have HOq:=qko HO hkq
      have HKq:=qtr Hk hkq
      have hsz3:w3.heap.size≤(wq.alloc (.cells #[.int .i64 s1,.int .i64 s2,.int .i64 s3] 145)).heap.size:=by have:=HKq.out.size;simp;omega
      clear hwq hkq hbq
      go_wp2_with (at_builtin;refine wpList_app _ rfl (.tmp 56) (.tmp 58) _ rfl elemSp w3.heap.size (A:=some ⟨g,0,none⟩) (n:=no) (c:=co) (by go_simp) (HOq.out.alloc _) _ (A':=some ⟨wq.heap.size,0,none⟩) (m:=1) (c':=1) (by go_simp) (Rd.of_blk (n:=1) (cs:=[.int .i64 s1,.int .i64 s2,.int .i64 s3]) (Blk.new wq _ _) rfl) (by simp[Value.oneCell']) (by omega) (by unfold maxLen;omega) hsz3 ?_;intro A5 c5 w5 hown5 hk5 hrow5)
      have HFin:Hid (∃out:List Sp,no+1=out.length∧no+1≤j+1∧Own w5 w3.heap.size 145 3 A5 (no+1) c5 (spCells out)∧out=(l'.take (j+1)).foldl normStep []∧Keep Never w3 w5):=by
       refine qh ⟨l0++[(t1',t2',t3')]++[(s1,s2,s3)],by have:=Hk0.out;simp;omega,by omega,by simpa[spCells,spCell] using hown5,by rw[HStep.out,hF.out],(HKq.out.alloc _).then_ hk5 (fun i hi h=>?_)⟩
       have:=(HO.out.row h).1
       omega
      clear hown5 hk5 hrow5
      go_wp2_with fail
      go_roundw
      case measure=>simp[intOf];try omega
      case rel=>exact⟨j+1,no+1,c5,A5,by omega,by go_num,rfl,HFin⟩
   ·obtain rfl:j=m:=by omega
    have hjz:¬(j:Int)<(j:Int):=by omega
    have hR:Hid (NormOf l out∧out.length≤l.length):=qh (by
     have h1:=HP.out
     rw[hout,List.take_of_length_le (by have:=HL3.out;omega)]
     refine⟨h1,?_⟩
     have h2:=normFold_len l' []
     have h3:=HL3.out
     have h4:=hlm.out
     simp only[List.length_nil] at h2
     omega)
    have HO:=qh (Own.less ho HK3.out.size)
    have HK:=qtr HK3 hk
    have Hno:=qh hno
    clear ho hk hno hout HH
    go_wp2_with fail
    go_ret
    exact⟨out,Ao,no,co,rfl,Hno.out,HO.out,HK.out,hR.out⟩
end Go.Proofs.YtpapiojicbbheaaGreatDoor

namespace Go.Proofs.YtpapiojicbbheaaGreatDoor
open Go.RowKit Go.Sort Go.Shelf
def cmpT (x y:Stp):Int:=if cmpI x.1 y.1≠0 then cmpI x.1 y.1 else cmpI (inE x).2 (inE y).2
theorem cmpT_neg {x y:Stp}:cmpT x y<0↔ltT x y:=by
 obtain⟨a,r⟩:=x
 obtain⟨b,q⟩:=y
 unfold cmpT ltT inE
 split
 ·rename_i h;rw[cmpI_neg];rw[Ne,cmpI_zero] at h;simp only at h ⊢;omega
 ·rename_i h;rw[cmpI_neg];rw[Ne,cmpI_zero] at h;simp only at h ⊢
  cases r <;> cases q <;> simp <;> omega
theorem lt_cmpT (x y:Stp):ltOf cmpT x y=true↔ltT x y:=by unfold ltOf;rw[decide_eq_true_eq,cmpT_neg]
theorem swo_cmpT:SWO (ltOf cmpT) where
  irrefl x:=by rw[←not_true_iff,lt_cmpT];exact ltT_irrefl x
  trans x y z h1 h2:=by rw[lt_cmpT] at *;exact ltT_trans h1 h2
  ntrans x y z h1 h2:=by
   rw[←not_true_iff,lt_cmpT] at *
   obtain⟨a,r⟩:=x
   obtain⟨b,q⟩:=y
   obtain⟨c,p⟩:=z
   unfold ltT at *
   simp only at *
   cases r <;> cases q <;> cases p <;> simp at*<;> omega
structure GrS (w w':World):Prop where
  ex:∃q os,w'=grow (w.drewN q) os
theorem GrS.drew (w:World):GrS w w.drew:=⟨1,#[],by simp[grow];rfl⟩
theorem GrS.alloc (w:World) (o:Obj):GrS w (w.alloc o):=⟨0,#[o],by rw[alloc_eq_grow];rfl⟩
theorem GrS.trans {a b c:World} (h1:GrS a b) (h2:GrS b c):GrS a c:=by
 obtain⟨q,os,rfl⟩:=h1.ex
 obtain⟨p,ot,rfl⟩:=h2.ex
 refine⟨q+p,os++ot,?_⟩
 simp[grow,World.drewN,Nat.add_assoc]
theorem GrS.keep {a b:World} (h:GrS a b):Keep Never a b:=by
 obtain⟨q,os,rfl⟩:=h.ex
 refine⟨rfl,rfl,rfl,by simp[grow],fun k hk _=>?_⟩
 simp only[grow,World.heap_drewN]
 exact Array.getElem?_append_left hk
theorem grs4_next {W0 w w':World}{a b c d:Addr}{ua ub uc ud:Value} (H:GrS W0 w∧w.cell? a=some ua∧w.cell? b=some ub∧w.cell? c=some uc∧w.cell? d=some ud) (hk:GrS w w') :
    GrS W0 w'∧w'.cell? a=some ua∧w'.cell? b=some ub∧w'.cell? c=some uc∧w'.cell? d=some ud:=
  ⟨H.1.trans hk,keepT hk.keep H.2.1,keepT hk.keep H.2.2.1,keepT hk.keep H.2.2.2.1,keepT hk.keep H.2.2.2.2⟩
set_option maxHeartbeats 1000000 in
set_option maxRecDepth 100000 in
theorem enters_grow (s:Stp) (w:World):Calls Tryz.prog 90 #[.agg #[.int .i64 s.1,.bool s.2]] w fun e w'=>e=.returned (.agg #[.int .i64 (inE s).1,.int .i64 (inE s).2])∧GrS w w':=by
 obtain⟨a,b⟩:=s
 simp only
 cases b
 all_goals
  go_enter Tryz.func90, Tryz.ntmps90
  go_wp2_with fail
  refine bodyPost_ret (end_results rfl (Blk.new _ _ _) _ (by simp)) rfl ⟨rfl,?_⟩
  exact(GrS.alloc _ _).trans (GrS.alloc _ _)
theorem flat_stp (d:Array Stp):∀j,j<d.size*2→(flatK stpCell 2 d)[j]! = (stpCells d.toList)[j]!:=by
 intro j hj
 rw[get_flatK _ _ _ _ hj]
 have hd:j / 2<d.size:=by omega
 have hs:d.toList[j / 2]?=some d[j / 2]!:=by rw[Array.getElem?_toList,getElem!_pos d _ hd,Array.getElem?_eq_getElem hd]
 obtain⟨a0,a1⟩:=stpCells_at _ hs
 have h3:j % 2=0∨j % 2=1:=by omega
 have e:j=j / 2*2+j % 2:=by omega
 rcases h3 with h | h
 ·have:(stpCells d.toList)[j]?=some (.int .i64 (d[j / 2]!).1):=by rw[←a0];congr 1;omega
  rw[h,List.getElem!_eq_getElem?_getD (l:=stpCells d.toList),this];rfl
 ·have:(stpCells d.toList)[j]?=some (.bool (d[j / 2]!).2):=by rw[←a1];congr 1;omega
  rw[h,List.getElem!_eq_getElem?_getD (l:=stpCells d.toList),this];rfl
theorem holds_of_ownT {w:World}{base n c g:Nat}{l:List Stp} (h:Own w base 30 2 (some ⟨g,0,none⟩) n c (stpCells l)):HoldsK stpCell 2 w g 0 l.toArray:=by
 intro j hj
 rw[size_flatK] at hj
 have hj':j<(stpCells l).length:=by rw[len_stpCells];simpa using hj
 have hu:(stpCells l)[j]?=some (stpCells l)[j]:=List.getElem?_eq_getElem hj'
 have h1:=World.ownsRow.cells h (g:=g) rfl j _ hu
 have e0:(⟨g,0,none⟩:Addr).add j=⟨g,j,none⟩:=by unfold Addr.add;split <;> simp_all
 rw[e0] at h1
 have h2:=h.frozen rfl j
 rw[e0] at h2
 rw[Nat.zero_add,flat_stp _ j (by simpa using hj)]
 refine⟨by rw[h1];simp[List.getElem!_eq_getElem?_getD,hu],h2⟩
theorem own_sortT {w:World}{base n c g m:Nat}{l l':List Stp} (os:Array Obj) (h:Own w base 30 2 (some ⟨g,0,none⟩) n c (stpCells l)) (hl:l'.length=l.length) (_hb:base≤w.heap.size) :
    Own (sortWorldK stpCell 2 w g 0 m l'.toArray os) base 30 2 (some ⟨g,0,none⟩) n c (stpCells l')∧Keep (InRow (some ⟨g,0,none⟩)) w (sortWorldK stpCell 2 w g 0 m l'.toArray os):=by
  have hlen:=h.len
  rw[len_stpCells] at hlen
  obtain⟨g',cur,hA,hbg,hB,hnc,hcm,hcs,hct⟩:∃g' cur,(some ⟨g,0,none⟩:Option Addr)=some ⟨g',0,none⟩∧base≤g'∧Blk w g' 30 cur∧n≤c∧c≤maxLen∧cur.size=c*2∧cur.toList.take (n*2)=stpCells l:=by
   rcases h.form with⟨h1,_⟩ | h1
   ·cases h1
   ·exact h1
  injection hA with hA
  injection hA with hA
  subst hA
  have hglt:=hB.lt
  obtain⟨F,hF⟩:∃F,flatK stpCell 2 l'.toArray=F:=⟨_,rfl⟩
  have hFs:F.size=n*2:=by rw[←hF,size_flatK];simp;omega
  have hFat:∀j,j<n*2→F[j]! = (stpCells l')[j]!:=fun j hj=>by
   have:=flat_stp l'.toArray j (by simp;omega)
   rwa [hF] at this
  have hheap:(sortWorldK stpCell 2 w g 0 m l'.toArray os).heap=w.heap.modify g (onCells (putCells id 0 F))++os:=by
   unfold sortWorldK grow putRowK putRow mapBlock
   rw[hF]
   rfl
  have hat:(sortWorldK stpCell 2 w g 0 m l'.toArray os).heap[g]?=some (.cells (putCells id 0 F cur) 30 (0,0)):=by
   unfold Blk at hB
   rw[hheap,Array.getElem?_append_left (by simpa using hglt),Array.getElem?_modify,if_pos rfl,hB]
   rfl
  have hother:∀k,k<w.heap.size→k≠g→(sortWorldK stpCell 2 w g 0 m l'.toArray os).heap[k]?=w.heap[k]?:=fun k hk hne=>by
   rw[hheap,Array.getElem?_append_left (by simpa using hk),Array.getElem?_modify,if_neg (by omega)]
  refine⟨⟨by rw[len_stpCells];omega,.inr ⟨g,c,putCells id 0 F cur,rfl,hbg,hat,hnc,hcm,by simp[putCells,hcs],?_⟩⟩,⟨rfl,rfl,rfl,by rw[hheap];simp,fun k hk hn=>hother k hk (fun e=>hn ⟨_,rfl,e.symm⟩)⟩⟩
  have hcl:n*2≤cur.size:=by rw[hcs];omega
  refine List.ext_getElem? fun j=>?_
  rw[List.getElem?_take]
  by_cases hj:j<n*2
  ·rw[if_pos hj,Array.getElem?_toList]
   have h1:(stpCells l')[j]?=some (stpCells l')[j]!:=by
    rw[getElem!_pos _ _ (by rw[len_stpCells];omega),List.getElem?_eq_getElem]
   rw[h1,←hFat j hj]
   unfold putCells
   rw[Array.getElem?_mapIdx,Array.getElem?_eq_getElem (by omega)]
   simp only[Option.map_some]
   rw[if_pos (by omega)]
   rfl
  ·rw[if_neg hj,List.getElem?_eq_none (by rw[len_stpCells];omega)]
set_option maxHeartbeats 1000000 in
set_option maxRecDepth 100000 in
theorem run_field_end (w:World) (a b:Int):(Instr.field 132 (.agg #[.int .i64 a,.int .i64 b]) 1).run Tryz.prog w=.ok (.int .i64 b) w:=by
 simp[Instr.field,go_sem,part,asAgg]
set_option maxHeartbeats 1000000 in
set_option maxRecDepth 100000 in
theorem aft1_any (x y:Stp) (w:World):Calls Tryz.prog 87 #[.agg #[.int .i64 x.1,.bool x.2],.agg #[.int .i64 y.1,.bool y.2]] w fun e w'=>e=.returned (.int .i64 (cmpT x y))∧GrS w w':=by
 have HC:Hid (∀a b W,Calls Tryz.prog 89 #[.int .i64 a,.int .i64 b] W fun e w'=>e=.returned (.int .i64 (cmpI a b))∧W=w'):=qh compare_any
 have qf:∀(w:World) (a b:Int),(Instr.field 132 (.agg #[.int .i64 a,.int .i64 b]) 1).run Tryz.prog w=.ok (.int .i64 b) w:=run_field_end
 have HR:Hid (cmpT x y=orI (cmpI x.1 y.1) (cmpI (inE x).2 (inE y).2)):=qh rfl
 have HX:Hid (∀(a:Int) (b:Bool) W,Calls Tryz.prog 90 #[.agg #[.int .i64 a,.bool b]] W fun e w'=>e=.returned (.agg #[.int .i64 (inE (a,b)).1,.int .i64 (inE (a,b)).2])∧GrS W w'):=qh (fun a b W=>enters_grow (a,b) W)
 obtain⟨x1,x2⟩:=x
 obtain⟨y1,y2⟩:=y
 simp only at HR ⊢
 obtain⟨w1,hw1⟩:∃W:World,w.alloc (.cells #[.int .i64 x1,.bool x2] 30)=W:=⟨_,rfl⟩
 obtain⟨w2,hw2⟩:∃W:World,w1.alloc (.cells #[.int .i64 y1,.bool y2] 30)=W:=⟨_,rfl⟩
 have s1:w1.heap.size=w.heap.size+1:=by rw[←hw1];simp
 have g1:GrS w w1:=by rw[←hw1];exact GrS.alloc _ _
 have g2:GrS w1 w2:=by rw[←hw2];exact GrS.alloc _ _
 have hx:=Blk.new w 30 #[.int .i64 x1,.bool x2]
 rw[hw1] at hx
 have hy:=Blk.new w1 30 #[.int .i64 y1,.bool y2]
 rw[hw2,s1] at hy
 have hx2:=hx.keep g2.keep (fun h=>h)
 obtain⟨q0,q1⟩:=bc2 hx2
 obtain⟨r0,r1⟩:=bc2 hy
 have HG:=qh (g1.trans g2)
 clear hx hy hx2 g1 g2
 go_enter Tryz.func87, Tryz.ntmps87
 go_wp2_with fail
 go_region_held3 (fun w'=>GrS w2 w'∧w'.cell? ⟨w.heap.size,0,none⟩=some (.int .i64 x1)∧w'.cell? ⟨w.heap.size,1,none⟩=some (.bool x2)∧w'.cell? ⟨w.heap.size+1,0,none⟩=some (.int .i64 y1)∧w'.cell? ⟨w.heap.size+1,1,none⟩=some (.bool y2))
   (first| assumption | exact⟨GrS.drew _,q0,q1,r0,r1⟩ | exact grs4_next (by assumption) hk' | exact grs4_next (by assumption) (GrS.alloc _ _) | exact grs4_next (by assumption) (GrS.drew _))
   (first
     | (go_at_call 89; refine(HC.out _ _ _).mono ?_;rintro e w' ⟨rfl,rfl⟩)
     | (go_at_call 90; refine(HX.out _ _ _).mono ?_;rintro e w' ⟨rfl,hk'⟩)
     | (go_at_call 88; refine(or_any _ _ (cmpI x1 y1) (cmpI (inE (x1,x2)).2 (inE (y1,y2)).2) _ (Blk.new _ _ _)).mono ?_;rintro e w6 ⟨rfl,rfl⟩))
 rename_i hS
 have HS:=qh (And.left hS)
 clear hS q0 q1 r0 r1
 go_wp2_with fail
 go_ret
 exact⟨by rw[HR.out];rfl,HG.out.trans HS.out⟩
theorem cmpLays_stp (blk off size:Nat) (w:World):Go.Proofs.CmpLays Tryz.prog 87 #[] stpCell 2 cmpT blk off size w:=
  fun _ _ _ _ x y=>(aft1_any x y _).mono fun _ _ h=>⟨h.1,h.2.ex⟩
theorem sortT0_insert (w:World):Calls Tryz.prog 175 #[.slice none 0 0,.int .i64 0,.int .i64 0,.func (.func 87) #[] #[]] w fun e w'=>e=.returned (.tuple #[])∧w'=w:=by
 go_enter Tryz.func175, Tryz.ntmps175
 go_wp2
 refine wp_loop_rounds 1 ?_
 rw[rounds_succ]
 go_wp2
 go_end0
 exact⟨rfl,rfl⟩
theorem sortT0_pdq (lim:Int) (w:World):Calls Tryz.prog 134 #[.slice none 0 0,.int .i64 0,.int .i64 0,.int .i64 lim,.func (.func 87) #[] #[]] w fun e w'=>e=.returned (.tuple #[])∧w'=w:=by
 have hi:=sortT0_insert
 go_enter Tryz.func134, Tryz.ntmps134
 go_wp2
 refine wp_loop_rounds 1 ?_
 rw[rounds_succ]
 go_wp2_with (go_at_call 175; refine(hi _).mono ?_;rintro e w' ⟨rfl,rfl⟩)
 (try simp only[Exit.inBlock,Exit.then])
 refine bodyPost_ret (results_none rfl _ _ _) rfl ?_
 exact⟨rfl,rfl⟩
theorem sortT0_any (w:World):Calls Tryz.prog 86 #[.slice none 0 0,.func (.func 87) #[] #[]] w fun e w'=>e=.returned (.tuple #[])∧w'=w:=by
 have hp:=sortT0_pdq
 have hl:∀W,Calls Tryz.prog 135 #[.int .u64 0] W fun e w'=>e=.returned (.int .i64 (Lib.bitLen 0:Nat))∧w'=W:=fun W=>
  Any.bits_Len (SlLaysF0.n15.bits (P:=Tryz.prog) (ρ:=sortSt_ren) { sortSt with }) 0 W (by omega) (by omega)
 go_enter Tryz.func86, Tryz.ntmps86
 go_wp2_with (first| (go_at_call 135; refine(hl _).mono ?_;rintro e w' ⟨rfl,rfl⟩) | (go_at_call 134; refine(hp _ _).mono ?_;rintro e w' ⟨rfl,rfl⟩))
 go_end0
 exact⟨rfl,rfl⟩
theorem sortfT_any (base:Nat) (A:Option Addr) (n c:Nat) (l:List Stp) (w:World) (ho:Own w base 30 2 A n c (stpCells l)) (hb:base≤w.heap.size) (hn:n≤100000000000) :
    Calls Tryz.prog 86 #[.slice A n c,.func (.func 87) #[] #[]] w fun e w'=>e=.returned (.tuple #[])∧∃l':List Stp,l'.Perm l∧l'.Pairwise (fun a b=>¬ltT b a)∧Own w' base 30 2 A n c (stpCells l')∧Keep (InRow A) w w':=by
  have hlen:l.length=n:=ho.rd.stp_len
  rcases ho.form with⟨rfl,rfl,rfl,_⟩ | ⟨g,cur,rfl,hbg,hB,_⟩
  ·obtain rfl:=List.eq_nil_of_length_eq_zero hlen
   refine(sortT0_any w).mono ?_
   rintro e w' ⟨rfl,rfl⟩
   exact⟨rfl,[],List.Perm.refl _,List.Pairwise.nil,ho,Keep.refl _ _⟩
  ·have hcon:=AnyQ.slices_SortFunc (P:=Tryz.prog) (ρ:=sortSt_ren) sortSt 2 Tryz.isAgg30 Tryz.sizeOf30 stpCell (fun _=>rfl) (fun x v hv=>by simp[stpCell] at hv;rcases hv with rfl | rfl <;> rfl) cmpT swo_cmpT 87 #[] g 0 c l.toArray w (enters_of Tryz.func87 (by kernel_rfl) rfl) (cmpLays_stp g 0 _ w) (holds_of_ownT ho) hB.lt (by simp;omega)
   have e1:l.toArray.size=n:=by simpa using hlen
   rw[e1] at hcon
   refine Calls.mono (show Calls Tryz.prog 86 _ _ _ from hcon) ?_
   rintro e w' ⟨rfl,d',m,os,hp,hs,rfl⟩
   have hsz:d'.size=n:=hp.1.trans e1
   have hperm:d'.toList.Perm l:=by
    have h:=hp.2.2
    rw[Array.extract_eq_self_of_le (by omega),Array.extract_eq_self_of_le (by omega)] at h
    simpa using h
   obtain⟨h1,h2⟩:=own_sortT (m:=m) (l':=d'.toList) os ho (by simpa[hlen] using hsz) hb
   simp only[Array.toArray_toList] at h1 h2
   refine⟨rfl,d'.toList,hperm,?_,h1,h2⟩
   rw[List.pairwise_iff_getElem]
   intro i j hi hj hij
   have h3:=hs i j (Nat.zero_le _) hij (by simpa[hsz] using hj)
   have hi':i<d'.size:=by simpa using hi
   have hj':j<d'.size:=by simpa using hj
   rw[getElem!_pos d' i hi',getElem!_pos d' j hj',←not_true_iff,lt_cmpT] at h3
   simp only[Array.getElem_toList]
   exact h3
end Go.Proofs.YtpapiojicbbheaaGreatDoor

namespace Go.Proofs.YtpapiojicbbheaaGreatDoor
open Go.RowKit
theorem held8_next {W0 w w':World}{a b c d e f g h:Addr}{ua ub uc ud ue uf ug uh:Value} (H:Keep Never W0 w∧w.cell? a=some ua∧w.cell? b=some ub∧w.cell? c=some uc∧w.cell? d=some ud∧w.cell? e=some ue∧w.cell? f=some uf∧w.cell? g=some ug∧w.cell? h=some uh) (hk:Keep Never w w') :
    Keep Never W0 w'∧w'.cell? a=some ua∧w'.cell? b=some ub∧w'.cell? c=some uc∧w'.cell? d=some ud∧w'.cell? e=some ue∧w'.cell? f=some uf∧w'.cell? g=some ug∧w'.cell? h=some uh:=
  ⟨H.1.trans hk,keepT hk H.2.1,keepT hk H.2.2.1,keepT hk H.2.2.2.1,keepT hk H.2.2.2.2.1,keepT hk H.2.2.2.2.2.1,keepT hk H.2.2.2.2.2.2.1,keepT hk H.2.2.2.2.2.2.2.1,keepT hk H.2.2.2.2.2.2.2.2⟩
set_option maxHeartbeats 4000000 in
set_option maxRecDepth 100000 in
theorem mayj_any (x:TA) (t:Tp) (B:Nat) (a b:Stp) (w:World) (ht:TpAt w B x t) (hn:x.nj≤100000000) :
    Calls Tryz.prog 205 #[.agg x.cs,.agg #[.int .i64 a.1,.bool a.2],.agg #[.int .i64 b.1,.bool b.2]] w fun e w'=>e=.returned (.bool (mayJ t.2.1 a b))∧Keep Never w w':=by
  have HJ:Hid (∀w',Keep Never w w'→Calls Tryz.prog 103 #[.agg x.cs,.agg #[.int .i64 (outE a).1,.int .i64 (outE a).2],.agg #[.int .i64 (inE b).1,.int .i64 (inE b).2]] w' fun e w''=>e=.returned (.bool (joinB t.2.1 (outE a) (inE b)))∧Keep Never w' w''):=qh (fun w' h=>joins_any x t B (outE a) (inE b) w' (ht.keep h) hn)
  have HO:=qh (fun W=>leaves_any a W)
  have HI:=qh (fun W=>enters_any b W)
  obtain⟨Ae,ne,ce,Aj,nj,cj,Ab,nb,cb,Ar,nr,cr⟩:=x
  simp only[TA.cs] at HJ ⊢
  have HMy:Hid (mayJ t.2.1 a b=joinB t.2.1 (outE a) (inE b)):=qh rfl
  obtain⟨a1,a2⟩:=a
  obtain⟨b1,b2⟩:=b
  generalize outE (a1,a2)=oa at *
  generalize inE (b1,b2)=ib at *
  obtain⟨oa1,oa2⟩:=oa
  obtain⟨ib1,ib2⟩:=ib
  simp only at HJ HO HI HMy ⊢
  obtain⟨w1,hw1⟩:∃wb:World,w.alloc (.cells #[.slice Ae ne ce,.slice Aj nj cj,.slice Ab nb cb,.slice Ar nr cr] 27)=wb:=⟨_,rfl⟩
  obtain⟨w2,hw2⟩:∃wb:World,w1.alloc (.cells #[.int .i64 a1,.bool a2] 30)=wb:=⟨_,rfl⟩
  obtain⟨w3,hw3⟩:∃wb:World,w2.alloc (.cells #[.int .i64 b1,.bool b2] 30)=wb:=⟨_,rfl⟩
  have s1:w1.heap.size=w.heap.size+1:=by rw[←hw1];simp
  have s2:w2.heap.size=w.heap.size+1+1:=by rw[←hw2,←s1];simp
  have k1:Keep Never w w1:=by rw[←hw1];exact(Keep.refl _ _).alloc _
  have k2:Keep Never w1 w2:=by rw[←hw2];exact(Keep.refl _ _).alloc _
  have k3:Keep Never w2 w3:=by rw[←hw3];exact(Keep.refl _ _).alloc _
  have b1':=Blk.new w 27 #[.slice Ae ne ce,.slice Aj nj cj,.slice Ab nb cb,.slice Ar nr cr]
  rw[hw1] at b1'
  have b2':=Blk.new w1 30 #[.int .i64 a1,.bool a2]
  rw[hw2,s1] at b2'
  have b3':=Blk.new w2 30 #[.int .i64 b1,.bool b2]
  rw[hw3,s2] at b3'
  have HK:=qh ((k1.trans k2).trans k3)
  have HB1:=(b1'.keep k2 (fun h=>h)).keep k3 (fun h=>h)
  have HB2:=b2'.keep k3 (fun h=>h)
  obtain⟨y0,y1,y2,y3⟩:=bc4 HB1
  obtain⟨y4,y5⟩:=bc2 HB2
  obtain⟨y6,y7⟩:=bc2 (b3')
  clear k1 k2 k3 b1' b2' b3' HB1 HB2
  go_enter Tryz.func205, Tryz.ntmps205
  go_wp2_with fail
  go_region_held3 (fun w'=>Keep Never w3 w'∧w'.cell? ⟨w.heap.size,0,none⟩=some (.slice Ae ne ce)∧w'.cell? ⟨w.heap.size,1,none⟩=some (.slice Aj nj cj)∧w'.cell? ⟨w.heap.size,2,none⟩=some (.slice Ab nb cb)∧w'.cell? ⟨w.heap.size,3,none⟩=some (.slice Ar nr cr)∧w'.cell? ⟨w.heap.size+1,0,none⟩=some (.int .i64 a1)∧w'.cell? ⟨w.heap.size+1,1,none⟩=some (.bool a2)∧w'.cell? ⟨w.heap.size+1+1,0,none⟩=some (.int .i64 b1)∧w'.cell? ⟨w.heap.size+1+1,1,none⟩=some (.bool b2))
    (first| assumption | exact⟨(Keep.refl Never w3).drew,y0,y1,y2,y3,y4,y5,y6,y7⟩ | exact held8_next (by assumption) hk')
    (first
      | (go_at_call 85; refine(HO.out _).mono ?_;rintro e w' ⟨rfl,hk'⟩)
      | (go_at_call 90; refine(HI.out _).mono ?_;rintro e w' ⟨rfl,hk'⟩)
      | (go_at_call 103; refine(HJ.out _ (HK.out.trans (by first | exact(Keep.refl Never w3).drew | exact And.left (by assumption)))).mono ?_;rintro e w' ⟨rfl,hk'⟩))
  all_goals
   rename_i hS
   have HKe:=qh (HK.out.trans (And.left hS))
   clear hS
   go_wp2_with fail
   go_ret
   exact⟨by rw[HMy.out];rfl,HKe.out⟩
end Go.Proofs.YtpapiojicbbheaaGreatDoor
