/- Texts of this claim, together: PackE, PackF, PackG, PlnV, PlcC, PlcD, PlcE, PlnD, LckB, LckC. -/
import Derived.Test.YtpapiojicbbheaaGreatDoorTf03
import Derived.Test.YtpapiojicbbheaaGreatDoorTf00
import Derived.Test.YtpapiojicbbheaaGreatDoorTf02
import Derived.Test.YtpapiojicbbheaaGreatDoorTf01
import Derived.WalkMore
import Derived.IntWalk
namespace Go.Proofs.YtpapiojicbbheaaGreatDoor
open Go.RowKit
structure SI where
  rest:List Int
  out:List (Int×Int)
def valI:Val SI:=fun v s=>
 if v=7 then .ok (0,⟨s.rest,s.out++[(7,0)]⟩)
 else match s.rest with
   | []=>.error 20
   | n::t=>if vMay v n=true then .ok (n,⟨t,s.out++[(v,n)]⟩) else .error 20
def valT:Val (List (Int×Int)):=fun v tr=>match tr with
  | []=>.error 0
  | (v',n)::t=>if v'=v then .ok (if v=7 then 0 else n,t) else .error 0
def headLeaf:Parts→Bool
  | .nil=>true
  | .cons _ wh _ _=>wh==0
def calm:Parts→Bool
  | .nil=>true
  | .cons v wh l r=>(if wh==0 then (v != 7 || headLeaf r) else calm l)&&calm r
def nums:List (Int×Int)→List Int
  | []=>[]
  | (v,n)::t=>if v=7 then nums t else n::nums t
theorem nums_app (a b:List (Int×Int)):nums (a++b)=nums a++nums b:=by
 induction a with
 | nil=>rfl
 | cons x a ih=>
  obtain⟨v,n⟩:=x
  simp only[List.cons_append,nums]
  split <;> simp[ih]
theorem getL_eq {l:List Bool}{k:Int} (h:getE l.length k=0):getL l k=l.drop k.toNat:=by
 have:=getE_zero h
 rw[getL,if_neg (by omega)]
theorem vMay_range {v n:Int} (h:vMay v n=true):1≤vWidth v∧vWidth v≤32∧0≤n∧n<((2 ^ (vWidth v).toNat:Nat):Int):=by
 have:=vWidth_range v
 simp only[vMay,decide_eq_true_eq] at h
 omega
def Mat (T:Parts) (last:Int) (tr:List (Int×Int)):Prop:=∀rest,walkL valT T last (tr++rest)=.ok rest
theorem walk_trace {σ:Type}{val:Val σ}{E:σ→List (Int×Int)→σ→Prop} (h0:∀s,E s [] s) (ht:∀a x b y c,E a x b→E b y c→E a (x++y) c)
    (h:∀v s n s',val v s=.ok (n,s')→∃m,E s [(v,m)] s'∧n=(if v=7 then 0 else m)) :
    ∀(T:Parts) (last:Int) (s s':σ),walkL val T last s=.ok s'→∃tr,E s tr s'∧Mat T last tr:=by
  intro T
  induction T with
  | nil=>intro last s s' hs;injection hs with hs;subst hs;exact⟨[],h0 s,fun _=>rfl⟩
  | cons v wh l r ihl ihr=>
   intro last s s' hs
   simp only[walkL] at hs
   by_cases hw:wh=0
   ·rw[if_pos hw] at hs
    rcases hf:val v s with e | ⟨n,s1⟩
    ·rw[hf] at hs;cases hs
    ·rw[hf] at hs
     obtain⟨m,h1,h2⟩:=h _ _ _ _ hf
     obtain⟨tr,h3,h4⟩:=ihr _ _ _ hs
     refine⟨(v,m)::tr,ht _ _ _ _ _ h1 h3,fun rest=>?_⟩
     simp only[walkL,if_pos hw,List.cons_append,valT,if_true]
     rw[←h2]
     exact h4 rest
   ·rw[if_neg hw] at hs
    by_cases hw1:wh=1
    ·rw[if_pos hw1] at hs
     cases hf:iterE (walkL val l 0) last.toNat s with
     | error e=>rw[hf] at hs;cases hs
     | ok s1=>
      rw[hf] at hs
      have hit:∀(k:Nat) (s s1:σ),iterE (walkL val l 0) k s=.ok s1→∃tr,E s tr s1∧∀rest,iterE (walkL valT l 0) k (tr++rest)=.ok rest:=by
       intro k
       induction k with
       | zero=>intro s s1 hk;injection hk with hk;subst hk;exact⟨[],h0 s,fun _=>rfl⟩
       | succ k ihk=>
        intro s s1 hk
        simp only[iterE] at hk
        cases hg:walkL val l 0 s with
        | error e=>rw[hg] at hk;cases hk
        | ok s2=>
         rw[hg] at hk
         obtain⟨x,h1,h2⟩:=ihl _ _ _ hg
         obtain⟨y,h3,h4⟩:=ihk _ _ hk
         refine⟨x++y,ht _ _ _ _ _ h1 h3,fun rest=>?_⟩
         simp only[iterE]
         rw[List.append_assoc,h2]
         exact h4 rest
      obtain⟨x,h1,h2⟩:=hit _ _ _ hf
      obtain⟨y,h3,h4⟩:=ihr _ _ _ hs
      refine⟨x++y,ht _ _ _ _ _ h1 h3,fun rest=>?_⟩
      simp only[walkL,if_neg hw,if_pos hw1]
      rw[List.append_assoc,h2]
      exact h4 rest
    ·rw[if_neg hw1] at hs
     by_cases hw2:last=1∨wh=3∧last=2
     ·rw[if_pos hw2] at hs
      cases hf:walkL val l 0 s with
      | error e=>rw[hf] at hs;cases hs
      | ok s1=>
       rw[hf] at hs
       obtain⟨x,h1,h2⟩:=ihl _ _ _ hf
       obtain⟨y,h3,h4⟩:=ihr _ _ _ hs
       refine⟨x++y,ht _ _ _ _ _ h1 h3,fun rest=>?_⟩
       simp only[walkL,if_neg hw,if_neg hw1,if_pos hw2]
       rw[List.append_assoc,h2]
       exact h4 rest
     ·rw[if_neg hw2] at hs
      obtain⟨y,h3,h4⟩:=ihr _ _ _ hs
      refine⟨y,h3,fun rest=>?_⟩
      simp only[walkL,if_neg hw,if_neg hw1,if_neg hw2]
      exact h4 rest
theorem valT_ok {v n:Int}{s s':List (Int×Int)} (h:valT v s=.ok (n,s')):∃m,s=(v,m)::s'∧n=if v=7 then 0 else m:=by
 unfold valT at h
 split at h
 ·cases h
 ·rename_i v' m t
  split at h
  ·rename_i hv
   subst hv
   simp only[Except.ok.injEq,Prod.mk.injEq] at h
   obtain⟨rfl,rfl⟩:=h
   exact⟨m,rfl,rfl⟩
  ·cases h
def StepI (s:SI) (tr:List (Int×Int)) (s':SI):Prop:=s'.out=s.out++tr∧nums tr++s'.rest=s.rest∧∀x∈tr,(x.1=7∧x.2=0)∨(x.1≠7∧vMay x.1 x.2=true)
theorem I_trace {T:Parts}{last:Int}{s s':SI} (h:walkL valI T last s=.ok s'):∃tr,StepI s tr s'∧Mat T last tr:=by
 refine walk_trace (E:=StepI) (fun s=>⟨by simp,rfl,by simp⟩) ?_ ?_ T last s s' h
 ·rintro a x b y c ⟨h1,h2,h3⟩ ⟨h4,h5,h6⟩
  refine⟨by rw[h4,h1,List.append_assoc],by rw[nums_app,List.append_assoc,h5,h2],fun z hz=>?_⟩
  rcases List.mem_append.1 hz with hz | hz
  ·exact h3 z hz
  ·exact h6 z hz
 ·intro v s n s' h
  unfold valI at h
  by_cases h7:v=7
  ·rw[if_pos h7] at h
   simp only[Except.ok.injEq,Prod.mk.injEq] at h
   obtain⟨rfl,rfl⟩:=h
   subst h7
   exact⟨0,⟨rfl,rfl,by simp⟩,rfl⟩
  ·rw[if_neg h7] at h
   split at h
   ·cases h
   ·rename_i m t hr
    split at h
    ·rename_i hm
     simp only[Except.ok.injEq,Prod.mk.injEq] at h
     obtain⟨rfl,rfl⟩:=h
     exact⟨m,⟨rfl,by simp[nums,h7,hr],by simp[h7,hm]⟩,by rw[if_neg h7]⟩
    ·cases h
def pids:List Int:=[0,1,3,5,11,15,21,27,42,57,58,80]
theorem ptree_id {id:Int}{T:Parts} (h:ptree id=some T):id∈pids:=by
 unfold ptree at h
 by_cases h0:id=0;· subst h0;decide
 by_cases h1:id=1;· subst h1;decide
 by_cases h3:id=3;· subst h3;decide
 by_cases h5:id=5;· subst h5;decide
 by_cases h11:id=11;· subst h11;decide
 by_cases h15:id=15;· subst h15;decide
 by_cases h21:id=21;· subst h21;decide
 by_cases h27:id=27;· subst h27;decide
 by_cases h42:id=42;· subst h42;decide
 by_cases h57:id=57;· subst h57;decide
 by_cases h58:id=58;· subst h58;decide
 by_cases h80:id=80;· subst h80;decide
 simp only[h0,h1,h3,h5,h11,h15,h21,h27,h42,h57,h58,h80,if_false,reduceCtorEq] at h
def upP (id:Int):Bool:=decide (id=0∨id=1∨id=11)
def no7:Parts→Bool
  | .nil=>true
  | .cons v wh l r=>(if wh=0 then decide (v≠7) else no7 l)&&no7 r
def lead (id:Int):Parts→Bool
  | .cons v wh .nil r=>if upP id then decide (v=7∧wh=0)&&no7 r else
      match r with
      | .cons v' wh' .nil r'=>decide (v=6∧wh=0∧v'=7∧wh'=0)&&no7 r'
      | _=>false
  | _=>false
def chkP (id:Int):Bool:=match ptree id with
  | none=>false
  | some T=>decide (T.len≠0)&&calm T&&lead id T&&decide (0≤id∧id<256)
theorem chk_all:pids.all chkP=true:=by decide +kernel
theorem ptree_chk {id:Int}{T:Parts} (h:ptree id=some T):T.len≠0∧calm T=true∧lead id T=true∧0≤id∧id<256:=by
 have h1:=List.all_eq_true.1 chk_all id (ptree_id h)
 simp only[chkP,h,Bool.and_eq_true,decide_eq_true_eq] at h1
 exact⟨h1.1.1.1,h1.1.1.2,h1.1.2,h1.2.1,h1.2.2⟩
theorem iter_err {σ:Type}{E:Int→Prop}{f:σ→Except Int σ} (h:∀s e,f s=.error e→E e):∀(n:Nat) (s:σ) (e:Int),iterE f n s=.error e→E e:=by
 intro n
 induction n with
 | zero=>intro s e h;cases h
 | succ n ih=>
  intro s e hs
  simp only[iterE] at hs
  cases hf:f s with
  | error e'=>rw[hf] at hs;injection hs with hs;subst hs;exact h _ _ hf
  | ok s1=>rw[hf] at hs;exact ih _ _ hs
theorem walk_err {σ:Type}{E:Int→Prop}{val:Val σ} (h:∀v s e,val v s=.error e→E e):∀(T:Parts) (last:Int) (s:σ) (e:Int),walkL val T last s=.error e→E e:=by
 intro T
 induction T with
 | nil=>intro last s e h;cases h
 | cons v wh l r ihl ihr=>
  intro last s e hs
  simp only[walkL] at hs
  by_cases hw:wh=0
  ·rw[if_pos hw] at hs
   rcases hf:val v s with e' | ⟨n,s1⟩
   ·rw[hf] at hs;injection hs with hs;subst hs;exact h _ _ _ hf
   ·rw[hf] at hs;exact ihr _ _ _ hs
  ·rw[if_neg hw] at hs
   by_cases hw1:wh=1
   ·rw[if_pos hw1] at hs
    cases hf:iterE (walkL val l 0) last.toNat s with
    | error e'=>rw[hf] at hs;injection hs with hs;subst hs;exact iter_err (fun s e=>ihl 0 s e) _ _ _ hf
    | ok s1=>rw[hf] at hs;exact ihr _ _ _ hs
   ·rw[if_neg hw1] at hs
    by_cases hw2:last=1∨wh=3∧last=2
    ·rw[if_pos hw2] at hs
     cases hf:walkL val l 0 s with
     | error e'=>rw[hf] at hs;injection hs with hs;subst hs;exact ihl _ _ _ hf
     | ok s1=>rw[hf] at hs;exact ihr _ _ _ hs
    ·rw[if_neg hw2] at hs
     exact ihr _ _ _ hs
theorem iter_cond {σ:Type}{P:σ→Prop}{f g:σ→Except Int σ} (he:∀s,P s→f s=g s) (hp:∀s s',P s→g s=.ok s'→P s'):∀(n:Nat) (s:σ),P s→iterE f n s=iterE g n s∧∀s',iterE g n s=.ok s'→P s':=by
 intro n
 induction n with
 | zero=>intro s hs;exact⟨rfl,fun s' h=>by injection h with h;subst h;exact hs⟩
 | succ n ih=>
  intro s hs
  simp only[iterE]
  rw[he s hs]
  cases hg:g s with
  | error e=>exact⟨rfl,fun s' h=>by cases h⟩
  | ok s1=>exact ih s1 (hp _ _ hs hg)
theorem walk_cond {σ:Type}{P:σ→Prop}{val val':Val σ} (he:∀v s,v≠7→P s→val v s=val' v s) (hp:∀v s n s',v≠7→P s→val' v s=.ok (n,s')→P s') :
    ∀(T:Parts),no7 T=true→∀(last:Int) (s:σ),P s→walkL val T last s=walkL val' T last s∧∀s',walkL val' T last s=.ok s'→P s':=by
  intro T
  induction T with
  | nil=>intro _ last s hs;exact⟨rfl,fun s' h=>by injection h with h;subst h;exact hs⟩
  | cons v wh l r ihl ihr=>
   intro hn last s hs
   simp only[no7,Bool.and_eq_true] at hn
   obtain⟨h1,h2⟩:=hn
   simp only[walkL]
   by_cases hw:wh=0
   ·rw[if_pos hw] at h1
    have hv:v≠7:=by simpa using h1
    rw[if_pos hw,if_pos hw,he v s hv hs]
    rcases hf:val' v s with e' | ⟨n,s1⟩
    ·exact⟨rfl,fun s' h=>by cases h⟩
    ·exact ihr h2 n s1 (hp _ _ _ _ hv hs hf)
   ·rw[if_neg hw] at h1
    rw[if_neg hw,if_neg hw]
    by_cases hw1:wh=1
    ·rw[if_pos hw1,if_pos hw1]
     obtain⟨h3,h4⟩:=iter_cond (P:=P) (fun s hs=>(ihl h1 0 s hs).1) (fun s s' hs h=>(ihl h1 0 s hs).2 s' h) last.toNat s hs
     rw[h3]
     cases hf:iterE (walkL val' l 0) last.toNat s with
     | error e'=>exact⟨rfl,fun s' h=>by cases h⟩
     | ok s1=>exact ihr h2 last s1 (h4 s1 hf)
    ·rw[if_neg hw1,if_neg hw1]
     by_cases hw2:last=1∨wh=3∧last=2
     ·rw[if_pos hw2,if_pos hw2]
      obtain⟨h3,h4⟩:=ihl h1 0 s hs
      rw[h3]
      cases hf:walkL val' l 0 s with
      | error e'=>exact⟨rfl,fun s' h=>by cases h⟩
      | ok s1=>exact ihr h2 last s1 (h4 s1 hf)
     ·rw[if_neg hw2,if_neg hw2]
      exact ihr h2 last s hs
theorem valI_err (v:Int) (s:SI) (e:Int) (h:valI v s=.error e):e=20:=by
 unfold valI at h
 by_cases h7:v=7
 ·rw[if_pos h7] at h;cases h
 ·rw[if_neg h7] at h
  split at h
  ·injection h with h;exact h.symm
  ·split at h
   ·cases h
   ·injection h with h;exact h.symm
theorem valI_size {v:Int}{s:SI}{n:Int}{s':SI} (h7:v≠7) (h:valI v s=.ok (n,s')):s'.out.length+s'.rest.length=s.out.length+s.rest.length:=by
 unfold valI at h
 rw[if_neg h7] at h
 split at h
 ·cases h
 ·rename_i m t hr
  split at h
  ·simp only[Except.ok.injEq,Prod.mk.injEq] at h
   obtain⟨_,rfl⟩:=h
   simp[hr];omega
  ·cases h
def valI9:Val SI:=fun v s=>if 1000000≤s.out.length then .error 999 else valI v s
theorem walkI9 {id:Int}{T:Parts} (hl:lead id T=true) (last:Int) (s:SI) (hs:s.out.length+s.rest.length≤100000):walkL valI9 T last s=walkL valI T last s:=by
 have step:∀v (s:SI),s.out.length+s.rest.length≤999990→valI9 v s=valI v s:=fun v s h=>by rw[valI9,if_neg (by omega)]
 have key:∀r,no7 r=true→∀last (s:SI),s.out.length+s.rest.length≤999990→walkL valI9 r last s=walkL valI r last s:=fun r hr last s hs=>
  (walk_cond (P:=fun s:SI=>s.out.length+s.rest.length≤999990) (val:=valI9) (val':=valI) (fun v s _ h=>step v s h) (fun v s n s' h7 hp hv=>by rw[valI_size h7 hv];exact hp) r hr last s hs).1
 have grow:∀v (s:SI) n s',valI v s=.ok (n,s')→s'.out.length+s'.rest.length≤s.out.length+s.rest.length+1:=by
  intro v s n s' h
  by_cases h7:v=7
  ·subst h7
   simp only[valI,if_true,Except.ok.injEq,Prod.mk.injEq] at h
   obtain⟨_,rfl⟩:=h
   simp;omega
  ·have:=valI_size h7 h;omega
 cases T with
 | nil=>rfl
 | cons v wh l r=>
  cases l with
  | cons _ _ _ _=>simp[lead] at hl
  | nil=>
   simp only[lead] at hl
   by_cases hu:upP id=true
   ·rw[if_pos hu] at hl
    simp only[Bool.and_eq_true,decide_eq_true_eq] at hl
    obtain⟨⟨rfl,rfl⟩,hr⟩:=hl
    simp only[walkL,if_true]
    rw[step 7 s (by omega)]
    rcases hf:valI 7 s with e | ⟨n,s1⟩
    ·rfl
    ·exact key r hr n s1 (by have:=grow _ _ _ _ hf;omega)
   ·rw[if_neg hu] at hl
    cases r with
    | nil=>simp at hl
    | cons v' wh' l' r'=>
     cases l' with
     | cons _ _ _ _=>simp at hl
     | nil=>
      simp only[Bool.and_eq_true,decide_eq_true_eq] at hl
      obtain⟨⟨rfl,rfl,rfl,rfl⟩,hr⟩:=hl
      simp only[walkL,if_true]
      rw[step 6 s (by omega)]
      rcases hf:valI 6 s with e | ⟨n,s1⟩
      ·rfl
      ·have h1:=grow _ _ _ _ hf
       simp only
       rw[step 7 s1 (by omega)]
       rcases hf2:valI 7 s1 with e | ⟨n2,s2⟩
       ·rfl
       ·exact key r' hr n2 s2 (by have:=grow _ _ _ _ hf2;omega)
theorem walkI9_ok {id:Int}{T:Parts} (hl:lead id T=true) (last:Int) (s:SI) (hs:s.out.length+s.rest.length≤100000):walkL valI9 T last s≠.error 999:=by
 rw[walkI9 hl last s hs]
 intro h
 have:=walk_err (E:=fun e=>e=20) valI_err T last s 999 h
 omega
end Go.Proofs.YtpapiojicbbheaaGreatDoor

namespace Go.Proofs.YtpapiojicbbheaaGreatDoor
open Go.RowKit
abbrev Word:=ByteArray
def wO:Word:=⟨#[123]⟩
def wC:Word:=⟨#[125]⟩
def wL:Word:=⟨#[60]⟩
def wG:Word:=⟨#[62]⟩
def wE:Word:=⟨#[40,49,50]⟩
def isOpen (s:Word):Bool:=decide (s=wO∨s=wL∨s=wE)
def isClose (s:Word):Bool:=decide (s=wC∨s=wG)
def opn (wh:Int):Word:=if wh=1 then wO else if wh=2 then wL else wE
def cls (wh:Int):Word:=if wh=1 then wC else wG
def toks:Parts→List Word
  | .nil=>[]
  | .cons v wh l r=>if wh=0 then vName v.toNat::toks r else opn wh::(toks l++cls wh::toks r)
def wfT:Parts→Bool
  | .nil=>true
  | .cons v wh l r=>(if wh=0 then decide (0≤v∧v<96) else decide (wh=1∨wh=2∨wh=3)&&wfT l)&&wfT r
def closeAt:List Word→Int→Nat
  | [],_=>0
  | s::l,deep=>
   let d:=(if isOpen s then deep+1 else deep) - (if isClose s then 1 else 0)
   if d=0 then 0 else closeAt l d+1
theorem isOpen_opn {wh:Int} (h:wh=1∨wh=2∨wh=3):isOpen (opn wh)=true∧isClose (opn wh)=false:=by
 rcases h with rfl | rfl | rfl <;> constructor <;> decide
theorem isClose_cls {wh:Int} (h:wh=1∨wh=2∨wh=3):isOpen (cls wh)=false∧isClose (cls wh)=true:=by
 rcases h with rfl | rfl | rfl <;> constructor <;> decide
theorem names_plain:∀k,k<96→isOpen (vName k)=false∧isClose (vName k)=false:=by decide +kernel
theorem closeAt_toks:∀(T:Parts),wfT T=true→∀(d:Int) (rest:List Word),1≤d→closeAt (toks T++rest) d=(toks T).length+closeAt rest d:=by
 intro T
 induction T with
 | nil=>intro _ d rest _;simp[toks]
 | cons v wh l r ihl ihr=>
  intro hw d rest hd
  simp only[wfT,Bool.and_eq_true] at hw
  obtain⟨h1,h2⟩:=hw
  by_cases h0:wh=0
  ·rw[if_pos h0,decide_eq_true_iff] at h1
   obtain⟨ho,hc⟩:=names_plain v.toNat (by omega)
   simp only[toks,if_pos h0,List.cons_append,closeAt,ho,hc,Bool.false_eq_true,if_false,Int.sub_zero]
   rw[if_neg (by omega),ihr h2 d rest hd,List.length_cons]
   omega
  ·rw[if_neg h0] at h1
   simp only[Bool.and_eq_true,decide_eq_true_eq] at h1
   obtain⟨ho,hc⟩:=isOpen_opn h1.1
   obtain⟨ho2,hc2⟩:=isClose_cls h1.1
   simp only[toks,if_neg h0,List.cons_append,List.append_assoc,closeAt,ho,hc,Bool.false_eq_true,if_false,if_true,Int.sub_zero]
   rw[if_neg (by omega),ihl h1.2 (d+1) _ (by omega)]
   simp only[closeAt,ho2,hc2,Bool.false_eq_true,if_false,if_true]
   rw[show d+1 - 1=d by omega,if_neg (by omega),ihr h2 d rest hd]
   simp only[List.length_cons,List.length_append]
   omega
theorem closeAt_bracket {wh:Int}{l:Parts} (h:wh=1∨wh=2∨wh=3) (hl:wfT l=true) (rest:List Word):closeAt (opn wh::(toks l++cls wh::rest)) 0=(toks l).length+1:=by
 obtain⟨ho,hc⟩:=isOpen_opn h
 obtain⟨ho2,hc2⟩:=isClose_cls h
 simp only[closeAt,ho,hc,Bool.false_eq_true,if_false,if_true,Int.sub_zero]
 rw[if_neg (by omega),closeAt_toks l hl _ _ (by omega)]
 simp only[closeAt,ho2,hc2,Bool.false_eq_true,if_false,if_true]
 rw[if_pos (by omega)]
structure RW where
  V:List Int
  Read:Bool
  Bits:List Bool
  Out:List (Int×Int)
  Got:List Int
  E:Int
  Place:Int
def oneN (st:RW) (v:Int):Int:=if st.Read then getN st.Bits (vrow v).width else if v=7 then 0 else st.V.headD 0
def oneE (st:RW) (v:Int):Int:=if st.Read then getE st.Bits.length (vrow v).width else if v=7 then 0 else if st.V=[] then 20 else 0
def oneS (st:RW) (v:Int):RW:=if st.Read then { st with Bits:=getL st.Bits (vrow v).width } else if v=7 then st else { st with V:=st.V.tail }
def oneR (st:RW) (v:Int):Int×RW:=
  if st.E≠0 then (0,st)
  else if oneE st v≠0 then (0,{ st with E:=oneE st v })
  else if rMay v (oneN st v)=false then (0,{ oneS st v with E:=20 })
  else (oneN st v,{ oneS st v with Out:=st.Out++[(oneN st v,(vrow v).width)],Got:=if v=7∨v=5 then st.Got else st.Got++[oneN st v],Place:=if v=7 then st.Out.length else st.Place })
def iterR (f:RW→RW):Nat→RW→RW
  | 0,s=>s
  | n+1,s=>if s.E=0 then iterR f n (f s) else s
def valR:Val RW:=fun v st=>
 if oneE st v≠0 then .error (oneE st v)
 else if rMay v (oneN st v)=false then .error 20
 else .ok (oneN st v,{ oneS st v with Out:=st.Out++[(oneN st v,(vrow v).width)],Got:=if v=7∨v=5 then st.Got else st.Got++[oneN st v],Place:=if v=7 then st.Out.length else st.Place })
theorem oneS_E (st:RW) (v:Int):(oneS st v).E=st.E:=by
 unfold oneS
 split
 ·rfl
 ·split <;> rfl
def EndR:Except Int RW→RW→Prop
  | .ok st',x=>x=st'∧st'.E=0
  | .error e,x=>x.E=e∧e≠0
theorem oneR_val {st:RW} (h:st.E=0) (v:Int):(∃n st',valR v st=.ok (n,st')∧oneR st v=(n,st')∧st'.E=0)∨(∃e,valR v st=.error e∧(oneR st v).2.E=e∧e≠0):=by
 have e:oneR st v=if oneE st v≠0 then (0,{ st with E:=oneE st v })
     else if rMay v (oneN st v)=false then (0,{ oneS st v with E:=20 })
     else (oneN st v,{ oneS st v with Out:=st.Out++[(oneN st v,(vrow v).width)],Got:=if v=7∨v=5 then st.Got else st.Got++[oneN st v],Place:=if v=7 then st.Out.length else st.Place }):=by
   unfold oneR;exact if_neg (by simpa using h)
 rw[e]
 unfold valR
 by_cases h1:oneE st v≠0
 ·rw[if_pos h1,if_pos h1];exact .inr ⟨_,rfl,rfl,h1⟩
 ·rw[if_neg h1,if_neg h1]
  by_cases h2:rMay v (oneN st v)=false
  ·rw[if_pos h2,if_pos h2];exact .inr ⟨_,rfl,rfl,by decide⟩
  ·rw[if_neg h2,if_neg h2];exact .inl ⟨_,_,rfl,rfl,by show (oneS st v).E=0;rw[oneS_E];exact h⟩
theorem iterR_err {f:RW→RW}{n:Nat}{st:RW} (h:st.E≠0):iterR f n st=st:=by
 cases n with
 | zero=>rfl
 | succ n=>simp only[iterR];rw[if_neg h]
theorem iterR_walk {f:RW→RW}{g:RW→Except Int RW} (h:∀st,st.E=0→EndR (g st) (f st)):∀(n:Nat) (st:RW),st.E=0→EndR (iterE g n st) (iterR f n st):=by
 intro n
 induction n with
 | zero=>intro st hst;exact⟨rfl,hst⟩
 | succ n ih=>
  intro st hst
  simp only[iterE,iterR,if_pos hst]
  have h1:=h st hst
  cases hg:g st with
  | error e=>
   rw[hg] at h1
   simp only
   rw[iterR_err (by rw[h1.1];exact h1.2)]
   exact h1
  | ok s1=>
   rw[hg] at h1
   obtain⟨h2,h3⟩:=h1
   rw[h2]
   exact ih s1 h3
end Go.Proofs.YtpapiojicbbheaaGreatDoor

namespace Go.Proofs.YtpapiojicbbheaaGreatDoor
open Go.RowKit
theorem trace_no7 {T:Parts} (hT:no7 T=true) {last:Int}{tr t':List (Int×Int)} (h:walkL valT T last tr=.ok t'):∃a,tr=a++t'∧∀x∈a,x.1≠7:=by
 let valN:Val (List (Int×Int)):=fun v tr=>if v=7 then .error 0 else valT v tr
 have h1:=(walk_cond (P:=fun _=>True) (val:=valN) (val':=valT) (fun v s h7 _=>by show (if v=7 then _ else _)=_;rw[if_neg h7]) (fun _ _ _ _ _ _ _=>trivial) T hT last tr trivial).1
 rw[h] at h1
 refine walk_inv (I:=fun s s'=>∃a,s=a++s'∧∀x∈a,x.1≠7) (fun s=>⟨[],rfl,by simp⟩) ?_ (val:=valN) ?_ T last tr t' h1
 ·rintro a b c ⟨x,rfl,hx⟩ ⟨y,rfl,hy⟩
  refine⟨x++y,by simp,fun z hz=>?_⟩
  rcases List.mem_append.1 hz with hz | hz
  ·exact hx z hz
  ·exact hy z hz
 ·intro v s n s' hv
  by_cases h7:v=7
  ·simp[valN,h7] at hv
  ·simp only[valN,if_neg h7] at hv
   obtain⟨m,rfl,_⟩:=valT_ok hv
   exact⟨[(v,m)],rfl,by simpa using h7⟩
theorem trace_lead {id:Int}{T:Parts} (hl:lead id T=true) {tr:List (Int×Int)} (h:Mat T 0 tr) :
    (upP id=true∧∃m t,tr=(7,m)::t∧∀x∈t,x.1≠7)∨(upP id=false∧∃a m t,tr=(6,a)::(7,m)::t∧∀x∈t,x.1≠7):=by
  have g:=h []
  rw[List.append_nil] at g
  clear h
  cases T with
  | nil=>simp[lead] at hl
  | cons v wh l r=>
   cases l with
   | cons _ _ _ _=>simp[lead] at hl
   | nil=>
    simp only[lead] at hl
    by_cases hu:upP id=true
    ·rw[if_pos hu] at hl
     simp only[Bool.and_eq_true,decide_eq_true_eq] at hl
     obtain⟨⟨rfl,rfl⟩,hr⟩:=hl
     simp only[walkL,if_true] at g
     rcases hf:valT 7 tr with e | ⟨n,s1⟩
     ·rw[hf] at g;cases g
     ·rw[hf] at g
      obtain⟨m,rfl,_⟩:=valT_ok hf
      obtain⟨a,ha,ha7⟩:=trace_no7 hr g
      rw[List.append_nil] at ha
      subst ha
      exact .inl ⟨hu,m,s1,rfl,ha7⟩
    ·rw[if_neg hu] at hl
     cases r with
     | nil=>simp at hl
     | cons v' wh' l' r'=>
      cases l' with
      | cons _ _ _ _=>simp at hl
      | nil=>
       simp only[Bool.and_eq_true,decide_eq_true_eq] at hl
       obtain⟨⟨rfl,rfl,rfl,rfl⟩,hr⟩:=hl
       simp only[walkL,if_true] at g
       rcases hf:valT 6 tr with e | ⟨n,s1⟩
       ·rw[hf] at g;cases g
       ·rw[hf] at g
        obtain⟨a,rfl,_⟩:=valT_ok hf
        simp only at g
        rcases hf2:valT 7 s1 with e | ⟨n2,s2⟩
        ·rw[hf2] at g;cases g
        ·rw[hf2] at g
         obtain⟨m,rfl,_⟩:=valT_ok hf2
         obtain⟨b,hb,hb7⟩:=trace_no7 hr g
         rw[List.append_nil] at hb
         subst hb
         exact .inr ⟨by simpa using hu,a,m,s2,rfl,hb7⟩
theorem nums_len {t:List (Int×Int)} (h:∀x∈t,x.1≠7):(nums t).length=t.length:=by
 induction t with
 | nil=>rfl
 | cons x t ih=>
  obtain⟨v,n⟩:=x
  have h1:=h (v,n) (by simp)
  simp only[nums,if_neg h1,List.length_cons]
  rw[ih (fun y hy=>h y (by simp[hy]))]
theorem nums_lead {id:Int}{T:Parts} (hl:lead id T=true) {tr:List (Int×Int)} (h:Mat T 0 tr):tr.length=(nums tr).length+1:=by
 rcases trace_lead hl h with⟨_,m,t,rfl,h7⟩ | ⟨_,a,m,t,rfl,h7⟩
 ·simp[nums,nums_len h7]
 ·simp[nums,nums_len h7]
def itemsM (id:Int) (V:List Int):Except Int (List (Int×Int)):=match ptree id with
  | none=>.error 50
  | some T=>match walkL valI T 0 ⟨V,[(5,id)]⟩ with
    | .error e=>.error e
    | .ok s=>if s.rest=[] then .ok s.out else .error 20
theorem itemsM_ok {id:Int}{V:List Int}{out:List (Int×Int)} (h:itemsM id V=.ok out) :
    ∃T tr,ptree id=some T∧out=(5,id)::tr∧Mat T 0 tr∧nums tr=V∧∀x∈tr,(x.1=7∧x.2=0)∨(x.1≠7∧vMay x.1 x.2=true):=by
  unfold itemsM at h
  split at h
  ·cases h
  ·rename_i T hT
   split at h
   ·cases h
   ·rename_i s hs
    split at h
    ·rename_i hz
     injection h with h
     obtain⟨tr,⟨h1,h2,h3⟩,h4⟩:=I_trace hs
     simp only at h1 h2
     rw[hz,List.append_nil] at h2
     exact⟨T,tr,hT,by rw[←h,h1];rfl,h4,h2,h3⟩
    ·cases h
theorem itemsM_len {id:Int}{V:List Int}{out:List (Int×Int)} (h:itemsM id V=.ok out):out.length=V.length+2∧3≤out.length+(if upP id then 1 else 0):=by
 obtain⟨T,tr,hT,rfl,hM,hV,_⟩:=itemsM_ok h
 have hl:=(ptree_chk hT).2.2.1
 have h1:=nums_lead hl hM
 rw[hV] at h1
 refine⟨by simp[h1],?_⟩
 rcases trace_lead hl hM with⟨hu,m,t,rfl,h7⟩ | ⟨hu,a,m,t,rfl,h7⟩
 ·simp[hu];
 ·simp[hu]
def itemsOf (tr:List (Int×Int)):List (Int×Int):=tr.map fun x=>(x.2,vWidth x.1)
def sumW (l:List (Int×Int)):Int:=(l.map (·.2)).sum
theorem sumW_app (a b:List (Int×Int)):sumW (a++b)=sumW a+sumW b:=by simp[sumW]
theorem sumW_items (tr:List (Int×Int)):0≤sumW (itemsOf tr)∧sumW (itemsOf tr)≤32*tr.length:=by
 induction tr with
 | nil=>simp[sumW,itemsOf]
 | cons x t ih=>
  have:=vWidth_range x.1
  simp only[itemsOf,sumW,List.map_cons,List.sum_cons,List.length_cons] at ih ⊢
  omega
def atP (id:Int):Nat:=if upP id then 1 else 2
def ItemsM (id:Int) (V:List Int):Except Int (List (Int×Int)):=match itemsM id V with
  | .error e=>.error e
  | .ok out=>if 8184<sumW (itemsOf out) then .error 2 else .ok ((itemsOf out).set (atP id) (sumW (itemsOf out),13))
theorem itemsM_at {id:Int}{V:List Int}{out:List (Int×Int)} (h:itemsM id V=.ok out):out[atP id]?=some (7,0):=by
 obtain⟨T,tr,hT,rfl,hM,hV,h7⟩:=itemsM_ok h
 rcases trace_lead (ptree_chk hT).2.2.1 hM with⟨hu,m,t,rfl,_⟩ | ⟨hu,a,m,t,rfl,_⟩
 ·have:=h7 (7,m) (by simp)
  simp at this
  simp[atP,hu,this]
 ·have:=h7 (7,m) (by simp)
  simp at this
  simp[atP,hu,this]
end Go.Proofs.YtpapiojicbbheaaGreatDoor

namespace Go.Proofs.YtpapiojicbbheaaGreatDoor
open Go.RowKit
def ReadsI (T:Parts) (last:Int) (V W:List Int):Prop:=∃a b,walkL valI T last ⟨V,a⟩=.ok ⟨W,b⟩
def GoesI (T:Parts) (last:Int) (V W:List Int):Prop:=∀a,∃b,walkL valI T last ⟨V,a⟩=.ok ⟨W,b⟩
def ReadsN (T:Parts):Nat→List Int→List Int→Prop
  | 0,V,W=>V=W
  | k+1,V,W=>∃U,ReadsI T 0 V U∧ReadsN T k U W
def GoesN (T:Parts):Nat→List Int→List Int→Prop
  | 0,V,W=>V=W
  | k+1,V,W=>∃U,GoesI T 0 V U∧GoesN T k U W
theorem valI_var {v:Int} (hv:v≠7) {V:List Int}{a:List (Int×Int)}{n:Int}{s':SI} (h:valI v ⟨V,a⟩=.ok (n,s')):∃t,V=n::t∧vMay v n=true∧s'=⟨t,a++[(v,n)]⟩:=by
 unfold valI at h
 rw[if_neg hv] at h
 split at h
 ·cases h
 ·rename_i m t hr
  split at h
  ·rename_i hm
   injection h with h
   injection h with h1 h2
   subst h1
   exact⟨t,hr,hm,h2.symm⟩
  ·cases h
theorem readsI_nil {last:Int}{V W:List Int} (h:ReadsI .nil last V W):V=W:=by
 obtain⟨a,b,h⟩:=h
 unfold walkL at h
 injection h with h
 injection h
theorem readsI_var {v:Int}{l r:Parts}{last:Int}{V W:List Int} (hv:v≠7) (h:ReadsI (.cons v 0 l r) last V W):∃n t,V=n::t∧vMay v n=true∧ReadsI r n t W:=by
 obtain⟨a,b,h⟩:=h
 simp only[walkL,if_true] at h
 cases hf:valI v ⟨V,a⟩ with
 | error e=>rw[hf] at h;cases h
 | ok z=>
  obtain⟨n,s'⟩:=z
  rw[hf] at h
  obtain⟨t,h1,h2,rfl⟩:=valI_var hv hf
  exact⟨n,t,h1,h2,_,_,h⟩
theorem readsI_7 {l r:Parts}{last:Int}{V W:List Int} (h:ReadsI (.cons 7 0 l r) last V W):ReadsI r 0 V W:=by
 obtain⟨a,b,h⟩:=h
 simp only[walkL,if_true,valI] at h
 exact⟨_,_,h⟩
theorem readsI_if {v:Int}{l r:Parts}{last:Int}{V W:List Int} (h:ReadsI (.cons v 2 l r) last V W):(last=1→∃U,ReadsI l 0 V U∧ReadsI r last U W)∧(last≠1→ReadsI r last V W):=by
 obtain⟨a,b,h⟩:=h
 simp only[walkL,show ¬(2:Int)=0 by decide,show ¬(2:Int)=1 by decide,show ¬(2:Int)=3 by decide,if_false,false_and,or_false] at h
 constructor
 ·intro hl
  rw[if_pos hl] at h
  cases hf:walkL valI l 0 ⟨V,a⟩ with
  | error e=>rw[hf] at h;cases h
  | ok s=>rw[hf] at h;exact⟨s.rest,⟨a,s.out,hf⟩,⟨s.out,b,h⟩⟩
 ·intro hl
  rw[if_neg hl] at h
  exact⟨a,b,h⟩
theorem readsI_iter {T:Parts}:∀(k:Nat) (V W:List Int) (a b:List (Int×Int)),iterE (walkL valI T 0) k ⟨V,a⟩=.ok ⟨W,b⟩→ReadsN T k V W
  | 0,V,W,a,b,h=>by
   unfold iterE at h
   injection h with h
   injection h
  | k+1,V,W,a,b,h=>by
   unfold iterE at h
   cases hf:walkL valI T 0 ⟨V,a⟩ with
   | error e=>rw[hf] at h;cases h
   | ok s=>rw[hf] at h;exact⟨s.rest,⟨a,s.out,hf⟩,readsI_iter k _ _ s.out b h⟩
theorem readsI_many {v:Int}{l r:Parts}{last:Int}{V W:List Int} (h:ReadsI (.cons v 1 l r) last V W):∃U,ReadsN l last.toNat V U∧ReadsI r last U W:=by
 obtain⟨a,b,h⟩:=h
 simp only[walkL,show ¬(1:Int)=0 by decide,if_false,if_true] at h
 cases hf:iterE (walkL valI l 0) last.toNat ⟨V,a⟩ with
 | error e=>rw[hf] at h;cases h
 | ok s=>rw[hf] at h;exact⟨s.rest,readsI_iter _ _ _ _ _ hf,s.out,b,h⟩
theorem goesI_nil {last:Int}{V:List Int}:GoesI .nil last V V:=fun a=>⟨a,rfl⟩
theorem goesI_var {v:Int}{l r:Parts}{last n:Int}{t W:List Int} (hv:v≠7) (hm:vMay v n=true) (h:GoesI r n t W):GoesI (.cons v 0 l r) last (n::t) W:=by
 intro a
 obtain⟨b,h⟩:=h (a++[(v,n)])
 refine⟨b,?_⟩
 simp only[walkL,if_true,valI,if_neg hv,hm]
 exact h
theorem goesI_last {v:Int}{l r:Parts}{a b:Int}{V W:List Int} (h:GoesI (.cons v 0 l r) a V W):GoesI (.cons v 0 l r) b V W:=by
 intro s
 obtain⟨x,h⟩:=h s
 refine⟨x,?_⟩
 simp only[walkL,if_true] at h ⊢
 exact h
theorem goesI_7 {l r:Parts}{last:Int}{V W:List Int} (h:GoesI r 0 V W):GoesI (.cons 7 0 l r) last V W:=by
 intro a
 obtain⟨b,h⟩:=h (a++[(7,0)])
 refine⟨b,?_⟩
 simp only[walkL,if_true,valI]
 exact h
theorem goesI_yes {v:Int}{l r:Parts}{V U W:List Int} (h:GoesI l 0 V U) (h2:GoesI r 1 U W):GoesI (.cons v 2 l r) 1 V W:=by
 intro a
 obtain⟨b,h⟩:=h a
 obtain⟨c,h2⟩:=h2 b
 refine⟨c,?_⟩
 simp only[walkL,show ¬(2:Int)=0 by decide,show ¬(2:Int)=1 by decide,show ¬(2:Int)=3 by decide,if_false,false_and,or_false,if_true]
 rw[h]
 exact h2
theorem goesI_no {v:Int}{l r:Parts}{last:Int}{V W:List Int} (hl:last≠1) (h:GoesI r last V W):GoesI (.cons v 2 l r) last V W:=by
 intro a
 obtain⟨b,h⟩:=h a
 refine⟨b,?_⟩
 simp only[walkL,show ¬(2:Int)=0 by decide,show ¬(2:Int)=1 by decide,show ¬(2:Int)=3 by decide,if_false,false_and,or_false,if_neg hl]
 exact h
theorem goesI_iter {T:Parts}:∀(k:Nat) (V W:List Int),GoesN T k V W→∀a,∃b,iterE (walkL valI T 0) k ⟨V,a⟩=.ok ⟨W,b⟩
  | 0,V,W,h,a=>by cases h;exact⟨a,rfl⟩
  | k+1,V,W,h,a=>by
   obtain⟨U,h1,h2⟩:=h
   obtain⟨b,h1⟩:=h1 a
   obtain⟨c,h2⟩:=goesI_iter k U W h2 b
   refine⟨c,?_⟩
   unfold iterE
   rw[h1]
   exact h2
theorem goesI_many {v:Int}{l r:Parts}{last:Int}{V U W:List Int} (h:GoesN l last.toNat V U) (h2:GoesI r last U W):GoesI (.cons v 1 l r) last V W:=by
 intro a
 obtain⟨b,h⟩:=goesI_iter _ _ _ h a
 obtain⟨c,h2⟩:=h2 b
 refine⟨c,?_⟩
 simp only[walkL,show ¬(1:Int)=0 by decide,if_false,if_true]
 rw[h]
 exact h2
theorem pAuthority_eq:pAuthority=.cons 6 0 .nil (.cons 7 0 .nil (.cons 8 0 .nil (.cons 25 0 .nil (.cons 26 0 .nil (.cons 27 0 .nil (.cons 0 1 pSection (.cons 32 0 .nil (.cons 29 0 .nil (.cons 0 2 (row [30,31]) (.cons 33 0 .nil (.cons 0 2 (row [34,35])
    (.cons 36 0 .nil (.cons 0 2 (row [37,38]) (.cons 39 0 .nil (.cons 0 2 (row [40,41,42,43]) .nil))))))))))))))):=rfl
theorem pSection_eq:pSection=.cons 28 0 .nil (.cons 29 0 .nil (.cons 0 2 (row [30,31]) .nil)):=rfl
theorem pLink_eq:pLink=.cons 44 0 .nil (.cons 12 0 .nil (.cons 0 2 (row [10]) (.cons 11 0 .nil (.cons 45 0 .nil (.cons 46 0 .nil (.cons 47 0 .nil .nil)))))):=rfl
theorem pFive_eq:andP [pHead,pRepeated pLink]=.cons 6 0 .nil (.cons 7 0 .nil (.cons 8 0 .nil (.cons 44 0 .nil (.cons 12 0 .nil (.cons 0 2 (row [10]) (.cons 11 0 .nil (.cons 45 0 .nil (.cons 46 0 .nil (.cons 47 0 .nil (.cons 27 0 .nil (.cons 0 1 pLink .nil))))))))))):=rfl
theorem row_reads:∀{l:List Int}{last:Int}{V W:List Int},(∀x∈l,x≠7)→ReadsI (row l) last V W→∃U,U.length=l.length∧V=U++W
  | [],_,V,W,_,h=>⟨[],rfl,readsI_nil h⟩
  | x::l,last,V,W,hl,h=>by
   obtain⟨n,t,rfl,_,h2⟩:=readsI_var (hl x (by simp)) h
   obtain⟨U,h3,rfl⟩:=row_reads (fun y hy=>hl y (by simp[hy])) h2
   exact⟨n::U,by simp[h3],rfl⟩
def SecFit:Nat→List Int→Prop
  | 0,v=>1≤v.length∧(if v.getD 0 0=1 then 4≤v.length∧(v.getD 3 0=1→5≤v.length) else 2≤v.length∧(v.getD 1 0=1→3≤v.length))
  | k+1,v=>2≤v.length∧(v.getD 1 0=1→4≤v.length∧SecFit k (v.drop 4))
structure Fit15 (v:List Int):Prop where
  len:5≤v.length
  many:0≤v.getD 4 0∧v.getD 4 0≤31
  secs:SecFit ((v.getD 4 0).toNat+1) (v.drop 5)
theorem sec_tail {V W:List Int}{v1 v2:Int} (h1:∃U,v1=v1∧v2=v2∧ReadsI (.cons 33 0 .nil (.cons 0 2 (row [34,35]) (.cons 36 0 .nil (.cons 0 2 (row [37,38]) (.cons 39 0 .nil (.cons 0 2 (row [40,41,42,43]) .nil)))))) U V W):SecFit 0 V:=by
 obtain⟨U,_,_,h⟩:=h1
 obtain⟨n,t,rfl,_,h⟩:=readsI_var (by decide) h
 unfold SecFit
 refine⟨by simp,?_⟩
 obtain⟨ha,hb⟩:=readsI_if h
 have key:∀X,ReadsI (.cons 36 0 .nil (.cons 0 2 (row [37,38]) (.cons 39 0 .nil (.cons 0 2 (row [40,41,42,43]) .nil)))) n X W→1≤X.length∧(X.getD 0 0=1→2≤X.length):=by
  intro X hX
  obtain⟨m,s,rfl,_,hX⟩:=readsI_var (by decide) hX
  refine⟨by simp,fun hm=>?_⟩
  have hm:m=1:=hm
  obtain⟨Y,hY,_⟩:=(readsI_if hX).1 hm
  obtain⟨Z,hZ,rfl⟩:=row_reads (by decide) hY
  simp at hZ
  simp;omega
 have e0:(n::t).getD 0 0=n:=rfl
 rw[e0]
 by_cases hn:n=1
 ·rw[if_pos hn]
  obtain⟨X,hX,h2⟩:=ha hn
  obtain⟨Z,hZ,rfl⟩:=row_reads (by decide) hX
  obtain⟨k1,k2⟩:=key X h2
  obtain⟨z1,z2,rfl⟩:∃z1 z2,Z=[z1,z2]:=by
   match Z,hZ with
   | [z1,z2],_=>exact⟨z1,z2,rfl⟩
  have e3:(n::([z1,z2]++X)).getD 3 0=X.getD 0 0:=rfl
  rw[e3]
  simp only[List.length_cons,List.length_append,List.length_nil]
  exact⟨by omega,fun hm=>by have:=k2 hm;omega⟩
 ·rw[if_neg hn]
  obtain⟨k1,k2⟩:=key t (hb hn)
  have e1:(n::t).getD 1 0=t.getD 0 0:=rfl
  rw[e1]
  simp only[List.length_cons]
  exact⟨by omega,fun hm=>by have:=k2 hm;omega⟩
theorem secs_fit:∀(k:Nat) (V W:List Int),ReadsN pSection k V W→SecFit 1 W→SecFit (k+1) V
  | 0,V,W,h,h2=>by cases h;exact h2
  | k+1,V,W,h,h2=>by
   obtain⟨U,h1,h3⟩:=h
   have ih:=secs_fit k U W h3 h2
   rw[pSection_eq] at h1
   obtain⟨n,t,rfl,_,h1⟩:=readsI_var (by decide) h1
   obtain⟨q,t,rfl,_,h1⟩:=readsI_var (by decide) h1
   unfold SecFit
   refine⟨by simp,fun hq=>?_⟩
   have hq:q=1:=hq
   obtain⟨X,hX,h4⟩:=(readsI_if h1).1 hq
   obtain rfl:=readsI_nil h4
   obtain⟨Z,hZ,rfl⟩:=row_reads (by decide) hX
   obtain⟨z1,z2,rfl⟩:∃z1 z2,Z=[z1,z2]:=by
    match Z,hZ with
    | [z1,z2],_=>exact⟨z1,z2,rfl⟩
   exact⟨by simp,ih⟩
theorem items_walk17 {id:Int}{V:List Int}{l:List (Int×Int)} (h:ItemsM id V=.ok l):∃T,ptree id=some T∧ReadsI T 0 V []:=by
 unfold ItemsM at h
 cases hi:itemsM id V with
 | error e=>rw[hi] at h;cases h
 | ok out=>
  unfold itemsM at hi
  cases hp:ptree id with
  | none=>rw[hp] at hi;cases hi
  | some T=>
   rw[hp] at hi
   simp only at hi
   split at hi
   ·cases hi
   ·rename_i s hs
    split at hi
    ·rename_i hz
     exact⟨T,rfl,_,s.out,by rw[hs,←hz]⟩
    ·cases hi
theorem fit15 {V:List Int}{l:List (Int×Int)} (h:ItemsM 15 V=.ok l):Fit15 V:=by
 obtain⟨T,hT,h⟩:=items_walk17 h
 have:T=pAuthority:=by
  have e:ptree 15=some pAuthority:=rfl
  rw[e] at hT
  exact(Option.some.inj hT).symm
 subst this
 rw[pAuthority_eq] at h
 obtain⟨a,t,rfl,_,h⟩:=readsI_var (by decide) h
 have h:=readsI_7 h
 obtain⟨b,t,rfl,_,h⟩:=readsI_var (by decide) h
 obtain⟨c,t,rfl,_,h⟩:=readsI_var (by decide) h
 obtain⟨d,t,rfl,_,h⟩:=readsI_var (by decide) h
 obtain⟨n,t,rfl,hn,h⟩:=readsI_var (by decide) h
 obtain⟨U,h1,h⟩:=readsI_many h
 have hr:=vMay_range hn
 have hw:vWidth 27=5:=by decide
 rw[hw] at hr
 have hlt:n<32:=hr.2.2.2
 refine⟨by simp,⟨hr.2.2.1,?_⟩,?_⟩
 ·show n≤31;omega
 ·show SecFit (n.toNat+1) t
  refine secs_fit _ _ _ h1 ?_
  obtain⟨x,t2,rfl,_,h⟩:=readsI_var (by decide) h
  obtain⟨q,t2,rfl,_,h⟩:=readsI_var (by decide) h
  unfold SecFit
  refine⟨by simp,fun hq=>?_⟩
  have hq:q=1:=hq
  obtain⟨X,hX,h4⟩:=(readsI_if h).1 hq
  obtain⟨Z,hZ,rfl⟩:=row_reads (by decide) hX
  obtain⟨z1,z2,rfl⟩:∃z1 z2,Z=[z1,z2]:=by
   match Z,hZ with
   | [z1,z2],_=>exact⟨z1,z2,rfl⟩
  exact⟨by simp,sec_tail (v1:=0) (v2:=0) ⟨q,rfl,rfl,h4⟩⟩
def LinkFit:Nat→List Int→Prop
  | 0,_=>True
  | k+1,v=>2≤v.length∧(v.getD 1 0=1→7≤v.length∧(0≤v.getD 2 0∧v.getD 2 0<1024)∧(0≤v.getD 3 0∧v.getD 3 0<16384)∧LinkFit k (v.drop 7))
structure Fit5 (v:List Int):Prop where
  len:2≤v.length
  fst:v.getD 1 0=1→8≤v.length∧(0≤v.getD 2 0∧v.getD 2 0<1024)∧(0≤v.getD 3 0∧v.getD 3 0<16384)∧(0≤v.getD 7 0∧v.getD 7 0≤31)∧LinkFit (v.getD 7 0).toNat (v.drop 8)
theorem nid_c {n:Int} (h:vMay 10 n=true):0≤n∧n<1024:=by
 have hr:=vMay_range h
 have hw:vWidth 10=10:=by decide
 rw[hw] at hr
 exact⟨hr.2.2.1,hr.2.2.2⟩
theorem nid_bg {n:Int} (h:vMay 11 n=true):0≤n∧n<16384:=by
 have hr:=vMay_range h
 have hw:vWidth 11=14:=by decide
 rw[hw] at hr
 exact⟨hr.2.2.1,hr.2.2.2⟩
theorem links_fit:∀(k:Nat) (V W:List Int),ReadsN pLink k V W→LinkFit k V
  | 0,V,W,h=>trivial
  | k+1,V,W,h=>by
   obtain⟨U,h1,h3⟩:=h
   have ih:=links_fit k U W h3
   rw[pLink_eq] at h1
   obtain⟨d,t,rfl,_,h1⟩:=readsI_var (by decide) h1
   obtain⟨q,t,rfl,_,h1⟩:=readsI_var (by decide) h1
   unfold LinkFit
   refine⟨by simp,fun hq=>?_⟩
   have hq:q=1:=hq
   obtain⟨X,hX,h1⟩:=(readsI_if h1).1 hq
   obtain⟨c,t,rfl,hc,hX⟩:=readsI_var (by decide) hX
   obtain rfl:=readsI_nil hX
   obtain⟨b,t,rfl,hb,h1⟩:=readsI_var (by decide) h1
   obtain⟨o,t,rfl,_,h1⟩:=readsI_var (by decide) h1
   obtain⟨r,t,rfl,_,h1⟩:=readsI_var (by decide) h1
   obtain⟨a,t,rfl,_,h1⟩:=readsI_var (by decide) h1
   obtain rfl:=readsI_nil h1
   exact⟨by simp,nid_c hc,nid_bg hb,ih⟩
theorem fit5 {V:List Int}{l:List (Int×Int)} (h:ItemsM 5 V=.ok l):2≤V.length∧Fit5 (V.drop 2):=by
 obtain⟨T,hT,h⟩:=items_walk17 h
 have:T=andP [pHead,pRepeated pLink]:=by
  have e:ptree 5=some (andP [pHead,pRepeated pLink]):=rfl
  rw[e] at hT
  exact(Option.some.inj hT).symm
 subst this
 rw[pFive_eq] at h
 obtain⟨a,t,rfl,_,h⟩:=readsI_var (by decide) h
 have h:=readsI_7 h
 obtain⟨b,t,rfl,_,h⟩:=readsI_var (by decide) h
 refine⟨by simp,?_⟩
 obtain⟨d,t,rfl,_,h1⟩:=readsI_var (by decide) h
 obtain⟨q,t,rfl,_,h1⟩:=readsI_var (by decide) h1
 refine⟨by simp,fun hq=>?_⟩
 have hq:q=1:=hq
 obtain⟨X,hX,h1⟩:=(readsI_if h1).1 hq
 obtain⟨c,t,rfl,hc,hX⟩:=readsI_var (by decide) hX
 obtain rfl:=readsI_nil hX
 obtain⟨bg,t,rfl,hb,h1⟩:=readsI_var (by decide) h1
 obtain⟨o,t,rfl,_,h1⟩:=readsI_var (by decide) h1
 obtain⟨r,t,rfl,_,h1⟩:=readsI_var (by decide) h1
 obtain⟨ac,t,rfl,_,h1⟩:=readsI_var (by decide) h1
 obtain⟨n,t,rfl,hn,h1⟩:=readsI_var (by decide) h1
 obtain⟨U,h2,_⟩:=readsI_many h1
 have hr:=vMay_range hn
 have hw:vWidth 27=5:=by decide
 rw[hw] at hr
 have hlt:n<32:=hr.2.2.2
 exact⟨by simp,nid_c hc,nid_bg hb,⟨hr.2.2.1,by show n≤31;omega⟩,links_fit _ _ _ h2⟩
def badP (p:Pk):Bool:=match ItemsM p.1 p.2 with | .ok _=>false | .error _=>true
theorem goes_ok {id:Int}{T:Parts}{V:List Int} (hT:ptree id=some T) (h:GoesI T 0 V []) (hl:V.length≤250):badP (id,V)=false:=by
 obtain⟨b,hb⟩:=h [(5,id)]
 have hi:itemsM id V=.ok b:=by
  unfold itemsM
  rw[hT]
  simp only
  rw[hb]
  simp
 have h1:=(itemsM_len hi).1
 have h2:=(sumW_items b).2
 have hI:∃l,ItemsM id V=.ok l:=by
  unfold ItemsM
  rw[hi]
  simp only
  rw[if_neg (by omega)]
  exact⟨_,rfl⟩
 obtain⟨l,hI⟩:=hI
 unfold badP
 simp only[hI]
theorem may_lt {v n:Int} (m:Int) (h:vWidth v≠0∧m<((2 ^ (vWidth v).toNat:Nat):Int)∧m≤vMost v) (h0:0≤n) (h1:n≤m):vMay v n=true:=by
 unfold vMay
 rw[decide_eq_true_iff]
 exact⟨h.1,h0,by omega,.inl (by omega)⟩
theorem secN_len {u:Int}:∀(l:List Sc) (last:Int) (v:List Int),secN u last l=some v→v.length=4*l.length
  | [],last,v,h=>by
   unfold secN at h
   injection h with h
   subst h
   rfl
  | s::l,last,v,h=>by
   obtain⟨e0,h1,w,hw,rfl⟩:=secN_cons h
   have:=secN_len l _ w hw
   simp only[List.length_cons]
   omega
theorem secs_goes {u:Int} (R:List Int):∀(l:List Sc) (last:Int) (v:List Int),secN u last l=some v→0≤last→l≠[]→(∀s∈l,1≤s.2∧s.2≤1000)→∃a b,GoesN pSection (l.length - 1) (v++R) (a::1::b::0::R)∧(0≤a∧a≤32766)∧(1≤b∧b≤1000)
  | [],_,_,_,_,h,_=>absurd rfl h
  | [s],last,v,h,h0,_,ht=>by
   obtain⟨e0,h1,w,hw,rfl⟩:=secN_cons h
   obtain⟨a1,a2,a3,a4,a5⟩:=scaled_dn e0
   unfold secN at hw
   injection hw with hw
   subst hw
   exact⟨_,_,rfl,⟨by omega,by omega⟩,ht s (by simp)⟩
  | s::s'::l,last,v,h,h0,_,ht=>by
   obtain⟨e0,h1,w,hw,rfl⟩:=secN_cons h
   obtain⟨a1,a2,a3,a4,a5⟩:=scaled_dn e0
   obtain⟨a,b,g1,g2,g3⟩:=secs_goes R (s'::l) _ w hw a4 (by simp) (fun x hx=>ht x (by simp[hx]))
   have hts:=ht s (by simp)
   refine⟨a,b,⟨w++R,?_,g1⟩,g2,g3⟩
   rw[pSection_eq]
   refine goesI_var (by decide) (may_lt 32767 (by decide +kernel) (by omega) (by omega)) (goesI_var (by decide) (may_lt 1 (by decide +kernel) (by decide) (by decide)) (goesI_yes (U:=w++R) ?_ goesI_nil))
   exact goesI_var (by decide) (may_lt 1023 (by decide +kernel) (by omega) (by omega)) (goesI_var (by decide) (may_lt 32767 (by decide +kernel) (by decide) (by decide)) goesI_nil)
theorem gapN_goes {u g:Int} (hg:(scaledM g u false).2=0):GoesI (.cons 36 0 .nil (.cons 0 2 (row [37,38]) (.cons 39 0 .nil (.cons 0 2 (row [40,41,42,43]) .nil)))) 0 (gapN u g) []:=by
 obtain⟨a1,a2,a3,a4,a5⟩:=scaled_dn hg
 unfold gapN
 split
 ·refine goesI_var (by decide) (may_lt 1 (by decide +kernel) (by decide) (by decide)) (goesI_yes (U:=[0]) ?_ ?_)
  ·exact goesI_var (by decide) (may_lt 32767 (by decide +kernel) (by omega) (by omega)) (goesI_var (by decide) (may_lt 120 (by decide +kernel) (by decide) (by decide)) goesI_nil)
  ·exact goesI_var (by decide) (may_lt 1 (by decide +kernel) (by decide) (by decide)) (goesI_no (by decide) goesI_nil)
 ·exact goesI_var (by decide) (may_lt 1 (by decide +kernel) (by decide) (by decide)) (goesI_no (by decide) (goesI_var (by decide) (may_lt 1 (by decide +kernel) (by decide) (by decide)) (goesI_no (by decide) goesI_nil)))
theorem nom_range (r:Bool):0≤nomI r∧nomI r≤1:=by cases r <;> simp[nomI]
theorem bad15 {u:Int}{rev:Bool}{S:List Sc}{g:Int} (h1:1≤S.length) (h8:S.length≤8) (ht:∀s∈S,1≤s.2∧s.2≤1000) (hu0:0≤u) (hu2:u≤2) {v:List Int} (hv:secN u 0 S=some v) (hg:(scaledM g u false).2=0):badP (15,[nomI rev,u,0,0,(S.length:Int) - 1]++v++[0]++gapN u g)=false:=by
 have hl:=secN_len S 0 v hv
 have hn:=nom_range rev
 refine goes_ok (T:=pAuthority) rfl ?_ ?_
 ·rw[pAuthority_eq]
  obtain⟨a,b,g1,g2,g3⟩:=secs_goes ([0]++gapN u g) S 0 v hv (Int.le_refl _) (fun e=>by rw[e] at h1;simp at h1) ht
  simp only[List.cons_append,List.nil_append,List.append_assoc] at g1 ⊢
  refine goesI_var (by decide) (may_lt 2 (by decide +kernel) (by omega) (by omega)) (goesI_7 (goesI_var (by decide) (may_lt 2 (by decide +kernel) hu0 hu2) (goesI_var (by decide) (may_lt 0 (by decide +kernel) (by decide) (by decide)) (goesI_var (by decide) (may_lt 0 (by decide +kernel) (by decide) (by decide))
    (goesI_var (by decide) (may_lt 31 (by decide +kernel) (by omega) (by omega)) (goesI_many (U:=a::1::b::0::0::gapN u g) ?_ ?_))))))
  ·rw[show ((S.length:Int) - 1).toNat=S.length - 1 by omega];exact g1
  ·refine goesI_var (by decide) (may_lt 32767 (by decide +kernel) (by omega) (by omega)) (goesI_var (by decide) (may_lt 1 (by decide +kernel) (by decide) (by decide)) (goesI_yes (U:=0::gapN u g) ?_ ?_))
   ·exact goesI_var (by decide) (may_lt 1023 (by decide +kernel) (by omega) (by omega)) (goesI_var (by decide) (may_lt 32767 (by decide +kernel) (by decide) (by decide)) goesI_nil)
   ·exact goesI_var (by decide) (may_lt 1 (by decide +kernel) (by decide) (by decide)) (goesI_no (by decide) (gapN_goes hg))
 ·have:(gapN u g).length≤4:=by unfold gapN;split <;> simp
  simp only[List.length_append,List.length_cons,List.length_nil,hl]
  omega
theorem link_goes {x:Int}{b:Bl}{r:Bool} (hx0:0≤x) (hx:x≤32766) (hb0:0≤b.1) (hb:b.1≤16777214) {T:Parts}{R W:List Int} (h:GoesI T 12 R W) :
    GoesI (.cons 44 0 .nil (.cons 12 0 .nil (.cons 0 2 (row [10]) (.cons 11 0 .nil (.cons 45 0 .nil (.cons 46 0 .nil (.cons 47 0 .nil T))))))) 0 ([x,1,b.1 / 16384,b.1 % 16384,nomI r,2,12]++R) W:=by
  have hn:=nom_range r
  refine goesI_var (by decide) (may_lt 32767 (by decide +kernel) (by omega) (by omega)) (goesI_var (by decide) (may_lt 1 (by decide +kernel) (by decide) (by decide)) (goesI_yes (U:=[b.1 % 16384,nomI r,2,12]++R) ?_ ?_))
  ·exact goesI_var (by decide) (may_lt 1023 (by decide +kernel) (by omega) (by omega)) goesI_nil
  ·exact goesI_var (by decide) (may_lt 16383 (by decide +kernel) (by omega) (by omega)) (goesI_var (by decide) (may_lt 1 (by decide +kernel) (by omega) (by omega)) (goesI_var (by decide) (may_lt 2 (by decide +kernel) (by decide) (by decide)) (goesI_var (by decide) (may_lt 63 (by decide +kernel) (by decide) (by decide)) h)))
theorem links_goes {t:Tp} (hc:checkM t=0) {u:Int}{n:Nat}:∀(l:List Stp) (i:Nat) (begin_ at_:Int) (w:List Int),2≤i→linkN t u n i begin_ at_ l=.ok w→∃w',w=(if i=2∧l≠[] then [(n:Int) - 2] else [])++w'∧GoesN pLink l.length w' []∧w'.length=7*l.length
  | [],i,begin_,at_,w,hi,hw=>by
   unfold linkN at hw
   injection hw with hw
   subst hw
   exact⟨[],by simp,rfl,rfl⟩
  | s::l,i,begin_,at_,w,hi,hw=>by
   obtain⟨b,v,hb,hz,hv,rfl⟩:=linkN_cons hw
   obtain⟨v',e,hr,hl⟩:=links_goes hc l (i+1) _ _ v (by omega) hv
   rw[if_neg (by omega)] at e
   simp only[List.nil_append] at e
   subst e
   obtain⟨c1,c2,_⟩:=check_bal hc (firstB_some hb).1
   obtain⟨a1,a2,a3,a4,a5⟩:=scaled_dn hz
   refine⟨_,by rw[List.append_assoc];congr 1;by_cases h2:i=2 <;> simp[h2],⟨v,?_,hr⟩,?_⟩
   ·rw[pLink_eq]
    exact link_goes (by omega) (by omega) c1 c2 goesI_nil
   ·simp only[List.length_append,List.length_cons,List.length_nil,hl]
    omega
theorem bad5 {t:Tp} (hc:checkM t=0) {u:Int} (hu0:0≤u) (hu2:u≤2) {rev:Bool}{s0 s1:Stp}{l:List Stp}{begin_ at_:Int}{w:List Int} (h24:(s0::s1::l).length≤24) (hw:linkN t u (s0::s1::l).length 1 begin_ at_ (s1::l)=.ok w) :
    badP (5,[nomI rev,u]++w++(if l=[] then [0] else []))=false:=by
  obtain⟨b,v,hb,hz,hv,rfl⟩:=linkN_cons hw
  obtain⟨v',e,hr,hl⟩:=links_goes hc l 2 _ _ v (Nat.le_refl _) hv
  subst e
  obtain⟨c1,c2,_⟩:=check_bal hc (firstB_some hb).1
  obtain⟨a1,a2,a3,a4,a5⟩:=scaled_dn hz
  have hn:=nom_range rev
  generalize (scaledM (begin_+alongP t (b.2.1,b.2.2,s1.2) - at_) u false).1=x at *
  have e0:[nomI rev,u]++((if 1=2 then [((s0::s1::l).length:Int) - 2] else [])++[x,1,b.1 / 16384,b.1 % 16384,nomI s1.2,2,12]++((if 2=2∧l≠[] then [((s0::s1::l).length:Int) - 2] else [])++v'))++(if l=[] then [0] else []) =
      nomI rev::u::([x,1,b.1 / 16384,b.1 % 16384,nomI s1.2,2,12]++((l.length:Int)::v')):=by
    cases l with
    | nil=>
     have:v'=[]:=List.length_eq_zero_iff.1 (by rw[hl];rfl)
     subst this
     simp
    | cons s2 l=>simp;omega
  rw[e0]
  refine goes_ok (T:=andP [pHead,pRepeated pLink]) rfl ?_ ?_
  ·rw[pFive_eq]
   simp only[List.length_cons] at h24
   refine goesI_var (by decide) (may_lt 2 (by decide +kernel) (by omega) (by omega)) (goesI_7 (goesI_var (by decide) (may_lt 2 (by decide +kernel) hu0 hu2) ?_))
   have hrest:GoesI (.cons 27 0 .nil (.cons 0 1 pLink .nil)) 12 ((l.length:Int)::v') []:=goesI_var (by decide) (may_lt 31 (by decide +kernel) (by omega) (by omega)) (goesI_many (U:=[]) (by rw[Int.toNat_natCast];exact hr) goesI_nil)
   exact goesI_last (link_goes (x:=x) (b:=b) (r:=s1.2) (by omega) (by omega) c1 c2 hrest)
  ·simp only[List.length_cons] at h24
   simp only[List.length_append,List.length_cons,List.length_nil,hl]
   omega
theorem packs_good {t:Tp}{m:Ma}{l:List Pk} (h:packsM17 t m=.ok l):l.any badP=false:=by
 obtain⟨z,v,hz,hu0,hv,hl⟩:=packs_ok h
 have hbest:=best_ok hu0
 have hg:=scaled_less (e:=m.2.2.2.2) hbest.1 hz.gap0 (by have:=hz.sects.pos (j:=m.2.2.2.1.length) (Nat.le_refl _);rw[List.take_length] at this;omega)
 have h15:=bad15 (rev:=m.2.1) hz.some_ hz.eight hz.sects.time hu0 hbest.2 hv hg.1
 rcases hl with⟨s0,e1,rfl⟩ | ⟨s0,s1,r,b,w,e1,hw,rfl⟩
 ·simp only[List.any_cons,List.any_nil,h15,Bool.or_false]
 ·have h24:=hz.few
  rw[e1] at hw h24
  have h5:=bad5 hz.chk hu0 hbest.2 (rev:=m.2.1) h24 hw
  simp only[List.any_cons,List.any_nil,h15,h5,Bool.or_false]
end Go.Proofs.YtpapiojicbbheaaGreatDoor

namespace Go.Proofs.YtpapiojicbbheaaGreatDoor
open Go.RowKit
abbrev psV (p:Ps):Value:=.agg #[.int .i64 p.1,.int .i64 p.2.1,.bool p.2.2]
theorem edge_at {w:World}{B:Nat}{x:TA}{t:Tp}{e:Int} (h:TpAt w B x t) (h0:0≤e) (h1:e<(x.ne:Int)):∃ad k v,x.Ae=some ad∧e=((k:Nat):Int)∧k<x.ne∧w.cell? (ad.add k)=some (.int .i64 v)∧edgeM t e=v:=by
 obtain⟨k,rfl⟩:∃k:Nat,e=k:=⟨e.toNat,by omega⟩
 have hl:=h.e.len
 obtain⟨ad,v,hA,hb,hv,hc⟩:=(int_rd h.e).at1 (show k<x.ne by omega)
 refine⟨ad,k,v,hA,rfl,by omega,hc,?_⟩
 unfold edgeM
 rw[show ((k:Nat):Int).toNat=k by omega,List.getD_eq_getElem?_getD,hv];rfl
set_option maxHeartbeats 4000000 in
set_option maxRecDepth 100000 in
theorem pright_any (x:TA) (t:Tp) (B:Nat) (e a:Int) (r:Bool) (w:World) (h:TpAt w B x t) (hs:TpSmall x t) (hB:B≤w.heap.size) :
    Calls Tryz.prog 137 #[.agg x.cs,.agg #[.int .i64 e,.int .i64 a,.bool r]] w fun en w'=>en=.returned (.bool (rightB t (e,a,r)))∧Keep Never w w':=by
  have HCh:=qh (fun (W:World) (hk:Keep Never w W)=>check_any x t B W (h.keep hk) hs (Nat.le_trans hB hk.size))
  have HE:=qh h
  have HEl:Hid (x.ne=t.1.length):=qh h.e.len
  have HED:=qh (fun (W:World) (hk:Keep Never w W) (i:Int) (h0:0≤i) (h1:i<(x.ne:Int))=>edge_at (h.keep hk) h0 h1)
  obtain⟨Ae,ne,ce,Aj,nj,cj,Ab,nb,cb,Ar,nr,cr⟩:=x
  simp only[TA.cs] at HCh HEl HED ⊢
  clear h hs hB HE
  have HR:Hid (rightB t (e,a,r)=(decide (checkM t=0)&&(decide (0≤e)&&decide (e<(ne:Int)))&&decide (0≤a)&&decide (a≤edgeM t e))):=qh (by rw[HEl.out];rfl)
  obtain⟨ck,hck⟩:∃z,checkM t=z:=⟨_,rfl⟩
  rw[hck] at HR HCh
  clear hck
  obtain⟨w1,hw1⟩:∃V:World,w.alloc (.cells #[.slice Ae ne ce,.slice Aj nj cj,.slice Ab nb cb,.slice Ar nr cr] 27)=V:=⟨_,rfl⟩
  have zw1:w1.heap.size=w.heap.size+1:=by rw[←hw1];simp
  have kw1:Keep Never w w1:=by rw[←hw1];exact(Keep.refl _ _).alloc _
  have bw1:=Blk.new w 27 #[.slice Ae ne ce,.slice Aj nj cj,.slice Ab nb cb,.slice Ar nr cr]
  rw[hw1] at bw1
  obtain⟨w2,hw2⟩:∃V:World,w1.alloc (.cells #[.int .i64 e,.int .i64 a,.bool r] 71)=V:=⟨_,rfl⟩
  have kw2:Keep Never w1 w2:=by rw[←hw2];exact(Keep.refl _ _).alloc _
  have bw2:=Blk.new w1 71 #[.int .i64 e,.int .i64 a,.bool r]
  rw[hw2,zw1] at bw2
  have HB1:=qh (bw1.keep kw2 (fun h=>h))
  have HB2:=qh bw2
  have HK:=qh (kw1.trans kw2)
  clear kw1 kw2 bw1 bw2
  have HC:=qh (fun (W:World) (hk:Keep Never w2 W)=>HCh.out W (HK.out.trans hk))
  clear HCh
  by_cases g0:ck=0
  case neg=>
   have t0:(ck==0)=false:=by simpa using g0
   have HF:Hid (rightB t (e,a,r)=false):=qh (by rw[HR.out,decide_eq_false g0];rfl)
   clear g0
   obtain⟨y0,y1,y2,y3⟩:=bc4 HB1.out
   obtain⟨q0,q1,q2⟩:=bc3 HB2.out
   have HS2:Hid (∀W',Keep Never w2 W'→Keep Never w2 W'∧W'.cell? ⟨w.heap.size,0,none⟩=some (.slice Ae ne ce)∧W'.cell? ⟨w.heap.size,1,none⟩=some (.slice Aj nj cj)∧W'.cell? ⟨w.heap.size,2,none⟩=some (.slice Ab nb cb)∧W'.cell? ⟨w.heap.size,3,none⟩=some (.slice Ar nr cr)∧W'.cell? ⟨w.heap.size+1,0,none⟩=some (.int .i64 e)∧W'.cell? ⟨w.heap.size+1,1,none⟩=some (.int .i64 a)∧W'.cell? ⟨w.heap.size+1,2,none⟩=some (.bool r)):=qh (fun W' h=>⟨h,keepT h y0,keepT h y1,keepT h y2,keepT h y3,keepT h q0,keepT h q1,keepT h q2⟩)
   go_enter Tryz.func137, Tryz.ntmps137
   go_wp2_with fail
   clear y0 y1 y2 y3 q0 q1 q2
   refine wp_region_noPanic ?_
   refine wp_region_held_drew (S:=(fun W'=>Keep Never w2 W'∧W'.cell? ⟨w.heap.size,0,none⟩=some (.slice Ae ne ce)∧W'.cell? ⟨w.heap.size,1,none⟩=some (.slice Aj nj cj)∧W'.cell? ⟨w.heap.size,2,none⟩=some (.slice Ab nb cb)∧W'.cell? ⟨w.heap.size,3,none⟩=some (.slice Ar nr cr)∧W'.cell? ⟨w.heap.size+1,0,none⟩=some (.int .i64 e)∧W'.cell? ⟨w.heap.size+1,1,none⟩=some (.int .i64 a)∧W'.cell? ⟨w.heap.size+1,2,none⟩=some (.bool r))) (by kernel_rfl) ?_ (fun hHeld=>?_)
   ·exact HS2.out _ ((Keep.refl Never w2).drew)
   refine qT 0 ?_
   try simp only[qy]
   refine wpAnyH_ready (rs:=[1]) (by kernel_rfl) (by simp) ?_
   refine AllReadyH.cons (o:=?_) ?_ (fun K hK=>?_) AllReadyH.nil
   rotate_left 1
   ·(simp only[qz];rfl)
   go_simp
   refine(HC.out _ hHeld.1).mono ?_;rintro en w3 ⟨rfl,hk3⟩
   (try go_wp2_with fail)
   refine hK.out _ _ ?_ (fun hHeld=>?_)
   ·(try dsimp only);exact HS2.out _ (hHeld.1.trans hk3)
   clear hK K
   try simp only[qy]
   refine qT 2 ?_
   try simp only[qy]
   refine qT 3 ?_
   try simp only[qy]
   refine qU 4 ?_
   try simp only[qy]
   refine qU 5 ?_
   try simp only[qy]
   refine qU 6 ?_
   try simp only[qy]
   refine qT 7 ?_
   try simp only[qy]
   refine qT 8 ?_
   try simp only[qy]
   refine qU 9 ?_
   try simp only[qy]
   refine qU 10 ?_
   try simp only[qy]
   refine qU 11 ?_
   try simp only[qy]
   refine qU 12 ?_
   try simp only[qy]
   refine qU 13 ?_
   try simp only[qy]
   refine qU 14 ?_
   try simp only[qy]
   refine qT 15 ?_
   try simp only[qy]
   refine qT 16 ?_
   try simp only[qy]
   refine qU 17 ?_
   try simp only[qy]
   refine qU 18 ?_
   try simp only[qy]
   refine qU 19 ?_
   try simp only[qy]
   refine qT 20 ?_
   try simp only[qy]
   refine qT 21 ?_
   try simp only[qy]
   refine qU 22 ?_
   try simp only[qy]
   refine qU 23 ?_
   try simp only[qy]
   refine qU 24 ?_
   try simp only[qy]
   refine qU 25 ?_
   try simp only[qy]
   refine qU 26 ?_
   try simp only[qy]
   refine qU 27 ?_
   try simp only[qy]
   refine qU 28 ?_
   try simp only[qy]
   refine qU 29 ?_
   try simp only[qy]
   refine qU 30 ?_
   try simp only[qy]
   refine qT 31 ?_
   try simp only[qy]
   refine qT 32 ?_
   try simp only[qy]
   refine wpAnyH_done (by kernel_rfl) ?_ _
   refine NoPanic.normal ?_
   have hS:=hHeld
   have HKz:=qh (HK.out.trans hS.1)
   clear hS hHeld
   go_wp2_with fail
   go_ret
   exact⟨by rw[HF.out];rfl,HKz.out⟩
  have t0:(ck==0)=true:=by simpa using g0
  by_cases g1:0≤e
  case neg=>
   have t1:decide (e≥0)=false:=by simpa using g1
   have HF:Hid (rightB t (e,a,r)=false):=qh (by rw[HR.out,decide_eq_false g1];simp)
   clear g0 g1
   obtain⟨y0,y1,y2,y3⟩:=bc4 HB1.out
   obtain⟨q0,q1,q2⟩:=bc3 HB2.out
   have HS2:Hid (∀W',Keep Never w2 W'→Keep Never w2 W'∧W'.cell? ⟨w.heap.size,0,none⟩=some (.slice Ae ne ce)∧W'.cell? ⟨w.heap.size,1,none⟩=some (.slice Aj nj cj)∧W'.cell? ⟨w.heap.size,2,none⟩=some (.slice Ab nb cb)∧W'.cell? ⟨w.heap.size,3,none⟩=some (.slice Ar nr cr)∧W'.cell? ⟨w.heap.size+1,0,none⟩=some (.int .i64 e)∧W'.cell? ⟨w.heap.size+1,1,none⟩=some (.int .i64 a)∧W'.cell? ⟨w.heap.size+1,2,none⟩=some (.bool r)):=qh (fun W' h=>⟨h,keepT h y0,keepT h y1,keepT h y2,keepT h y3,keepT h q0,keepT h q1,keepT h q2⟩)
   go_enter Tryz.func137, Tryz.ntmps137
   go_wp2_with fail
   clear y0 y1 y2 y3 q0 q1 q2
   refine wp_region_noPanic ?_
   refine wp_region_held_drew (S:=(fun W'=>Keep Never w2 W'∧W'.cell? ⟨w.heap.size,0,none⟩=some (.slice Ae ne ce)∧W'.cell? ⟨w.heap.size,1,none⟩=some (.slice Aj nj cj)∧W'.cell? ⟨w.heap.size,2,none⟩=some (.slice Ab nb cb)∧W'.cell? ⟨w.heap.size,3,none⟩=some (.slice Ar nr cr)∧W'.cell? ⟨w.heap.size+1,0,none⟩=some (.int .i64 e)∧W'.cell? ⟨w.heap.size+1,1,none⟩=some (.int .i64 a)∧W'.cell? ⟨w.heap.size+1,2,none⟩=some (.bool r))) (by kernel_rfl) ?_ (fun hHeld=>?_)
   ·exact HS2.out _ ((Keep.refl Never w2).drew)
   refine qT 0 ?_
   try simp only[qy]
   refine wpAnyH_ready (rs:=[1]) (by kernel_rfl) (by simp) ?_
   refine AllReadyH.cons (o:=?_) ?_ (fun K hK=>?_) AllReadyH.nil
   rotate_left 1
   ·(simp only[qz];rfl)
   go_simp
   refine(HC.out _ hHeld.1).mono ?_;rintro en w3 ⟨rfl,hk3⟩
   (try go_wp2_with fail)
   refine hK.out _ _ ?_ (fun hHeld=>?_)
   ·(try dsimp only);exact HS2.out _ (hHeld.1.trans hk3)
   clear hK K
   try simp only[qy]
   refine qT 2 ?_
   try simp only[qy]
   refine qT 3 ?_
   try simp only[qy]
   refine qT 4 ?_
   try simp only[qy]
   refine qT 5 ?_
   try simp only[qy]
   refine qT 6 ?_
   try simp only[qy]
   refine qT 7 ?_
   try simp only[qy]
   refine qT 8 ?_
   try simp only[qy]
   refine qU 9 ?_
   try simp only[qy]
   refine qU 10 ?_
   try simp only[qy]
   refine qU 11 ?_
   try simp only[qy]
   refine qU 12 ?_
   try simp only[qy]
   refine qU 13 ?_
   try simp only[qy]
   refine qU 14 ?_
   try simp only[qy]
   refine qT 15 ?_
   try simp only[qy]
   refine qT 16 ?_
   try simp only[qy]
   refine qU 17 ?_
   try simp only[qy]
   refine qU 18 ?_
   try simp only[qy]
   refine qU 19 ?_
   try simp only[qy]
   refine qT 20 ?_
   try simp only[qy]
   refine qT 21 ?_
   try simp only[qy]
   refine qU 22 ?_
   try simp only[qy]
   refine qU 23 ?_
   try simp only[qy]
   refine qU 24 ?_
   try simp only[qy]
   refine qU 25 ?_
   try simp only[qy]
   refine qU 26 ?_
   try simp only[qy]
   refine qU 27 ?_
   try simp only[qy]
   refine qU 28 ?_
   try simp only[qy]
   refine qU 29 ?_
   try simp only[qy]
   refine qU 30 ?_
   try simp only[qy]
   refine qT 31 ?_
   try simp only[qy]
   refine qT 32 ?_
   try simp only[qy]
   refine wpAnyH_done (by kernel_rfl) ?_ _
   refine NoPanic.normal ?_
   have hS:=hHeld
   have HKz:=qh (HK.out.trans hS.1)
   clear hS hHeld
   go_wp2_with fail
   go_ret
   exact⟨by rw[HF.out];rfl,HKz.out⟩
  have t1:decide (e≥0)=true:=by simpa using g1
  by_cases g2:e<(ne:Int)
  case neg=>
   have t2:decide (e<(ne:Int))=false:=by simpa using g2
   have HF:Hid (rightB t (e,a,r)=false):=qh (by rw[HR.out,decide_eq_false g2];simp)
   clear g0 g1 g2
   obtain⟨y0,y1,y2,y3⟩:=bc4 HB1.out
   obtain⟨q0,q1,q2⟩:=bc3 HB2.out
   have HS2:Hid (∀W',Keep Never w2 W'→Keep Never w2 W'∧W'.cell? ⟨w.heap.size,0,none⟩=some (.slice Ae ne ce)∧W'.cell? ⟨w.heap.size,1,none⟩=some (.slice Aj nj cj)∧W'.cell? ⟨w.heap.size,2,none⟩=some (.slice Ab nb cb)∧W'.cell? ⟨w.heap.size,3,none⟩=some (.slice Ar nr cr)∧W'.cell? ⟨w.heap.size+1,0,none⟩=some (.int .i64 e)∧W'.cell? ⟨w.heap.size+1,1,none⟩=some (.int .i64 a)∧W'.cell? ⟨w.heap.size+1,2,none⟩=some (.bool r)):=qh (fun W' h=>⟨h,keepT h y0,keepT h y1,keepT h y2,keepT h y3,keepT h q0,keepT h q1,keepT h q2⟩)
   go_enter Tryz.func137, Tryz.ntmps137
   go_wp2_with fail
   clear y0 y1 y2 y3 q0 q1 q2
   refine wp_region_noPanic ?_
   refine wp_region_held_drew (S:=(fun W'=>Keep Never w2 W'∧W'.cell? ⟨w.heap.size,0,none⟩=some (.slice Ae ne ce)∧W'.cell? ⟨w.heap.size,1,none⟩=some (.slice Aj nj cj)∧W'.cell? ⟨w.heap.size,2,none⟩=some (.slice Ab nb cb)∧W'.cell? ⟨w.heap.size,3,none⟩=some (.slice Ar nr cr)∧W'.cell? ⟨w.heap.size+1,0,none⟩=some (.int .i64 e)∧W'.cell? ⟨w.heap.size+1,1,none⟩=some (.int .i64 a)∧W'.cell? ⟨w.heap.size+1,2,none⟩=some (.bool r))) (by kernel_rfl) ?_ (fun hHeld=>?_)
   ·exact HS2.out _ ((Keep.refl Never w2).drew)
   refine qT 0 ?_
   try simp only[qy]
   refine wpAnyH_ready (rs:=[1]) (by kernel_rfl) (by simp) ?_
   refine AllReadyH.cons (o:=?_) ?_ (fun K hK=>?_) AllReadyH.nil
   rotate_left 1
   ·(simp only[qz];rfl)
   go_simp
   refine(HC.out _ hHeld.1).mono ?_;rintro en w3 ⟨rfl,hk3⟩
   (try go_wp2_with fail)
   refine hK.out _ _ ?_ (fun hHeld=>?_)
   ·(try dsimp only);exact HS2.out _ (hHeld.1.trans hk3)
   clear hK K
   try simp only[qy]
   refine qT 2 ?_
   try simp only[qy]
   refine qT 3 ?_
   try simp only[qy]
   refine qT 4 ?_
   try simp only[qy]
   refine qT 5 ?_
   try simp only[qy]
   refine qT 6 ?_
   try simp only[qy]
   refine qT 7 ?_
   try simp only[qy]
   refine qT 8 ?_
   try simp only[qy]
   refine qT 9 ?_
   try simp only[qy]
   refine qT 10 ?_
   try simp only[qy]
   refine qT 11 ?_
   try simp only[qy]
   refine qT 12 ?_
   try simp only[qy]
   refine qT 13 ?_
   try simp only[qy]
   refine qT 14 ?_
   try simp only[qy]
   refine qT 15 ?_
   try simp only[qy]
   refine qT 16 ?_
   try simp only[qy]
   refine qU 17 ?_
   try simp only[qy]
   refine qU 18 ?_
   try simp only[qy]
   refine qU 19 ?_
   try simp only[qy]
   refine qT 20 ?_
   try simp only[qy]
   refine qT 21 ?_
   try simp only[qy]
   refine qU 22 ?_
   try simp only[qy]
   refine qU 23 ?_
   try simp only[qy]
   refine qU 24 ?_
   try simp only[qy]
   refine qU 25 ?_
   try simp only[qy]
   refine qU 26 ?_
   try simp only[qy]
   refine qU 27 ?_
   try simp only[qy]
   refine qU 28 ?_
   try simp only[qy]
   refine qU 29 ?_
   try simp only[qy]
   refine qU 30 ?_
   try simp only[qy]
   refine qT 31 ?_
   try simp only[qy]
   refine qT 32 ?_
   try simp only[qy]
   refine wpAnyH_done (by kernel_rfl) ?_ _
   refine NoPanic.normal ?_
   have hS:=hHeld
   have HKz:=qh (HK.out.trans hS.1)
   clear hS hHeld
   go_wp2_with fail
   go_ret
   exact⟨by rw[HF.out];rfl,HKz.out⟩
  have t2:decide (e<(ne:Int))=true:=by simpa using g2
  by_cases g3:0≤a
  case neg=>
   have t3:decide (a≥0)=false:=by simpa using g3
   have HF:Hid (rightB t (e,a,r)=false):=qh (by rw[HR.out,decide_eq_false g3];simp)
   clear g0 g1 g2 g3
   obtain⟨y0,y1,y2,y3⟩:=bc4 HB1.out
   obtain⟨q0,q1,q2⟩:=bc3 HB2.out
   have HS2:Hid (∀W',Keep Never w2 W'→Keep Never w2 W'∧W'.cell? ⟨w.heap.size,0,none⟩=some (.slice Ae ne ce)∧W'.cell? ⟨w.heap.size,1,none⟩=some (.slice Aj nj cj)∧W'.cell? ⟨w.heap.size,2,none⟩=some (.slice Ab nb cb)∧W'.cell? ⟨w.heap.size,3,none⟩=some (.slice Ar nr cr)∧W'.cell? ⟨w.heap.size+1,0,none⟩=some (.int .i64 e)∧W'.cell? ⟨w.heap.size+1,1,none⟩=some (.int .i64 a)∧W'.cell? ⟨w.heap.size+1,2,none⟩=some (.bool r)):=qh (fun W' h=>⟨h,keepT h y0,keepT h y1,keepT h y2,keepT h y3,keepT h q0,keepT h q1,keepT h q2⟩)
   go_enter Tryz.func137, Tryz.ntmps137
   go_wp2_with fail
   clear y0 y1 y2 y3 q0 q1 q2
   refine wp_region_noPanic ?_
   refine wp_region_held_drew (S:=(fun W'=>Keep Never w2 W'∧W'.cell? ⟨w.heap.size,0,none⟩=some (.slice Ae ne ce)∧W'.cell? ⟨w.heap.size,1,none⟩=some (.slice Aj nj cj)∧W'.cell? ⟨w.heap.size,2,none⟩=some (.slice Ab nb cb)∧W'.cell? ⟨w.heap.size,3,none⟩=some (.slice Ar nr cr)∧W'.cell? ⟨w.heap.size+1,0,none⟩=some (.int .i64 e)∧W'.cell? ⟨w.heap.size+1,1,none⟩=some (.int .i64 a)∧W'.cell? ⟨w.heap.size+1,2,none⟩=some (.bool r))) (by kernel_rfl) ?_ (fun hHeld=>?_)
   ·exact HS2.out _ ((Keep.refl Never w2).drew)
   refine qT 0 ?_
   try simp only[qy]
   refine wpAnyH_ready (rs:=[1]) (by kernel_rfl) (by simp) ?_
   refine AllReadyH.cons (o:=?_) ?_ (fun K hK=>?_) AllReadyH.nil
   rotate_left 1
   ·(simp only[qz];rfl)
   go_simp
   refine(HC.out _ hHeld.1).mono ?_;rintro en w3 ⟨rfl,hk3⟩
   (try go_wp2_with fail)
   refine hK.out _ _ ?_ (fun hHeld=>?_)
   ·(try dsimp only);exact HS2.out _ (hHeld.1.trans hk3)
   clear hK K
   try simp only[qy]
   refine qT 2 ?_
   try simp only[qy]
   refine qT 3 ?_
   try simp only[qy]
   refine qT 4 ?_
   try simp only[qy]
   refine qT 5 ?_
   try simp only[qy]
   refine qT 6 ?_
   try simp only[qy]
   refine qT 7 ?_
   try simp only[qy]
   refine qT 8 ?_
   try simp only[qy]
   refine qT 9 ?_
   try simp only[qy]
   refine qT 10 ?_
   try simp only[qy]
   refine qT 11 ?_
   try simp only[qy]
   refine qT 12 ?_
   try simp only[qy]
   refine qT 13 ?_
   try simp only[qy]
   refine qT 14 ?_
   try simp only[qy]
   refine qT 15 ?_
   try simp only[qy]
   refine qT 16 ?_
   try simp only[qy]
   refine qT 17 ?_
   try simp only[qy]
   refine qT 18 ?_
   try simp only[qy]
   refine qT 19 ?_
   try simp only[qy]
   refine qT 20 ?_
   try simp only[qy]
   refine qT 21 ?_
   try simp only[qy]
   refine qU 22 ?_
   try simp only[qy]
   refine qU 23 ?_
   try simp only[qy]
   refine qU 24 ?_
   try simp only[qy]
   refine qU 25 ?_
   try simp only[qy]
   refine qU 26 ?_
   try simp only[qy]
   refine qU 27 ?_
   try simp only[qy]
   refine qU 28 ?_
   try simp only[qy]
   refine qU 29 ?_
   try simp only[qy]
   refine qU 30 ?_
   try simp only[qy]
   refine qT 31 ?_
   try simp only[qy]
   refine qT 32 ?_
   try simp only[qy]
   refine wpAnyH_done (by kernel_rfl) ?_ _
   refine NoPanic.normal ?_
   have hS:=hHeld
   have HKz:=qh (HK.out.trans hS.1)
   clear hS hHeld
   go_wp2_with fail
   go_ret
   exact⟨by rw[HF.out];rfl,HKz.out⟩
  have t3:decide (a≥0)=true:=by simpa using g3
  obtain⟨ad,k,v,hA,he,hk,d0,hv⟩:=HED.out w2 HK.out e g1 g2
  subst hA
  have HV:=qh hv
  rw[hv] at HR
  have hkz:(k:Int)<(ne:Int):=by omega
  have HRb:Hid (rightB t (e,a,r)=decide (a≤v)):=qh (by rw[HR.out,decide_eq_true g0,decide_eq_true g1,decide_eq_true g2,decide_eq_true g3];rfl)
  clear g0 g1 g2 g3 HED HR hv
  subst he
  by_cases g4:a≤v
  ·have t4:decide (a≤v)=true:=by simpa using g4
   have HF:Hid (rightB t (((k:Nat):Int),a,r)=true):=qh (by rw[HRb.out];exact t4)
   clear g4 HRb
   obtain⟨y0,y1,y2,y3⟩:=bc4 HB1.out
   obtain⟨q0,q1,q2⟩:=bc3 HB2.out
   have HS2:Hid (∀W',Keep Never w2 W'→Keep Never w2 W'∧W'.cell? ⟨w.heap.size,0,none⟩=some (.slice (some ad) ne ce)∧W'.cell? ⟨w.heap.size,1,none⟩=some (.slice Aj nj cj)∧W'.cell? ⟨w.heap.size,2,none⟩=some (.slice Ab nb cb)∧W'.cell? ⟨w.heap.size,3,none⟩=some (.slice Ar nr cr)∧W'.cell? ⟨w.heap.size+1,0,none⟩=some (.int .i64 ((k:Nat):Int))∧W'.cell? ⟨w.heap.size+1,1,none⟩=some (.int .i64 a)∧W'.cell? ⟨w.heap.size+1,2,none⟩=some (.bool r)∧W'.cell? (ad.add k)=some (.int .i64 v)):=qh (fun W' h=>⟨h,keepT h y0,keepT h y1,keepT h y2,keepT h y3,keepT h q0,keepT h q1,keepT h q2,keepT h d0⟩)
   go_enter Tryz.func137, Tryz.ntmps137
   go_wp2_with fail
   clear y0 y1 y2 y3 q0 q1 q2 d0
   refine wp_region_noPanic ?_
   refine wp_region_held_drew (S:=(fun W'=>Keep Never w2 W'∧W'.cell? ⟨w.heap.size,0,none⟩=some (.slice (some ad) ne ce)∧W'.cell? ⟨w.heap.size,1,none⟩=some (.slice Aj nj cj)∧W'.cell? ⟨w.heap.size,2,none⟩=some (.slice Ab nb cb)∧W'.cell? ⟨w.heap.size,3,none⟩=some (.slice Ar nr cr)∧W'.cell? ⟨w.heap.size+1,0,none⟩=some (.int .i64 ((k:Nat):Int))∧W'.cell? ⟨w.heap.size+1,1,none⟩=some (.int .i64 a)∧W'.cell? ⟨w.heap.size+1,2,none⟩=some (.bool r)∧W'.cell? (ad.add k)=some (.int .i64 v))) (by kernel_rfl) ?_ (fun hHeld=>?_)
   ·exact HS2.out _ ((Keep.refl Never w2).drew)
   refine qT 0 ?_
   try simp only[qy]
   refine wpAnyH_ready (rs:=[1]) (by kernel_rfl) (by simp) ?_
   refine AllReadyH.cons (o:=?_) ?_ (fun K hK=>?_) AllReadyH.nil
   rotate_left 1
   ·(simp only[qz];rfl)
   go_simp
   refine(HC.out _ hHeld.1).mono ?_;rintro en w3 ⟨rfl,hk3⟩
   (try go_wp2_with fail)
   refine hK.out _ _ ?_ (fun hHeld=>?_)
   ·(try dsimp only);exact HS2.out _ (hHeld.1.trans hk3)
   clear hK K
   try simp only[qy]
   refine qT 2 ?_
   try simp only[qy]
   refine qT 3 ?_
   try simp only[qy]
   refine qT 4 ?_
   try simp only[qy]
   refine qT 5 ?_
   try simp only[qy]
   refine qT 6 ?_
   try simp only[qy]
   refine qT 7 ?_
   try simp only[qy]
   refine qT 8 ?_
   try simp only[qy]
   refine qT 9 ?_
   try simp only[qy]
   refine qT 10 ?_
   try simp only[qy]
   refine qT 11 ?_
   try simp only[qy]
   refine qT 12 ?_
   try simp only[qy]
   refine qT 13 ?_
   try simp only[qy]
   refine qT 14 ?_
   try simp only[qy]
   refine qT 15 ?_
   try simp only[qy]
   refine qT 16 ?_
   try simp only[qy]
   refine qT 17 ?_
   try simp only[qy]
   refine qT 18 ?_
   try simp only[qy]
   refine qT 19 ?_
   try simp only[qy]
   refine qT 20 ?_
   try simp only[qy]
   refine qT 21 ?_
   try simp only[qy]
   refine qT 22 ?_
   try simp only[qy]
   refine qT 23 ?_
   try simp only[qy]
   refine qT 24 ?_
   try simp only[qy]
   refine qT 25 ?_
   try simp only[qy]
   refine qT 26 ?_
   try simp only[qy]
   refine qT 27 ?_
   try simp only[qy]
   refine qT 28 ?_
   try simp only[qy]
   refine qT 29 ?_
   try simp only[qy]
   refine qT 30 ?_
   try simp only[qy]
   refine qT 31 ?_
   try simp only[qy]
   refine qT 32 ?_
   try simp only[qy]
   refine wpAnyH_done (by kernel_rfl) ?_ _
   refine NoPanic.normal ?_
   have hS:=hHeld
   have HKz:=qh (HK.out.trans hS.1)
   clear hS hHeld
   go_wp2_with fail
   go_ret
   exact⟨by rw[HF.out];rfl,HKz.out⟩
  ·have t4:decide (a≤v)=false:=by simpa using g4
   have HF:Hid (rightB t (((k:Nat):Int),a,r)=false):=qh (by rw[HRb.out];exact t4)
   clear g4 HRb
   obtain⟨y0,y1,y2,y3⟩:=bc4 HB1.out
   obtain⟨q0,q1,q2⟩:=bc3 HB2.out
   have HS2:Hid (∀W',Keep Never w2 W'→Keep Never w2 W'∧W'.cell? ⟨w.heap.size,0,none⟩=some (.slice (some ad) ne ce)∧W'.cell? ⟨w.heap.size,1,none⟩=some (.slice Aj nj cj)∧W'.cell? ⟨w.heap.size,2,none⟩=some (.slice Ab nb cb)∧W'.cell? ⟨w.heap.size,3,none⟩=some (.slice Ar nr cr)∧W'.cell? ⟨w.heap.size+1,0,none⟩=some (.int .i64 ((k:Nat):Int))∧W'.cell? ⟨w.heap.size+1,1,none⟩=some (.int .i64 a)∧W'.cell? ⟨w.heap.size+1,2,none⟩=some (.bool r)∧W'.cell? (ad.add k)=some (.int .i64 v)):=qh (fun W' h=>⟨h,keepT h y0,keepT h y1,keepT h y2,keepT h y3,keepT h q0,keepT h q1,keepT h q2,keepT h d0⟩)
   go_enter Tryz.func137, Tryz.ntmps137
   go_wp2_with fail
   clear y0 y1 y2 y3 q0 q1 q2 d0
   refine wp_region_noPanic ?_
   refine wp_region_held_drew (S:=(fun W'=>Keep Never w2 W'∧W'.cell? ⟨w.heap.size,0,none⟩=some (.slice (some ad) ne ce)∧W'.cell? ⟨w.heap.size,1,none⟩=some (.slice Aj nj cj)∧W'.cell? ⟨w.heap.size,2,none⟩=some (.slice Ab nb cb)∧W'.cell? ⟨w.heap.size,3,none⟩=some (.slice Ar nr cr)∧W'.cell? ⟨w.heap.size+1,0,none⟩=some (.int .i64 ((k:Nat):Int))∧W'.cell? ⟨w.heap.size+1,1,none⟩=some (.int .i64 a)∧W'.cell? ⟨w.heap.size+1,2,none⟩=some (.bool r)∧W'.cell? (ad.add k)=some (.int .i64 v))) (by kernel_rfl) ?_ (fun hHeld=>?_)
   ·exact HS2.out _ ((Keep.refl Never w2).drew)
   refine qT 0 ?_
   try simp only[qy]
   refine wpAnyH_ready (rs:=[1]) (by kernel_rfl) (by simp) ?_
   refine AllReadyH.cons (o:=?_) ?_ (fun K hK=>?_) AllReadyH.nil
   rotate_left 1
   ·(simp only[qz];rfl)
   go_simp
   refine(HC.out _ hHeld.1).mono ?_;rintro en w3 ⟨rfl,hk3⟩
   (try go_wp2_with fail)
   refine hK.out _ _ ?_ (fun hHeld=>?_)
   ·(try dsimp only);exact HS2.out _ (hHeld.1.trans hk3)
   clear hK K
   try simp only[qy]
   refine qT 2 ?_
   try simp only[qy]
   refine qT 3 ?_
   try simp only[qy]
   refine qT 4 ?_
   try simp only[qy]
   refine qT 5 ?_
   try simp only[qy]
   refine qT 6 ?_
   try simp only[qy]
   refine qT 7 ?_
   try simp only[qy]
   refine qT 8 ?_
   try simp only[qy]
   refine qT 9 ?_
   try simp only[qy]
   refine qT 10 ?_
   try simp only[qy]
   refine qT 11 ?_
   try simp only[qy]
   refine qT 12 ?_
   try simp only[qy]
   refine qT 13 ?_
   try simp only[qy]
   refine qT 14 ?_
   try simp only[qy]
   refine qT 15 ?_
   try simp only[qy]
   refine qT 16 ?_
   try simp only[qy]
   refine qT 17 ?_
   try simp only[qy]
   refine qT 18 ?_
   try simp only[qy]
   refine qT 19 ?_
   try simp only[qy]
   refine qT 20 ?_
   try simp only[qy]
   refine qT 21 ?_
   try simp only[qy]
   refine qT 22 ?_
   try simp only[qy]
   refine qT 23 ?_
   try simp only[qy]
   refine qT 24 ?_
   try simp only[qy]
   refine qT 25 ?_
   try simp only[qy]
   refine qT 26 ?_
   try simp only[qy]
   refine qT 27 ?_
   try simp only[qy]
   refine qT 28 ?_
   try simp only[qy]
   refine qT 29 ?_
   try simp only[qy]
   refine qT 30 ?_
   try simp only[qy]
   refine qT 31 ?_
   try simp only[qy]
   refine qT 32 ?_
   try simp only[qy]
   refine wpAnyH_done (by kernel_rfl) ?_ _
   refine NoPanic.normal ?_
   have hS:=hHeld
   have HKz:=qh (HK.out.trans hS.1)
   clear hS hHeld
   go_wp2_with fail
   go_ret
   exact⟨by rw[HF.out];rfl,HKz.out⟩
theorem ps3_blk {w:World}{b t:Nat}{u0 u1 u2:Value} (h:Blk w b t #[u0,u1,u2]) (v0 v1 v2:Value):Blk (((w.setCell ⟨b,0,none⟩ v0).setCell ⟨b,1,none⟩ v1).setCell ⟨b,2,none⟩ v2) b t #[v0,v1,v2]:=by
 have:=((h.set_ 0 v0).set_ 1 v1).set_ 2 v2
 simpa using this
theorem ps3_keep {S:Nat→Prop}{w0 w:World}{b:Nat} (h:Keep S w0 w) (hb:S b∨w0.heap.size≤b) (v0 v1 v2:Value):Keep S w0 (((w.setCell ⟨b,0,none⟩ v0).setCell ⟨b,1,none⟩ v1).setCell ⟨b,2,none⟩ v2):=
  ((h.set_ (p:=⟨b,0,none⟩) hb v0).set_ (p:=⟨b,1,none⟩) hb v1).set_ (p:=⟨b,2,none⟩) hb v2
set_option maxRecDepth 100000 in
theorem ps_results {fn:Func}{r:Nat} (h:fn.results=#[.cell r 71]) {w:World}{b:Nat}{v0 v1 v2:Value} (hb:Blk w b 71 #[v0,v1,v2]) (tmps:Array Value) (ht:tmps.getD r undef=.pointer (some ⟨b,0,none⟩)) :
    (results fn tmps).run Tryz.prog w=.ok (.agg #[v0,v1,v2]) w:=by
  have q0:w.cell? ⟨b,0,none⟩=some v0:=hb.cell 0
  have q1:w.cell? ⟨b,1,none⟩=some v1:=hb.cell 1
  have q2:w.cell? ⟨b,2,none⟩=some v2:=hb.cell 2
  have ht':tmps[r]?.getD undef=.pointer (some ⟨b,0,none⟩):=by rw[←Array.getD_eq_getD_getElem?];exact ht
  simp[results,h,ht',go_sem,q0,q1,q2]
set_option maxRecDepth 100000 in
theorem ps_results2 {fn:Func}{r s:Nat} (h:fn.results=#[.cell r 71, .tmp s]) {w:World}{b:Nat}{v0 v1 v2:Value} (hb:Blk w b 71 #[v0,v1,v2]) (tmps:Array Value) (ht:tmps.getD r undef=.pointer (some ⟨b,0,none⟩)) :
    (results fn tmps).run Tryz.prog w=.ok (.tuple #[.agg #[v0,v1,v2],tmps.getD s undef]) w:=by
  have q0:w.cell? ⟨b,0,none⟩=some v0:=hb.cell 0
  have q1:w.cell? ⟨b,1,none⟩=some v1:=hb.cell 1
  have q2:w.cell? ⟨b,2,none⟩=some v2:=hb.cell 2
  have ht':tmps[r]?.getD undef=.pointer (some ⟨b,0,none⟩):=by rw[←Array.getD_eq_getD_getElem?];exact ht
  simp[results,h,ht',go_sem,q0,q1,q2]
def PsRet (p:Ps) (w:World) (e:Ending) (w':World):Prop:=e=.returned (psV p)∧Keep Never w w'
def PsRet2 (p:Ps×Int) (w:World) (e:Ending) (w':World):Prop:=e=.returned (.tuple #[psV p.1,.int .i64 p.2])∧Keep Never w w'
set_option maxHeartbeats 4000000 in
set_option maxRecDepth 100000 in
theorem pover_any (x:TA) (t:Tp) (B:Nat) (e:Int) (r:Bool) (n:Int) (w:World) (h:TpAt w B x t) (h0:0≤e) (h1:e<(x.ne:Int)) (hv1:0≤edgeM t e) (hv2:edgeM t e≤1000000) (hn1:0≤n) (hn2:n≤4398046511104) :
    Calls Tryz.prog 139 #[.agg x.cs,.agg #[.int .i64 e,.bool r],.int .i64 n] w (PsRet (overP t (e,r) n) w):=by
  obtain⟨ad,k,v,hA,he,hk,d0,hv⟩:=edge_at h h0 h1
  have HD:Hid (∀W,Keep Never w W→W.cell? (ad.add k)=some (.int .i64 v)):=qh (fun W hk=>keepT hk d0)
  obtain⟨Ae,ne,ce,Aj,nj,cj,Ab,nb,cb,Ar,nr,cr⟩:=x
  simp only[TA.cs] at hA hk ⊢
  subst hA he
  have hkz:(k:Int)<(ne:Int):=by omega
  rw[hv] at hv1 hv2
  have hw:IntKind.i64.wrap (v - n)=v - n:=IntWalk.i64_in _ (by omega)
  cases r with
  | true=>
   have HF:Hid (overP t (((k:Nat):Int),true) n=(((k:Nat):Int),v - n,true)):=qh (by unfold overP;rw[if_pos rfl];simp only;rw[hv])
   clear h d0 hv h0 h1 hv1 hv2 hn1 hn2
   obtain⟨w1,hw1⟩:∃V:World,w.alloc (.cells #[.slice (some ad) ne ce,.slice Aj nj cj,.slice Ab nb cb,.slice Ar nr cr] 27)=V:=⟨_,rfl⟩
   have zw1:w1.heap.size=w.heap.size+1:=by rw[←hw1];simp
   have kw1:Keep Never w w1:=by rw[←hw1];exact(Keep.refl _ _).alloc _
   have bw1:=Blk.new w 27 #[.slice (some ad) ne ce,.slice Aj nj cj,.slice Ab nb cb,.slice Ar nr cr]
   rw[hw1] at bw1
   obtain⟨w2,hw2⟩:∃V:World,w1.alloc (.cells #[.int .i64 ((k:Nat):Int),.bool true] 30)=V:=⟨_,rfl⟩
   have zw2:w2.heap.size=w.heap.size+1+1:=by rw[←hw2];simp[zw1]
   have kw2:Keep Never w1 w2:=by rw[←hw2];exact(Keep.refl _ _).alloc _
   have bw2:=Blk.new w1 30 #[.int .i64 ((k:Nat):Int),.bool true]
   rw[hw2,zw1] at bw2
   obtain⟨w3,hw3⟩:∃V:World,w2.alloc (.cells #[.int .i64 0,.int .i64 0,.bool false] 71)=V:=⟨_,rfl⟩
   have kw3:Keep Never w2 w3:=by rw[←hw3];exact(Keep.refl _ _).alloc _
   have bw3:=Blk.new w2 71 #[.int .i64 0,.int .i64 0,.bool false]
   rw[hw3,zw2] at bw3
   have HB1:=qh ((bw1.keep kw2 (fun h=>h)).keep kw3 (fun h=>h))
   have HB2:=qh (bw2.keep kw3 (fun h=>h))
   have HB3:=qh bw3
   have HK:=qh ((kw1.trans kw2).trans kw3)
   clear kw1 kw2 kw3 bw1 bw2 bw3
   obtain⟨y0,y1,y2,y3⟩:=bc4 HB1.out
   obtain⟨q0,q1⟩:=bc2 HB2.out
   have d0:=HD.out w3 HK.out
   go_enter Tryz.func139, Tryz.ntmps139
   obtain⟨z0,z1,z2⟩:=bc3 HB3.out
   have zf0:=HB3.out.frozen 0
   have zf1:=HB3.out.frozen 1
   have zf2:=HB3.out.frozen 2
   go_wp2_with fail
   (try simp only[Exit.inBlock,Exit.then])
   have hp:=ps3_keep HK.out (b:=w.heap.size+1+1) (.inr (by omega)) (.int .i64 ((k:Nat):Int)) (.int .i64 (v - n)) (.bool true)
   refine bodyPost_ret (ps_results (fn:=Tryz.f139) (r:=6) rfl (ps3_blk HB3.out (.int .i64 ((k:Nat):Int)) (.int .i64 (v - n)) (.bool true)) _ rfl) rfl ⟨by rw[HF.out],hp⟩
  | false=>
   have HF:Hid (overP t (((k:Nat):Int),false) n=(((k:Nat):Int),n,false)):=qh (by unfold overP;rw[if_neg (by simp)])
   clear h d0 hv h0 h1 hv1 hv2 hn1 hn2
   obtain⟨w1,hw1⟩:∃V:World,w.alloc (.cells #[.slice (some ad) ne ce,.slice Aj nj cj,.slice Ab nb cb,.slice Ar nr cr] 27)=V:=⟨_,rfl⟩
   have zw1:w1.heap.size=w.heap.size+1:=by rw[←hw1];simp
   have kw1:Keep Never w w1:=by rw[←hw1];exact(Keep.refl _ _).alloc _
   have bw1:=Blk.new w 27 #[.slice (some ad) ne ce,.slice Aj nj cj,.slice Ab nb cb,.slice Ar nr cr]
   rw[hw1] at bw1
   obtain⟨w2,hw2⟩:∃V:World,w1.alloc (.cells #[.int .i64 ((k:Nat):Int),.bool false] 30)=V:=⟨_,rfl⟩
   have zw2:w2.heap.size=w.heap.size+1+1:=by rw[←hw2];simp[zw1]
   have kw2:Keep Never w1 w2:=by rw[←hw2];exact(Keep.refl _ _).alloc _
   have bw2:=Blk.new w1 30 #[.int .i64 ((k:Nat):Int),.bool false]
   rw[hw2,zw1] at bw2
   obtain⟨w3,hw3⟩:∃V:World,w2.alloc (.cells #[.int .i64 0,.int .i64 0,.bool false] 71)=V:=⟨_,rfl⟩
   have kw3:Keep Never w2 w3:=by rw[←hw3];exact(Keep.refl _ _).alloc _
   have bw3:=Blk.new w2 71 #[.int .i64 0,.int .i64 0,.bool false]
   rw[hw3,zw2] at bw3
   have HB1:=qh ((bw1.keep kw2 (fun h=>h)).keep kw3 (fun h=>h))
   have HB2:=qh (bw2.keep kw3 (fun h=>h))
   have HB3:=qh bw3
   have HK:=qh ((kw1.trans kw2).trans kw3)
   clear kw1 kw2 kw3 bw1 bw2 bw3
   obtain⟨y0,y1,y2,y3⟩:=bc4 HB1.out
   obtain⟨q0,q1⟩:=bc2 HB2.out
   have d0:=HD.out w3 HK.out
   go_enter Tryz.func139, Tryz.ntmps139
   obtain⟨z0,z1,z2⟩:=bc3 HB3.out
   have zf0:=HB3.out.frozen 0
   have zf1:=HB3.out.frozen 1
   have zf2:=HB3.out.frozen 2
   go_wp2_with fail
   (try simp only[Exit.inBlock,Exit.then])
   have hp:=ps3_keep HK.out (b:=w.heap.size+1+1) (.inr (by omega)) (.int .i64 ((k:Nat):Int)) (.int .i64 n) (.bool false)
   refine bodyPost_ret (ps_results (fn:=Tryz.f139) (r:=6) rfl (ps3_blk HB3.out (.int .i64 ((k:Nat):Int)) (.int .i64 n) (.bool false)) _ rfl) rfl ⟨by rw[HF.out],hp⟩
set_option maxHeartbeats 4000000 in
set_option maxRecDepth 100000 in
theorem palong_any (x:TA) (t:Tp) (B:Nat) (e a:Int) (r:Bool) (w:World) (h:TpAt w B x t) (h0:0≤e) (h1:e<(x.ne:Int)) (hv1:0≤edgeM t e) (hv2:edgeM t e≤1000000) (ha1:0≤a) (ha2:a≤1000000) :
    Calls Tryz.prog 138 #[.agg x.cs,.agg #[.int .i64 e,.int .i64 a,.bool r]] w fun en w'=>en=.returned (.int .i64 (alongP t (e,a,r)))∧Keep Never w w':=by
  obtain⟨ad,k,v,hA,he,hk,d0,hv⟩:=edge_at h h0 h1
  have HD:Hid (∀W,Keep Never w W→W.cell? (ad.add k)=some (.int .i64 v)):=qh (fun W hk=>keepT hk d0)
  obtain⟨Ae,ne,ce,Aj,nj,cj,Ab,nb,cb,Ar,nr,cr⟩:=x
  simp only[TA.cs] at hA hk ⊢
  subst hA he
  have hkz:(k:Int)<(ne:Int):=by omega
  rw[hv] at hv1 hv2
  have hw:IntKind.i64.wrap (v - a)=v - a:=IntWalk.i64_in _ (by omega)
  cases r with
  | true=>
   have HF:Hid (alongP t (((k:Nat):Int),a,true)=v - a):=qh (by unfold alongP;rw[if_pos rfl];simp only;rw[hv])
   clear h d0 hv h0 h1 hv1 hv2 ha1 ha2
   obtain⟨w1,hw1⟩:∃V:World,w.alloc (.cells #[.slice (some ad) ne ce,.slice Aj nj cj,.slice Ab nb cb,.slice Ar nr cr] 27)=V:=⟨_,rfl⟩
   have zw1:w1.heap.size=w.heap.size+1:=by rw[←hw1];simp
   have kw1:Keep Never w w1:=by rw[←hw1];exact(Keep.refl _ _).alloc _
   have bw1:=Blk.new w 27 #[.slice (some ad) ne ce,.slice Aj nj cj,.slice Ab nb cb,.slice Ar nr cr]
   rw[hw1] at bw1
   obtain⟨w2,hw2⟩:∃V:World,w1.alloc (.cells #[.int .i64 ((k:Nat):Int),.int .i64 a,.bool true] 71)=V:=⟨_,rfl⟩
   have kw2:Keep Never w1 w2:=by rw[←hw2];exact(Keep.refl _ _).alloc _
   have bw2:=Blk.new w1 71 #[.int .i64 ((k:Nat):Int),.int .i64 a,.bool true]
   rw[hw2,zw1] at bw2
   have HB1:=qh (bw1.keep kw2 (fun h=>h))
   have HB2:=qh bw2
   have HK:=qh (kw1.trans kw2)
   clear kw1 kw2 bw1 bw2
   obtain⟨y0,y1,y2,y3⟩:=bc4 HB1.out
   obtain⟨q0,q1,q2⟩:=bc3 HB2.out
   have d0:=HD.out w2 HK.out
   go_enter Tryz.func138, Tryz.ntmps138
   go_wp2_with fail
   go_quiet (fail)
   go_wp2_with fail
   go_ret
   exact⟨by rw[HF.out];rfl,HK.out.drewN _⟩
  | false=>
   have HF:Hid (alongP t (((k:Nat):Int),a,false)=a):=qh (by unfold alongP;rw[if_neg (by simp)])
   clear h d0 hv h0 h1 hv1 hv2 ha1 ha2
   obtain⟨w1,hw1⟩:∃V:World,w.alloc (.cells #[.slice (some ad) ne ce,.slice Aj nj cj,.slice Ab nb cb,.slice Ar nr cr] 27)=V:=⟨_,rfl⟩
   have zw1:w1.heap.size=w.heap.size+1:=by rw[←hw1];simp
   have kw1:Keep Never w w1:=by rw[←hw1];exact(Keep.refl _ _).alloc _
   have bw1:=Blk.new w 27 #[.slice (some ad) ne ce,.slice Aj nj cj,.slice Ab nb cb,.slice Ar nr cr]
   rw[hw1] at bw1
   obtain⟨w2,hw2⟩:∃V:World,w1.alloc (.cells #[.int .i64 ((k:Nat):Int),.int .i64 a,.bool false] 71)=V:=⟨_,rfl⟩
   have kw2:Keep Never w1 w2:=by rw[←hw2];exact(Keep.refl _ _).alloc _
   have bw2:=Blk.new w1 71 #[.int .i64 ((k:Nat):Int),.int .i64 a,.bool false]
   rw[hw2,zw1] at bw2
   have HB1:=qh (bw1.keep kw2 (fun h=>h))
   have HB2:=qh bw2
   have HK:=qh (kw1.trans kw2)
   clear kw1 kw2 bw1 bw2
   obtain⟨y0,y1,y2,y3⟩:=bc4 HB1.out
   obtain⟨q0,q1,q2⟩:=bc3 HB2.out
   have d0:=HD.out w2 HK.out
   go_enter Tryz.func138, Tryz.ntmps138
   go_wp2_with fail
   go_ret
   exact⟨by rw[HF.out];rfl,HK.out⟩
end Go.Proofs.YtpapiojicbbheaaGreatDoor

namespace Go.Proofs.YtpapiojicbbheaaGreatDoor
open Go.RowKit
theorem edge_in {t:Tp} (hc:checkM t=0) {e:Int} (h:thereB t.1.length e=true):1≤edgeM t e∧edgeM t e≤1000000:=by
 unfold thereB at h
 simp only[Bool.and_eq_true,decide_eq_true_eq] at h
 have hl:e.toNat<t.1.length:=by omega
 have hg:edgeM t e=t.1[e.toNat]:=by unfold edgeM;rw[List.getD_eq_getElem?_getD,List.getElem?_eq_getElem hl];rfl
 rw[hg]
 exact check_edges hc _ (List.getElem_mem hl)
structure WkI (w5:World) (bs:Nat) (t:Tp) (r:Ps×Int) (f:Nat) (s:Stp) (m:Int) (W:World):Prop where
  far:Keep (fun q=>q=bs) w5 W
  st:Blk W bs 30 #[.int .i64 s.1,.bool s.2]
  go:goM t f s m=r
  there:thereB t.1.length s.1=true
  pos:0≤m
  top:m≤2199023255552
set_option maxHeartbeats 8000000 in
set_option maxRecDepth 100000 in
theorem pwalk_any (x:TA) (t:Tp) (B:Nat) (e a:Int) (r:Bool) (n:Int) (w:World) (h:TpAt w B x t) (hs:TpSmall x t) (hB:B≤w.heap.size) :
    Calls Tryz.prog 91 #[.agg x.cs,.agg #[.int .i64 e,.int .i64 a,.bool r],.int .i64 n] w (PsRet2 (walkP t (e,a,r) n) w):=by
  have HRi:=qh (fun (W:World) (hk:Keep Never w W)=>pright_any x t B e a r W (h.keep hk) hs (Nat.le_trans hB hk.size))
  have HTp:=qh h
  have HEl:Hid (x.ne=t.1.length):=qh h.e.len
  have HAl:=qh (fun (W:World) (hk:Keep Never w W)=>palong_any x t B e a r W (h.keep hk))
  have HOv:=qh (fun (W:World) (hk:Keep Never w W) (e:Int) (r:Bool) (n:Int)=>pover_any x t B e r n W (h.keep hk))
  have HAf:=qh (fun (W:World) (hk:Keep Never w W) (s:Stp)=>after_any x t B s W (h.keep hk) hs.j hs.e)
  have HED:=qh (fun (W:World) (hk:Keep Never w W) (i:Int) (h0:0≤i) (h1:i<(x.ne:Int))=>edge_at (h.keep hk) h0 h1)
  obtain⟨Ae,ne,ce,Aj,nj,cj,Ab,nb,cb,Ar,nr,cr⟩:=x
  simp only[TA.cs] at HRi HTp HEl HAl HOv HAf HED ⊢
  clear h hs hB
  obtain⟨w1,hw1⟩:∃V:World,w.alloc (.cells #[.slice Ae ne ce,.slice Aj nj cj,.slice Ab nb cb,.slice Ar nr cr] 27)=V:=⟨_,rfl⟩
  have zw1:w1.heap.size=w.heap.size+1:=by rw[←hw1];simp
  have kw1:Keep Never w w1:=by rw[←hw1];exact(Keep.refl _ _).alloc _
  have bw1:=Blk.new w 27 #[.slice Ae ne ce,.slice Aj nj cj,.slice Ab nb cb,.slice Ar nr cr]
  rw[hw1] at bw1
  obtain⟨w2,hw2⟩:∃V:World,w1.alloc (.cells #[.int .i64 e,.int .i64 a,.bool r] 71)=V:=⟨_,rfl⟩
  have zw2:w2.heap.size=w.heap.size+1+1:=by rw[←hw2];simp[zw1]
  have kw2:Keep Never w1 w2:=by rw[←hw2];exact(Keep.refl _ _).alloc _
  have bw2:=Blk.new w1 71 #[.int .i64 e,.int .i64 a,.bool r]
  rw[hw2,zw1] at bw2
  obtain⟨w3,hw3⟩:∃V:World,w2.alloc (.cells #[.int .i64 0,.int .i64 0,.bool false] 71)=V:=⟨_,rfl⟩
  have kw3:Keep Never w2 w3:=by rw[←hw3];exact(Keep.refl _ _).alloc _
  have bw3:=Blk.new w2 71 #[.int .i64 0,.int .i64 0,.bool false]
  rw[hw3,zw2] at bw3
  have HB1:=qh ((bw1.keep kw2 (fun h=>h)).keep kw3 (fun h=>h))
  have HB2:=qh (bw2.keep kw3 (fun h=>h))
  have HB3:=qh bw3
  have HK:=qh ((kw1.trans kw2).trans kw3)
  clear kw1 kw2 kw3 bw1 bw2 bw3
  obtain⟨y0,y1,y2,y3⟩:=bc4 HB1.out
  obtain⟨q0,q1,q2⟩:=bc3 HB2.out
  have HC:=qh (HRi.out w3 HK.out)
  clear HRi
  cases hr:rightB t (e,a,r) with
  | false=>
   have HF:Hid (walkP t (e,a,r) n=(noP,1)):=qh (by unfold walkP;rw[if_neg (by rw[hr];simp)])
   rw[hr] at HC
   clear hr
   go_enter Tryz.func91, Tryz.ntmps91
   go_wp2_with fail
   go_step3
   go_wp2_with fail
   refine HC.out.mono ?_
   rintro en w4 ⟨rfl,hk4⟩
   have HK4:=qtr HK hk4
   have HT4:=qkb HB1 hk4
   have HP4:=qkb HB2 hk4
   have HZ4:=qkb HB3 hk4
   clear hk4 HC HB1 HB2 HB3 y0 y1 y2 y3 q0 q1 q2 hw1 hw2 hw3 zw1 zw2
   obtain⟨z0,z1,z2⟩:=bc3 HZ4.out
   have zf0:=HZ4.out.frozen 0
   have zf1:=HZ4.out.frozen 1
   have zf2:=HZ4.out.frozen 2
   go_wp2_with fail
   (try simp only[Exit.inBlock,Exit.then])
   (try rw[Exit.noGoto_ret])
   have hp:=ps3_keep HK4.out (b:=w.heap.size+1+1) (.inr (by omega)) (.int .i64 0) (.int .i64 0) (.bool false)
   refine bodyPost_ret (ps_results2 (fn:=Tryz.f91) (r:=6) (s:=7) rfl (ps3_blk HZ4.out (.int .i64 0) (.int .i64 0) (.bool false)) _ rfl) rfl ⟨by rw[HF.out];rfl,hp⟩
  | true=>
   rw[hr] at HC
   by_cases g0:0≤n
   case neg=>
    have t0:decide (n<0)=true:=by simp;omega
    have HF:Hid (walkP t (e,a,r) n=(noP,1)):=qh (by unfold walkP;rw[if_neg (by rintro⟨_,h,_⟩;exact g0 h)])
    clear hr g0
    go_enter Tryz.func91, Tryz.ntmps91
    go_wp2_with fail
    go_step3
    go_wp2_with fail
    refine HC.out.mono ?_
    rintro en w4 ⟨rfl,hk4⟩
    have HK4:=qtr HK hk4
    have HT4:=qkb HB1 hk4
    have HP4:=qkb HB2 hk4
    have HZ4:=qkb HB3 hk4
    clear hk4 HC HB1 HB2 HB3 y0 y1 y2 y3 q0 q1 q2 hw1 hw2 hw3 zw1 zw2
    obtain⟨z0,z1,z2⟩:=bc3 HZ4.out
    have zf0:=HZ4.out.frozen 0
    have zf1:=HZ4.out.frozen 1
    have zf2:=HZ4.out.frozen 2
    go_wp2_with fail
    (try simp only[Exit.inBlock,Exit.then])
    (try rw[Exit.noGoto_ret])
    have hp:=ps3_keep HK4.out (b:=w.heap.size+1+1) (.inr (by omega)) (.int .i64 0) (.int .i64 0) (.bool false)
    refine bodyPost_ret (ps_results2 (fn:=Tryz.f91) (r:=6) (s:=7) rfl (ps3_blk HZ4.out (.int .i64 0) (.int .i64 0) (.bool false)) _ rfl) rfl ⟨by rw[HF.out];rfl,hp⟩
   have t0:decide (n<0)=false:=by simp;omega
   by_cases g1:n≤1099511627776
   case neg=>
    have t1:decide (n>1099511627776)=true:=by simp;omega
    have HF:Hid (walkP t (e,a,r) n=(noP,1)):=qh (by unfold walkP;rw[if_neg (by rintro⟨_,_,h⟩;exact g1 h)])
    clear hr g0 g1
    go_enter Tryz.func91, Tryz.ntmps91
    go_wp2_with fail
    go_step3
    go_wp2_with fail
    refine HC.out.mono ?_
    rintro en w4 ⟨rfl,hk4⟩
    have HK4:=qtr HK hk4
    have HT4:=qkb HB1 hk4
    have HP4:=qkb HB2 hk4
    have HZ4:=qkb HB3 hk4
    clear hk4 HC HB1 HB2 HB3 y0 y1 y2 y3 q0 q1 q2 hw1 hw2 hw3 zw1 zw2
    obtain⟨z0,z1,z2⟩:=bc3 HZ4.out
    have zf0:=HZ4.out.frozen 0
    have zf1:=HZ4.out.frozen 1
    have zf2:=HZ4.out.frozen 2
    go_wp2_with fail
    (try simp only[Exit.inBlock,Exit.then])
    (try rw[Exit.noGoto_ret])
    have hp:=ps3_keep HK4.out (b:=w.heap.size+1+1) (.inr (by omega)) (.int .i64 0) (.int .i64 0) (.bool false)
    refine bodyPost_ret (ps_results2 (fn:=Tryz.f91) (r:=6) (s:=7) rfl (ps3_blk HZ4.out (.int .i64 0) (.int .i64 0) (.bool false)) _ rfl) rfl ⟨by rw[HF.out];rfl,hp⟩
   have t1:decide (n>1099511627776)=false:=by simp;omega
   go_enter Tryz.func91, Tryz.ntmps91
   go_wp2_with fail
   go_step3
   go_wp2_with fail
   refine HC.out.mono ?_
   rintro en w4 ⟨rfl,hk4⟩
   have HK4:=qtr HK hk4
   have HT4:=qkb HB1 hk4
   have HP4:=qkb HB2 hk4
   have HZ4:=qkb HB3 hk4
   clear hk4 HC HB1 HB2 HB3 y0 y1 y2 y3 q0 q1 q2 hw1 hw2 hw3 zw1 zw2
   obtain⟨r1,r2,r3,r4⟩:=right_iff.1 hr
   simp only at r2 r3 r4
   have HCk:=qh r1
   have hin:=edge_in r1 r2
   have hth:=r2
   unfold thereB at hth
   simp only[Bool.and_eq_true,decide_eq_true_eq] at hth
   rw[←HEl.out] at hth
   have hal:=along_in (t:=t) (p:=(e,a,r)) r3 r4
   simp only at hal
   have HW:Hid (goM t 40 (e,r) (n+alongP t (e,a,r))=walkP t (e,a,r) n):=qh (by unfold walkP;rw[if_pos ⟨hr,g0,g1⟩])
   have HTh:=qh r2
   obtain⟨w5,hw5⟩:∃V:World,w4.alloc (.cells #[.int .i64 e,.bool r] 30)=V:=⟨_,rfl⟩
   have K5:Keep Never w4 w5:=by rw[←hw5];exact(Keep.refl _ _).alloc _
   have B5:=Blk.new w4 30 #[.int .i64 e,.bool r]
   rw[hw5] at B5
   obtain⟨bs,hbs⟩:∃q,w4.heap.size=q:=⟨_,rfl⟩
   rw[hbs] at B5
   have HK5:=qtr HK4 K5
   have HT5:=qkb HT4 K5
   have HP5:=qkb HP4 K5
   have HZ5:=qkb HZ4 K5
   have HS5:=qh B5
   have HLo:Hid (w.heap.size+2<bs):=qh (by rw[←hbs];exact HZ4.out.lt)
   have HC:=qh (HAl.out w5 HK5.out hth.1 hth.2 (by omega) hin.2 r3 (by omega))
   obtain⟨al,hal'⟩:∃z,alongP t (e,a,r)=z:=⟨_,rfl⟩
   rw[hal'] at HC HW hal
   have hw:IntKind.i64.wrap (n+al)=n+al:=IntWalk.i64_in _ (by omega)
   have HN0:Hid (0≤n+al∧n+al≤2199023255552):=qh (by omega)
   obtain⟨p0,p1,p2⟩:=bc3 HP4.out
   obtain⟨y0,y1,y2,y3⟩:=bc4 HT5.out
   obtain⟨q0,q1,q2⟩:=bc3 HP5.out
   clear K5 B5 HT4 HP4 HZ4 hr g0 g1 r1 r2 r3 r4 hin hth hal hal' HAl
   go_wp2_with fail
   refine HC.out.mono ?_
   clear hw5 hbs
   rintro en w6 ⟨rfl,hk6⟩
   have HI6:Hid (WkI w5 bs t (walkP t (e,a,r) n) 40 (e,r) (n+al) w6):=qh ⟨hk6.mono (fun _ _ h=>h.elim),HS5.out.keep hk6 (fun h=>h),HW.out,HTh.out,HN0.out.1,HN0.out.2⟩
   have HK56:=qh hk6
   obtain⟨s0,s1⟩:=bc2 HI6.out.st
   clear hk6 HC p0 p1 p2 q0 q1 q2 y0 y1 y2 y3
   have y0:w6.cell? ⟨w.heap.size,0,none⟩=some (.slice Ae ne ce):=(HT5.out.keep HK56.out (fun h=>h)).cell 0
   have hw':wrap64 (n+al)=n+al:=by have:=hw;rwa [IntWalk.i64_left] at this
   go_wp2_with fail
   (try rw[hw'])
   obtain⟨m0,hm0⟩:∃z,n+al=z:=⟨_,rfl⟩
   rw[hm0] at HI6
   rw[hm0]
   clear hm0 hw hw' s0 s1 y0 HW HN0
   go_step3
   go_wp2_with fail
   go_loopw [2,9,10,11,46,50,54] (fun m er l _ _ _ _ wr=>∃(f:Nat) (s:Stp) (mm:Int),f≤40∧m=.int .i64 mm∧er=.int .i64 0∧l=.int .i64 ((40 - f:Nat):Int)∧Hid (WkI w5 bs t (walkP t (e,a,r) n) f s mm wr)) (fun _ _ l _ _ _ _ _=>40 - (intOf l).toNat)
   case atStart=>exact⟨40,(e,r),m0,by omega,rfl,rfl,rfl,HI6⟩
   case round=>
    obtain⟨f,s,mm,hf,rfl,rfl,rfl,HH⟩:=hrel
    have HTr:=qh (HT5.out.keep HH.out.far (by have:=HLo.out;omega))
    have HZr:=qh (HZ5.out.keep HH.out.far (by have:=HLo.out;omega))
    have HKr:=qh (HK5.out.then_ HH.out.far (fun i hi e=>by have:=HLo.out;omega))
    have HSr:=qh HH.out.st
    have HGo:=qh HH.out.go
    have hpos:=HH.out.pos
    have htop:=HH.out.top
    obtain⟨es,er⟩:=s
    have hin:=edge_in HCk.out HH.out.there
    have hth:=HH.out.there
    unfold thereB at hth
    simp only[Bool.and_eq_true,decide_eq_true_eq] at hth
    rw[←HEl.out] at hth
    obtain⟨ad,k,v,hA,he,hk,d0,hv⟩:=HED.out wr HKr.out es hth.1 hth.2
    subst hA
    subst he
    simp only at hin HSr HGo hth
    rw[hv] at hin
    have hkz:(k:Int)<(ne:Int):=by omega
    have HV:=qh hv
    obtain⟨y0,y1,y2,y3⟩:=bc4 HTr.out
    obtain⟨s0,s1⟩:=bc2 HSr.out
    by_cases g:mm≤v
    ·have t2:decide (mm≤v)=true:=by simpa using g
     have HF:Hid (walkP t (e,a,r) n=(overP t (((k:Nat):Int),er) mm,0)):=qh (by rw[←HGo.out];exact goM_in (by rw[hv];exact g))
     have HC:=qh (HOv.out wr HKr.out ((k:Nat):Int) er mm hth.1 hth.2 (by rw[hv];omega) (by rw[hv];omega) hpos (by omega))
     clear g hv hth hin hpos htop
     go_wp2_with fail
     refine HC.out.mono ?_
     rintro en w7 ⟨rfl,hk7⟩
     have HK7:=qtr HKr hk7
     have HZ7:=qkb HZr hk7
     clear hk7 HC y0 y1 y2 y3 s0 s1
     obtain⟨⟨o1,o2,o3⟩,hov⟩:∃z,overP t (((k:Nat):Int),er) mm=z:=⟨_,rfl⟩
     rw[hov] at HF
     rw[hov]
     clear hov
     obtain⟨z0,z1,z2⟩:=bc3 HZ7.out
     have zf0:=HZ7.out.frozen 0
     have zf1:=HZ7.out.frozen 1
     have zf2:=HZ7.out.frozen 2
     go_wp2_with fail
     (try simp only[Exit.inBlock,Exit.then])
     (try rw[Exit.noGoto_ret])
     have hp:=ps3_keep HK7.out (b:=w.heap.size+1+1) (.inr (by omega)) (.int .i64 o1) (.int .i64 o2) (.bool o3)
     refine bodyPost_ret (ps_results2 (fn:=Tryz.f91) (r:=6) (s:=7) rfl (ps3_blk HZ7.out (.int .i64 o1) (.int .i64 o2) (.bool o3)) _ rfl) rfl ⟨by rw[HF.out];rfl,hp⟩
    ·have t2:decide (mm≤v)=false:=by simpa using g
     have HC:=qh (HAf.out wr HKr.out (((k:Nat):Int),er))
     dsimp only at HC
     have HG:Hid (¬mm≤edgeM t ((k:Nat):Int)):=qh (by rw[hv];exact g)
     clear hv hth
     go_wp2_with fail
     refine HC.out.mono ?_
     rintro en w7 ⟨A7,n7,c7,rfl,hn7,ho7,hk7⟩
     have HK7:=qtr HKr hk7
     have HKa:=qh hk7
     have HT7:=qkb HTr hk7
     have HZ7:=qkb HZr hk7
     have HS7:=qkb HSr hk7
     have HFa:=qh (HH.out.far.then_ hk7 (fun _ _ h=>h.elim))
     have Ho7:=qh ho7
     have Hth:=qh HH.out.there
     clear ho7 hk7 HC y0 y1 y2 y3 s0 s1 HTr HZr HSr HKr
     rcases hl:afterM t (((k:Nat):Int),er) with _ | ⟨x,_ | ⟨y,l⟩⟩
     ·have HF:Hid (walkP t (e,a,r) n=(noP,141)):=qh (by rw[←HGo.out];exact goM_end (by have:=HG.out;simp only;omega) hl)
      rw[hl] at hn7
      obtain rfl:n7=0:=hn7.out
      clear hl hn7
      obtain⟨z0,z1,z2⟩:=bc3 HZ7.out
      have zf0:=HZ7.out.frozen 0
      have zf1:=HZ7.out.frozen 1
      have zf2:=HZ7.out.frozen 2
      go_wp2_with fail
      (try simp only[Exit.inBlock,Exit.then])
      (try rw[Exit.noGoto_ret])
      have hp:=ps3_keep HK7.out (b:=w.heap.size+1+1) (.inr (by omega)) (.int .i64 0) (.int .i64 0) (.bool false)
      refine bodyPost_ret (ps_results2 (fn:=Tryz.f91) (r:=6) (s:=7) rfl (ps3_blk HZ7.out (.int .i64 0) (.int .i64 0) (.bool false)) _ rfl) rfl ⟨by rw[HF.out];rfl,hp⟩
     ·rw[hl] at hn7 Ho7
      obtain rfl:n7=1:=hn7.out
      have hmem:x∈afterM t (((k:Nat):Int),er):=by rw[hl];simp
      have Hx:=qh (after_there hmem)
      cases f with
      | zero=>
       have HF:Hid (walkP t (e,a,r) n=(noP,2)):=qh (by rw[←HGo.out];exact goM_long (by have:=HG.out;simp only;omega) hl)
       clear hl hn7 hmem
       obtain⟨z0,z1,z2⟩:=bc3 HZ7.out
       have zf0:=HZ7.out.frozen 0
       have zf1:=HZ7.out.frozen 1
       have zf2:=HZ7.out.frozen 2
       go_wp2_with fail
       (try simp only[Exit.inBlock,Exit.then])
       (try rw[Exit.noGoto_ret])
       have hp:=ps3_keep HK7.out (b:=w.heap.size+1+1) (.inr (by omega)) (.int .i64 0) (.int .i64 0) (.bool false)
       refine bodyPost_ret (ps_results2 (fn:=Tryz.f91) (r:=6) (s:=7) rfl (ps3_blk HZ7.out (.int .i64 0) (.int .i64 0) (.bool false)) _ rfl) rfl ⟨by rw[HF.out];rfl,hp⟩
      | succ f=>
       have HG2:Hid (goM t f x (mm - v)=walkP t (e,a,r) n):=qh (by rw[←HGo.out,goM_next (by have:=HG.out;simp only;omega) hl];simp only[HV.out])
       have t6:(((40 - (f+1):Nat):Int)==40)=false:=by simp;omega
       have hvm:v<mm:=by omega
       have hw6:IntKind.i64.wrap (mm - v)=mm - v:=IntWalk.i64_in _ (by omega)
       have HB7:Hid (0≤mm - v∧mm - v≤2199023255552):=qh (by omega)
       obtain⟨ad2,x',hA2,hb2,hx',c0,c1⟩:=Ho7.out.rd.stp (k:=0) (by omega)
       obtain rfl:x=x':=by simpa using hx'
       subst hA2
       obtain⟨x0,x1⟩:=x
       simp only[Nat.zero_mul] at c0 c1
       have ea:ad2.add 0=ad2:=by unfold Addr.add;split <;> simp_all
       have c0':=c0
       have c1':=c1
       rw[ea] at c0' c1'
       have d7:=keepT HKa.out d0
       obtain⟨y0,y1,y2,y3⟩:=bc4 HT7.out
       obtain⟨s0,s1⟩:=bc2 HS7.out
       have sf0:=HS7.out.frozen 0
       have sf1:=HS7.out.frozen 1
       clear hl hn7 hmem hx' g hin hpos htop d0
       go_wp2_with fail
       have b8:Blk ((w7.setCell ⟨bs,0,none⟩ (.int .i64 x0)).setCell ⟨bs,1,none⟩ (.bool x1)) bs 30 #[.int .i64 x0,.bool x1]:=by have:=(HS7.out.set_ 0 (.int .i64 x0)).set_ 1 (.bool x1);simpa using this
       refine⟨⟨f,(x0,x1),mm - v,by omega,rfl,rfl,by rw[show ((39 - f:Nat):Int)+1=((40 - f:Nat):Int) by omega],qh ⟨(HFa.out.set_ (p:=⟨bs,0,none⟩) (.inl rfl) _).set_ (p:=⟨bs,1,none⟩) (.inl rfl) _,b8,HG2.out,Hx.out,HB7.out.1,HB7.out.2⟩⟩,?_⟩
       simp[intOf];try omega
     ·have HF:Hid (walkP t (e,a,r) n=(noP,140)):=qh (by rw[←HGo.out];exact goM_fork (by have:=HG.out;simp only;omega) hl)
      rw[hl] at hn7
      have hn2:n7=l.length+2:=hn7.out
      have t3:((n7:Int)==0)=false:=by simp;omega
      have t4:decide ((n7:Int)>1)=true:=by simp;omega
      have t5:decide (1<n7)=true:=by simp;omega
      clear hl hn7 hn2
      obtain⟨z0,z1,z2⟩:=bc3 HZ7.out
      have zf0:=HZ7.out.frozen 0
      have zf1:=HZ7.out.frozen 1
      have zf2:=HZ7.out.frozen 2
      go_wp2_with fail
      (try simp only[Exit.inBlock,Exit.then])
      (try rw[Exit.noGoto_ret])
      have hp:=ps3_keep HK7.out (b:=w.heap.size+1+1) (.inr (by omega)) (.int .i64 0) (.int .i64 0) (.bool false)
      refine bodyPost_ret (ps_results2 (fn:=Tryz.f91) (r:=6) (s:=7) rfl (ps3_blk HZ7.out (.int .i64 0) (.int .i64 0) (.bool false)) _ rfl) rfl ⟨by rw[HF.out];rfl,hp⟩
end Go.Proofs.YtpapiojicbbheaaGreatDoor

namespace Go.Proofs.YtpapiojicbbheaaGreatDoor
open Go.RowKit
def locP (t:Tp) (id:Int) (rev:Bool) (n:Int):Ps×Int:=if checkM t=0 then (match balM t.2.2.1 id with | none=>(noP,4) | some b=>walkP t (b.2.1,b.2.2,rev) n) else (noP,1)
set_option maxHeartbeats 8000000 in
set_option maxRecDepth 100000 in
theorem plocate_any (x:TA) (t:Tp) (B:Nat) (id:Int) (r:Bool) (n:Int) (w:World) (h:TpAt w B x t) (hs:TpSmall x t) (hB:B≤w.heap.size) :
    Calls Tryz.prog 54 #[.agg x.cs,.int .i64 id,.bool r,.int .i64 n] w (PsRet2 (locP t id r n) w):=by
  have HCh:=qh (fun (W:World) (hk:Keep Never w W)=>check_any x t B W (h.keep hk) hs (Nat.le_trans hB hk.size))
  have HBa:=qh (fun (W:World) (hk:Keep Never w W)=>bal_any x t B id W (h.keep hk) hs.b)
  have HWk:=qh (fun (W:World) (hk:Keep Never w W) (e a:Int)=>pwalk_any x t B e a r n W (h.keep hk) hs (Nat.le_trans hB hk.size))
  obtain⟨Ae,ne,ce,Aj,nj,cj,Ab,nb,cb,Ar,nr,cr⟩:=x
  simp only[TA.cs] at HCh HBa HWk ⊢
  clear h hs hB
  obtain⟨w1,hw1⟩:∃V:World,w.alloc (.cells #[.slice Ae ne ce,.slice Aj nj cj,.slice Ab nb cb,.slice Ar nr cr] 27)=V:=⟨_,rfl⟩
  have zw1:w1.heap.size=w.heap.size+1:=by rw[←hw1];simp
  have kw1:Keep Never w w1:=by rw[←hw1];exact(Keep.refl _ _).alloc _
  have bw1:=Blk.new w 27 #[.slice Ae ne ce,.slice Aj nj cj,.slice Ab nb cb,.slice Ar nr cr]
  rw[hw1] at bw1
  obtain⟨w2,hw2⟩:∃V:World,w1.alloc (.cells #[.int .i64 0,.int .i64 0,.bool false] 71)=V:=⟨_,rfl⟩
  have kw2:Keep Never w1 w2:=by rw[←hw2];exact(Keep.refl _ _).alloc _
  have bw2:=Blk.new w1 71 #[.int .i64 0,.int .i64 0,.bool false]
  rw[hw2,zw1] at bw2
  have HB1:=qh (bw1.keep kw2 (fun h=>h))
  have HB2:=qh bw2
  have HK:=qh (kw1.trans kw2)
  clear kw1 kw2 bw1 bw2
  obtain⟨y0,y1,y2,y3⟩:=bc4 HB1.out
  have HC:=qh (HCh.out w2 HK.out)
  obtain⟨ck,hck⟩:∃z,checkM t=z:=⟨_,rfl⟩
  rw[hck] at HC
  go_enter Tryz.func54, Tryz.ntmps54
  go_wp2_with fail
  refine HC.out.mono ?_
  rintro en w4 ⟨rfl,hk4⟩
  have HK4:=qtr HK hk4
  have HT4:=qkb HB1 hk4
  have HZ4:=qkb HB2 hk4
  clear hk4 HC HCh HB1 HB2 y0 y1 y2 y3 hw1 hw2 zw1
  by_cases g:ck=0
  case neg=>
   have t0:(ck != 0)=true:=by simpa using g
   have HF:Hid (locP t id r n=(noP,1)):=qh (by unfold locP;rw[if_neg (by rw[hck];exact g)])
   clear g hck
   obtain⟨z0,z1,z2⟩:=bc3 HZ4.out
   have zf0:=HZ4.out.frozen 0
   have zf1:=HZ4.out.frozen 1
   have zf2:=HZ4.out.frozen 2
   go_wp2_with fail
   (try simp only[Exit.inBlock,Exit.then])
   have hp:=ps3_keep HK4.out (b:=w.heap.size+1) (.inr (by omega)) (.int .i64 0) (.int .i64 0) (.bool false)
   refine bodyPost_ret (ps_results2 (fn:=Tryz.f54) (r:=8) (s:=9) rfl (ps3_blk HZ4.out (.int .i64 0) (.int .i64 0) (.bool false)) _ rfl) rfl ⟨by rw[HF.out];rfl,hp⟩
  have t0:(ck != 0)=false:=by simpa using g
  have HF0:Hid (locP t id r n=match balM t.2.2.1 id with | none=>(noP,4) | some b=>walkP t (b.2.1,b.2.2,r) n):=qh (by unfold locP;rw[if_pos (by rw[hck];exact g)])
  clear g hck
  have hC0:=HBa.out w4 HK4.out
  unfold BalRet at hC0
  obtain⟨ob,hob⟩:∃z,balM t.2.2.1 id=z:=⟨_,rfl⟩
  rw[hob] at hC0 HF0
  have HC:=qh hC0
  clear hC0 hob HBa
  obtain⟨y0,y1,y2,y3⟩:=bc4 HT4.out
  cases ob with
  | none=>
   have HF:Hid (locP t id r n=(noP,4)):=qh HF0.out
   go_wp2_with fail
   refine HC.out.mono ?_
   rintro en w5 ⟨rfl,hk5⟩
   have HK5:=qtr HK4 hk5
   have HZ5:=qkb HZ4 hk5
   clear hk5 HC y0 y1 y2 y3
   simp only[Option.getD,Option.isSome]
   have HK6:=qh (HK5.out.trans ((Keep.refl Never w5).alloc (.cells #[.int .i64 0,.int .i64 0,.int .i64 0] 94)))
   have HZ6:=qh (HZ5.out.alloc (.cells #[.int .i64 0,.int .i64 0,.int .i64 0] 94))
   obtain⟨z0,z1,z2⟩:=bc3 HZ6.out
   have zf0:=HZ6.out.frozen 0
   have zf1:=HZ6.out.frozen 1
   have zf2:=HZ6.out.frozen 2
   go_wp2_with fail
   (try simp only[Exit.inBlock,Exit.then])
   have hp:=ps3_keep HK6.out (b:=w.heap.size+1) (.inr (by omega)) (.int .i64 0) (.int .i64 0) (.bool false)
   refine bodyPost_ret (ps_results2 (fn:=Tryz.f54) (r:=8) (s:=9) rfl (ps3_blk HZ6.out (.int .i64 0) (.int .i64 0) (.bool false)) _ rfl) rfl ⟨by rw[HF.out];rfl,hp⟩
  | some b=>
   obtain⟨b1,b2,b3⟩:=b
   have HF:Hid (locP t id r n=walkP t (b2,b3,r) n):=qh HF0.out
   go_wp2_with fail
   refine HC.out.mono ?_
   rintro en w5 ⟨rfl,hk5⟩
   have HK5:=qtr HK4 hk5
   have HT5:=qkb HT4 hk5
   have HZ5:=qkb HZ4 hk5
   clear hk5 HC y0 y1 y2 y3
   simp only[Option.getD,Option.isSome]
   obtain⟨w6,hw6⟩:∃V:World,w5.alloc (.cells #[.int .i64 b1,.int .i64 b2,.int .i64 b3] 94)=V:=⟨_,rfl⟩
   have K6:Keep Never w5 w6:=by rw[←hw6];exact(Keep.refl _ _).alloc _
   have B6:=Blk.new w5 94 #[.int .i64 b1,.int .i64 b2,.int .i64 b3]
   rw[hw6] at B6
   obtain⟨bb,hbb⟩:∃q,w5.heap.size=q:=⟨_,rfl⟩
   rw[hbb] at B6
   have HK6:=qtr HK5 K6
   have HT6:=qkb HT5 K6
   have HZ6:=qkb HZ5 K6
   have HB6:=qh B6
   clear K6 B6
   obtain⟨y0,y1,y2,y3⟩:=bc4 HT6.out
   obtain⟨q0,q1,q2⟩:=bc3 HB6.out
   have HC:=qh (HWk.out w6 HK6.out b2 b3)
   go_wp2_with fail
   refine HC.out.mono ?_
   clear hw6 hbb
   rintro en w7 ⟨rfl,hk7⟩
   have HK7:=qtr HK6 hk7
   have HZ7:=qkb HZ6 hk7
   clear hk7 HC y0 y1 y2 y3 q0 q1 q2
   obtain⟨⟨⟨o1,o2,o3⟩,oe⟩,hov⟩:∃z,walkP t (b2,b3,r) n=z:=⟨_,rfl⟩
   rw[hov] at HF
   rw[hov]
   clear hov
   obtain⟨z0,z1,z2⟩:=bc3 HZ7.out
   have zf0:=HZ7.out.frozen 0
   have zf1:=HZ7.out.frozen 1
   have zf2:=HZ7.out.frozen 2
   go_wp2_with fail
   (try simp only[Exit.inBlock,Exit.then])
   have hp:=ps3_keep HK7.out (b:=w.heap.size+1) (.inr (by omega)) (.int .i64 o1) (.int .i64 o2) (.bool o3)
   refine bodyPost_ret (ps_results2 (fn:=Tryz.f54) (r:=8) (s:=9) rfl (ps3_blk HZ7.out (.int .i64 o1) (.int .i64 o2) (.bool o3)) _ rfl) rfl ⟨by rw[HF.out];rfl,hp⟩
end Go.Proofs.YtpapiojicbbheaaGreatDoor

namespace Go.Proofs.YtpapiojicbbheaaGreatDoor
open Go.RowKit
def buildM (t:Tp) (l:List Lk) (train ref:Int) (rev:Bool) (n:Int):Ma×Int:=
  if (locP t ref rev n).2≠0 then (noMa,(locP t ref rev n).2) else
  match balM t.2.2.1 ref with
  | none=>(noMa,4)
  | some b=>
   let s:Stp:=((locP t ref rev n).1.1,(locP t ref rev n).1.2.2)
   let c:=chainM t l train s
   let back:=alongP t (b.2.1,b.2.2,rev)
   let g:=goneM t 40 (b.2.1,rev) (n+back)
   if c=[] then (noMa,4) else endC ref rev n (wayC t s g c c.length) (lessS (secC t s g back c c.length) (gapC t c c.length)) (gapC t c c.length)
end Go.Proofs.YtpapiojicbbheaaGreatDoor

namespace Go.Proofs.YtpapiojicbbheaaGreatDoor
open Go.RowKit
set_option maxRecDepth 100000 in
theorem elemLk:Elem Tryz.prog 28 62 3 24:=⟨Tryz.underlying28, _,_,rfl,rfl,rfl,rfl,rfl,by omega⟩
theorem lkAt_own {w:World}{base n c:Nat}{A:Option Addr}{l:List Lk} (h:Own w base 62 3 A n c (spCells l)):SpAt w w.heap.size A n c l:=
  ⟨h.rd,(fun e=>by
   rcases h.form with⟨_,_,h2,_⟩ | ⟨_,_,h2,_⟩
   ·exact h2
   ·rw[e] at h2;cases h2),h.cap_le⟩
end Go.Proofs.YtpapiojicbbheaaGreatDoor

namespace Go.Proofs.YtpapiojicbbheaaGreatDoor
open Go.RowKit
def LksRet (m:List Lk) (w:World) (e:Ending) (w':World):Prop:=∃A n c,e=.returned (.slice A n c)∧Hid (n=m.length)∧Own w' w.heap.size 62 3 A n c (spCells m)∧Keep Never w w'
theorem TpAt.wide {w:World}{B B2:Nat}{x:TA}{t:Tp} (h:TpAt w B x t) (hB:B≤B2):TpAt w B2 x t:=⟨h.e.more hB,h.j.more hB,h.b.more hB,h.r.more hB⟩
end Go.Proofs.YtpapiojicbbheaaGreatDoor
