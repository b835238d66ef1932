/- Regions inside a round; code as a tree; ranges over a function. -/
import Derived.Test.YtmnogjgmkpjpoaaGreatQJ
import Derived.RangeFuncNested
import Derived.RangeFuncLeaves
import Derived.RangeFuncFrom
import Derived.OrdersIn
import Derived.TacticsIn
import Derived.LoopNIn
set_option linter.unusedSimpArgs false
set_option linter.unusedVariables false
set_option linter.constructorNameAsVariable false
namespace Go.Vc
open Go.RowKit
def fen (rd:Option Nat):Fence:={Fence.wide with round:=rd}
theorem fen_depth (rd:Option Nat){n:Nat}:(fen rd).depth.isSome=true→1≤n:=fun h=>by simp [fen,Fence.wide] at h
theorem callsIn_fen {rd:Option Nat}{n:Nat}{P:Program}{f:FuncId}{args:Array Value}{w:World}{R:Ending→World→Prop}(h:Calls P f args w R):CallsIn (fen rd) n P f args w R:=by
 have h1:CallsIn Fence.wide n P f args w R:=callsIn_wide.2 h
 exact h1
section
variable {P:Program} {ops:Array Oper} {Q:Exit→Act→World→Prop} {rd:Option Nat} {m:Nat}
theorem op_fen {o:Oper}{a:Act}{w:World}{next next':Act→World→Prop}(hd:∀c,o.op≠ .defer c)(hn:∀a w,next a w→next' a w)(h:o.wp P a w next Q):o.wpIn (fen rd) m P a w next' Q:=by
 refine Oper.wpIn_mono hn ⟨fun _ _=>trivial,?_⟩
 show o.uponIn (fen rd) m P a next Q ((o.semAt rd a.eval).run P w)
 rw[Oper.semAt_eq rd a.eval o hd]
 unfold Oper.wp at h
 generalize (execOp a.eval o).run P w=r at h⊢
 cases r with
 |ok x w'=>
  cases x<;>simp only[Oper.upon,Oper.uponIn] at h⊢ <;>
   first
    |exact h
    |exact⟨fen_depth rd,(callsIn_fen h).mono fun e w'' he=>by cases e<;>exact he⟩
    |exact⟨fen_depth rd,fun c cs _=>by obtain⟨v,w2,r,s⟩:=h c cs;exact⟨v,w2,r,stepsIn_wide.2 s⟩⟩
 |halt x w'=>cases x<;>simp only[Oper.upon,Oper.uponIn] at h⊢ <;>exact h
theorem list_fen (hno:¬LetsOut Q):∀(os:List Oper) (a:Act) (w:World),(∀o∈os,∀c,o.op≠ .defer c)→wpList P ops Q os a w→wpListIn (fen rd) m P ops Q os a w
 |[],a,w,_,h=>h
 |o::os,a,w,hd,h=>by
  have ih:=fun a w=>list_fen hno os a w (fun o' ho'=>hd o' (by simp [ho']))
  unfold wpList at h
  unfold wpListIn
  split at h
  ·rename_i hw
   rw[if_pos hw]
   rcases h with h|⟨_,h⟩
   ·exact op_fen (hd o (by simp)) ih h
   ·exact absurd h hno
  ·rename_i hw
   rw[if_neg hw]
   exact⟨fun _ _=>trivial,ih _ _ h⟩
theorem any_fen (hno:¬LetsOut Q){md:Region.Mode}(hd:∀o∈ops.toList,∀c,o.op≠ .defer c):∀(fuel:Nat) (l:Array Bool) (a:Act) (w:World),wpAny P md ops Q fuel l a w→wpAnyIn (fen rd) m P md ops Q fuel l a w
 |0,l,a,w,h=>h
 |fuel+1,l,a,w,h=>by
  refine⟨h.1,fun i hi=>?_⟩
  have h1:=h.2 i hi
  have ih:=fun a w=>any_fen (md:=md) hno hd fuel (l.setIfInBounds i true) a w
  unfold wpOp at h1
  unfold wpOpIn
  split
  ·rename_i hn;simp only[hn] at h1;exact ih _ _ h1
  ·rename_i o ho
   simp only[ho] at h1
   have hmem:o∈ops.toList:=by
    rw[←Array.getElem?_toList] at ho
    exact List.mem_of_getElem? ho
   split at h1
   ·rename_i hw
    rw[if_pos hw]
    rcases h1 with h1|⟨_,h1⟩
    ·exact op_fen (hd o hmem) ih h1
    ·exact absurd h1 hno
   ·rename_i hw
    rw[if_neg hw]
    exact⟨fun _ _=>trivial,ih _ _ h1⟩
end
section
variable {P:Program} {n:Nat} {ops:Array Oper} {Q:Exit→Act→World→Prop} {R:Ending→World→Prop} {ds:List Deferred} {rd:Option Nat} {m:Nat}
theorem region_fen {draw:Bool}{pt:PT}(hpl:planOf P n ops draw=some pt)(hnd:∀o∈ops.toList,∀c,o.op≠ .defer c)(hno:¬LetsOut Q){id:Nat}{e:Env}{a:Act}{w:World}(ha:AgreeD ds n e a)
  (hQ:∀c (a:Act) dst v w,Q (.panic c) (a.put dst v) w→Q (.panic c) a w)
  {K:Env→World→Prop} (hK:∀e a w,AgreeD ds n e a→K e w→Q .normal a w)
  (hp:∀c e (a:Act) w',AgreeD ds n e a→R (.panicked c) w'→Q (.panic c) a w') (ho:∀w',R .outgrown w'→LetsOut Q)
  (hv:ptV P R pt e (if draw then w.drew else w) K):(Code.region id ops draw).wpIn (fen rd) m P Q a w:=by
 unfold planOf at hpl
 cases draw with
 |true=>
  simp only[if_true] at hpl hv
  split at hpl
  ·rename_i hcond
   simp only[Bool.and_eq_true] at hcond
   refine wpIn_region_any hcond.1 (any_fen hno hnd _ _ _ _ (wpAny_of (I:=fun _ _=>True) _ _ _ _ ?_))
   exact gen_sound hcond.2 hQ hK hp ho ops.size _ [] pt e a _ _ hpl (by simp) (Closed.init ops) ha (fun _ _ _ _ _=>trivial) (fun _ _ _ _ _=>trivial) trivial
    (fun p hp=>by cases hp) (fun _ _ _ _=>trivial) hv
  ·cases hpl
 |false=>
  simp only[Bool.false_eq_true,if_false] at hpl hv
  exact wpIn_region_list (list_fen hno _ _ _ hnd (genS_sound hK hp ho ops.toList pt e a w hpl ha hv))
end
inductive CT where
 |skip
 |reg (p:PT) (dr:Bool)
 |yld (p1:PT) (d:Option Nat) (x:Operand) (xs:List Operand) (p2:PT)
 |seq (a b:CT)
 |cnd (c:Operand) (a b:CT)
 |blk (id:Nat) (a:CT)
 |exit (id:Nat)
 |ret
 |loop (a:CT)
 |rng (g:Operand) (ps:List Nat) (asg body:CT)
 |bad
 deriving Inhabited
def noDefer (ops:Array Oper):Bool:=ops.toList.all fun o=>match o.op with| .defer _=>false|_=>true
theorem noDefer_spec {ops:Array Oper}(h:noDefer ops=true):∀o∈ops.toList,∀c,o.op≠ .defer c:=by
 intro o ho c hc
 have:=List.all_eq_true.1 h o ho
 rw[hc] at this;cases this
def isCallv (o:Oper):Bool:=match o.op with
 | .call c=>match c.callee with
  | .value (.tmp _)=>o.guard.isNone
  |_=>false
 |_=>false
def splitY:List Oper→Option (List Oper×Oper×List Oper)
 |[]=>none
 |o::os=>if isCallv o then some ([],o,os) else (splitY os).map fun r=>(o::r.1,r.2.1,r.2.2)
theorem splitY_spec:∀{l a:List Oper} {o:Oper} {b:List Oper},splitY l=some (a,o,b)→l=a++o::b∧isCallv o=true
 |[],a,o,b,h=>by cases h
 |x::l,a,o,b,h=>by
  unfold splitY at h
  split at h
  ·rename_i hc;cases h;exact⟨rfl,hc⟩
  ·cases hs:splitY l with
   |none=>rw[hs] at h;cases h
   |some r=>
    obtain⟨a',o',b'⟩:=r
    rw[hs] at h;cases h
    obtain⟨h1,h2⟩:=splitY_spec hs
    exact⟨by rw[h1];rfl,h2⟩
def dOK (n:Nat):Option Nat→Bool
 |some d=>decide (d<n)
 |none=>true
theorem dOK_spec {n:Nat}{d:Option Nat}(h:dOK n d=true):∀t,d=some t→t<n:=by
 rintro t rfl;exact of_decide_eq_true h
def yldT (P:Program)(n:Nat)(ops:Array Oper):Option (PT×Option Nat×Operand×List Operand×PT):=
 (splitY ops.toList).bind fun r=>match r.2.1.op with
  | .call c=>match c.callee with
   | .value x=>(genS P n ops r.1).bind fun p1=>(genS P n ops r.2.2).bind fun p2=>if dOK n r.2.1.dst then some (p1,r.2.1.dst,x,c.args.toList,p2) else none
   |_=>none
  |_=>none
def codeT (P:Program)(n:Nat)(yl:Bool):Code→CT
 | .skip=>.skip
 | .region _ ops dr=>if noDefer ops then (if yl&&(splitY ops.toList).isSome then (if dr then .bad else match yldT P n ops with|some (p1,d,x,xs,p2)=>.yld p1 d x xs p2|none=>.bad) else match planOf P n ops dr with
  |some p=>.reg p dr
  |none=>.bad) else .bad
 | .seq x y=>.seq (codeT P n yl x) (codeT P n yl y)
 | .cond c x y=>.cnd c (codeT P n yl x) (codeT P n yl y)
 | .block id x=>.blk id (codeT P n yl x)
 | .loop x=>.loop (codeT P n yl x)
 | .exit id=>.exit id
 | .ret=>.ret
 | .rangeFunc g ps a c=>if ps.toList.all (fun t=>decide (t<n)) then .rng g ps.toList (codeT P n yl a) (codeT P n yl c) else .bad
 |_=>.bad
def RF:Ending→World→Prop:=fun _ _=>False
abbrev KD:=List Deferred→Env→World→Prop
def setPs (ps:List Nat)(vs:List Value)(e:Env):Env:=(ps.zip vs).foldl (fun e (p:Nat×Value)=>p::e) e
def collD (D:Nat):Deferred:={target:=.collected D,args:=#[]}
def Yv (P:Program)(m l:Nat)(vs:List Value)(w:World)(C:Value→World→Prop):Prop:=YieldAt (fen none) (m - 1) P l vs.toArray w fun en w'=> ∃v,en=.returned v∧C v w'
def ctV (P:Program)(n:Nat):CT→(rd:Option Nat)→(m:Nat)→(K:KD)→(X:Option Nat→KD)→KD
 | .skip,_,_,K,_,ds,e,w=>K ds e w
 | .reg p dr,_,_,K,_,ds,e,w=>ptV P RF p e (drw dr w) (K ds)
 | .yld p1 d x xs p2,rd,m,K,_,ds,e,w=>rd=none∧ptV P RF p1 e w fun e1 w1=> ∃l,ev e1 x=some (.func (.yield l) #[] #[])∧getV (evs e1 xs) fun vs=>Yv P m l vs w1 fun v w2=>ptV P RF p2 (put d v e1) w2 (K ds)
 | .seq a b,rd,m,K,X,ds,e,w=>ctV P n a rd m (ctV P n b rd m K X) X ds e w
 | .cnd c a b,rd,m,K,X,ds,e,w=>getV (ev e c) fun v=>cdV v (ctV P n a rd m K X ds e w) (ctV P n b rd m K X ds e w)
 | .blk id a,rd,m,K,X,ds,e,w=>ctV P n a rd m K (fun k=>if k=some id then K else X k) ds e w
 | .exit id,_,_,_,X,ds,e,w=>X (some id) ds e w
 | .ret,_,_,_,X,ds,e,w=>X none ds e w
 | .loop a,rd,m,_,X,ds,e,w=> ∃I:Nat→List Deferred→Env→World→Prop,(∃j,I j ds e w)∧∀j ds e w,I j ds e w→ctV P n a rd m (fun ds e w=> ∃i,j=i+1∧I i ds e w) X ds e w
 | .rng g ps asg body,rd,m,K,X,ds,e,w=>rd=none∧1≤m∧
  ∃(α:Type) (gf:Nat) (lb:Array Value) (encs:α→Array Value) (Kp:World→World→Prop) (S Sp:List α→Prop) (N:Nat) (w0:World) (I:List α→World→Prop) (Ix:Option Nat→List α→World→Prop) (Ax:α→Env→World→Prop),
   ev e g=some (.func (.func gf) #[] lb)∧plainF P gf=true∧SeqStopsK (fen none) (m - 1) P gf lb encs Kp S Sp N w0∧(∀A B C,Kp A B→Kp B C→Kp A C)∧(∀W,Kp W W)∧
   (∀(W:World) (l:Nat) (o o':Obj),w.heap.size≤l→W.heap[l]?=some o→o.isCells=false→o.isWalk=false→Kp W (W.putObj l o'))∧Below w0.heap.size w0 w∧(∀x,(encs x).size=ps.length)∧
   OwnFrom w.heap.size I∧(∀k,OwnFrom w.heap.size (Ix k))∧I [] w∧(∀x e1,OwnFrom w.heap.size (fun (_:Unit) W=>Ax x e1 W))∧
   (∀l pre x W,I pre W→ctV P n asg (some l) (m - 2) (fun ds e1 W1=>ds=[]∧KeepsFrom w.heap.size W W1∧Kp W W1∧I pre W1∧Ax x e1 W1) (fun _ _ _ _=>False) [] (setPs ps (encs x).toList e) W)∧
   (∀l pre x e1 W,w.heap.size≤l→(∃r,W.heap[l]?=some (.loop r))→I pre W→Ax x e1 W→pre.length<N→
    ctV P n body (some l) (m - 2) (fun _ _ W'=>KeepsFrom w.heap.size W W'∧Kp W W'∧I (pre++[x]) W') (fun k _ _ W'=>KeepsFrom w.heap.size W W'∧Ix k (pre++[x]) W') [] e1 W)∧
   (∀D xs W,w.heap.size≤D→S xs→I xs W→W.heap[D]?=some (.deferred (some []))→K (collD D::ds) e W)∧
   (∀D k pre W,w.heap.size≤D→Sp pre→Ix k pre W→W.heap[D]?=some (.deferred (some []))→X k (collD D::ds) e W)
 | .bad,_,_,_,_,_,_,_=>False
section
variable {P:Program} {n:Nat}
theorem wpListIn_append {F:Fence}{m:Nat}{ops:Array Oper}{Q:Exit→Act→World→Prop}:∀(a b:List Oper) (ac:Act) (w:World),wpListIn F m P ops (Exit.then (wpListIn F m P ops Q b) Q) a ac w→wpListIn F m P ops Q (a++b) ac w
 |[],b,ac,w,h=>h
 |o::a,b,ac,w,h=>by
  have ih:=fun ac w=>wpListIn_append (F:=F) (m:=m) (ops:=ops) (Q:=Q) a b ac w
  rw[List.cons_append]
  unfold wpListIn at h⊢
  split at h
  ·rename_i hw
   rw[if_pos hw]
   have h1:=Oper.wpIn_mono ih h
   refine⟨h1.1,?_⟩
   have h2:=h1.2
   generalize (o.semAt F.round ac.eval).run P w=r at h2⊢
   cases r with
   |ok x w'=>cases x<;>simp only[Oper.uponIn] at h2⊢ <;>first|exact h2|exact⟨h2.1,CallsIn.mono h2.2 fun e w'' he=>by cases e<;>exact he⟩|exact⟨h2.1,RoundIn.mono h2.2 fun e w'' he=>by cases e<;>exact he⟩
   |halt x w'=>cases x<;>simp only[Oper.uponIn] at h2⊢ <;>exact h2
  ·rename_i hw
   rw[if_neg hw]
   exact⟨fun f hf=>h.1 f hf,ih _ _ h.2⟩
theorem setPs_agree {ds:List Deferred}:∀{ps:List Nat} {vs:List Value} {e:Env} {a:Act},AgreeD ds n e a→(∀p∈ps,p<n)→
  AgreeD [] n (setPs ps vs e) {tmps:=(ps.zip vs).foldl (fun t (p:Nat×Value)=>t.setIfInBounds p.1 p.2) a.tmps,defers:=[]}
 |[],vs,e,a,h,_=>⟨h.size,rfl,h.val⟩
 |p::ps,[],e,a,h,_=>⟨h.size,rfl,h.val⟩
 |p::ps,v::vs,e,a,h,hp=>by
  have h1:AgreeD ds n (put (some p) v e) (a.put (some p) v):=h.put (some p) (fun t ht=>by cases ht;exact hp p (by simp)) v
  exact setPs_agree (ps:=ps) (vs:=vs) h1 fun q hq=>hp q (by simp [hq])
end
section
variable {P:Program} {n:Nat}
theorem op_yield {ds:List Deferred}{o:Oper}{c:Call}{x:Operand}{l m:Nat}{e:Env}{a:Act}{w:World}{vs:List Value}{next:Act→World→Prop}{Q:Exit→Act→World→Prop}(ho:o.op=.call c)(hc:c.callee=.value x)
  (ha:AgreeD ds n e a) (hx:ev e x=some (.func (.yield l) #[] #[])) (hv:evs e c.args.toList=some vs) (h:Yv P m l vs w fun v w'=>next (a.put o.dst v) w'):o.wpIn (fen none) m P a w next Q:=by
 have hargs:c.args.map a.eval=vs.toArray:=by
  apply Array.ext'
  simpa using ha.evs hv
 obtain⟨fn,tmps,assign,body,hy,hR⟩:=h
 have hr:(execOp a.eval o).run P w=.ok (.round l fn tmps assign body) w:=by
  obtain⟨op,dst,ty,pos,aft,gd⟩:=o
  simp only at ho
  subst ho
  obtain⟨callee,args,argTypes⟩:=c
  simp only at hc hargs
  subst hc
  simp only[execOp,resolve,ha.ev hx,hargs,Deferred.ofValue,Sem.run_bind,Sem.run_pure,Result.andThen_ok,invoke]
  have he:(#[]++vs.toArray:Array Value)=vs.toArray:=by simp
  simpa [he] using hy
 refine⟨fun _ _=>trivial,?_⟩
 show o.uponIn (fen none) m P a next Q ((o.semAt none a.eval).run P w)
 rw[Oper.semAt_none,hr]
 refine⟨fen_depth none,RoundIn.mono hR fun en w' he=>?_⟩
 obtain⟨v,rfl,hk⟩:=he
 exact hk
end
def onlyN (K:Act→World→Prop):Exit→Act→World→Prop:=fun ex a w=>match ex with
 | .normal=>K a w
 |_=>False
theorem onlyN_no (K:Act→World→Prop):¬LetsOut (onlyN K):=fun ⟨_,_,h⟩=>h
theorem onlyN_q {K:Act→World→Prop}{Q:Exit→Act→World→Prop}(h:∀a w,K a w→Q .normal a w):∀ex a w,onlyN K ex a w→Q ex a w:=by
 intro ex a w hq
 cases ex<;>first|exact h _ _ hq|exact hq.elim
theorem callFunc_plain {P:Program}{gf:Nat}(hp:plainF P gf=true)(args:Array Value)(w:World):(callFunc gf args).run P w=.ok (.enter gf args) w:=by
 unfold plainF at hp
 cases hf:P.funcs[gf]? with
 |none=>simp [hf] at hp
 |some fn=>
  simp only[hf,Bool.and_eq_true,Bool.not_eq_true'] at hp
  have hnm:(fn.name== "runtime.NumGoroutine")=false:=hp.1
  have hb:fn.body.isNone=false:=hp.2
  simp only[callFunc,Sem.run_bind,run_program,Result.andThen_ok,hf,hb,hnm,Bool.false_eq_true,if_false,Sem.run_pure]
def ixC {α:Type}(Ix:Option Nat→List α→World→Prop):Code→List α→World→Prop
 | .ret=>Ix none
 | .exit id=>Ix (some id)
 |_=>fun _ _=>False
section
variable {P:Program} {n:Nat} {yl:Bool}
theorem reg_sound {rd:Option Nat}{m:Nat}{ops:Array Oper}{dr:Bool}{id:Nat}{p:PT}(hpl:planOf P n ops dr=some p)(hnd:noDefer ops=true){ds:List Deferred}{e:Env}{a:Act}{w:World}(ha:AgreeD ds n e a)
  {K:Env→World→Prop} {Q:Exit→Act→World→Prop} (hK:∀e a w,AgreeD ds n e a→K e w→Q .normal a w) (h:ptV P RF p e (drw dr w) K):(Code.region id ops dr).wpIn (fen rd) m P Q a w:=by
 refine Code.wpIn_mono (onlyN_q (K:=fun a w=>Q .normal a w) fun _ _ h=>h) ?_
 exact region_fen (R:=RF) hpl (noDefer_spec hnd) (onlyN_no _) ha (fun _ _ _ _ _ h=>h.elim) (K:=K) (fun e a w h1 h2=>hK e a w h1 h2) (fun _ _ _ _ _ h=>h.elim) (fun _ h=>h.elim) h
theorem yld_sound {m:Nat}{ops:Array Oper}{id:Nat}{p1 p2:PT}{d:Option Nat}{x:Operand}{xs:List Operand}(hy:yldT P n ops=some (p1,d,x,xs,p2))(hnd:noDefer ops=true){ds:List Deferred}{e:Env}{a:Act}{w:World}(ha:AgreeD ds n e a)
  {K:Env→World→Prop} {Q:Exit→Act→World→Prop} (hK:∀e a w,AgreeD ds n e a→K e w→Q .normal a w)
  (h:ptV P RF p1 e w fun e1 w1=> ∃l,ev e1 x=some (.func (.yield l) #[] #[])∧getV (evs e1 xs) fun vs=>Yv P m l vs w1 fun v w2=>ptV P RF p2 (put d v e1) w2 K):(Code.region id ops false).wpIn (fen none) m P Q a w:=by
 refine Code.wpIn_mono (onlyN_q (K:=fun a w=>Q .normal a w) fun _ _ h=>h) ?_
 have hd:=noDefer_spec hnd
 unfold yldT at hy
 cases hs:splitY ops.toList with
 |none=>rw[hs] at hy;cases hy
 |some r=>
 obtain⟨l1,o,l2⟩:=r
 rw[hs] at hy
 simp only[Option.bind_some] at hy
 obtain⟨hsp,hcv⟩:=splitY_spec hs
 cases hop:o.op with
 |call c=>
  rw[hop] at hy
  simp only at hy
  cases hcal:c.callee with
  |value x'=>
   rw[hcal] at hy
   simp only at hy
   cases hg1:genS P n ops l1 with
   |none=>rw[hg1] at hy;cases hy
   |some q1=>
   cases hg2:genS P n ops l2 with
   |none=>rw[hg1,hg2] at hy;cases hy
   |some q2=>
   rw[hg1,hg2] at hy
   simp only[Option.bind_some] at hy
   by_cases hdst:dOK n o.dst=true
   ·rw[if_pos hdst] at hy
    simp only[Option.some.injEq,Prod.mk.injEq] at hy
    obtain⟨rfl,rfl,rfl,rfl,rfl⟩:=hy
    refine wpIn_region_list ?_
    rw[hsp]
    refine wpListIn_append l1 (o::l2) a w ?_
    have hn1:∀o'∈l1,∀c,o'.op≠ .defer c:=fun o' ho'=>hd o' (by rw[hsp];simp [ho'])
    have hn2:∀o'∈l2,∀c,o'.op≠ .defer c:=fun o' ho'=>hd o' (by rw[hsp];simp [ho'])
    refine list_fen (fun ⟨_,_,h⟩=>h) l1 a w hn1 ?_
    refine genS_sound (R:=RF) (K:=fun e1 w1=> ∃l,ev e1 x'=some (.func (.yield l) #[] #[])∧getV (evs e1 c.args.toList) fun vs=>Yv P m l vs w1 fun v w2=>ptV P RF q2 (put o.dst v e1) w2 K) ?_ (fun _ _ _ _ _ h=>h.elim) (fun _ h=>h.elim) l1 q1 e a w hg1 ha h
    rintro e1 a1 w1 ha1 ⟨l,hx,hk⟩
    obtain⟨vs,hv,hk⟩:=getV_spec hk
    show wpListIn _ _ _ _ _ (o::l2) a1 w1
    have hgn:o.guard=none:=by
     unfold isCallv at hcv
     simp only[hop,hcal] at hcv
     cases x' with
     |tmp t=>simpa using hcv
     |_=>cases hcv
    have hw:Region.wanted o (yielded ops a1.tmps)=true:=by
     unfold Region.wanted;rw[hgn]
    unfold wpListIn
    rw[if_pos hw]
    refine op_yield hop hcal ha1 hx hv ?_
    obtain⟨fn,tmps,assign,body,hy1,hR⟩:=hk
    refine⟨fn,tmps,assign,body,hy1,RoundIn.mono hR ?_⟩
    rintro en w2 ⟨v,rfl,hk2⟩
    exact⟨v,rfl,list_fen (onlyN_no _) l2 _ _ hn2 (genS_sound (R:=RF) (K:=K) (Q:=onlyN fun a w=>Q Exit.normal a w) (fun e a w h1 h2=>hK e a w h1 h2) (fun _ _ _ _ _ h=>h.elim) (fun _ h=>h.elim) l2 q2 _ _ _ hg2 (ha1.put o.dst (dOK_spec hdst) v) hk2)⟩
   ·rw[if_neg hdst] at hy;cases hy
  |_=>rw[hcal] at hy;cases hy
 |_=>rw[hop] at hy;cases hy
theorem ct_sound:∀(c:Code) (rd:Option Nat) (m:Nat) (K:KD) (X:Option Nat→KD) (ds:List Deferred) (e:Env) (a:Act) (w:World) (Q:Exit→Act→World→Prop),
  ctV P n (codeT P n yl c) rd m K X ds e w→AgreeD ds n e a→(∀ds e a w,AgreeD ds n e a→K ds e w→Q .normal a w)→(∀ds e a w,AgreeD ds n e a→X none ds e w→Q .ret a w)→
  (∀id ds e a w,AgreeD ds n e a→X (some id) ds e w→Q (.exit id) a w)→c.wpIn (fen rd) m P Q a w:=by
 intro c
 induction c with
 |skip=>intro rd m K X ds e a w Q h ha hK hR hE;exact wpIn_skip (hK ds e a w ha h)
 |exit id=>intro rd m K X ds e a w Q h ha hK hR hE;exact wpIn_exit (hE id ds e a w ha h)
 |ret=>intro rd m K X ds e a w Q h ha hK hR hE;exact wpIn_ret (hR ds e a w ha h)
 |region id ops dr=>
  intro rd m K X ds e a w Q h ha hK hR hE
  unfold codeT at h
  split at h
  ·rename_i hnd
   split at h
   ·split at h
    ·exact h.elim
    ·rename_i hdr
     have hdr':dr=false:=by simpa using hdr
     subst hdr'
     cases hy:yldT P n ops with
     |none=>rw[hy] at h;exact h.elim
     |some r=>
      obtain⟨p1,d,x,xs,p2⟩:=r
      rw[hy] at h
      obtain⟨rfl,h⟩:=h
      exact yld_sound hy hnd ha (hK ds) h
   ·cases hp:planOf P n ops dr with
    |none=>rw[hp] at h;exact h.elim
    |some p=>rw[hp] at h;exact reg_sound hp hnd ha (hK ds) h
  ·exact h.elim
 |seq x y ihx ihy=>
  intro rd m K X ds e a w Q h ha hK hR hE
  exact wpIn_seq (ihx rd m _ X ds e a w _ h ha (fun ds e a w h1 h2=>ihy rd m K X ds e a w Q h2 h1 hK hR hE) hR hE)
 |cond c x y ihx ihy=>
  intro rd m K X ds e a w Q h ha hK hR hE
  obtain⟨v,hv,hk⟩:=getV_spec h
  unfold cdV at hk
  split at hk
  ·rename_i b
   cases b with
   |true=>exact wpIn_cond_true (ha.ev hv) (ihx rd m K X ds e a w Q (hk.1 rfl) ha hK hR hE)
   |false=>exact wpIn_cond_false (ha.ev hv) (ihy rd m K X ds e a w Q (hk.2 rfl) ha hK hR hE)
  ·exact hk.elim
 |block id x ih=>
  intro rd m K X ds e a w Q h ha hK hR hE
  refine wpIn_block (ih rd m K _ ds e a w _ h ha hK (fun ds e a w h1 h2=>?_) fun id' ds e a w h1 h2=>?_)
  ·rw[if_neg (by simp)] at h2;exact hR ds e a w h1 h2
  ·by_cases hi:id'=id
   ·subst hi;rw[if_pos rfl] at h2;simp only[Exit.inBlock,if_true];exact hK ds e a w h1 h2
   ·rw[if_neg (by simpa using hi)] at h2;simp only[Exit.inBlock,if_neg hi];exact hE id' ds e a w h1 h2
 |loop x ih=>
  intro rd m K X ds e a w Q h ha hK hR hE
  obtain⟨I,⟨j,hj⟩,hstep⟩:=h
  refine wpIn_loop_rounds (j+1) ?_
  clear hK
  induction j generalizing ds e a w with
  |zero=>
   exact ih rd m _ X ds e a w _ (hstep 0 ds e w hj) ha (fun ds e a w _ h2=>by obtain⟨i,hi,_⟩:=h2;omega) hR hE
  |succ j ihj=>
   refine ih rd m _ X ds e a w _ (hstep (j+1) ds e w hj) ha (fun ds e a w h1 h2=>?_) hR hE
   obtain⟨i,hi,hI⟩:=h2
   obtain rfl:i=j:=by omega
   exact ihj ds e a w h1 hI
 |rangeFunc g ps asg body iha ihb=>
  intro rd m K X ds e a w Q h ha hK hR hE
  unfold codeT at h
  split at h
  ·rename_i hps
   obtain⟨rfl,hm,α,gf,lb,encs,Kp,S,Sp,N,w0,I,Ix,Ax,hg,hpl,hseq,hKt,hKr,hKb,hb0,hsz,hI,hIx,h0,hAx,hasg,hbody,hdone,hstop⟩:=h
   have hpn:∀p∈ps.toList,p<n:=fun p hp=>of_decide_eq_true (List.all_eq_true.1 hps p hp)
   have hm2:m - 1 - 1=m - 2:=by omega
   refine wpIn_rangeFunc_ownH (F:=fen none) rfl hm (ha.ev hg) trivial (fun args w=>callFunc_plain hpl args w) hseq (fun h1 h2=>hKt _ _ _ h1 h2) hKb hb0 (fun x=>by rw[hsz];simp) I (ixC Ix) hI ?_ h0 (fun x a' W=> ∃e1,AgreeD [] n e1 a'∧Ax x e1 W) (fun x a' _ W W' row h hg hr=>by obtain⟨e1,h1,h2⟩:=h;exact⟨e1,h1,hAx x e1 () W W' row h2 hg hr⟩) ?_ ?_ ?_ ?_
   ·intro c
    cases c<;>first|exact hIx none|exact hIx (some _)|exact fun _ _ _ _ h _ _=>h.elim
   ·intro l pre x W K' hi hk
    rw[hm2]
    have hag:=setPs_agree (ps:=ps.toList) (vs:=(encs x).toList) ha hpn
    have hfold:(ps.zip (encs x)).foldl (fun t (p,v)=>t.setIfInBounds p v) a.tmps=(ps.toList.zip (encs x).toList).foldl (fun t (p:Nat×Value)=>t.setIfInBounds p.1 p.2) a.tmps:=by
     rw[←Array.foldl_toList,Array.toList_zip]
    rw[hfold]
    refine iha (some l) (m - 2) _ _ [] _ _ W _ (hasg l pre x W hi) hag (fun ds e a w h1 h2=>?_) (fun _ _ _ _ _ h=>h.elim) (fun _ _ _ _ _ _ h=>h.elim)
    obtain⟨rfl,h2,h3,h4,h5⟩:=h2
    exact hk _ _ h2 h3 h4 ⟨_,h1,h5⟩
   ·intro l pre x a' W hl hr hi hax hlt
    obtain⟨e1,hax,hax2⟩:=hax
    rw[hm2]
    exact ihb (some l) (m - 2) _ _ [] _ _ W _ (hbody l pre x e1 W hl hr hi hax2 hlt) hax (fun _ _ _ _ _ h=>h) (fun _ _ _ _ _ h=>h) (fun _ _ _ _ _ _ h=>h)
   ·intro D xs W hD hS hi hh
    have hag:AgreeD (collD D::ds) n e {a with defers:={target:=.collected D,args:=#[]}::a.defers}:=⟨ha.size,by rw[ha.nodef];rfl,ha.val⟩
    exact hK _ _ _ _ hag (hdone D xs W hD hS hi hh)
   ·intro D c pre W hD hS hx hh
    have hag:AgreeD (collD D::ds) n e {a with defers:={target:=.collected D,args:=#[]}::a.defers}:=⟨ha.size,by rw[ha.nodef];rfl,ha.val⟩
    cases c<;>first|exact hx.elim|exact wpIn_ret (hR _ _ _ _ hag (hstop D none pre W hD hS hx hh))|exact wpIn_exit (hE _ _ _ _ _ hag (hstop D (some _) pre W hD hS hx hh))
  ·exact h.elim
 |_=>intro rd m K X ds e a w Q h;exact h.elim
end
def ctOf (P:Program)(f:FuncId)(yl:Bool):Option (Nat×List RV×CT):=
 (P.funcs[f]?).bind fun fn=>fn.body.bind fun c=>(fn.results.toList.mapM (compRV P)).map fun rs=>(fn.ntmps,rs,codeT P fn.ntmps yl c)
def lvV (rs:List RV)(R:Ending→World→Prop):KD
 |[],e,w=>getV (rvs e w rs) fun vs=>R (.returned (retR vs)) w
 |d::ds,e,w=> ∃D,d=collD D∧w.heap[D]?=some (.deferred (some []))∧lvV rs R ds e (w.putObj D (.deferred none))
def lvX (rs:List RV)(R:Ending→World→Prop):Option Nat→KD
 |none=>lvV rs R
 |some _=>fun _ _ _=>False
section
variable {P:Program} {n:Nat}
theorem leaves_of_lv {F:Fence}{m:Nat}{fn:Func}{rs:List RV}(hrs:fn.results.toList.mapM (compRV P)=some rs){R:Ending→World→Prop}:∀(ds:List Deferred) (e:Env) (a:Act) (w:World),AgreeD ds n e a→lvV rs R ds e w→LeavesInM F m P fn a.tmps R ds .returning w
 |[],e,a,w,ha,h=>by
  obtain⟨vs,hv,hR⟩:=getV_spec h
  exact⟨_,results_run hrs ha hv,hR⟩
 |d::ds,e,a,w,ha,h=>by
  obtain⟨D,rfl,hd,hk⟩:=h
  refine⟨by simp,.inl ⟨D,_,rfl,run_takeDeferred hd,?_⟩⟩
  exact leaves_of_lv hrs ds e {a with defers:=ds} _ ⟨ha.size,rfl,ha.val⟩ hk
theorem callsIn_of_ct {m:Nat}{f:FuncId}{yl:Bool}{rs:List RV}{t:CT}(hC:ctOf P f yl=some (n,rs,t)){args:Array Value}(hn:args.size≤n){w:World}{R:Ending→World→Prop}
  (h:ctV P n t none m (lvV rs R) (lvX rs R) [] (argE 0 args.toList) w):CallsIn (fen none) m P f args w R:=by
 unfold ctOf at hC
 cases hf:P.funcs[f]? with
 |none=>simp [hf] at hC
 |some fn=>
 cases hb:fn.body with
 |none=>simp [hf,hb] at hC
 |some c=>
 cases hr:fn.results.toList.mapM (compRV P) with
 |none=>simp only[hf,hb,hr,Option.bind_some,Option.map_none] at hC;cases hC
 |some rs'=>
 simp only[hf,hb,hr,Option.bind_some,Option.map_some,Option.some.injEq,Prod.mk.injEq] at hC
 obtain⟨rfl,rfl,rfl⟩:=hC
 refine callsIn_of_wp_marks hf hb trivial ?_ rfl
 have ha:Agree fn.ntmps (argE 0 args.toList) {tmps:=args++Array.replicate (fn.ntmps - args.size) undef,defers:=[]}:=by
  refine⟨by simp;omega,rfl,fun t v hv=>?_⟩
  obtain⟨_,h2⟩:=look_argE _ _ _ _ hv
  simp only[Nat.sub_zero,Array.getElem?_toList] at h2
  rw[Array.getElem?_append_left (Array.getElem?_eq_some_iff.1 h2).1]
  exact h2
 refine ct_sound c none m (lvV rs' R) (lvX rs' R) [] _ _ w _ h ha ?_ ?_ ?_
 ·intro ds e a w ha hk
  show LeavesInM _ _ _ _ _ _ a.defers _ _
  rw[ha.nodef]
  exact leaves_of_lv hr ds e a w ha hk
 ·intro ds e a w ha hk
  show LeavesInM _ _ _ _ _ _ a.defers _ _
  rw[ha.nodef]
  exact leaves_of_lv hr ds e a w ha hk
 ·exact fun _ _ _ _ _ _ h=>h.elim
theorem calls_of_ct (m:Nat){f:FuncId}{yl:Bool}{rs:List RV}{t:CT}(hC:ctOf P f yl=some (n,rs,t)){args:Array Value}(hn:args.size≤n){w:World}{R:Ending→World→Prop}
  (h:ctV P n t none m (lvV rs R) (lvX rs R) [] (argE 0 args.toList) w):Calls P f args w R:=(callsIn_wide (n:=m)).1 (callsIn_of_ct hC hn h)
end
section
variable (P:Program) (n:Nat)
def nxV (t:CT)(rd:Option Nat)(m:Nat)(K:KD)(X:Option Nat→KD):KD:=ctV P n t rd m K X
def lpV (a:CT)(rd:Option Nat)(m:Nat)(K:KD)(X:Option Nat→KD):KD:=ctV P n (.loop a) rd m K X
def rgV (g:Operand)(ps:List Nat)(asg body:CT)(rd:Option Nat)(m:Nat)(K:KD)(X:Option Nat→KD):KD:=ctV P n (.rng g ps asg body) rd m K X
def cdW (v:Value)(A B:Prop):Prop:=cdV v A B
def yvV (m:Nat)(v:Value)(vs:List Value)(w:World)(C:Value→World→Prop):Prop:=∃l,v=.func (.yield l) #[] #[]∧Yv P m l vs w C
def blX (id:Nat)(K:KD)(X:Option Nat→KD):Option Nat→KD:=fun k=>if k=some id then K else X k
end
section
variable {P:Program} {n:Nat} {rd:Option Nat} {m:Nat} {K:KD} {X:Option Nat→KD} {ds:List Deferred} {e e':Env} {w:World}
theorem nx_at {t:CT}(h:ctV P n t rd m K X ds e w):nxV P n t rd m K X ds e w:=h
@[congr] theorem nxV_congr {t:CT} (h:e=e'):nxV P n t rd m K X ds e w=nxV P n t rd m K X ds e' w:=by rw[h]
@[congr] theorem lpV_congr {a:CT} (h:e=e'):lpV P n a rd m K X ds e w=lpV P n a rd m K X ds e' w:=by rw[h]
@[congr] theorem rgV_congr {g:Operand} {ps:List Nat} {asg body:CT} (h:e=e'):rgV P n g ps asg body rd m K X ds e w=rgV P n g ps asg body rd m K X ds e' w:=by rw[h]
@[congr] theorem cdW_congr {v v':Value} {A B:Prop} (h:v=v'):cdW v A B=cdW v' A B:=by rw[h]
@[congr] theorem yvV_congr {v v':Value} {vs vs':List Value} {C:Value→World→Prop} (h:v=v') (h2:vs=vs'):yvV P m v vs w C=yvV P m v' vs' w C:=by rw[h,h2]
theorem cdW_t (A B:Prop):cdW (.bool true) A B=A:=cdV_t A B
theorem cdW_f (A B:Prop):cdW (.bool false) A B=B:=cdV_f A B
theorem ctV_skip:ctV P n .skip rd m K X ds e w=K ds e w:=id rfl
theorem ctV_reg (p:PT)(dr:Bool):ctV P n (.reg p dr) rd m K X ds e w=ptV P RF p e (drw dr w) (K ds):=id rfl
theorem ctV_seq (a b:CT):ctV P n (.seq a b) rd m K X ds e w=ctV P n a rd m (nxV P n b rd m K X) X ds e w:=id rfl
theorem ctV_cnd (c:Operand)(a b:CT):ctV P n (.cnd c a b) rd m K X ds e w=getV (ev e c) fun v=>cdW v (ctV P n a rd m K X ds e w) (ctV P n b rd m K X ds e w):=id rfl
theorem ctV_blk (i:Nat)(a:CT):ctV P n (.blk i a) rd m K X ds e w=ctV P n a rd m K (blX i K X) ds e w:=id rfl
theorem ctV_exit (i:Nat):ctV P n (.exit i) rd m K X ds e w=X (some i) ds e w:=id rfl
theorem ctV_ret:ctV P n .ret rd m K X ds e w=X none ds e w:=id rfl
theorem ctV_loop (a:CT):ctV P n (.loop a) rd m K X ds e w=lpV P n a rd m K X ds e w:=id rfl
theorem ctV_rng (g:Operand)(ps:List Nat)(asg body:CT):ctV P n (.rng g ps asg body) rd m K X ds e w=rgV P n g ps asg body rd m K X ds e w:=id rfl
theorem ctV_yld (p1:PT)(d:Option Nat)(x:Operand)(xs:List Operand)(p2:PT):ctV P n (.yld p1 d x xs p2) none m K X ds e w=
  ptV P RF p1 e w fun e1 w1=>getV (ev e1 x) fun v=>getV (evs e1 xs) fun vs=>yvV P m v vs w1 fun v w2=>ptV P RF p2 (put d v e1) w2 (K ds):=by
 have h:(fun (e1:Env) (w1:World)=> ∃l,ev e1 x=some (.func (.yield l) #[] #[])∧getV (evs e1 xs) fun vs=>Yv P m l vs w1 fun v w2=>ptV P RF p2 (put d v e1) w2 (K ds))=
   fun e1 w1=>getV (ev e1 x) fun v=>getV (evs e1 xs) fun vs=>yvV P m v vs w1 fun v w2=>ptV P RF p2 (put d v e1) w2 (K ds):=by
  funext e1 w1
  cases hx:ev e1 x with
  |none=>simp [getV]
  |some v=>
   simp only[getV,Option.some.injEq,yvV]
   cases hv:evs e1 xs with
   |none=>simp
   |some vs=>rfl
 show (none=none∧ptV P RF p1 e w _)=_
 simp only[true_and,h]
theorem blX_hit (i:Nat):blX i K X (some i)=K:=if_pos rfl
theorem blX_none (i:Nat):blX i K X none=X none:=if_neg (by simp)
theorem blX_miss {i j:Nat}(h:¬j=i):blX i K X (some j)=X (some j):=if_neg (by simpa using h)
theorem lvX_none (rs:List RV)(R:Ending→World→Prop):lvX rs R none=lvV rs R:=id rfl
theorem lvV_nil (rs:List RV)(R:Ending→World→Prop):lvV rs R [] e w=getV (rvs e w rs) fun vs=>R (.returned (retR vs)) w:=id rfl
theorem lvV_cons {rs:List RV}{R:Ending→World→Prop}{D:Nat}(h:w.heap[D]?=some (.deferred (some [])))(k:lvV rs R ds e (w.putObj D (.deferred none))):lvV rs R (collD D::ds) e w:=⟨D,rfl,h,k⟩
theorem lp_of {a:CT}(I:Nat→List Deferred→Env→World→Prop)(j:Nat)(h0:I j ds e w)(h:∀j ds e w,I j ds e w→ctV P n a rd m (fun ds e w=> ∃i,j=i+1∧I i ds e w) X ds e w):lpV P n a rd m K X ds e w:=⟨I,⟨j,h0⟩,h⟩
theorem yv_of {l:Nat}{vs:List Value}{C:Value→World→Prop}{R:Ending→World→Prop}(h:YieldAt (fen none) (m - 1) P l vs.toArray w R)(hR:∀en w',R en w'→∃v,en=.returned v∧C v w'):yvV P m (.func (.yield l) #[] #[]) vs w C:=by
 obtain⟨fn,tmps,assign,body,hy,hr⟩:=h
 exact⟨l,rfl,fn,tmps,assign,body,hy,RoundIn.mono hr fun en w' he=>hR en w' he⟩
def KpB (bs:List Nat)(w w':World):Prop:=∀b∈bs,w'.heap[b]?=w.heap[b]?
theorem kpB_put {W:World}{l n b:Nat}{o':Obj}(hl:n≤l)(hb:b<n):(W.putObj l o').heap[b]?=W.heap[b]?:=by
 show (W.heap.setIfInBounds l o')[b]?=_
 rw[Array.getElem?_setIfInBounds_ne (by omega)]
theorem rg_of {α:Type}(bs:List Nat){g:Operand}{ps:List Nat}{asg body:CT}(hm:1≤m)(gf:Nat)(lb:Array Value)(encs:α→Array Value)(S Sp:List α→Prop)(N:Nat)(I:List α→World→Prop)(Ix:Option Nat→List α→World→Prop)(Ax:α→Env→World→Prop)
  (hg:ev e g=some (.func (.func gf) #[] lb)) (hp:plainF P gf=true) (hn:∀b∈bs,b<w.heap.size) (hseq:SeqStopsK (fen none) (m - 1) P gf lb encs (KpB bs) S Sp N w) (hsz:∀x,(encs x).size=ps.length)
  (hI:OwnFrom w.heap.size I) (hIx:∀k,OwnFrom w.heap.size (Ix k)) (h0:I [] w) (hAx:∀x e1,OwnFrom w.heap.size (fun (_:Unit) W=>Ax x e1 W))
  (hasg:∀l pre x W,I pre W→ctV P n asg (some l) (m - 2) (fun ds e1 W1=>ds=[]∧KeepsFrom w.heap.size W W1∧KpB bs W W1∧I pre W1∧Ax x e1 W1) (fun _ _ _ _=>False) [] (setPs ps (encs x).toList e) W)
  (hbody:∀l pre x e1 W,w.heap.size≤l→(∃r,W.heap[l]?=some (.loop r))→I pre W→Ax x e1 W→pre.length<N→
   ctV P n body (some l) (m - 2) (fun _ _ W'=>KeepsFrom w.heap.size W W'∧KpB bs W W'∧I (pre++[x]) W') (fun k _ _ W'=>KeepsFrom w.heap.size W W'∧Ix k (pre++[x]) W') [] e1 W)
  (hdone:∀D xs W,w.heap.size≤D→S xs→I xs W→W.heap[D]?=some (.deferred (some []))→K (collD D::ds) e W)
  (hstop:∀D k pre W,w.heap.size≤D→Sp pre→Ix k pre W→W.heap[D]?=some (.deferred (some []))→X k (collD D::ds) e W):rgV P n g ps asg body none m K X ds e w:=
 ⟨rfl,hm,α,gf,lb,encs,KpB bs,S,Sp,N,w,I,Ix,Ax,hg,hp,hseq,fun _ _ _ h1 h2 b hb=>(h2 b hb).trans (h1 b hb),fun _ _ _=>rfl,fun W l o o' hl h _ _ b hb=>kpB_put hl (hn b hb),Below.refl _ _,hsz,hI,hIx,h0,hAx,hasg,hbody,hdone,hstop⟩
theorem slc3_s (size:Nat)(k k2 k3:IntKind)(l h m:Int)(a:Option Addr)(len cap:Nat):slc3R size (some (.int k l)) (.int k2 h) (.int k3 m) (.slice a len cap)=
  if 0≤m∧m≤cap∧0≤h∧h≤m then (if 0≤l∧l≤h then some (.slice (advA size a m.toNat l.toNat) (h.toNat - l.toNat) (m.toNat - l.toNat)) else none) else none:=id rfl
theorem vcC:type_of% (And.intro @ctV_skip (And.intro @ctV_reg (And.intro @ctV_seq (And.intro @ctV_cnd (And.intro @ctV_blk (And.intro @ctV_exit (And.intro @ctV_ret (And.intro @ctV_loop (And.intro @ctV_rng (And.intro @ctV_yld (And.intro @blX_hit (And.intro @blX_none (And.intro @blX_miss (And.intro @lvX_none (And.intro @lvV_nil (And.intro @cdW_t @cdW_f)))))))))))))))):=
 And.intro @ctV_skip (And.intro @ctV_reg (And.intro @ctV_seq (And.intro @ctV_cnd (And.intro @ctV_blk (And.intro @ctV_exit (And.intro @ctV_ret (And.intro @ctV_loop (And.intro @ctV_rng (And.intro @ctV_yld (And.intro @blX_hit (And.intro @blX_none (And.intro @blX_miss (And.intro @lvX_none (And.intro @lvV_nil (And.intro @cdW_t @cdW_f)))))))))))))))
def nonC (w:World)(k:Nat):Prop:=∃o,w.heap[k]?=some o∧o.isCells=false
theorem keep_grow {B:Nat}{w w':World}{row:Option Nat}(hg:w.grownBy w' row)(hr:∀r,row=some r→B≤r∧∃o:Obj,w.heap[r]?=some o∧o.isCells=false):Keep (fun k=>B≤k∧nonC w k) w w':=
 (Keep.refl _ w).grown hg fun k _ h=>hr k h
end
end Go.Vc
