/- A function as a graph of regions, tests and returns; its walk. -/
import Derived.Test.YtmnogjgmkpjpoaaGreatQD
set_option linter.unusedSimpArgs false
set_option linter.unusedVariables false
set_option linter.constructorNameAsVariable false
namespace Go.Vc
inductive RV where
 |t (s:Nat)
 |c1 (s:Nat)
 |cN (s n:Nat)
 deriving Inhabited
inductive Node where
 |reg (p:PT) (dr:Bool) (k:Nat) (lv:List Nat)
 |cnd (c:Operand) (a b:Nat)
 |jmp (k:Nat)
 |ret (rs:List RV)
 |dfr (d f:Nat) (caps:List Operand) (k:Nat) (lv:List Nat)
 |rcv (d1 d2 k:Nat) (lv:List Nat)
 |bad
 deriving Inhabited
def Node.bare:Node→Node
 | .reg p dr k _=>.reg p dr k []
 | .dfr d f caps k _=>.dfr d f caps k []
 | .rcv d1 d2 k _=>.rcv d1 d2 k []
 |n=>n
def specR (n:Nat)(k:Nat)(ops:Array Oper)(dr:Bool):Option Node:=
 if dr then none else
 match ops.toList with
 |[o1,o2]=>if o1.guard.isSome||o2.guard.isSome then none else
  match o1.op,o1.dst,o2.op,o2.dst with
  | .makeFunc (.func f) first cap,some d,.defer c,none=>
   match c.callee with
   | .value (.tmp d')=>if d=d'∧d<n∧first.size=0∧c.args.size=0 then some (.dfr d f cap.toList k []) else none
   |_=>none
  | .call c,some d1,.assign (.tmp d'),some d2=>
   match c.callee with
   | .builtin .recover=>if d1=d'∧d1<n∧d2<n then some (.rcv d1 d2 k []) else none
   |_=>none
  |_,_,_,_=>none
 |[o1]=>if o1.guard.isSome then none else
  match o1.op,o1.dst with
  | .call c,some d1=>
   match c.callee with
   | .builtin .recover=>if d1<n then some (.rcv d1 d1 k []) else none
   |_=>none
  |_,_=>none
 |_=>none
def comp (P:Program)(n:Nat)(rs:List RV):Code→List Item→Nat→List (Nat×Nat)→Nat→Option (Nat×List (Node×List Item))
 | .skip,_,k,_,_=>some (k,[])
 | .label _,_,k,_,_=>some (k,[])
 | .region id ops dr,T,k,_,m=>
  match planOf P n ops dr with
  |some p=>some (m,[(.reg p dr k [],.code (.region id ops dr)::T)])
  |none=>match specR n k ops dr with
   |some nd=>some (m,[(nd,.code (.region id ops dr)::T)])
   |none=>some (m,[(.bad,.code (.region id ops dr)::T)])
 | .seq x y,T,k,xs,m=>
  (comp P n rs y T k xs m).bind fun r1=>(comp P n rs x (.code y::T) r1.1 xs (m+r1.2.length)).map fun r2=>(r2.1,r1.2++r2.2)
 | .cond c x y,T,k,xs,m=>
  (comp P n rs x T k xs m).bind fun r1=>(comp P n rs y T k xs (m+r1.2.length)).map fun r2=>
   (m+r1.2.length+r2.2.length,r1.2++r2.2++[(.cnd c r1.1 r2.1,.code (.cond c x y)::T)])
 | .block id b,T,k,xs,m=>comp P n rs b (.inBlock id::T) k ((id,k)::xs) m
 | .loop b,T,_,xs,m=>(comp P n rs b (.inLoop b::T) m xs (m+1)).map fun r=>(r.1,(.jmp r.1,.inLoop b::T)::r.2)
 | .exit id,_,_,xs,_=>(xs.lookup id).map fun l=>(l,[])
 | .ret,T,_,_,m=>some (m,[(.ret rs,.code .ret::T)])
 |c,T,_,_,m=>some (m,[(.bad,.code c::T)])
def compRV (P:Program):ResultVar→Option RV
 | .tmp t=>some (.t t)
 | .cell a ty=>
  match aggT P ty with
  |some true=>(sizeT P ty).bind fun n=>if n=0 then none else some (.cN a n)
  |some false=>some (.c1 a)
  |none=>none
def cfgOf (P:Program)(f:FuncId):Option (Nat×Nat×List (Node×List Item)):=
 (P.funcs[f]?).bind fun fn=>fn.body.bind fun c=>(fn.results.toList.mapM (compRV P)).bind fun rs=>
  (comp P fn.ntmps rs c [] 0 [] 1).map fun r=>(fn.ntmps,r.1,(.ret rs,[])::r.2)
def cfgL (P:Program)(f:FuncId):Option (Nat×Nat×List Node):=(cfgOf P f).map fun r=>(r.1,r.2.1,r.2.2.map (·.1))
def rvR (e:Env)(w:World):RV→Option Value
 | .t s=>look e s
 | .c1 s=>(look e s).bind (ld1R w)
 | .cN s n=>(look e s).bind (ldNR w n)
def rvs (e:Env)(w:World):List RV→Option (List Value)
 |[]=>some []
 |r::rs=>(rvR e w r).bind fun v=>(rvs e w rs).map (v:: ·)
def retR:List Value→Value
 |[v]=>v
 |vs=>.tuple vs.toArray
def cdV (v:Value)(A B:Prop):Prop:=
 match v with
 | .bool b=>(b=true→A)∧(b=false→B)
 |_=>False
@[congr] theorem cdV_congr {v v':Value} {A B:Prop} (h:v=v'):cdV v A B=cdV v' A B:=by rw[h]
def drw (dr:Bool)(w:World):World:=if dr then w.drew else w
def baseK (κ:CallKind)(f:FuncId):Frame:={(default:Frame) with fn:=f,kind:=κ}
abbrev baseF (f:FuncId):Frame:=baseK .normal f
def G (P:Program)(R:Ending→World→Prop)(f:FuncId)(T:List Item)(a:Act)(w:World):Prop:=
 ∀cs,∃en w' fr,R en w'∧Comes P (lone ((baseF f).at a T) cs w) (lone fr cs w') en∧fr.fn=f∧fr.leaving P w' en
def W (P:Program)(R:Ending→World→Prop)(f:FuncId)(l:Nat)(e:Env)(w:World):Prop:=
 ∀n en E,cfgOf P f=some (n,en,E)→∀a,Agree n e a→G P R f (((E[l]?).map (·.2)).getD []) a w
def ndV (P:Program)(R:Ending→World→Prop)(f:FuncId):Node→Env→World→Prop
 | .reg p dr k lv,e,w=>ptV P R p e (drw dr w) fun e w=>W P R f k (keep lv e) w
 | .cnd c a b,e,w=>getV (ev e c) fun v=>cdV v (W P R f a e w) (W P R f b e w)
 | .jmp k,e,w=>W P R f k e w
 | .ret rs,e,w=>getV (rvs e w rs) fun vs=>R (.returned (retR vs)) w
 | .dfr ..,_,_=>False
 | .rcv ..,_,_=>False
 | .bad,_,_=>False
def argE:Nat→List Value→Env
 |_,[]=>[]
 |k,v::vs=>(k,v)::argE (k+1) vs
section
variable {P:Program} {R:Ending→World→Prop} {f:FuncId} {n:Nat} {rs:List RV}
variable (P f) in
def Silent (T T':List Item):Prop:=∀κ a w cs,Steps P (lone ((baseK κ f).at a T) cs w) (lone ((baseK κ f).at a T') cs w)
theorem Silent.refl (T:List Item):Silent P f T T:=fun _ _ _ _=>.refl _ _
theorem Silent.trans {T T' T'':List Item}(h:Silent P f T T')(h':Silent P f T' T''):Silent P f T T'':=fun κ a w cs=>(h κ a w cs).trans (h' κ a w cs)
theorem G.of_silent {T T':List Item}(h:Silent P f T T'){a:Act}{w:World}(hg:G P R f T' a w):G P R f T a w:=fun cs=>by
 obtain⟨en,w',fr,hR,hc,hf,hl⟩:=hg cs
 exact⟨en,w',fr,hR,.of_steps (h .normal a w cs) hc,hf,hl⟩
variable (P f n rs) in
def NodeOK (D:Nat→List Item):Node→List Item→Prop
 | .reg p dr k _,T=> ∃id ops T1,T=.code (.region id ops dr)::T1∧planOf P n ops dr=some p∧Silent P f T1 (D k)
 | .cnd c a b,T=> ∃x y T1,T=.code (.cond c x y)::T1∧Silent P f (.code x::T1) (D a)∧Silent P f (.code y::T1) (D b)
 | .jmp k,T=>Silent P f T (D k)
 | .ret rs',T=>rs'=rs∧(T=[]∨ ∃T1,T=.code .ret::T1)
 | .dfr d g caps k lv,T=> ∃id ops T1,T=.code (.region id ops false)::T1∧specR n k ops false=some (.dfr d g caps k lv)∧Silent P f T1 (D k)
 | .rcv d1 d2 k lv,T=> ∃id ops T1,T=.code (.region id ops false)::T1∧specR n k ops false=some (.rcv d1 d2 k lv)∧Silent P f T1 (D k)
 | .bad,_=>True
theorem comp_ok:∀(c:Code) (T:List Item) (k:Nat) (xs:List (Nat×Nat)) (m en:Nat) (E:List (Node×List Item)),comp P n rs c T k xs m=some (en,E)→
  ∀D:Nat→List Item,(∀(i:Nat) nd T',E[i]?=some (nd,T')→D (m+i)=T')→Silent P f T (D k)→
   (∀id l,xs.lookup id=some l→∃T',exitTo id T=some T'∧Silent P f T' (D l))→
   Silent P f (.code c::T) (D en)∧∀(i:Nat) nd T',E[i]?=some (nd,T')→NodeOK P f n rs D nd T':=by
 intro c
 induction c with
 |skip=>
  intro T k xs m en E h D hD hk hx
  simp [comp] at h;obtain⟨rfl,rfl⟩:=h
  exact⟨fun κ a w cs=>.head step_skip (hk κ a w cs),by simp⟩
 |label l=>
  intro T k xs m en E h D hD hk hx
  simp [comp] at h;obtain⟨rfl,rfl⟩:=h
  exact⟨fun κ a w cs=>.head step_label (hk κ a w cs),by simp⟩
 |region id ops dr=>
  intro T k xs m en E h D hD hk hx
  simp only[comp] at h
  cases hp:planOf P n ops dr with
  |none=>
   simp only[hp] at h
   cases hs:specR n k ops dr with
   |none=>
    simp [hs] at h
    obtain⟨rfl,rfl⟩:=h
    have h0:=hD 0 _ _ (by simp;exact⟨rfl,rfl⟩)
    simp only[Nat.add_zero] at h0
    refine⟨by rw[h0];exact .refl _,fun i nd' T' hi=>?_⟩
    cases i with
    |zero=>simp at hi;obtain⟨rfl,rfl⟩:=hi;trivial
    |succ i=>simp at hi
   |some nd=>
    simp [hs] at h
    obtain⟨rfl,rfl⟩:=h
    have h0:=hD 0 _ _ (by simp;exact⟨rfl,rfl⟩)
    simp only[Nat.add_zero] at h0
    have hdr:dr=false:=by
     cases dr with
     |false=>rfl
     |true=>simp [specR] at hs
    subst hdr
    refine⟨by rw[h0];exact .refl _,fun i nd' T' hi=>?_⟩
    cases i with
    |zero=>
     simp at hi;obtain⟨rfl,rfl⟩:=hi
     have hs':=hs
     unfold specR at hs'
     simp only[Bool.false_eq_true,if_false] at hs'
     split at hs'
     ·split at hs'
      ·cases hs'
      ·split at hs'
       ·split at hs'
        ·split at hs'
         ·simp at hs';subst hs'
          exact⟨id,ops,T,rfl,hs,hk⟩
         ·cases hs'
        ·cases hs'
       ·split at hs'
        ·split at hs'
         ·simp at hs';subst hs'
          exact⟨id,ops,T,rfl,hs,hk⟩
         ·cases hs'
        ·cases hs'
       ·cases hs'
     ·split at hs'
      ·cases hs'
      ·split at hs'
       ·split at hs'
        ·split at hs'
         ·simp at hs';subst hs'
          exact⟨id,ops,T,rfl,hs,hk⟩
         ·cases hs'
        ·cases hs'
       ·cases hs'
     ·cases hs'
    |succ i=>simp at hi
  |some p=>
   simp [hp] at h
   obtain⟨rfl,rfl⟩:=h
   have h0:=hD 0 _ _ (by simp;exact⟨rfl,rfl⟩)
   simp only[Nat.add_zero] at h0
   refine⟨by rw[h0];exact .refl _,fun i nd T' hi=>?_⟩
   cases i with
   |zero=>simp at hi;obtain⟨rfl,rfl⟩:=hi;exact⟨id,ops,T,rfl,hp,hk⟩
   |succ i=>simp at hi
 |seq x y ihx ihy=>
  intro T k xs m en E h D hD hk hx
  simp only[comp] at h
  cases h1:comp P n rs y T k xs m with
  |none=>simp [h1] at h
  |some r1=>
   cases h2:comp P n rs x (.code y::T) r1.1 xs (m+r1.2.length) with
   |none=>simp [h1,h2] at h
   |some r2=>
    simp [h1,h2] at h
    obtain⟨rfl,rfl⟩:=h
    obtain⟨e1,E1⟩:=r1
    obtain⟨e2,E2⟩:=r2
    have hD1:∀i nd T',E1[i]?=some (nd,T')→D (m+i)=T':=fun i nd T' hi=>hD i nd T' (by
     rw[List.getElem?_append_left (List.getElem?_eq_some_iff.1 hi).1];exact hi)
    have hD2:∀i nd T',E2[i]?=some (nd,T')→D (m+E1.length+i)=T':=fun i nd T' hi=>by
     rw[Nat.add_assoc];exact hD (E1.length+i) nd T' (by rw[List.getElem?_append_right (Nat.le_add_right _ _)];simpa using hi)
    obtain⟨s1,n1⟩:=ihy T k xs m e1 E1 h1 D hD1 hk hx
    obtain⟨s2,n2⟩:=ihx (.code y::T) e1 xs (m+E1.length) e2 E2 h2 D hD2 s1 (fun id l hl=>by
     obtain⟨T',ht,hs⟩:=hx id l hl
     exact⟨T',by simpa [exitTo] using ht,hs⟩)
    refine⟨fun κ a w cs=>.head step_seq (s2 κ a w cs),fun i nd T' hi=>?_⟩
    rw[List.getElem?_append] at hi
    split at hi
    ·exact n1 i nd T' hi
    ·exact n2 _ nd T' hi
 |cond c x y ihx ihy=>
  intro T k xs m en E h D hD hk hx
  simp only[comp] at h
  cases h1:comp P n rs x T k xs m with
  |none=>simp [h1] at h
  |some r1=>
   cases h2:comp P n rs y T k xs (m+r1.2.length) with
   |none=>simp [h1,h2] at h
   |some r2=>
    simp [h1,h2] at h
    obtain⟨rfl,rfl⟩:=h
    obtain⟨e1,E1⟩:=r1
    obtain⟨e2,E2⟩:=r2
    have hD1:∀i nd T',E1[i]?=some (nd,T')→D (m+i)=T':=fun i nd T' hi=>hD i nd T' (by
     rw[List.getElem?_append_left (List.getElem?_eq_some_iff.1 hi).1];exact hi)
    have hD2:∀i nd T',E2[i]?=some (nd,T')→D (m+E1.length+i)=T':=fun i nd T' hi=>by
     rw[Nat.add_assoc]
     refine hD (E1.length+i) nd T' ?_
     rw[List.getElem?_append_right (Nat.le_add_right _ _),Nat.add_sub_cancel_left,List.getElem?_append_left (List.getElem?_eq_some_iff.1 hi).1]
     exact hi
    have hD3:=hD (E1.length+E2.length) (.cnd c e1 e2) (.code (.cond c x y)::T) (by
     rw[List.getElem?_append_right (Nat.le_add_right _ _),Nat.add_sub_cancel_left,List.getElem?_append_right (Nat.le_refl _)]
     simp)
    obtain⟨s1,n1⟩:=ihx T k xs m e1 E1 h1 D hD1 hk hx
    obtain⟨s2,n2⟩:=ihy T k xs (m+E1.length) e2 E2 h2 D hD2 hk hx
    rw[←Nat.add_assoc] at hD3
    refine⟨by rw[hD3];exact .refl _,fun i nd T' hi=>?_⟩
    rw[List.getElem?_append] at hi
    split at hi
    ·exact n1 i nd T' hi
    ·rw[List.getElem?_append] at hi
     split at hi
     ·exact n2 _ nd T' hi
     ·cases hj:i - E1.length - E2.length with
      |zero=>rw[hj] at hi;simp at hi;obtain⟨rfl,rfl⟩:=hi;exact⟨x,y,T,rfl,s1,s2⟩
      |succ j=>rw[hj] at hi;simp at hi
 |block id b ih=>
  intro T k xs m en E h D hD hk hx
  simp only[comp] at h
  obtain⟨s,nn⟩:=ih (.inBlock id::T) k ((id,k)::xs) m en E h D hD (fun κ a w cs=>.head step_inBlock (hk κ a w cs)) (fun id' l hl=>by
   simp only[List.lookup_cons] at hl
   by_cases hid:id'=id
   ·subst hid
    simp at hl;subst hl
    exact⟨T,by simp [exitTo],hk⟩
   ·have hne:(id'==id)=false:=by simpa using hid
    simp only[hne] at hl
    obtain⟨T',ht,hs⟩:=hx id' l hl
    have hne':(id==id')=false:=by simpa using Ne.symm hid
    exact⟨T',by simp [exitTo,hne',ht],hs⟩)
  exact⟨fun κ a w cs=>.head step_block (s κ a w cs),nn⟩
 |loop b ih=>
  intro T k xs m en E h D hD hk hx
  simp only[comp] at h
  cases h1:comp P n rs b (.inLoop b::T) m xs (m+1) with
  |none=>simp [h1] at h
  |some r=>
   simp [h1] at h
   obtain⟨rfl,rfl⟩:=h
   obtain⟨eb,E1⟩:=r
   have h0:=hD 0 (.jmp eb) (.inLoop b::T) (by simp)
   simp only[Nat.add_zero] at h0
   have hD1:∀i nd T',E1[i]?=some (nd,T')→D (m+1+i)=T':=fun i nd T' hi=>by
    rw[Nat.add_assoc,Nat.add_comm 1 i];exact hD (i+1) nd T' (by simpa using hi)
   obtain⟨s,nn⟩:=ih (.inLoop b::T) m xs (m+1) eb E1 h1 D hD1 (by rw[h0];exact .refl _) (fun id l hl=>by
    obtain⟨T',ht,hs⟩:=hx id l hl
    exact⟨T',by simpa [exitTo] using ht,hs⟩)
   refine⟨fun κ a w cs=>.head step_loop (s κ a w cs),fun i nd T' hi=>?_⟩
   cases i with
   |zero=>simp at hi;obtain⟨rfl,rfl⟩:=hi;exact fun κ a w cs=>.head step_inLoop (s κ a w cs)
   |succ i=>exact nn i nd T' (by simpa using hi)
 |exit id=>
  intro T k xs m en E h D hD hk hx
  simp only[comp] at h
  cases hl:xs.lookup id with
  |none=>simp [hl] at h
  |some l=>
   simp [hl] at h
   obtain⟨rfl,rfl⟩:=h
   obtain⟨T',ht,hs⟩:=hx id l hl
   exact⟨fun κ a w cs=>.head (step_exit ht) (hs κ a w cs),by simp⟩
 |ret=>
  intro T k xs m en E h D hD hk hx
  simp [comp] at h
  obtain⟨rfl,rfl⟩:=h
  have h0:=hD 0 (.ret rs) (.code .ret::T) (by simp)
  simp only[Nat.add_zero] at h0
  refine⟨by rw[h0];exact .refl _,fun i nd T' hi=>?_⟩
  cases i with
  |zero=>simp at hi;obtain⟨rfl,rfl⟩:=hi;exact⟨rfl,.inr ⟨T,rfl⟩⟩
  |succ i=>simp at hi
 |_=>
  intro T k xs m en E h D hD hk hx
  simp [comp] at h
  obtain⟨rfl,rfl⟩:=h
  have h0:=hD 0 _ _ (by simp;exact⟨rfl,rfl⟩)
  simp only[Nat.add_zero] at h0
  refine⟨by rw[h0];exact .refl _,fun i nd' T' hi=>?_⟩
  cases i with
  |zero=>simp at hi;obtain⟨rfl,rfl⟩:=hi;trivial
  |succ i=>simp at hi
theorem cfg_spec {en:Nat}{E:List (Node×List Item)}(h:cfgOf P f=some (n,en,E)):
  ∃fn c rs,P.funcs[f]?=some fn∧fn.body=some c∧fn.ntmps=n∧fn.results.toList.mapM (compRV P)=some rs∧
   (∀(l:Nat) nd T,E[l]?=some (nd,T)→NodeOK P f n rs (fun l=>((E[l]?).map (·.2)).getD []) nd T)∧
   Silent P f [.code c] (((E[en]?).map (·.2)).getD []):=by
 unfold cfgOf at h
 cases hf:P.funcs[f]? with
 |none=>simp [hf] at h
 |some fn=>
  cases hc:fn.body with
  |none=>simp [hf,hc] at h
  |some c=>
   cases hr:fn.results.toList.mapM (compRV P) with
   |none=>simp only[hf,hc,hr,Option.bind_some,Option.bind_none] at h;cases h
   |some rs=>
    cases hm:comp P fn.ntmps rs c [] 0 [] 1 with
    |none=>simp only[hf,hc,hr,hm,Option.bind_some,Option.map_none] at h;cases h
    |some r=>
     simp only[hf,hc,hr,hm,Option.bind_some,Option.map_some,Option.some.injEq,Prod.mk.injEq] at h
     obtain⟨rfl,rfl,rfl⟩:=h
     obtain⟨e1,E1⟩:=r
     obtain⟨s,nn⟩:=comp_ok (f:=f) c [] 0 [] 1 e1 E1 hm (fun l=>((((Node.ret rs,([]:List Item))::E1)[l]?).map (·.2)).getD []) (fun i nd T' hi=>by
      rw[Nat.add_comm];simp [hi]) (by simpa using Silent.refl (P:=P) (f:=f) []) (fun id l hl=>by simp at hl)
     refine⟨fn,c,rs,rfl,hc,rfl,hr,fun l nd T hl=>?_,s⟩
     cases l with
     |zero=>simp at hl;obtain⟨rfl,rfl⟩:=hl;exact⟨rfl,.inl rfl⟩
     |succ l=>exact nn l nd T (by simpa using hl)
theorem results_run {fn:Func}{rs:List RV}(h:fn.results.toList.mapM (compRV P)=some rs){e:Env}{a:Act}{w:World}(ha:Agree n e a){vs:List Value}
  (hv:rvs e w rs=some vs):(results fn a.tmps).run P w=.ok (retR vs) w:=by
 have one:∀(r:ResultVar) (q:RV) (v:Value),compRV P r=some q→rvR e w q=some v→
   ((match r with
    | .tmp t=>pure (a.tmps.getD t undef)
    | .cell b t=>do loadVar t (←asAddr (a.tmps.getD b undef)):Sem Value)).run P w=.ok v w:=by
  intro r q v hr hq
  cases r with
  |tmp t=>
   simp [compRV] at hr;subst hr
   simp only[rvR] at hq
   simp [ha.val t v hq]
  |cell b ty=>
   simp only[compRV] at hr
   have addr:∀{v'},look e b=some v'→a.tmps.getD b undef=v':=fun {v'} hb=>by simp [ha.val b v' hb]
   split at hr
   ·rename_i hg
    cases hs:sizeT P ty with
    |none=>simp [hs] at hr
    |some m=>
     simp [hs] at hr
     obtain⟨_,rfl⟩:=hr
     simp only[rvR] at hq
     cases hb:look e b with
     |none=>simp [hb] at hq
     |some v'=>
      simp only[hb,Option.bind_some] at hq
      unfold ldNR at hq
      split at hq
      ·rename_i bb o
       cases hrd:rdN w bb o m with
       |none=>simp [hrd] at hq
       |some cs=>
        simp [hrd] at hq;subst hq
        simp only[addr hb]
        simp [asAddr,loadVar,aggT_run hg,sizeT_run hs,rdN_run hrd]
      ·cases hq
   ·rename_i hg
    simp at hr;subst hr
    simp only[rvR] at hq
    cases hb:look e b with
    |none=>simp [hb] at hq
    |some v'=>
     simp only[hb,Option.bind_some] at hq
     unfold ld1R at hq
     split at hq
     ·simp only[addr hb]
      simp [asAddr,loadVar,aggT_run hg,hq]
     ·cases hq
   ·cases hr
 have many:∀(l:List ResultVar) (rs:List RV) (vs:List Value),l.mapM (compRV P)=some rs→rvs e w rs=some vs→
   (l.mapM (fun r=>(match r with
    | .tmp t=>pure (a.tmps.getD t undef)
    | .cell b t=>do loadVar t (←asAddr (a.tmps.getD b undef)):Sem Value))).run P w=.ok vs w:=by
  intro l
  induction l with
  |nil=>intro rs vs h1 h2;simp at h1;subst h1;simp [rvs] at h2;subst h2;simp
  |cons r l ih=>
   intro rs vs h1 h2
   rw[List.mapM_cons] at h1
   cases hq:compRV P r with
   |none=>simp [hq] at h1
   |some q=>
    cases hl:l.mapM (compRV P) with
    |none=>simp [hq,hl] at h1
    |some qs=>
     simp [hq,hl] at h1
     subst h1
     simp only[rvs] at h2
     cases hv1:rvR e w q with
     |none=>simp [hv1] at h2
     |some v=>
      cases hvs:rvs e w qs with
      |none=>simp [hv1,hvs] at h2
      |some us=>
       simp [hv1,hvs] at h2
       subst h2
       rw[List.mapM_cons]
       simp only[Sem.run_bind,one r q v hq hv1,Result.andThen_ok,ih qs us hl hvs,Sem.run_pure]
 have:=many fn.results.toList rs vs h hv
 unfold results
 rw[Array.mapM_eq_mapM_toList]
 simp only[Sem.run_bind,Sem.run_map,Result.andThen_ok]
 refine(congrArg (fun r=>(Result.andThen (Result.andThen r fun a w'=>Result.ok a.toArray w') fun vs w'=>(pure (if h:vs.size=1 then vs[0] else Value.tuple vs):Sem Value).run P w')) this).trans ?_
 simp only[Result.andThen_ok,Sem.run_pure]
 congr 1
 cases vs with
 |nil=>simp [retR]
 |cons v vs=>cases vs<;>simp [retR]
theorem W_step {en:Nat}{C:List Node}(hC:cfgL P f=some (n,en,C.map Node.bare)){l:Nat}{nd:Node}(hl:C[l]?=some nd){e:Env}{w:World}(h:ndV P R f nd e w):
  W P R f l e w:=by
 intro n' en' E hc a ha
 unfold cfgL at hC
 rw[hc] at hC
 simp only[Option.map_some,Option.some.injEq,Prod.mk.injEq] at hC
 obtain⟨rfl,rfl,hE⟩:=hC
 obtain⟨fn,c,rs,hf,hb,hn,hrs,hok,hsil⟩:=cfg_spec hc
 have hEl:∃T,E[l]?=some (nd.bare,T):=by
  have h1:(E.map (·.1))[l]?=some nd.bare:=by rw[hE];simp [hl]
  cases hx:E[l]? with
  |none=>simp [hx] at h1
  |some x=>simp [hx] at h1;exact⟨x.2,by rw[←h1]⟩
 obtain⟨T,hT⟩:=hEl
 have hNode:=hok l nd.bare T hT
 rw[hT]
 simp only[Option.map_some,Option.getD_some]
 have cont:∀(k:Nat) (T1:List Item) (a':Act) (e':Env) (w':World),Silent P f T1 (((E[k]?).map (·.2)).getD [])→W P R f k e' w'→Agree n' e' a'→G P R f T1 a' w':=
  fun k T1 a' e' w' hs hw ha'=>G.of_silent hs (hw n' en' E hc a' ha')
 cases nd with
 |reg p dr k lv=>
  obtain⟨id,ops,T1,rfl,hp,hs⟩:=hNode
  let Q:Exit→Act→World→Prop:=fun ex a' w'=>match ex with
   | .normal=>G P R f T1 a' w'
   | .panic c=>a'.defers=[]∧R (.panicked c) w'
   | .outgrown=>R .outgrown w'
   |_=>False
  have hwp:(Code.region id ops dr).wp P Q a w:=by
   refine region_sound hp ha (R:=R) (fun c a dst v w h=>⟨by cases dst<;>exact h.1,h.2⟩) (K:=fun e w=>W P R f k (keep lv e) w)
    (fun e' a' w' ha' hk=>cont k T1 a' _ w' hs hk (ha'.keep lv)) (fun c e' a' w' ha' hr=>⟨ha'.nodef,hr⟩) (fun w' hr=>⟨a,w',hr⟩) ?_
   exact h
  intro cs
  obtain⟨ex,a',w',hQ,harr⟩:=hwp (baseF f) T1 cs
  cases ex with
  |normal=>
   obtain⟨en2,w2,fr,hR,hc2,hf2,hl2⟩:=hQ cs
   exact⟨en2,w2,fr,hR,.of_steps harr hc2,hf2,hl2⟩
  |panic ch=>
   obtain⟨hd,hR⟩:=hQ
   obtain⟨todo,hst⟩:=harr
   exact⟨.panicked ch,w',_,hR,hst,rfl,rfl,hd,fn,hf⟩
  |outgrown=>exact⟨.outgrown,w',baseF f,hQ,harr.resolve_left (by simp [baseF,baseK]),rfl,trivial⟩
  |exit id=>exact hQ.elim
  |goto l=>exact hQ.elim
  |ret=>exact hQ.elim
 |cnd c x y=>
  obtain⟨cx,cy,T1,rfl,hx,hy⟩:=hNode
  obtain⟨v,hv,hk⟩:=getV_spec h
  unfold cdV at hk
  split at hk
  ·rename_i b
   have hst:Silent P f (.code (if b then cx else cy)::T1) (((E[if b then x else y]?).map (·.2)).getD []):=by cases b<;>simpa
   have hw:W P R f (if b then x else y) e w:=by cases b;exact hk.2 rfl;exact hk.1 rfl
   have hg:=cont _ _ a e w hst hw ha
   intro cs
   obtain⟨en2,w2,fr,hR,hc2,hf2,hl2⟩:=hg cs
   exact⟨en2,w2,fr,hR,.of_steps (.one (step_cond (ha.ev hv))) hc2,hf2,hl2⟩
  ·exact hk.elim
 |jmp k=>exact cont k T a e w hNode h ha
 |dfr _ _ _ _ _=>exact h.elim
 |rcv _ _ _ _=>exact h.elim
 |bad=>exact h.elim
 |ret rs'=>
  obtain⟨rfl,hT'⟩:=hNode
  obtain⟨vs,hvs,hR⟩:=getV_spec h
  have hres:=results_run hrs ha hvs
  intro cs
  refine⟨.returned (retR vs),w,{(baseF f).at a T with mode:=.returning},hR,?_,rfl,rfl,ha.nodef,rfl,fn,hf,hres⟩
  rcases hT' with rfl|⟨T1,rfl⟩
  ·exact .one step_end
  ·exact .one step_ret
theorem look_argE:∀(vs:List Value) (k t:Nat) (v:Value),look (argE k vs) t=some v→k≤t∧vs[t - k]?=some v
 |[],k,t,v,h=>by simp [argE,look] at h
 |u::vs,k,t,v,h=>by
  simp only[argE,look] at h
  split at h
  ·rename_i he;subst he;cases h;simp
  ·rename_i hne
   obtain⟨h1,h2⟩:=look_argE vs (k+1) t v h
   refine⟨by omega,?_⟩
   rw[show t - k=(t - (k+1))+1 by omega]
   simpa using h2
theorem calls_of_cfg {en:Nat}{C:List Node}(hC:cfgL P f=some (n,en,C.map Node.bare)){args:Array Value}(hn:args.size≤n){w:World}
  (h:W P R f en (argE 0 args.toList) w):Calls P f args w R:=by
 unfold cfgL at hC
 cases hc:cfgOf P f with
 |none=>simp [hc] at hC
 |some r=>
  obtain⟨n',en',E⟩:=r
  rw[hc] at hC
  simp only[Option.map_some,Option.some.injEq,Prod.mk.injEq] at hC
  obtain⟨rfl,rfl,hE⟩:=hC
  obtain⟨fn,c,rs,hf,hb,hnt,hrs,hok,hsil⟩:=cfg_spec hc
  intro cs
  have henter:Frame.enter P f args .normal=(baseF f).at {tmps:=args++Array.replicate (fn.ntmps - args.size) undef,defers:=[]} [.code c]:=by
   simp [Frame.enter,Frame.at,hf,hb,baseF,baseK]
  have ha:Agree n' (argE 0 args.toList) {tmps:=args++Array.replicate (fn.ntmps - args.size) undef,defers:=[]}:=by
   refine⟨by simp;omega,rfl,fun t v hv=>?_⟩
   obtain⟨_,h2⟩:=look_argE _ _ _ _ hv
   simp only[Nat.sub_zero,Array.getElem?_toList] at h2
   rw[Array.getElem?_append_left (Array.getElem?_eq_some_iff.1 h2).1]
   exact h2
  rw[henter]
  exact G.of_silent hsil (h n' en' E hc _ ha) cs
end
end Go.Vc
