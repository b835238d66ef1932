/- Functions that defer; closures that recover: their walk. -/
import Derived.Test.YtmnogjgmkpjpoaaGreatQI
import Derived.Recover
set_option linter.unusedSimpArgs false
set_option linter.unusedVariables false
set_option linter.constructorNameAsVariable false
namespace Go.Vc
def GD (P:Program)(κ:CallKind)(R:Ending→World→Prop)(f:FuncId)(T:List Item)(a:Act)(w:World):Prop:=
 ∀cs,∃en w' fr,R en w'∧Comes P (lone ((baseK κ f).at a T) cs w) (lone fr cs w') en∧fr.fn=f∧fr.kind=κ∧fr.going P w' en
def V (P:Program)(κ:CallKind)(R:Ending→World→Prop)(f:FuncId)(l:Nat)(ds:List Deferred)(e:Env)(w:World):Prop:=
 ∀n en E,cfgOf P f=some (n,en,E)→∀a,AgreeD ds n e a→GD P κ R f (((E[l]?).map (·.2)).getD []) a w
def LV (P:Program)(R:Ending→World→Prop)(rs:List RV)(e:Env):List Deferred→FrameMode→World→Prop
 |[],.returning,w=>getV (rvs e w rs) fun vs=>R (.returned (retR vs)) w
 |[],.panicking chain,w=>R (.panicked chain) w
 |[],.run,_=>False
 |d::ds,u,w=>u≠ .run∧∃fv cap f args,d.target=.fn fv cap∧(invoke d.target d.args).run P w=.ok (.enter f args) w∧
   CallsD P f args u w fun
    | .returned _,u',w'=>LV P R rs e ds (settle u') w'
    | .panicked chain,u',w'=>LV P R rs e ds (raised u' chain) w'
    | .outgrown,_,w'=>R .outgrown w'
def rvSlot:RV→Nat
 | .t s=>s
 | .c1 s=>s
 | .cN s _=>s
def dstsPT:PT→List Nat
 | .done=>[]
 | .q d _ _ k=>d.toList++dstsPT k
 | .l d _ _ _ k=>d.toList++dstsPT k
 | .alt a b=>dstsPT a++dstsPT b
def panD (P:Program)(R:Ending→World→Prop)(rs:List RV)(dr:Bool)(p:PT)(ds:List Deferred)(e:Env)(en:Ending)(w:World):Prop:=
 match en with
 | .returned _=>False
 | .panicked c=>dr=false∧(∀r∈rs,rvSlot r ∉ dstsPT p)∧LV P R rs e ds (.panicking c) w
 | .outgrown=>R .outgrown w
def ndD (P:Program)(κ:CallKind)(R:Ending→World→Prop)(f:FuncId)(rs:List RV):Node→List Deferred→Env→World→Prop
 | .reg p dr k lv,ds,e,w=>ptV P (panD P R rs dr p ds e) p e (drw dr w) fun e w=>V P κ R f k ds (keep lv e) w
 | .cnd c a b,ds,e,w=>getV (ev e c) fun v=>cdV v (V P κ R f a ds e w) (V P κ R f b ds e w)
 | .jmp k,ds,e,w=>V P κ R f k ds e w
 | .ret rs,ds,e,w=>LV P R rs e ds .returning w
 | .dfr d g caps k lv,ds,e,w=>getV (evs e caps) fun cs=>V P κ R f k ({target:=.fn (.func g) cs.toArray,args:=#[]}::ds) (keep lv (put (some d) (.func (.func g) #[] cs.toArray) e)) w
 | .rcv ..,_,_,_=>False
 | .bad,_,_,_=>False
section
variable {P:Program} {κ:CallKind} {R:Ending→World→Prop} {f:FuncId} {n:Nat} {rs:List RV}
theorem leaves_going {fn:Func}{tmps:Array Value}:∀(ds:List Deferred) (u:FrameMode) (w:World) (fr:Frame)
  (cs:List Frame),fr.mode=u→fr.defers=ds→fr.tmps=tmps→P.funcs[fr.fn]?=some fn→Leaves P fn tmps R ds u w→
  ∃e w' fr',R e w'∧Comes P (lone fr cs w) (lone fr' cs w') e∧fr'.fn=fr.fn∧fr'.kind=fr.kind∧fr'.going P w' e:=by
 intro ds
 induction ds with
 |nil=>
  intro u w fr cs hu hd ht hf h
  cases u with
  |run=>exact h.elim
  |returning=>
   obtain⟨v,hr,hR⟩:=h
   exact⟨.returned v,w,fr,hR,Steps.refl P _,rfl,rfl,hu,hd,fn,hf,ht▸hr⟩
  |panicking chain=>exact⟨.panicked chain,w,fr,h,Steps.refl P _,rfl,rfl,hu,hd,fn,hf⟩
 |cons d ds ih=>
  intro u w fr cs hu hd ht hf h
  obtain⟨hrun,fv,cap,f,args,htar,hinv,hcall⟩:=h
  have h1:=step_defer (cs:=cs) (hu▸hrun) hd htar hinv
  obtain⟨e,u',w',frX,hR,hsteps,hkX,hgo⟩:=hcall {fr with defers:=ds} cs hu
  cases e with
  |returned v=>
   have h2:=step_going_returned (c:={{fr with defers:=ds} with mode:=u'}) (cs:=cs) hkX hgo
   obtain⟨e',w'',fr',hR',hs',hfn',hk',hl'⟩:=ih (settle u') w' {{{fr with defers:=ds} with mode:=u'} with mode:=settle u'} cs rfl rfl ht hf hR
   exact⟨e',w'',fr',hR',Comes.of_steps (.head h1 (Steps.trans hsteps (.one h2))) hs',hfn',hk',hl'⟩
  |panicked chain=>
   have h2:=step_going_panicked (c:={{fr with defers:=ds} with mode:=u'}) (cs:=cs) hgo
   obtain⟨e',w'',fr',hR',hs',hfn',hk',hl'⟩:=ih (raised u' chain) w' {{{fr with defers:=ds} with mode:=u'} with mode:=raised u' chain} cs rfl rfl ht hf hR
   exact⟨e',w'',fr',hR',Comes.of_steps (.head h1 (Steps.trans hsteps (.one h2))) hs',hfn',hk',hl'⟩
  |outgrown=>exact⟨.outgrown,w',fr,hR,Outgrown.of_steps (.one h1) hsteps,rfl,rfl,trivial⟩
theorem rvs_congr {e e':Env}:∀{rs:List RV},(∀r∈rs,look e' (rvSlot r)=look e (rvSlot r))→∀w,rvs e' w rs=rvs e w rs
 |[],_,_=>rfl
 |r::rs,h,w=>by
  have h1:=h r (by simp)
  have h2:=rvs_congr (rs:=rs) (fun r hr=>h r (by simp [hr])) w
  simp only[rvs,h2]
  cases r<;>simp only[rvR,rvSlot] at h1⊢ <;>rw[h1]
theorem LV.leaves {fn:Func}(hrs:fn.results.toList.mapM (compRV P)=some rs){ds0:List Deferred}{e e':Env}{a:Act}(ha:AgreeD ds0 n e' a)(he:∀r∈rs,look e' (rvSlot r)=look e (rvSlot r)):
  ∀(ds:List Deferred) (u:FrameMode) (w:World),LV P R rs e ds u w→Leaves P fn a.tmps R ds u w
 |[],.returning,w,h=>by
  obtain⟨vs,hv,hR⟩:=getV_spec h
  rw[←rvs_congr he w] at hv
  have ha0:Agree n e' {tmps:=a.tmps,defers:=[]}:=⟨ha.size,rfl,ha.val⟩
  exact⟨_,results_run hrs ha0 hv,hR⟩
 |[],.panicking _,_,h=>h
 |[],.run,_,h=>h
 |d::ds,u,w,h=>by
  obtain⟨hu,fv,cap,f,args,ht,hi,hc⟩:=h
  refine⟨hu,fv,cap,f,args,ht,hi,hc.mono fun en u' w' hp=>?_⟩
  cases en with
  |returned v=>exact LV.leaves hrs ha he ds _ w' hp
  |panicked c=>exact LV.leaves hrs ha he ds _ w' hp
  |outgrown=>exact hp
theorem dsts_genS {ops:Array Oper}:∀{os:List Oper} {pt:PT},genS P n ops os=some pt→∀o∈os,∀d,o.dst=some d→d∈dstsPT pt
 |[],pt,_,o,ho,_,_=>by cases ho
 |o::os,pt,h,o',ho,d,hd=>by
  simp only[genS] at h
  split at h
  ·cases hg:gslot ops o with
   |none=>simp [hg] at h
   |some g=>
    simp only[hg,Option.bind_some] at h
    cases hq:compQ P o with
    |some qi=>
     simp only[hq] at h
     cases hk:genS P n ops os with
     |none=>simp [hk] at h
     |some k=>
      simp [hk] at h;subst h
      simp only[dstsPT,List.mem_append,Option.mem_toList]
      rcases List.mem_cons.1 ho with rfl|ho
      ·exact .inl hd
      ·exact .inr (dsts_genS hk o' ho d hd)
    |none=>
     simp only[hq] at h
     cases hl:compL P o with
     |none=>simp [hl] at h
     |some li=>
      cases hk:genS P n ops os with
      |none=>simp [hl,hk] at h
      |some k=>
       simp [hl,hk] at h;subst h
       simp only[dstsPT,List.mem_append,Option.mem_toList]
       rcases List.mem_cons.1 ho with rfl|ho
       ·exact .inl hd
       ·exact .inr (dsts_genS hk o' ho d hd)
  ·cases h
theorem specR_dfr {k:Nat}{ops:Array Oper}{d g:Nat}{caps:List Operand}{k':Nat}{lv:List Nat}(h:specR n k ops false=some (.dfr d g caps k' lv)):
  ∃o1 o2 cap first c,ops.toList=[o1,o2]∧o1.guard=none∧o2.guard=none∧o1.op=.makeFunc (.func g) first cap∧cap.toList=caps∧first.size=0∧o1.dst=some d∧d<n∧o2.op=.defer c∧c.callee=.value (.tmp d)∧c.args.size=0∧o2.dst=none:=by
 unfold specR at h
 simp only[Bool.false_eq_true,if_false] at h
 split at h
 ·rename_i o1 o2 hops
  split at h
  ·cases h
  ·rename_i hgd
   simp only[Bool.or_eq_true,not_or,Option.isSome_iff_ne_none,ne_eq,Decidable.not_not] at hgd
   split at h
   ·rename_i f first cap d' c h1 h2 h3 h4
    split at h
    ·rename_i d'' hcal
     split at h
     ·rename_i hc
      obtain⟨rfl,hn,hf,ha⟩:=hc
      simp only[Option.some.injEq,Node.dfr.injEq] at h
      obtain⟨rfl,rfl,rfl,_,_⟩:=h
      exact⟨o1,o2,cap,first,c,hops,hgd.1,hgd.2,h1,rfl,hf,h2,hn,h3,hcal,ha,h4⟩
     ·cases h
    ·cases h
   ·split at h
    ·split at h<;>cases h
    ·cases h
   ·cases h
 ·split at h
  ·cases h
  ·split at h
   ·split at h
    ·split at h<;>cases h
    ·cases h
   ·cases h
 ·cases h
theorem specR_rcv {k:Nat}{ops:Array Oper}{d1 d2 k':Nat}{lv:List Nat}(h:specR n k ops false=some (.rcv d1 d2 k' lv)):
  ∃o1 c,o1.guard=none∧o1.op=.call c∧c.callee=.builtin .recover∧o1.dst=some d1∧d1<n∧((∃o2,ops.toList=[o1,o2]∧o2.guard=none∧o2.op=.assign (.tmp d1)∧o2.dst=some d2∧d2<n)∨(ops.toList=[o1]∧d2=d1)):=by
 unfold specR at h
 simp only[Bool.false_eq_true,if_false] at h
 split at h
 ·rename_i o1 o2 hops
  split at h
  ·cases h
  ·rename_i hgd
   simp only[Bool.or_eq_true,not_or,Option.isSome_iff_ne_none,ne_eq,Decidable.not_not] at hgd
   split at h
   ·split at h
    ·split at h<;>cases h
    ·cases h
   ·rename_i c d1' d' d2' h1 h2 h3 h4
    split at h
    ·rename_i hcal
     split at h
     ·rename_i hc
      obtain⟨rfl,hn,hn2⟩:=hc
      simp only[Option.some.injEq,Node.rcv.injEq] at h
      obtain⟨rfl,rfl,_,_⟩:=h
      exact⟨o1,c,hgd.1,h1,hcal,h2,hn,.inl ⟨o2,hops,hgd.2,h3,h4,hn2⟩⟩
     ·cases h
    ·cases h
   ·cases h
 ·rename_i o1 hops
  split at h
  ·cases h
  ·rename_i hgd
   simp only[Option.isSome_iff_ne_none,ne_eq,Decidable.not_not] at hgd
   split at h
   ·rename_i c d1' h1 h2
    split at h
    ·rename_i hcal
     split at h
     ·rename_i hc
      simp only[Option.some.injEq,Node.rcv.injEq] at h
      obtain⟨rfl,rfl,_,_⟩:=h
      exact⟨o1,c,hgd,h1,hcal,h2,hc,.inr ⟨hops,rfl⟩⟩
     ·cases h
    ·cases h
   ·cases h
 ·cases h
theorem GD.of_silent {T T':List Item}(h:Silent P f T T'){a:Act}{w:World}(hg:GD P κ R f T' a w):GD P κ R f T a w:=fun cs=>by
 obtain⟨en,w',fr,hR,hc,hf,hl⟩:=hg cs
 exact⟨en,w',fr,hR,.of_steps (h κ a w cs) hc,hf,hl⟩
theorem V_step {en:Nat}{C:List Node}(hC:cfgL P f=some (n,en,C.map Node.bare))(h0:C[0]?=some (.ret rs)){l:Nat}{nd:Node}(hl:C[l]?=some nd){ds:List Deferred}{e:Env}{w:World}
  (hκ:κ≠ .early) (h:ndD P κ R f rs nd ds e w):V P κ R f l ds e w:=by
 intro n' en' E hc a ha
 unfold cfgL at hC
 rw[hc] at hC
 simp only[Option.map_some,Option.some.injEq,Prod.mk.injEq] at hC
 obtain⟨rfl,rfl,hE⟩:=hC
 obtain⟨fn,c,rs',hf,hb,hn,hrs,hok,hsil⟩:=cfg_spec hc
 have hEl:∀{l:Nat} {nd:Node},C[l]?=some nd→∃T,E[l]?=some (nd.bare,T):=by
  intro l nd hl
  have h1:(E.map (·.1))[l]?=some nd.bare:=by rw[hE];simp [hl]
  cases hx:E[l]? with
  |none=>simp [hx] at h1
  |some x=>simp [hx] at h1;exact⟨x.2,by rw[←h1]⟩
 obtain⟨T0,hT0⟩:=hEl h0
 have hrr:=(hok 0 _ T0 hT0).1
 subst hrr
 obtain⟨T,hT⟩:=hEl hl
 have hNode:=hok l nd.bare T hT
 rw[hT]
 simp only[Option.map_some,Option.getD_some]
 have cont:∀(k:Nat) (T1:List Item) (a':Act) (ds':List Deferred) (e':Env) (w':World),Silent P f T1 (((E[k]?).map (·.2)).getD [])→V P κ R f k ds' e' w'→AgreeD ds' n' e' a'→GD P κ R f T1 a' w':=
  fun k T1 a' ds' e' w' hs hw ha'=>GD.of_silent hs (hw n' en' E hc a' ha')
 cases nd with
 |reg p dr k lv=>
  obtain⟨id,ops,T1,rfl,hp,hs⟩:=hNode
  let Q:Exit→Act→World→Prop:=fun ex a' w'=>match ex with
   | .normal=>GD P κ R f T1 a' w'
   | .panic c=>dr=false∧a'.defers=ds∧Leaves P fn a'.tmps R ds (.panicking c) w'
   | .outgrown=>R .outgrown w'
   |_=>False
  have hwp:(Code.region id ops dr).wp P Q a w:=by
   cases dr with
   |true=>
    refine region_sound hp ha (R:=panD P R rs true p ds e) (Q:=Q) (fun c a dst v w h=>by simp [Q] at h) (K:=fun e w=>V P κ R f k ds (keep lv e) w)
     (fun e' a' w' ha' hk=>cont k T1 a' ds _ w' hs hk (ha'.keep lv)) (fun c e' a' w' ha' hr=>by simp [panD] at hr) (fun w' hr=>⟨a,w',hr⟩) ?_
    exact h
   |false=>
    have hdst:∀o∈ops.toList,∀d,o.dst=some d→d∈dstsPT p:=by
     have hp':=hp
     unfold planOf at hp'
     simp only[Bool.false_eq_true,if_false] at hp'
     exact dsts_genS hp'
    by_cases hdis:∀r∈rs,rvSlot r ∉ dstsPT p
    ·refine region_soundS (st:=rs.map rvSlot) hp ha (R:=panD P R rs false p ds e) (Q:=Q) (fun o ho d hd hm=>?_) (K:=fun e w=>V P κ R f k ds (keep lv e) w)
      (fun e' a' w' ha' hk=>cont k T1 a' ds _ w' hs hk (ha'.keep lv)) (fun c e' a' w' ha' he hr=>?_) (fun w' hr=>⟨a,w',hr⟩) ?_
     ·obtain⟨r,hr,rfl⟩:=List.mem_map.1 hm
      exact hdis r hr (hdst o ho _ hd)
     ·obtain⟨_,_,hlv⟩:=hr
      exact⟨rfl,ha'.nodef,LV.leaves hrs ha' (fun r hr=>he _ (List.mem_map_of_mem hr)) ds _ w' hlv⟩
     ·exact h
    ·refine region_soundS (st:=[]) hp ha (R:=panD P R rs false p ds e) (Q:=Q) (fun o ho d hd hm=>by cases hm) (K:=fun e w=>V P κ R f k ds (keep lv e) w)
      (fun e' a' w' ha' hk=>cont k T1 a' ds _ w' hs hk (ha'.keep lv)) (fun c e' a' w' ha' he hr=>?_) (fun w' hr=>⟨a,w',hr⟩) ?_
     ·exact absurd hr.2.1 hdis
     ·exact h
  intro cs
  obtain⟨ex,a',w',hQ,harr⟩:=hwp (baseK κ f) T1 cs
  cases ex with
  |normal=>
   obtain⟨en2,w2,fr,hR,hc2,hf2,hl2⟩:=hQ cs
   exact⟨en2,w2,fr,hR,.of_steps harr hc2,hf2,hl2⟩
  |panic ch=>
   obtain⟨_,hd,hL⟩:=hQ
   obtain⟨todo,hst⟩:=harr
   obtain⟨e2,w2,fr2,hR,hc2,hf2,hk2,hg2⟩:=leaves_going (P:=P) ds (.panicking ch) w' {(baseK κ f).at a' todo with mode:=.panicking ch} cs rfl hd rfl hf hL
   exact⟨e2,w2,fr2,hR,.of_steps hst hc2,hf2,hk2,hg2⟩
  |outgrown=>exact⟨.outgrown,w',baseK κ f,hQ,harr.resolve_left (by simp [baseK,hκ]),rfl,rfl,trivial⟩
  |exit id=>exact hQ.elim
  |goto l=>exact hQ.elim
  |ret=>exact hQ.elim
 |cnd c x y=>
  obtain⟨cx,cy,T1,rfl,hx,hy⟩:=hNode
  obtain⟨v,hv,hk⟩:=getV_spec h
  unfold cdV at hk
  split at hk
  ·rename_i b
   have hst:Silent P f (.code (if b then cx else cy)::T1) (((E[if b then x else y]?).map (·.2)).getD []):=by cases b<;>simpa
   have hw:V P κ R f (if b then x else y) ds e w:=by cases b;exact hk.2 rfl;exact hk.1 rfl
   have hg:=cont _ _ a ds e w hst hw ha
   intro cs
   obtain⟨en2,w2,fr,hR,hc2,hf2,hl2⟩:=hg cs
   exact⟨en2,w2,fr,hR,.of_steps (.one (step_cond (ha.ev hv))) hc2,hf2,hl2⟩
  ·exact hk.elim
 |jmp k=>exact cont k T a ds e w hNode h ha
 |ret rs'=>
  obtain⟨rfl,hT'⟩:=hNode
  have hL:=LV.leaves hrs ha (fun _ _=>rfl) ds .returning w h
  intro cs
  obtain⟨e2,w2,fr2,hR,hc2,hf2,hk2,hg2⟩:=leaves_going (P:=P) ds .returning w {(baseK κ f).at a T with mode:=.returning} cs rfl ha.nodef rfl hf hL
  refine⟨e2,w2,fr2,hR,.of_steps ?_ hc2,hf2,hk2,hg2⟩
  rcases hT' with rfl|⟨T1,rfl⟩
  ·exact .one step_end
  ·exact .one step_ret
 |dfr d g caps k lv=>
  obtain⟨id,ops,T1,rfl,hsp,hs⟩:=hNode
  obtain⟨o1,o2,cap,first,cl,hops,hg1,hg2,hop1,rfl,hfs,hd1,hdn,hop2,hcal,hcargs,hd2⟩:=specR_dfr hsp
  obtain⟨cs',hcs,hk⟩:=getV_spec h
  have hcap:cap.map a.eval=cs'.toArray:=by apply Array.ext';simpa using ha.evs hcs
  have hfirst:first=#[]:=Array.eq_empty_of_size_eq_zero hfs
  have hargs:cl.args=#[]:=Array.eq_empty_of_size_eq_zero hcargs
  let Q:Exit→Act→World→Prop:=fun ex a' w'=>match ex with
   | .normal=>GD P κ R f T1 a' w'
   |_=>False
  have hwp:(Code.region id ops false).wp P Q a w:=by
   refine wp_region_list ?_
   rw[hops]
   unfold wpList
   rw[if_pos (by simp [Region.wanted,hg1])]
   refine .inl (oper_value (v:=.func (.func g) #[] cs'.toArray) (w':=w) ?_ ?_)
   ·rw[show o1={o1 with op:=.makeFunc (.func g) first cap} by rw[←hop1]]
    simp [execOp,Instr.makeFunc,hfirst,hcap]
   ·unfold wpList
    rw[if_pos (by simp [Region.wanted,hg2])]
    left
    unfold Oper.wp
    have hev:(a.put o1.dst (.func (.func g) #[] cs'.toArray)).eval (.tmp d)=.func (.func g) #[] cs'.toArray:=by
     rw[hd1]
     simp [Act.eval,Act.put,ha.size,hdn]
    have hr:(execOp (a.put o1.dst (.func (.func g) #[] cs'.toArray)).eval o2).run P w=.ok (.defer {target:=.fn (.func g) cs'.toArray,args:=#[]}) w:=by
     rw[show o2={o2 with op:=.defer cl} by rw[←hop2]]
     simp [execOp,resolve,hcal,hev,Deferred.ofValue,hargs]
    rw[hr]
    simp only[Oper.upon]
    unfold wpList
    refine cont k T1 _ ({target:=.fn (.func g) cs'.toArray,args:=#[]}::ds) _ w hs hk ?_
    have h1:=ha.put (some d) (fun t ht=>by cases ht;exact hdn) (.func (.func g) #[] cs'.toArray)
    rw[hd2,hd1]
    exact AgreeD.keep (a:={tmps:=(a.put (some d) (.func (.func g) #[] cs'.toArray)).tmps,defers:={target:=.fn (.func g) cs'.toArray,args:=#[]}::(a.put (some d) (.func (.func g) #[] cs'.toArray)).defers})
     ⟨h1.size,by simp [Act.put,ha.nodef],h1.val⟩ lv
  intro cs
  obtain⟨ex,a',w',hQ,harr⟩:=hwp (baseK κ f) T1 cs
  cases ex with
  |normal=>
   obtain⟨en2,w2,fr,hR,hc2,hf2,hl2⟩:=hQ cs
   exact⟨en2,w2,fr,hR,.of_steps harr hc2,hf2,hl2⟩
  |_=>exact hQ.elim
 |rcv _ _ _ _=>exact h.elim
 |bad=>exact h.elim
theorem calls_of_cfgD {en:Nat}{C:List Node}(hC:cfgL P f=some (n,en,C.map Node.bare)){args:Array Value}(hn:args.size≤n){w:World}
  (h:V P .normal R f en [] (argE 0 args.toList) w):Calls P f args w R:=by
 unfold cfgL at hC
 cases hc:cfgOf P f with
 |none=>simp [hc] at hC
 |some r=>
  obtain⟨n',en',E⟩:=r
  rw[hc] at hC
  simp only[Option.map_some,Option.some.injEq,Prod.mk.injEq] at hC
  obtain⟨rfl,rfl,hE⟩:=hC
  obtain⟨fn,c,rs,hf,hb,hnt,hrs,hok,hsil⟩:=cfg_spec hc
  intro cs
  have henter:Frame.enter P f args .normal=(baseK .normal f).at {tmps:=args++Array.replicate (fn.ntmps - args.size) undef,defers:=[]} [.code c]:=by
   simp [Frame.enter,Frame.at,hf,hb,baseK]
  have ha:Agree n' (argE 0 args.toList) {tmps:=args++Array.replicate (fn.ntmps - args.size) undef,defers:=[]}:=by
   refine⟨by simp;omega,rfl,fun t v hv=>?_⟩
   obtain⟨_,h2⟩:=look_argE _ _ _ _ hv
   simp only[Nat.sub_zero,Array.getElem?_toList] at h2
   rw[Array.getElem?_append_left (Array.getElem?_eq_some_iff.1 h2).1]
   exact h2
  rw[henter]
  obtain⟨e2,w2,fr,hR,hc2,hf2,hk2,hg2⟩:=GD.of_silent hsil (h n' en' E hc _ ha) cs
  refine⟨e2,w2,fr,hR,hc2,hf2,?_⟩
  cases e2 with
  |returned v=>exact⟨hg2.1,hg2.2.1,hk2,hg2.2.2⟩
  |panicked c=>exact hg2
  |outgrown=>trivial
def rcvM:FrameMode→Value×FrameMode
 | .panicking ({v,recovered:=false,goexit:=false}::older)=>(v,.panicking ({v,recovered:=true}::older))
 |m=>(.nilIface,m)
theorem callsD_of_cfg {en:Nat}{C:List Node}(hC:cfgL P f=some (n,en,C.map Node.bare)){d1 d2 k:Nat}{lv:List Nat}(hl:C[en]?=some (.rcv d1 d2 k lv)){args:Array Value}(hn:args.size≤n){u:FrameMode}{w:World}
  {R:Ending→FrameMode→World→Prop}
  (h:V P .deferred (fun e w'=>R e (rcvM u).2 w') f k [] (keep lv (put (some d2) (rcvM u).1 (put (some d1) (rcvM u).1 (argE 0 args.toList)))) w):CallsD P f args u w R:=by
 unfold cfgL at hC
 cases hc:cfgOf P f with
 |none=>simp [hc] at hC
 |some r=>
  obtain⟨n',en',E⟩:=r
  rw[hc] at hC
  simp only[Option.map_some,Option.some.injEq,Prod.mk.injEq] at hC
  obtain⟨rfl,rfl,hE⟩:=hC
  obtain⟨fn,c,rs,hf,hb,hnt,hrs,hok,hsil⟩:=cfg_spec hc
  intro c0 cs hu
  have henter:Frame.enter P f args .deferred=(baseK .deferred f).at {tmps:=args++Array.replicate (fn.ntmps - args.size) undef,defers:=[]} [.code c]:=by
   simp [Frame.enter,Frame.at,hf,hb,baseK]
  have ha:Agree n' (argE 0 args.toList) {tmps:=args++Array.replicate (fn.ntmps - args.size) undef,defers:=[]}:=by
   refine⟨by simp;omega,rfl,fun t v hv=>?_⟩
   obtain⟨_,h2⟩:=look_argE _ _ _ _ hv
   simp only[Nat.sub_zero,Array.getElem?_toList] at h2
   rw[Array.getElem?_append_left (Array.getElem?_eq_some_iff.1 h2).1]
   exact h2
  generalize ({tmps:=args++Array.replicate (fn.ntmps - args.size) undef,defers:=[]}:Act)=a at henter ha
  have hEl:∃T,E[en']?=some (.rcv d1 d2 k [],T):=by
   have h1:(E.map (·.1))[en']?=some (.rcv d1 d2 k []):=by rw[hE];simp [hl,Node.bare]
   cases hx:E[en']? with
   |none=>simp [hx] at h1
   |some x=>simp [hx] at h1;exact⟨x.2,by rw[←h1]⟩
  obtain⟨T,hT⟩:=hEl
  obtain⟨id,ops,T1,rfl,hsp,hs⟩:=hok en' _ T hT
  rw[hT] at hsil
  simp only[Option.map_some,Option.getD_some] at hsil
  obtain⟨o1,cl,hg1,hop1,hcal,hd1,hdn,hor⟩:=specR_rcv hsp
  have hrun:∀a':Act,(execOp a'.eval o1).run P w=.ok .recover w:=fun a'=>by
   rw[show o1={o1 with op:=.call cl} by rw[←hop1]]
   simp [execOp,resolve,hcal,invoke,builtin]
  have hc0:({c0 with mode:=u}:Frame)=c0:=by subst hu;rfl
  have hwant:∀(o:Oper) x,o.guard=none→Region.wanted o x=true:=fun o x hg=>by simp [Region.wanted,hg]
  have hnil:∀m,c0.mode=m→({c0 with mode:=m}:Frame)=c0:=fun m hm=>by subst hm;rfl
  have key:∃a2,AgreeD [] n' (keep lv (put (some d2) (rcvM u).1 (put (some d1) (rcvM u).1 (argE 0 args.toList)))) a2∧
    Steps P (lone ((baseK .deferred f).at a (.code (.region id ops false)::T1)) (c0::cs) w) (lone ((baseK .deferred f).at a2 T1) ({c0 with mode:=(rcvM u).2}::cs) w):=by
   rcases hor with ⟨o2,hops,hg2,hop2,hd2,hdn2⟩|⟨hops,rfl⟩
   ·have hopa:ops=#[o1,o2]:=by apply Array.ext';simpa using hops
    have hA:=((ha.put (some d1) (fun t ht=>by cases ht;exact hdn) (rcvM u).1).put (some d2) (fun t ht=>by cases ht;exact hdn2) (rcvM u).1).keep lv
    refine⟨_,hA,?_⟩
    have hw2:wpOpsS P ops (fun ex a' cs' w'=>ex=.normal∧a'=(a.put (some d1) (rcvM u).1).put (some d2) (rcvM u).1∧cs'={c0 with mode:=(rcvM u).2}::cs∧w'=w) (List.range ops.size) a (c0::cs) w:=by
     have hev:∀v,(a.put (some d1) v).eval (.tmp d1)=v:=fun v=>by simp [Act.eval,Act.put,ha.size,hdn]
     have hr2:∀v,(execOp (a.put (some d1) v).eval o2).run P w=.ok (.value v) w:=fun v=>by
      rw[show o2={o2 with op:=.assign (.tmp d1)} by rw[←hop2]]
      simp [execOp,hev]
     rw[hopa]
     simp only[List.size_toArray,List.length_cons,List.length_nil,Nat.zero_add,Nat.reduceAdd]
     rw[show List.range 2=[0,1] from rfl]
     simp only[wpOpsS,List.getElem?_toArray,List.getElem?_cons_zero,List.getElem?_cons_succ,hwant _ _ hg1,hwant _ _ hg2,if_true,hrun]
     cases u with
     |run=>simp [recoverD,hu,rcvM,hd1,hr2,hd2,Oper.upon,hnil _ hu]
     |returning=>simp [recoverD,hu,rcvM,hd1,hr2,hd2,Oper.upon,hnil _ hu]
     |panicking chain=>
      cases chain with
      |nil=>simp [recoverD,hu,rcvM,hd1,hr2,hd2,Oper.upon,hnil _ hu]
      |cons pe older=>
       obtain⟨v,rc,ge⟩:=pe
       cases rc<;>cases ge<;>simp [recoverD,hu,rcvM,hd1,hr2,hd2,Oper.upon,hnil _ hu]
    obtain⟨ex,a',cs',w',⟨rfl,rfl,rfl,rfl⟩,harr⟩:=wpS_region hw2 (baseK .deferred f) T1 rfl rfl
    exact harr
   ·have hopa:ops=#[o1]:=by apply Array.ext';simpa using hops
    have hA:=((ha.put (some d2) (fun t ht=>by cases ht;exact hdn) (rcvM u).1).put (some d2) (fun t ht=>by cases ht;exact hdn) (rcvM u).1).keep lv
    have e2:(a.put (some d2) (rcvM u).1).put (some d2) (rcvM u).1=a.put (some d2) (rcvM u).1:=by simp [Act.put]
    rw[e2] at hA
    refine⟨_,hA,?_⟩
    have hw2:wpOpsS P ops (fun ex a' cs' w'=>ex=.normal∧a'=a.put (some d2) (rcvM u).1∧cs'={c0 with mode:=(rcvM u).2}::cs∧w'=w) (List.range ops.size) a (c0::cs) w:=by
     rw[hopa]
     simp only[List.size_toArray,List.length_cons,List.length_nil,Nat.zero_add]
     rw[show List.range 1=[0] from rfl]
     simp only[wpOpsS,List.getElem?_toArray,List.getElem?_cons_zero,hwant _ _ hg1,if_true,hrun]
     cases u with
     |run=>simp [recoverD,hu,rcvM,hd1,Oper.upon,hnil _ hu]
     |returning=>simp [recoverD,hu,rcvM,hd1,Oper.upon,hnil _ hu]
     |panicking chain=>
      cases chain with
      |nil=>simp [recoverD,hu,rcvM,hd1,Oper.upon,hnil _ hu]
      |cons pe older=>
       obtain⟨v,rc,ge⟩:=pe
       cases rc<;>cases ge<;>simp [recoverD,hu,rcvM,hd1,Oper.upon,hnil _ hu]
    obtain⟨ex,a',cs',w',⟨rfl,rfl,rfl,rfl⟩,harr⟩:=wpS_region hw2 (baseK .deferred f) T1 rfl rfl
    exact harr
  obtain⟨a2,hA2,hst⟩:=key
  obtain⟨e2,w2,fr,hR,hc2,hf2,hk2,hg2'⟩:=GD.of_silent hs (h n' en' E hc a2 hA2) ({c0 with mode:=(rcvM u).2}::cs)
  refine⟨e2,(rcvM u).2,w2,fr,hR,?_,hk2,hg2'⟩
  rw[henter]
  exact .of_steps (hsil .deferred _ w (c0::cs)) (.of_steps hst hc2)
end
theorem V_at {P:Program}{κ:CallKind}{R:Ending→World→Prop}{f:FuncId}{n:Nat}{rs:List RV}{en:Nat}{C:List Node}(hC:cfgL P f=some (n,en,C.map Node.bare))(h0:C[0]?=some (.ret rs))(hκ:κ≠ .early)
  {l:Nat} {ds:List Deferred} {e:Env} {w:World} (h:∃nd,C[l]?=some nd∧ndD P κ R f rs nd ds e w):V P κ R f l ds e w:=by
 obtain⟨nd,hl,h⟩:=h
 exact V_step hC h0 hl hκ h
theorem invoke_fn {P:Program}{g:FuncId}(hp:plainF P g=true)(cap args:Array Value)(w:World):(invoke (.fn (.func g) cap) args).run P w=.ok (.enter g (args++cap)) w:=by
 unfold plainF at hp
 cases hf:P.funcs[g]? with
 |none=>simp [hf] at hp
 |some fn=>
  simp only[hf,Bool.and_eq_true,Bool.not_eq_true'] at hp
  have hnm:(fn.name== "runtime.NumGoroutine")=false:=hp.1
  have hb:fn.body.isNone=false:=hp.2
  simp only[invoke,callFunc,Sem.run_bind,run_program,Result.andThen_ok,hf,hb,hnm,Bool.false_eq_true,if_false,Sem.run_pure]
theorem LV_cons {P:Program}{R:Ending→World→Prop}{rs:List RV}{e:Env}{g:FuncId}{cap:Array Value}{ds:List Deferred}{u:FrameMode}{w:World}(hp:plainF P g=true)(hu:u≠ .run){φ:Ending→FrameMode→World→Prop}
  (h:CallsD P g cap u w φ) (hk:∀en u' w',φ en u' w'→∃v,en=.returned v∧LV P R rs e ds (settle u') w'):LV P R rs e ({target:=.fn (.func g) cap,args:=#[]}::ds) u w:=by
 refine⟨hu,.func g,cap,g,#[]++cap,rfl,invoke_fn hp cap #[] w,?_⟩
 rw[Array.empty_append]
 refine h.mono fun en u' w' hφ=>?_
 obtain⟨v,rfl,hl⟩:=hk en u' w' hφ
 exact hl
theorem ndD_reg (P:Program)(κ:CallKind)(R:Ending→World→Prop)(f:FuncId)(rs:List RV)(p:PT)(dr:Bool)(k:Nat)(lv:List Nat)(ds:List Deferred)(e:Env)(w:World):
  ndD P κ R f rs (.reg p dr k lv) ds e w=ptV P (panD P R rs dr p ds e) p e (drw dr w) fun e w=>V P κ R f k ds (keep lv e) w:=id rfl
theorem ndD_cnd (P:Program)(κ:CallKind)(R:Ending→World→Prop)(f:FuncId)(rs:List RV)(c:Operand)(a b:Nat)(ds:List Deferred)(e:Env)(w:World):
  ndD P κ R f rs (.cnd c a b) ds e w=getV (ev e c) fun v=>cdV v (V P κ R f a ds e w) (V P κ R f b ds e w):=id rfl
theorem ndD_jmp (P:Program)(κ:CallKind)(R:Ending→World→Prop)(f:FuncId)(rs:List RV)(k:Nat)(ds:List Deferred)(e:Env)(w:World):
  ndD P κ R f rs (.jmp k) ds e w=V P κ R f k ds e w:=id rfl
theorem ndD_ret (P:Program)(κ:CallKind)(R:Ending→World→Prop)(f:FuncId)(rs rs':List RV)(ds:List Deferred)(e:Env)(w:World):
  ndD P κ R f rs (.ret rs') ds e w=LV P R rs' e ds .returning w:=id rfl
theorem ndD_dfr (P:Program)(κ:CallKind)(R:Ending→World→Prop)(f:FuncId)(rs:List RV)(d g:Nat)(caps:List Operand)(k:Nat)(lv:List Nat)(ds:List Deferred)(e:Env)(w:World):
  ndD P κ R f rs (.dfr d g caps k lv) ds e w=getV (evs e caps) fun cs=>V P κ R f k ({target:=.fn (.func g) cs.toArray,args:=#[]}::ds) (keep lv (put (some d) (.func (.func g) #[] cs.toArray) e)) w:=id rfl
theorem LV_nil (P:Program)(R:Ending→World→Prop)(rs:List RV)(e:Env)(w:World):LV P R rs e [] .returning w=getV (rvs e w rs) fun vs=>R (.returned (retR vs)) w:=id rfl
theorem qi_eqI (e:Env)(w:World)(neg:Bool)(x y:Operand):qiR e w (.eqI neg x y)=(ev e x).bind fun x=>(ev e y).bind fun y=>eqIR neg x y:=id rfl
theorem qi_mkF (e:Env)(w:World)(f:Nat)(a b:List Operand):qiR e w (.mkF f a b)=(evs e a).bind fun fs=>(evs e b).map fun cs=>.func (.func f) fs.toArray cs.toArray:=id rfl
theorem qi_tas (e:Env)(w:World)(t:Nat)(k:IntKind)(x:Operand):qiR e w (.tas t k x)=(ev e x).bind (tasR t k):=id rfl
theorem eqI_nn (neg:Bool):eqIR neg .nilIface .nilIface=some (.bool (!neg)):=id rfl
theorem eqI_in (neg:Bool)(t:TypeId)(v:Value):eqIR neg (.iface t v) .nilIface=some (.bool neg):=id rfl
theorem eqI_ni (neg:Bool)(t:TypeId)(v:Value):eqIR neg .nilIface (.iface t v)=some (.bool neg):=id rfl
theorem tas_n (t:Nat)(k:IntKind):tasR t k .nilIface=some (.tuple #[.int k 0,.bool false]):=id rfl
theorem tas_i (t u:Nat)(k:IntKind)(v:Value):tasR t k (.iface u v)=some (if u=t then .tuple #[v,.bool true] else .tuple #[.int k 0,.bool false]):=id rfl
theorem liV_callv (P:Program)(R:Ending→World→Prop)(e:Env)(w:World)(K:Value→World→Prop)(x:Operand)(xs:List Operand):
  liV P R e w K (.callv x xs)=getV (ev e x) fun fv=>getV (evs e xs) fun vs=>callvV P R fv vs w K:=id rfl
theorem callv_f (P:Program)(R:Ending→World→Prop)(g:FuncId)(first cap:Array Value)(vs:List Value)(w:World)(K:Value→World→Prop):
  callvV P R (.func (.func g) first cap) vs w K=(plainF P g=true∧callV P R g (first.toList++vs++cap.toList) w K):=id rfl
def ptS1 (P:Program)(R:Ending→World→Prop)(k:PT)(e:Env)(w:World)(K:Env→World→Prop):Prop:=ptV P R k e w K
def ptS2 (P:Program)(R:Ending→World→Prop)(k:PT)(e:Env)(w:World)(K:Env→World→Prop):Prop:=ptV P R k e w K
theorem ptS1_eq (P:Program)(R:Ending→World→Prop)(k:PT)(e:Env)(w:World)(K:Env→World→Prop):ptS1 P R k e w K=ptV P R k e w K:=id rfl
theorem ptS2_eq (P:Program)(R:Ending→World→Prop)(k:PT)(e:Env)(w:World)(K:Env→World→Prop):ptS2 P R k e w K=ptV P R k e w K:=id rfl
theorem ptL_alloc (P:Program)(R:Ending→World→Prop)(d:Option Nat)(g:Option (Nat×Bool))(chk:List Chk)(k:PT)(e:Env)(w:World)(K:Env→World→Prop)(t:TypeId)(z:List (Nat×Value)):ptV P R (.l d g (.alloc t z) chk k) e w K=gdV g e (fun e=>liV P R e w (fun v w'=>okCs chk (put d v e) w'∧ptV P R k (put d v e) w' K) (.alloc t z)) fun e=>ptV P R k (put d undef e) w K:=id rfl
theorem ptL_box (P:Program)(R:Ending→World→Prop)(d:Option Nat)(g:Option (Nat×Bool))(chk:List Chk)(k:PT)(e:Env)(w:World)(K:Env→World→Prop)(t:TypeId)(x:Operand):ptV P R (.l d g (.box t x) chk k) e w K=gdV g e (fun e=>liV P R e w (fun v w'=>okCs chk (put d v e) w'∧ptV P R k (put d v e) w' K) (.box t x)) fun e=>ptV P R k (put d undef e) w K:=id rfl
theorem ptL_st1 (P:Program)(R:Ending→World→Prop)(d:Option Nat)(g:Option (Nat×Bool))(chk:List Chk)(k:PT)(e:Env)(w:World)(K:Env→World→Prop)(a x:Operand):ptV P R (.l d g (.st1 a x) chk k) e w K=gdV g e (fun e=>liV P R e w (fun v w'=>okCs chk (put d v e) w'∧ptV P R k (put d v e) w' K) (.st1 a x)) fun e=>ptV P R k (put d undef e) w K:=id rfl
theorem ptL_stN (P:Program)(R:Ending→World→Prop)(d:Option Nat)(g:Option (Nat×Bool))(chk:List Chk)(k:PT)(e:Env)(w:World)(K:Env→World→Prop)(n:Nat)(a x:Operand):ptV P R (.l d g (.stN n a x) chk k) e w K=gdV g e (fun e=>liV P R e w (fun v w'=>okCs chk (put d v e) w'∧ptV P R k (put d v e) w' K) (.stN n a x)) fun e=>ptV P R k (put d undef e) w K:=id rfl
theorem ptL_mkS (P:Program)(R:Ending→World→Prop)(d:Option Nat)(g:Option (Nat×Bool))(chk:List Chk)(k:PT)(e:Env)(w:World)(K:Env→World→Prop)(el s b:Nat)(z:List (Nat×Value))(l c:Operand):ptV P R (.l d g (.mkS el s b z l c) chk k) e w K=gdV g e (fun e=>liV P R e w (fun v w'=>okCs chk (put d v e) w'∧ptV P R k (put d v e) w' K) (.mkS el s b z l c)) fun e=>ptV P R k (put d undef e) w K:=id rfl
theorem ptL_bldS (P:Program)(R:Ending→World→Prop)(d:Option Nat)(g:Option (Nat×Bool))(chk:List Chk)(k:PT)(e:Env)(w:World)(K:Env→World→Prop)(el s:Nat)(xs:List Operand):ptV P R (.l d g (.bldS el s xs) chk k) e w K=gdV g e (fun e=>liV P R e w (fun v w'=>okCs chk (put d v e) w'∧ptV P R k (put d v e) w' K) (.bldS el s xs)) fun e=>ptV P R k (put d undef e) w K:=id rfl
theorem ptL_cpy (P:Program)(R:Ending→World→Prop)(d:Option Nat)(g:Option (Nat×Bool))(chk:List Chk)(k:PT)(e:Env)(w:World)(K:Env→World→Prop)(s:Nat)(x y:Operand):ptV P R (.l d g (.cpy s x y) chk k) e w K=gdV g e (fun e=>liV P R e w (fun v w'=>okCs chk (put d v e) w'∧ptV P R k (put d v e) w' K) (.cpy s x y)) fun e=>ptV P R k (put d undef e) w K:=id rfl
theorem ptL_mkM (P:Program)(R:Ending→World→Prop)(d:Option Nat)(g:Option (Nat×Bool))(chk:List Chk)(k:PT)(e:Env)(w:World)(K:Env→World→Prop):ptV P R (.l d g (.mkM) chk k) e w K=gdV g e (fun e=>liV P R e w (fun v w'=>okCs chk (put d v e) w'∧ptV P R k (put d v e) w' K) (.mkM)) fun e=>ptV P R k (put d undef e) w K:=id rfl
theorem ptL_s2b (P:Program)(R:Ending→World→Prop)(d:Option Nat)(g:Option (Nat×Bool))(chk:List Chk)(k:PT)(e:Env)(w:World)(K:Env→World→Prop)(el:Nat)(x:Operand):ptV P R (.l d g (.s2b el x) chk k) e w K=gdV g e (fun e=>liV P R e w (fun v w'=>okCs chk (put d v e) w'∧ptV P R k (put d v e) w' K) (.s2b el x)) fun e=>ptV P R k (put d undef e) w K:=id rfl
theorem ptL_mapU (P:Program)(R:Ending→World→Prop)(d:Option Nat)(g:Option (Nat×Bool))(chk:List Chk)(k:PT)(e:Env)(w:World)(K:Env→World→Prop)(l:List (Nat×SK))(a:Bool)(m k1 v:Operand):ptV P R (.l d g (.mapU l a m k1 v) chk k) e w K=gdV g e (fun e=>liV P R e w (fun v w'=>okCs chk (put d v e) w'∧ptV P R k (put d v e) w' K) (.mapU l a m k1 v)) fun e=>ptV P R k (put d undef e) w K:=id rfl
theorem ptL_mapD (P:Program)(R:Ending→World→Prop)(d:Option Nat)(g:Option (Nat×Bool))(chk:List Chk)(k:PT)(e:Env)(w:World)(K:Env→World→Prop)(l:List (Nat×SK))(a:Bool)(m k1:Operand):ptV P R (.l d g (.mapD l a m k1) chk k) e w K=gdV g e (fun e=>liV P R e w (fun v w'=>okCs chk (put d v e) w'∧ptV P R k (put d v e) w' K) (.mapD l a m k1)) fun e=>ptV P R k (put d undef e) w K:=id rfl
theorem ptL_pan (P:Program)(R:Ending→World→Prop)(d:Option Nat)(g:Option (Nat×Bool))(chk:List Chk)(k:PT)(e:Env)(w:World)(K:Env→World→Prop)(x:Operand):ptV P R (.l d g (.pan x) chk k) e w K=gdV g e (fun e=>liV P R e w (fun v w'=>okCs chk (put d v e) w'∧ptV P R k (put d v e) w' K) (.pan x)) fun e=>ptV P R k (put d undef e) w K:=id rfl
theorem ptL1_call (P:Program)(R:Ending→World→Prop)(d:Option Nat)(g:Option (Nat×Bool))(chk:List Chk)(k:PT)(e:Env)(w:World)(K:Env→World→Prop)(f:FuncId)(xs:List Operand):ptV P R (.l d g (.call f xs) chk k) e w K=gdV g e (fun e=>liV P R e w (fun v w'=>okCs chk (put d v e) w'∧ptS1 P R k (put d v e) w' K) (.call f xs)) fun e=>ptV P R k (put d undef e) w K:=id rfl
theorem ptL1_callv (P:Program)(R:Ending→World→Prop)(d:Option Nat)(g:Option (Nat×Bool))(chk:List Chk)(k:PT)(e:Env)(w:World)(K:Env→World→Prop)(x:Operand)(xs:List Operand):ptV P R (.l d g (.callv x xs) chk k) e w K=gdV g e (fun e=>liV P R e w (fun v w'=>okCs chk (put d v e) w'∧ptS1 P R k (put d v e) w' K) (.callv x xs)) fun e=>ptV P R k (put d undef e) w K:=id rfl
theorem ptL1_app (P:Program)(R:Ending→World→Prop)(d:Option Nat)(g:Option (Nat×Bool))(chk:List Chk)(k:PT)(e:Env)(w:World)(K:Env→World→Prop)(el s b:Nat)(z:List (Nat×Value))(x y:Operand):ptV P R (.l d g (.app el s b z x y) chk k) e w K=gdV g e (fun e=>liV P R e w (fun v w'=>okCs chk (put d v e) w'∧ptS1 P R k (put d v e) w' K) (.app el s b z x y)) fun e=>ptV P R k (put d undef e) w K:=id rfl
theorem vcL1:type_of% (And.intro @ptL_alloc (And.intro @ptL_box (And.intro @ptL_st1 (And.intro @ptL_stN (And.intro @ptL_mkS (And.intro @ptL_bldS (And.intro @ptL_cpy (And.intro @ptL_mkM (And.intro @ptL_s2b (And.intro @ptL_mapU (And.intro @ptL_mapD (And.intro @ptL_pan (And.intro @ptL1_call (And.intro @ptL1_callv @ptL1_app)))))))))))))):=And.intro @ptL_alloc (And.intro @ptL_box (And.intro @ptL_st1 (And.intro @ptL_stN (And.intro @ptL_mkS (And.intro @ptL_bldS (And.intro @ptL_cpy (And.intro @ptL_mkM (And.intro @ptL_s2b (And.intro @ptL_mapU (And.intro @ptL_mapD (And.intro @ptL_pan (And.intro @ptL1_call (And.intro @ptL1_callv @ptL1_app)))))))))))))
theorem ptL2_call (P:Program)(R:Ending→World→Prop)(d:Option Nat)(g:Option (Nat×Bool))(chk:List Chk)(k:PT)(e:Env)(w:World)(K:Env→World→Prop)(f:FuncId)(xs:List Operand):ptV P R (.l d g (.call f xs) chk k) e w K=gdV g e (fun e=>liV P R e w (fun v w'=>okCs chk (put d v e) w'∧ptS2 P R k (put d v e) w' K) (.call f xs)) fun e=>ptV P R k (put d undef e) w K:=id rfl
theorem ptL2_callv (P:Program)(R:Ending→World→Prop)(d:Option Nat)(g:Option (Nat×Bool))(chk:List Chk)(k:PT)(e:Env)(w:World)(K:Env→World→Prop)(x:Operand)(xs:List Operand):ptV P R (.l d g (.callv x xs) chk k) e w K=gdV g e (fun e=>liV P R e w (fun v w'=>okCs chk (put d v e) w'∧ptS2 P R k (put d v e) w' K) (.callv x xs)) fun e=>ptV P R k (put d undef e) w K:=id rfl
theorem ptL2_app (P:Program)(R:Ending→World→Prop)(d:Option Nat)(g:Option (Nat×Bool))(chk:List Chk)(k:PT)(e:Env)(w:World)(K:Env→World→Prop)(el s b:Nat)(z:List (Nat×Value))(x y:Operand):ptV P R (.l d g (.app el s b z x y) chk k) e w K=gdV g e (fun e=>liV P R e w (fun v w'=>okCs chk (put d v e) w'∧ptS2 P R k (put d v e) w' K) (.app el s b z x y)) fun e=>ptV P R k (put d undef e) w K:=id rfl
theorem vcL2:type_of% (And.intro @ptL_alloc (And.intro @ptL_box (And.intro @ptL_st1 (And.intro @ptL_stN (And.intro @ptL_mkS (And.intro @ptL_bldS (And.intro @ptL_cpy (And.intro @ptL_mkM (And.intro @ptL_s2b (And.intro @ptL_mapU (And.intro @ptL_mapD (And.intro @ptL_pan (And.intro @ptL2_call (And.intro @ptL2_callv @ptL2_app)))))))))))))):=And.intro @ptL_alloc (And.intro @ptL_box (And.intro @ptL_st1 (And.intro @ptL_stN (And.intro @ptL_mkS (And.intro @ptL_bldS (And.intro @ptL_cpy (And.intro @ptL_mkM (And.intro @ptL_s2b (And.intro @ptL_mapU (And.intro @ptL_mapD (And.intro @ptL_pan (And.intro @ptL2_call (And.intro @ptL2_callv @ptL2_app)))))))))))))
theorem vcD:type_of% (And.intro @ndD_reg (And.intro @ndD_cnd @liV_callv)):=And.intro @ndD_reg (And.intro @ndD_cnd @liV_callv)
theorem vcE:type_of% (And.intro @ndD_jmp (And.intro @ndD_ret (And.intro @ndD_dfr (And.intro @qi_eqI (And.intro @qi_mkF (And.intro @qi_tas (And.intro @eqI_nn (And.intro @eqI_in (And.intro @eqI_ni (And.intro @tas_n (And.intro @tas_i @callv_f))))))))))):=
 And.intro @ndD_jmp (And.intro @ndD_ret (And.intro @ndD_dfr (And.intro @qi_eqI (And.intro @qi_mkF (And.intro @qi_tas (And.intro @eqI_nn (And.intro @eqI_in (And.intro @eqI_ni (And.intro @tas_n (And.intro @tas_i @callv_f))))))))))
end Go.Vc
