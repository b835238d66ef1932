/- A region: its operations in an order of our own, whatever order is drawn. -/
import Derived.Test.YtmnogjgmkpjpoaaGreatQC
set_option linter.unusedSimpArgs false
set_option linter.unusedVariables false
set_option linter.constructorNameAsVariable false
namespace Go.Vc
structure Chk where
 d:Nat
 g:Option (Nat×Bool)
 i:QI
 deriving Inhabited
inductive PT where
 |done
 |q (d:Option Nat) (g:Option (Nat×Bool)) (i:QI) (k:PT)
 |l (d:Option Nat) (g:Option (Nat×Bool)) (i:LI) (chk:List Chk) (k:PT)
 |alt (a b:PT)
 deriving Inhabited
def gdB (want:Bool)(v:Value)(A B C:Prop):Prop:=
 match v with
 | .bool b=>(b=want→A)∧(b= !want→B)
 |_=>C
@[congr] theorem gdB_congr {want:Bool} {v v':Value} {A B C:Prop} (h:v=v'):gdB want v A B C=gdB want v' A B C:=by rw[h]
def gdV (g:Option (Nat×Bool))(e:Env)(A B:Env→Prop):Prop:=
 match g with
 |none=>A e
 |some (t,want)=>getV (look e t) fun v=>gdB want v (A ((t,.bool want)::e)) (B ((t,.bool (!want))::e)) (B e)
def okC (c:Chk)(e:Env)(w:World):Prop:=
 gdV c.g e (fun e=> ∃v,look e c.d=some v∧qiR e w c.i=some v) fun _=>True
def okCs:List Chk→Env→World→Prop
 |[],_,_=>True
 |c::cs,e,w=>okC c e w∧okCs cs e w
def ptV (P:Program)(R:Ending→World→Prop):PT→Env→World→(Env→World→Prop)→Prop
 | .done,e,w,K=>K e w
 | .q d g i k,e,w,K=>gdV g e (fun e=>getV (qiR e w i) fun v=>ptV P R k (put d v e) w K) fun e=>ptV P R k (put d undef e) w K
 | .l d g i chk k,e,w,K=>
  gdV g e (fun e=>liV P R e w (fun v w'=>okCs chk (put d v e) w'∧ptV P R k (put d v e) w' K) i) fun e=>ptV P R k (put d undef e) w K
 | .alt a b,e,w,K=>ptV P R a e w K∧ptV P R b e w K
def isL (P:Program)(ops:Array Oper)(j:Nat):Bool:=
 match ops[j]? with
 |some o=>(compQ P o).isNone
 |none=>true
def dirs (o:Oper):List Nat:=(o.after.toList.filter (Region.binds .any)).map (·.on)
def ancStep (acc:List (List Nat))(o:Oper):List (List Nat):=
 acc++[(dirs o++(dirs o).flatMap fun d=>acc.getD d []).eraseDups]
def ancs (ops:List Oper):List (List Nat):=ops.foldl ancStep []
def gslot (ops:Array Oper)(o:Oper):Option (Option (Nat×Bool)):=
 match o.guard with
 |none=>some none
 |some (j,want)=>((ops[j]?).bind (·.dst)).map fun t=>some (t,want)
def strong (ops:Array Oper)(listed:Array Bool)(i:Nat)(o:Oper)(d:Nat):Bool:=
 !(o.looksAt ops).contains d&&
 (List.range ops.size).all fun j=>j==i||listed.getD j true||match ops[j]? with
  |some oj=>match oj.dst with
   |some dj=> !(o.looksAt ops).contains dj&&dj !=d
   |none=>true
  |none=>true
def chkOf (P:Program)(ops:Array Oper)(p:Nat):Option Chk:=
 (ops[p]?).bind fun o=>o.dst.bind fun d=>(gslot ops o).bind fun g=>(compQ P o).map fun i=>⟨d,g,i⟩
def altsOf (f:Nat→Option PT):List Nat→Option PT
 |[]=>none
 |[i]=>f i
 |i::is=>(f i).bind fun a=>(altsOf f is).map fun b=>.alt a b
def dstOK (n:Nat)(o:Oper):Bool:=match o.dst with|some d=>d<n|none=>true
def gen (P:Program)(n:Nat)(ops:Array Oper)(A:List (List Nat)):Nat→Array Bool→List Nat→Option PT
 |fuel,listed,pend=>
  match Region.ready .any ops listed with
  |[]=>some .done
  |r::rs=>
   match fuel with
   |0=>none
   |fuel+1=>
    match (r::rs).find? fun i=> !isL P ops i with
    |some i=>
     (ops[i]?).bind fun o=>(compQ P o).bind fun qi=>(gslot ops o).bind fun g=>
      if Region.free .any ops listed i&&dstOK n o then
       if qi.reads then
        match o.dst with
        |some d=>if strong ops listed i o d then (gen P n ops A fuel (listed.setIfInBounds i true) (i::pend)).map fun k=>.q o.dst g qi k else none
        |none=>none
       else (gen P n ops A fuel (listed.setIfInBounds i true) pend).map fun k=>.q o.dst g qi k
      else none
    |none=>
     altsOf (fun i=>(ops[i]?).bind fun o=>(compL P o).bind fun li=>(gslot ops o).bind fun g=>
      if dstOK n o then
       ((pend.filter fun p=> !(A.getD i []).contains p).mapM (chkOf P ops)).bind fun chk=>
        (gen P n ops A fuel (listed.setIfInBounds i true) (pend.filter fun p=> !(A.getD i []).contains p)).map fun k=>.l o.dst g li chk k
      else none) (r::rs)
def genS (P:Program)(n:Nat)(ops:Array Oper):List Oper→Option PT
 |[]=>some .done
 |o::os=>
  if dstOK n o then
   (gslot ops o).bind fun g=>
   match compQ P o with
   |some qi=>(genS P n ops os).map fun k=>.q o.dst g qi k
   |none=>(compL P o).bind fun li=>(genS P n ops os).map fun k=>.l o.dst g li [] k
  else none
def planOf (P:Program)(n:Nat)(ops:Array Oper)(draw:Bool):Option PT:=
 if draw then
  if P.follows .mixedOrders&&Region.noSelect ops then gen P n ops (ancs ops.toList) ops.size (Array.replicate ops.size false) [] else none
 else genS P n ops ops.toList
section
variable {P:Program} {R:Ending→World→Prop} {ops:Array Oper} {n:Nat} {ds:List Deferred}
theorem getV_spec {α:Type}{o:Option α}{K:α→Prop}(h:getV o K):∃v,o=some v∧K v:=by
 unfold getV at h
 split at h
 ·exact⟨_,rfl,h⟩
 ·exact h.elim
theorem gdV_specS {o:Oper}{g:Option (Nat×Bool)}(hg:gslot ops o=some g){e:Env}{a:Act}(ha:AgreeD ds n e a){A B:Env→Prop}(h:gdV g e A B):
  (Region.wanted o (yielded ops a.tmps)=true∧∃e',(AgreeD ds n e' a∧∀t,look e' t=look e t)∧A e')∨(Region.wanted o (yielded ops a.tmps)=false∧∃e',(AgreeD ds n e' a∧∀t,look e' t=look e t)∧B e'):=by
 unfold gslot at hg
 cases hgd:o.guard with
 |none=>
  simp [hgd] at hg;subst hg
  exact .inl ⟨by simp [Region.wanted,hgd],e,⟨ha,fun _=>rfl⟩,h⟩
 |some jw=>
  obtain⟨j,want⟩:=jw
  simp only[hgd] at hg
  cases ht:(ops[j]?).bind (·.dst) with
  |none=>simp [ht] at hg
  |some t=>
   simp [ht] at hg;subst hg
   obtain⟨v,hv,hk⟩:=getV_spec h
   have htm:=ha.val t v hv
   have hy:∀b,v=.bool b→yielded ops a.tmps j=some b:=by
    intro b hb;subst hb
    simp [yielded,ht,htm]
   have hset:∀b,v=.bool b→AgreeD ds n ((t,.bool b)::e) a∧∀s,look ((t,.bool b)::e) s=look e s:=by
    intro b hb;subst hb
    refine⟨⟨ha.size,ha.nodef,fun s u hs=>?_⟩,fun s=>by
     simp only[look]
     split
     ·rename_i hts;subst hts;exact hv.symm
     ·rfl⟩
    simp only[look] at hs
    split at hs
    ·rename_i hts;subst hts;cases hs;exact htm
    ·exact ha.val s u hs
   unfold gdB at hk
   split at hk
   ·rename_i b
    by_cases hbw:b=want
    ·subst hbw
     exact .inl ⟨by simp [Region.wanted,hgd,hy b rfl],_,hset b rfl,hk.1 rfl⟩
    ·have hbn:b= !want:=by cases b<;>cases want<;>first|rfl|exact absurd rfl hbw
     refine .inr ⟨?_,_,hbn▸hset b rfl,hk.2 hbn⟩
     simp only[Region.wanted,hgd,hy b rfl,hbn]
     cases want<;>rfl
   ·rename_i hnb
    refine .inr ⟨?_,e,⟨ha,fun _=>rfl⟩,hk⟩
    have:yielded ops a.tmps j=none:=by
     unfold yielded
     rw[ht,Option.bind_some,htm]
     cases v<;>simp_all
    simp [Region.wanted,hgd,this]
theorem gdV_spec {o:Oper}{g:Option (Nat×Bool)}(hg:gslot ops o=some g){e:Env}{a:Act}(ha:AgreeD ds n e a){A B:Env→Prop}(h:gdV g e A B):
  (Region.wanted o (yielded ops a.tmps)=true∧∃e',AgreeD ds n e' a∧A e')∨(Region.wanted o (yielded ops a.tmps)=false∧∃e',AgreeD ds n e' a∧B e'):=by
 rcases gdV_specS hg ha h with ⟨h1,e',⟨h2,_⟩,h3⟩|⟨h1,e',⟨h2,_⟩,h3⟩
 ·exact .inl ⟨h1,e',h2,h3⟩
 ·exact .inr ⟨h1,e',h2,h3⟩
def NoDep (P:Program)(ops:Array Oper)(A:List (List Nat))(p:Nat)(L:Array Bool):Prop:=
 ∀j,L.getD j false=true→isL P ops j=true→p ∉ A.getD j []
def Closed (ops:Array Oper)(L:Array Bool):Prop:=
 ∀j o,ops[j]?=some o→L.getD j false=true→∀d∈dirs o,L.getD d false=true
theorem ancs_closed (ops:Array Oper){L:Array Bool}(hc:Closed ops L)(hL:L.size≤ops.size):
  ∀j,L.getD j false=true→∀i∈(ancs ops.toList).getD j [],L.getD i false=true:=by
 have key:∀(l:List Oper) (acc:List (List Nat)) (pre:List Oper),pre++l=ops.toList→acc.length=pre.length→
   (∀j,L.getD j false=true→∀i∈acc.getD j [],L.getD i false=true)→∀j,L.getD j false=true→∀i∈(l.foldl ancStep acc).getD j [],L.getD i false=true:=by
  intro l
  induction l with
  |nil=>intro acc pre _ _ h;exact h
  |cons o l ih=>
   intro acc pre hpre hlen h
   simp only[List.foldl_cons]
   refine ih (ancStep acc o) (pre++[o]) (by simp [hpre]) (by simp [ancStep,hlen]) ?_
   intro j hj i hi
   simp only[ancStep,List.getD_eq_getElem?_getD,List.getElem?_append] at hi
   split at hi
   ·exact h j hj i (by simpa [List.getD_eq_getElem?_getD] using hi)
   ·rename_i hge
    by_cases hje:j=acc.length
    ·subst hje
     simp only[Nat.sub_self,List.getElem?_cons_zero,Option.getD_some,List.mem_eraseDups,List.mem_append,List.mem_flatMap] at hi
     have ho:ops[acc.length]?=some o:=by
      have:ops.toList[acc.length]?=some o:=by rw[←hpre,hlen];simp
      simpa using this
     rcases hi with hi|⟨d,hd,hi⟩
     ·exact hc _ o ho hj i hi
     ·exact h d (hc _ o ho hj d hd) i hi
    ·rw[List.getElem?_eq_none (by simp;omega)] at hi
     simp at hi
 exact key ops.toList [] [] rfl rfl (fun j _ i hi=>by simp at hi)
theorem mem_dirs {o:Oper}{d:Nat}:d∈dirs o↔ ∃e∈o.after,Region.binds .any e=true∧e.on=d:=by
 simp only[dirs,List.mem_map,List.mem_filter,Array.mem_toList_iff]
 constructor
 ·rintro⟨e,⟨h1,h2⟩,h3⟩;exact⟨e,h1,h2,h3⟩
 ·rintro⟨e,h1,h2,h3⟩;exact⟨e,⟨h1,h2⟩,h3⟩
theorem getD_set (L:Array Bool)(i j:Nat)(h:L.getD i true=false):(L.setIfInBounds i true).getD j false=(decide (j=i)||L.getD j false):=by
 by_cases hij:j=i
 ·subst hij
  have hlt:j<L.size:=by
   rcases Nat.lt_or_ge j L.size with h'|h'
   ·exact h'
   ·simp [h'] at h
  simp [hlt]
 ·rw[getD_set_ne false (Ne.symm hij)];simp [hij]
theorem Closed.ready {L:Array Bool}(hc:Closed ops L){i:Nat}(hi:i∈Region.ready .any ops L):Closed ops (L.setIfInBounds i true):=by
 obtain⟨h0,o,ho,hall⟩:=mem_ready.1 hi
 intro j oj hoj hj d hd
 rw[getD_set L i _ h0] at hj⊢
 by_cases hji:j=i
 ·subst hji
  rw[ho] at hoj;cases hoj
  obtain⟨e,he,hb,rfl⟩:=mem_dirs.1 hd
  rw[hall e he hb,Bool.or_true]
 ·have hj':L.getD j false=true:=by simpa only[hji,decide_false,Bool.false_or] using hj
  rw[hc j oj hoj hj' d hd,Bool.or_true]
variable (P ops) in
def wpAnyI (Q:Exit→Act→World→Prop)(I:Array Bool→World→Prop):Nat→Array Bool→Act→World→Prop
 |0,L,a,w=>Region.ready .any ops L=[]∧Q .normal a w
 |m+1,L,a,w=>(Region.ready .any ops L=[]→Q .normal a w)∧
   ∀i∈Region.ready .any ops L,wpOp P ops Q i (fun a' w'=>I (L.setIfInBounds i true) w'∧wpAnyI Q I m (L.setIfInBounds i true) a' w') a w
variable {Q:Exit→Act→World→Prop}
theorem wpAnyI_mono {I J:Array Bool→World→Prop}(h:∀L w,I L w→J L w):∀(m:Nat) (L:Array Bool) (a:Act) (w:World),wpAnyI P ops Q I m L a w→wpAnyI P ops Q J m L a w
 |0,_,_,_,hh=>hh
 |m+1,_,_,_,hh=>⟨hh.1,fun i hi=>wpOp_mono (fun a' w' hx=>⟨h _ _ hx.1,wpAnyI_mono h m _ _ _ hx.2⟩) (hh.2 i hi)⟩
theorem wpAny_of {I:Array Bool→World→Prop}:∀(m:Nat) (L:Array Bool) (a:Act) (w:World),wpAnyI P ops Q I m L a w→wpAny P .any ops Q m L a w
 |0,_,_,_,hh=>hh
 |m+1,_,_,_,hh=>⟨hh.1,fun i hi=>wpOp_mono (fun a' w' hx=>wpAny_of m _ _ _ hx.2) (hh.2 i hi)⟩
theorem wpOp_beside {j:Nat}{oi oj:Oper}{v:Value}(hj:ops[j]?=some oj)(hap:oi.apart ops oj=true)
  (hsi:∀cs b,oi.op≠ .select cs b) (hsj:∀cs b,oj.op≠ .select cs b)
  (hQ:∀c a w,Q (.panic c) (a.put oi.dst v) w→Q (.panic c) a w) {K:Act→World→Prop} {a:Act} {w:World}
  (h:wpOp P ops Q j K (a.put oi.dst v) w):
  wpOp P ops Q j (fun a' w'=>(execOp a'.eval oi=execOp a.eval oi∧Region.wanted oi (yielded ops a'.tmps)=Region.wanted oi (yielded ops a.tmps))∧K (a'.put oi.dst v) w') a w:=by
 obtain⟨h1,h2,h3⟩:=Oper.apart_spec hap
 have keepP:∀(a:Act) u,execOp (a.put oj.dst u).eval oi=execOp a.eval oi∧Region.wanted oi (yielded ops (a.put oj.dst u).tmps)=Region.wanted oi (yielded ops a.tmps):=
  fun a u=>⟨execOp_put oi hsi a oj.dst u h3,wanted_put oi a oj.dst u h3⟩
 unfold wpOp at*
 simp only[hj] at*
 rw[wanted_put oj a oi.dst v h1] at h
 by_cases hw:Region.wanted oj (yielded ops a.tmps)=true
 ·simp only[hw,if_true] at h⊢
  refine h.imp (fun h=>?_) fun ⟨hasks,hlets⟩=>⟨by unfold Oper.asks at*;rw[execOp_put oj hsj a oi.dst v h1] at hasks;exact hasks,hlets⟩
  unfold Oper.wp at*
  rw[execOp_put oj hsj a oi.dst v h1] at h
  cases hr:(execOp a.eval oj).run P w with
  |ok x w'=>
   rw[hr] at h
   cases x<;>simp only[Oper.upon] at h⊢
   case value u=>exact⟨keepP a u,by rw[←Act.put_comm a v u h2];exact h⟩
   case skip=>exact⟨keepP a _,by rw[←Act.put_comm a v undef h2];exact h⟩
   case defer d=>
    refine⟨keepP _ _,?_⟩
    rw[←Act.put_comm _ v undef h2,←Act.put_defers]
    exact h
   case enter f args=>
    refine Calls.mono h fun en w'' he=>?_
    cases en with
    |returned u=>exact⟨keepP a u,by rw[←Act.put_comm a v u h2];exact he⟩
    |panicked c=>exact hQ _ _ _ he
    |outgrown=>exact he
   case row row args=>exact Rows.mono h fun u w'' he=>⟨keepP a u,by rw[←Act.put_comm a v u h2];exact he⟩
  |halt x w'=>
   rw[hr] at h
   cases x<;>simp only[Oper.upon] at h⊢
   case panic u=>exact hQ _ _ _ h
 ·simp only[hw,if_false,Bool.false_eq_true] at h⊢
  exact⟨keepP a _,by rw[←Act.put_comm a v undef h2];exact h⟩
theorem hoist {I:Array Bool→World→Prop}{i:Nat}{oi:Oper}{v:Value}{s:Sem Next}{g:Bool}(hi:ops[i]?=some oi)
  (hsel:∀(j:Nat) (o:Oper) cs b,ops[j]?=some o→o.op≠ .select cs b) (hq:isL P ops i=false)
  (hQ:∀c a w,Q (.panic c) (a.put oi.dst v) w→Q (.panic c) a w)
  (hI1:∀L L' w,(∀j,L.getD j false=true→L'.getD j false=true)→I L w→I L' w)
  (hI2:∀L w j,isL P ops j=false→I (L.setIfInBounds j true) w→I L w):
  ∀(m:Nat) (L:Array Bool) (a:Act) (w:World),L.size=ops.size→Closed ops L→
   (∀j oj,ops[j]?=some oj→j≠i→L.getD j true=false→(∀e∈oj.after,Region.binds .any e=true→e.on≠i)→oi.apart ops oj=true)→
   i∈Region.ready .any ops L→I L w→execOp a.eval oi=s→Region.wanted oi (yielded ops a.tmps)=g→
   (g=true→s.run P w=.ok (.value v) w)→(g=false→v=undef)→
   wpAnyI P ops Q (fun L w=>I L w∧(NoDep P ops (ancs ops.toList) i L→g=true→s.run P w=.ok (.value v) w)) m (L.setIfInBounds i true) (a.put oi.dst v) w→
   wpAnyI P ops Q I (m+1) L a w:=by
 have here:∀(m:Nat) (L:Array Bool) (a:Act) (w:World),I L w→execOp a.eval oi=s→Region.wanted oi (yielded ops a.tmps)=g→
   (g=true→s.run P w=.ok (.value v) w)→(g=false→v=undef)→i∈Region.ready .any ops L→
   wpAnyI P ops Q (fun L w=>I L w∧(NoDep P ops (ancs ops.toList) i L→g=true→s.run P w=.ok (.value v) w)) m (L.setIfInBounds i true) (a.put oi.dst v) w→
   wpOp P ops Q i (fun a' w'=>I (L.setIfInBounds i true) w'∧wpAnyI P ops Q I m (L.setIfInBounds i true) a' w') a w:=by
  intro m L a w hIw hs hg hy hn hr H
  have h0:=(mem_ready.1 hr).1
  have hI':I (L.setIfInBounds i true) w:=hI1 L _ w (fun j hj=>by rw[getD_set L i j h0];simp [hj]) hIw
  have H':=wpAnyI_mono (fun L w h=>h.1) m _ _ _ H
  unfold wpOp
  simp only[hi,hg]
  cases g with
  |true=>
   simp only[if_true]
   refine .inl ?_
   unfold Oper.wp
   rw[hs,hy rfl]
   exact⟨hI',H'⟩
  |false=>
   have hv:=hn rfl
   simp only[Bool.false_eq_true,if_false]
   rw[hv] at H'
   exact⟨hI',H'⟩
 intro m
 induction m with
 |zero=>
  intro L a w hsz hc hfree hr hIw hs hg hy hn H
  refine⟨fun h=>(by rw[h] at hr;cases hr),fun j hj=>?_⟩
  by_cases hji:j=i
  ·subst hji;exact here 0 L a w hIw hs hg hy hn hr H
  ·have:=ready_mono hj hji
   rw[H.1] at this
   cases this
 |succ m ih=>
  intro L a w hsz hc hfree hr hIw hs hg hy hn H
  refine⟨fun h=>(by rw[h] at hr;cases hr),fun j hj=>?_⟩
  by_cases hji:j=i
  ·subst hji;exact here (m+1) L a w hIw hs hg hy hn hr H
  ·have h1:=H.2 j (ready_mono hj hji)
   obtain⟨hjun,oj,hoj,hall⟩:=mem_ready.1 hj
   have h0:=(mem_ready.1 hr).1
   have hiun:L.getD i false=false:=by
    rcases Nat.lt_or_ge i L.size with h'|h'
    ·simp [h'] at h0⊢;exact h0
    ·simp [h'] at h0
   have hnot:∀e∈oj.after,Region.binds .any e=true→e.on≠i:=fun e he hb heq=>by
    have h1:=hall e he hb
    rw[heq,hiun] at h1;cases h1
   have h2:=wpOp_beside hoj (hfree j oj hoj hji hjun hnot) (fun cs b=>hsel i oi cs b hi) (fun cs b=>hsel j oj cs b hoj) hQ h1
   have hcomm:(L.setIfInBounds i true).setIfInBounds j true=(L.setIfInBounds j true).setIfInBounds i true:=Array.setIfInBounds_comm _ _ (Ne.symm hji)
   have hcl:=hc.ready hj
   have hrij:=ready_mono hr (Ne.symm hji)
   have hfree':∀k ok,ops[k]?=some ok→k≠i→(L.setIfInBounds j true).getD k true=false→
     (∀e∈ok.after,Region.binds .any e=true→e.on≠i)→oi.apart ops ok=true:=fun k ok hk hki hun hno=>by
    refine hfree k ok hk hki ?_ hno
    by_cases hjk:j=k
    ·subst hjk;exact hjun
    ·rw[getD_set_ne true hjk] at hun;exact hun
   have hnd:NoDep P ops (ancs ops.toList) i ((L.setIfInBounds j true).setIfInBounds i true):=by
    intro k hk hkl hmem
    have hki:k≠i:=fun e=>by rw[e,hq] at hkl;cases hkl
    rw[getD_set_ne false (Ne.symm hki)] at hk
    have:=ancs_closed ops hcl (by simp [hsz]) k hk i hmem
    rw[getD_set L j i hjun] at this
    simp [Ne.symm hji,hiun] at this
   refine wpOp_mono (fun a' w' h3=>?_) h2
   obtain⟨⟨he,hw⟩,hI',H'⟩:=h3
   rw[hcomm] at hI' H'
   have hIj:I (L.setIfInBounds j true) w':=hI2 _ _ i hq hI'.1
   exact⟨hIj,ih (L.setIfInBounds j true) a' w' (by simp [hsz]) hcl hfree' hrij hIj (he.trans hs) (hw.trans hg) (fun hgt=>hI'.2 hnd hgt) hn H'⟩
def YieldNow (P:Program)(ops:Array Oper)(p:Nat)(a:Act)(w:World):Prop:=
 ∀o d v,ops[p]?=some o→o.dst=some d→Region.wanted o (yielded ops a.tmps)=true→a.tmps[d]?=some v→(execOp a.eval o).run P w=.ok (.value v) w
theorem chk_yield {p:Nat}{c:Chk}(hc:chkOf P ops p=some c){e:Env}{a:Act}{w:World}(ha:AgreeD ds n e a)(h:okC c e w):YieldNow P ops p a w:=by
 intro o d v ho hd hw hv
 unfold chkOf at hc
 simp only[ho,hd,Option.bind_some] at hc
 cases hg:gslot ops o with
 |none=>simp [hg] at hc
 |some g=>
  cases hq:compQ P o with
  |none=>simp [hg,hq] at hc
  |some qi=>
   simp [hg,hq] at hc
   subst hc
   rcases gdV_spec hg ha h with ⟨_,e',ha',u,hu,hr⟩|⟨hnw,_⟩
   ·have:=ha'.val d u hu
    rw[hv] at this;cases this
    exact compQ_sound hq ha' hr
   ·rw[hw] at hnw;cases hnw
theorem okCs_yield:∀{ps:List Nat} {cs:List Chk},ps.mapM (chkOf P ops)=some cs→∀{e:Env} {a:Act} {w:World},AgreeD ds n e a→okCs cs e w→∀p∈ps,YieldNow P ops p a w
 |[],_,_,_,_,_,_,_,p,hp=>by cases hp
 |p::ps,cs,hc,e,a,w,ha,h,q,hq=>by
  rw[List.mapM_cons] at hc
  cases h1:chkOf P ops p with
  |none=>simp [h1] at hc
  |some c=>
   cases h2:ps.mapM (chkOf P ops) with
   |none=>simp [h1,h2] at hc
   |some cs'=>
    simp [h1,h2] at hc
    subst hc
    rcases List.mem_cons.1 hq with rfl|hq
    ·exact chk_yield h1 ha h.1
    ·exact okCs_yield h2 ha h.2 q hq
def Strong (ops:Array Oper)(L:Array Bool)(p:Nat):Prop:=
 ∀o d,ops[p]?=some o→o.dst=some d→d ∉ o.looksAt ops∧∀j oj dj,ops[j]?=some oj→j≠p→L.getD j true=false→oj.dst=some dj→dj ∉ o.looksAt ops∧dj≠d
theorem strong_spec {L:Array Bool}{i:Nat}{o:Oper}{d:Nat}(hi:ops[i]?=some o)(hd:o.dst=some d)(h:strong ops L i o d=true):Strong ops L i:=by
 intro o' d' ho' hd'
 rw[hi] at ho';cases ho'
 rw[hd] at hd';cases hd'
 simp only[strong,Bool.and_eq_true,Bool.not_eq_true',List.all_eq_true,List.mem_range] at h
 refine⟨by simpa using h.1,fun j oj dj hj hne hun hdj=>?_⟩
 have:=h.2 j (Array.getElem?_eq_some_iff.1 hj).1
 simp only[hj,hdj,Bool.or_eq_true,beq_iff_eq,hne,false_or,hun,Bool.false_eq_true] at this
 simpa using this
theorem Strong.mono {L:Array Bool}{p j:Nat}(h:Strong ops L p):Strong ops (L.setIfInBounds j true) p:=by
 intro o d ho hd
 obtain⟨h1,h2⟩:=h o d ho hd
 refine⟨h1,fun k ok dk hk hne hun hdk=>h2 k ok dk hk hne ?_ hdk⟩
 by_cases hjk:j=k
 ·subst hjk
  rcases Nat.lt_or_ge j L.size with h'|h'
  ·simp [h'] at hun
  ·simp [h'] at hun
 ·rw[getD_set_ne true hjk] at hun;exact hun
theorem YieldNow.back {p j:Nat}{L:Array Bool}(hs:Strong ops L p)(hsel:∀(j:Nat) (o:Oper) cs b,ops[j]?=some o→o.op≠ .select cs b)
  {oj:Oper} (hj:ops[j]?=some oj) (hne:j≠p) (hun:L.getD j true=false) {a:Act} {w:World} {u:Value}
  (h:YieldNow P ops p (a.put oj.dst u) w):YieldNow P ops p a w:=by
 intro o d v ho hd hw hv
 have hx:∀dj,oj.dst=some dj→dj ∉ o.looksAt ops∧dj≠d:=fun dj hdj=>(hs o d ho hd).2 j oj dj hj hne hun hdj
 have h1:=execOp_put (ops:=ops) o (fun cs b=>hsel p o cs b ho) a oj.dst u fun dj hdj=>(hx dj hdj).1
 have h2:=wanted_put (ops:=ops) o a oj.dst u fun dj hdj=>(hx dj hdj).1
 have h3:(a.put oj.dst u).tmps[d]?=some v:=by
  cases hdj:oj.dst with
  |none=>exact hv
  |some dj=>simp only[Act.put];rw[Array.getElem?_setIfInBounds_ne (hx dj hdj).2];exact hv
 have:=h o d v ho hd (by rw[h2];exact hw) h3
 rwa [h1] at this
theorem ready_false {L:Array Bool}{i:Nat}(h:i∈Region.ready .any ops L):L.getD i true=false∧L.getD i false=false:=by
 have h0:=(mem_ready.1 h).1
 refine⟨h0,?_⟩
 rcases Nat.lt_or_ge i L.size with h'|h'
 ·simp [h'] at h0⊢;exact h0
 ·simp [h'] at h0
theorem dstOK_spec {o:Oper}(h:dstOK n o=true):∀t,o.dst=some t→t<n:=by
 intro t ht;simpa [dstOK,ht] using h
theorem altsOf_spec {f:Nat→Option PT}:∀{rs:List Nat} {pt:PT},altsOf f rs=some pt→∀{e:Env} {w:World} {K:Env→World→Prop},ptV P R pt e w K→
  ∀i∈rs,∃p,f i=some p∧ptV P R p e w K
 |[],_,h,_,_,_,_,i,hi=>by cases hi
 |[j],pt,h,_,_,_,hv,i,hi=>by
  rcases List.mem_singleton.1 hi with rfl
  exact⟨pt,h,hv⟩
 |j::k::rs,pt,h,e,w,K,hv,i,hi=>by
  simp only[altsOf] at h
  cases h1:f j with
  |none=>simp [h1] at h
  |some a=>
   cases h2:altsOf f (k::rs) with
   |none=>simp [h1,h2] at h
   |some b=>
    simp [h1,h2] at h
    subst h
    rcases List.mem_cons.1 hi with rfl|hi
    ·exact⟨a,h1,hv.1⟩
    ·exact altsOf_spec h2 hv.2 i hi
theorem qiR_pure {qi:QI}(h:qi.reads=false)(e:Env)(w w':World):qiR e w qi=qiR e w' qi:=by
 cases qi<;>first|rfl|(simp [QI.reads] at h)
theorem gen_sound (hsel:Region.noSelect ops=true)(hQ:∀c (a:Act) dst v w,Q (.panic c) (a.put dst v) w→Q (.panic c) a w)
  {K:Env→World→Prop} (hK:∀e a w,AgreeD ds n e a→K e w→Q .normal a w)
  (hp:∀c e (a:Act) w',AgreeD ds n e a→R (.panicked c) w'→Q (.panic c) a w') (ho:∀w',R .outgrown w'→LetsOut Q):
  ∀(fuel:Nat) (L:Array Bool) (pend:List Nat) (pt:PT) (e:Env) (a:Act) (w:World) (I:Array Bool→World→Prop),
   gen P n ops (ancs ops.toList) fuel L pend=some pt→L.size=ops.size→Closed ops L→AgreeD ds n e a→
   (∀L L' w,(∀j,L.getD j false=true→L'.getD j false=true)→I L w→I L' w)→
   (∀L w j,isL P ops j=false→I (L.setIfInBounds j true) w→I L w)→
   I L w→(∀p∈pend,Strong ops L p∧L.getD p true=true)→
   (∀L' w',(∀j,L.getD j false=true→L'.getD j false=true)→(∀p∈pend,NoDep P ops (ancs ops.toList) p L'→YieldNow P ops p a w')→I L' w')→
   ptV P R pt e w K→wpAnyI P ops Q I fuel L a w:=by
 have hsel':=Region.noSelect_spec hsel
 intro fuel
 induction fuel with
 |zero=>
  intro L pend pt e a w I hg hsz hc ha hI1 hI2 hI hpend hest hv
  unfold gen at hg
  split at hg
  ·rename_i hr
   simp at hg;subst hg
   exact⟨hr,hK e a w ha hv⟩
  ·cases hg
 |succ fuel ih=>
  intro L pend pt e a w I hg hsz hc ha hI1 hI2 hI hpend hest hv
  unfold gen at hg
  split at hg
  ·rename_i hr
   simp at hg;subst hg
   exact⟨fun _=>hK e a w ha hv,by rw[hr];simp⟩
  ·rename_i r rs hr
   simp only at hg
   split at hg
   ·
    rename_i i hfind
    have hmem:i∈Region.ready .any ops L:=by rw[hr];exact List.mem_of_find?_eq_some hfind
    have hquiet:isL P ops i=false:=by simpa using List.find?_some hfind
    obtain⟨hun,hunf⟩:=ready_false hmem
    cases hoi:ops[i]? with
    |none=>simp [hoi] at hg
    |some o=>
     cases hcq:compQ P o with
     |none=>simp [hoi,hcq] at hg
     |some qi=>
      cases hgs:gslot ops o with
      |none=>simp [hoi,hcq,hgs] at hg
      |some g=>
       simp only[hoi,hcq,hgs,Option.bind_some] at hg
       split at hg
       ·rename_i hfd
        simp only[Bool.and_eq_true] at hfd
        obtain⟨hfree,hdok⟩:=hfd
        have hset:∀j,L.getD j false=true→(L.setIfInBounds i true).getD j false=true:=fun j hj=>by rw[getD_set L i j hun];simp [hj]
        have core:∀(pend':List Nat) (k:PT),gen P n ops (ancs ops.toList) fuel (L.setIfInBounds i true) pend'=some k→pt=.q o.dst g qi k→
          (∀p∈pend,p∈pend')→(∀p∈pend',Strong ops (L.setIfInBounds i true) p∧(L.setIfInBounds i true).getD p true=true)→
          (∀v,(∀d,o.dst=some d→d<n)→∀w',Region.wanted o (yielded ops a.tmps)=true→(∃e1,AgreeD ds n e1 a∧qiR e1 w qi=some v)→
           (i∈pend'→YieldNow P ops i (a.put o.dst v) w')→(execOp a.eval o).run P w=.ok (.value v) w→(execOp a.eval o).run P w'=.ok (.value v) w')→
          wpAnyI P ops Q I (fuel+1) L a w:=by
         intro pend' k hk hpt hsub hpend' hre
         subst hpt
         simp only[ptV] at hv
         have fin:∀(v:Value) (e':Env),AgreeD ds n e' a→ptV P R k (put o.dst v e') w K→
           ((Region.wanted o (yielded ops a.tmps)=true∧∃e1,AgreeD ds n e1 a∧qiR e1 w qi=some v)∨(Region.wanted o (yielded ops a.tmps)=false∧v=undef))→
           wpAnyI P ops Q I (fuel+1) L a w:=by
          intro v e' ha' hk' hval0
          have hval:(Region.wanted o (yielded ops a.tmps)=true∧(execOp a.eval o).run P w=.ok (.value v) w)∨(Region.wanted o (yielded ops a.tmps)=false∧v=undef):=by
           rcases hval0 with ⟨h,e1,h1,h2⟩|h
           ·exact .inl ⟨h,compQ_sound hcq h1 h2⟩
           ·exact .inr h
          refine hoist (v:=v) (s:=execOp a.eval o) (g:=Region.wanted o (yielded ops a.tmps)) hoi (fun j o cs b h=>hsel' j o cs b h) hquiet (fun c a w=>hQ c a _ v w) hI1 hI2 fuel L a w hsz hc
           (Region.free_spec hoi hfree) hmem hI rfl rfl (fun hg=>by rcases hval with ⟨_,h⟩|⟨h,_⟩;exact h;rw[hg] at h;cases h)
           (fun hg=>by rcases hval with ⟨h,_⟩|⟨_,h⟩;rw[hg] at h;cases h;exact h) ?_
          refine ih (L.setIfInBounds i true) pend' k (put o.dst v e') (a.put o.dst v) w _ hk (by simp [hsz]) (hc.ready hmem) (ha'.put o.dst (dstOK_spec hdok) v) ?_ ?_ ?_ hpend' ?_ hk'
          ·rintro L1 L2 w1 hle ⟨h1,h2⟩
           exact⟨hI1 L1 L2 w1 hle h1,fun hnd hgt=>h2 (fun j hj hl=>hnd j (hle j hj) hl) hgt⟩
          ·rintro L1 w1 j hjq ⟨h1,h2⟩
           refine⟨hI2 L1 w1 j hjq h1,fun hnd hgt=>h2 (fun m hm hl=>?_) hgt⟩
           by_cases hmj:m=j
           ·subst hmj;rw[hjq] at hl;cases hl
           ·rw[getD_set_ne false (Ne.symm hmj)] at hm;exact hnd m hm hl
          ·exact⟨hI1 L _ w hset hI,fun _ hgt=>by rcases hval with ⟨_,h⟩|⟨h,_⟩;exact h;rw[hgt] at h;cases h⟩
          ·intro L' w' hle hyn
           refine⟨hest L' w' (fun j hj=>hle j (hset j hj)) fun p hp hnd=>?_,fun hnd hgt=>?_⟩
           ·have hps:=hpend p hp
            have hpi:i≠p:=fun e=>by rw[e,hps.2] at hun;cases hun
            exact(hyn p (hsub p hp) hnd).back hps.1 (fun j o cs b h=>hsel' j o cs b h) hoi hpi hun
           ·have hvv:(execOp a.eval o).run P w=.ok (.value v) w:=by rcases hval with ⟨_,h⟩|⟨h,_⟩;exact h;rw[hgt] at h;cases h
            exact hre v (dstOK_spec hdok) w' hgt (by rcases hval0 with ⟨_,h⟩|⟨h,_⟩;exact h;rw[hgt] at h;cases h) (fun hip=>hyn i hip hnd) hvv
         rcases gdV_spec hgs ha hv with ⟨hw,e',ha',hk'⟩|⟨hnw,e',ha',hk'⟩
         ·obtain⟨v,hqv,hkv⟩:=getV_spec hk'
          exact fin v e' ha' hkv (.inl ⟨hw,e',ha',hqv⟩)
         ·exact fin undef e' ha' hk' (.inr ⟨hnw,rfl⟩)
        split at hg
        ·rename_i hreads
         split at hg
         ·rename_i d hd
          split at hg
          ·rename_i hstr
           cases hk:gen P n ops (ancs ops.toList) fuel (L.setIfInBounds i true) (i::pend) with
           |none=>simp [hk] at hg
           |some k=>
            simp [hk] at hg
            have hS:=strong_spec hoi hd hstr
            refine core (i::pend) k hk hg.symm (fun p hp=>List.mem_cons_of_mem _ hp) (fun p hp=>?_) ?_
            ·rcases List.mem_cons.1 hp with rfl|hp
             ·refine⟨hS.mono,?_⟩
              rcases Nat.lt_or_ge p L.size with h'|h'
              ·simp [h']
              ·simp [h']
             ·refine⟨(hpend p hp).1.mono,?_⟩
              have:=(hpend p hp).2
              by_cases hpi:i=p
              ·subst hpi;rw[hun] at this;cases this
              ·rw[getD_set_ne true hpi];exact this
            ·intro v hdn w' hw _ hy hrun
             have hdl:=(hS o d hoi hd).1
             have hlook:∀d',o.dst=some d'→d' ∉ o.looksAt ops:=fun d' hd'=>by rw[hd] at hd';cases hd';exact hdl
             have h1:=execOp_put (ops:=ops) o (fun cs b=>hsel' i o cs b hoi) a o.dst v hlook
             have h2:=wanted_put (ops:=ops) o a o.dst v hlook
             have h3:(a.put o.dst v).tmps[d]?=some v:=by
              rw[hd];simp [Act.put,ha.size,hdn d hd]
             have:=hy (List.mem_cons_self ..) o d v hoi hd (by rw[h2];exact hw) h3
             rwa [h1] at this
          ·cases hg
         ·cases hg
        ·rename_i hreads
         cases hk:gen P n ops (ancs ops.toList) fuel (L.setIfInBounds i true) pend with
         |none=>simp [hk] at hg
         |some k=>
          simp [hk] at hg
          refine core pend k hk hg.symm (fun p hp=>hp) (fun p hp=>?_) ?_
          ·refine⟨(hpend p hp).1.mono,?_⟩
           have:=(hpend p hp).2
           by_cases hpi:i=p
           ·subst hpi;rw[hun] at this;cases this
           ·rw[getD_set_ne true hpi];exact this
          ·rintro v hdn w' hw ⟨e1,h1,h2⟩ _ hrun
           rw[qiR_pure (by simpa using hreads) e1 w w'] at h2
           exact compQ_sound hcq h1 h2
       ·cases hg
   ·
    rename_i hfind
    refine⟨fun h=>(by rw[hr] at h;cases h),fun i hi=>?_⟩
    rw[hr] at hi
    obtain⟨p,hp',hpv⟩:=altsOf_spec hg hv i hi
    have hmem:i∈Region.ready .any ops L:=by rw[hr];exact hi
    obtain⟨hun,hunf⟩:=ready_false hmem
    have hloud:isL P ops i=true:=by
     have:=List.find?_eq_none.1 hfind i hi
     simpa using this
    cases hoi:ops[i]? with
    |none=>simp [hoi] at hp'
    |some o=>
     cases hcl:compL P o with
     |none=>simp [hoi,hcl] at hp'
     |some li=>
      cases hgs:gslot ops o with
      |none=>simp [hoi,hcl,hgs] at hp'
      |some g=>
       simp only[hoi,hcl,hgs,Option.bind_some] at hp'
       split at hp'
       ·rename_i hdok
        cases hch:(pend.filter fun p=> !((ancs ops.toList).getD i []).contains p).mapM (chkOf P ops) with
        |none=>simp only[hch,Option.bind_none] at hp';cases hp'
        |some chk=>
         simp only[hch,Option.bind_some] at hp'
         cases hk:gen P n ops (ancs ops.toList) fuel (L.setIfInBounds i true) (pend.filter fun p=> !((ancs ops.toList).getD i []).contains p) with
         |none=>simp only[hk,Option.map_none] at hp';cases hp'
         |some k=>
          simp only[hk,Option.map_some,Option.some.injEq] at hp'
          subst hp'
          simp only[ptV] at hpv
          have hset:∀j,L.getD j false=true→(L.setIfInBounds i true).getD j false=true:=fun j hj=>by rw[getD_set L i j hun];simp [hj]
          have hseti:(L.setIfInBounds i true).getD i false=true:=by rw[getD_set L i i hun];simp
          have next:∀(v:Value) (e':Env) (w':World),AgreeD ds n e' a→I (L.setIfInBounds i true) w'→ptV P R k (put o.dst v e') w' K→
            wpAnyI P ops Q I fuel (L.setIfInBounds i true) (a.put o.dst v) w':=by
           intro v e' w' ha' hI' hk'
           refine ih (L.setIfInBounds i true) _ k (put o.dst v e') (a.put o.dst v) w' I hk (by simp [hsz]) (hc.ready hmem) (ha'.put o.dst (dstOK_spec hdok) v) hI1 hI2 hI' (fun p hp=>?_) (fun L' w'' hle hyn=>?_) hk'
           ·have hp2:=hpend p (List.mem_filter.1 hp).1
            refine⟨hp2.1.mono,?_⟩
            by_cases hpi:i=p
            ·subst hpi;rw[hun] at hp2;cases hp2.2
            ·rw[getD_set_ne true hpi];exact hp2.2
           ·refine hest L' w'' (fun j hj=>hle j (hset j hj)) fun p hp hnd=>?_
            have hps:=hpend p hp
            have hpi:i≠p:=fun e=>by rw[e,hps.2] at hun;cases hun
            refine(hyn p (List.mem_filter.2 ⟨hp,?_⟩) hnd).back hps.1 (fun j o cs b h=>hsel' j o cs b h) hoi hpi hun
            have:=hnd i (hle i hseti) hloud
            simpa using this
          unfold wpOp
          simp only[hoi]
          rcases gdV_spec hgs ha hpv with ⟨hw,e',ha',hk'⟩|⟨hnw,e',ha',hk'⟩
          ·simp only[hw,if_true]
           refine .inl (compL_sound hcl ha' (R:=R) ?_ (fun c w' h=>hp c e' a w' ha' h) ho hk')
           rintro v w' ⟨hok,hkv⟩
           have hI':I (L.setIfInBounds i true) w':=hest _ w' hset fun p hp hnd=>by
            have hps:=hpend p hp
            have hpi:i≠p:=fun e=>by rw[e,hps.2] at hun;cases hun
            have hpf:p∈pend.filter fun p=> !((ancs ops.toList).getD i []).contains p:=List.mem_filter.2 ⟨hp,by have:=hnd i hseti hloud;simpa using this⟩
            exact(okCs_yield hch (ha'.put o.dst (dstOK_spec hdok) v) hok p hpf).back hps.1 (fun j o cs b h=>hsel' j o cs b h) hoi hpi hun
           exact⟨hI',next v e' w' ha' hI' hkv⟩
          ·simp only[hnw,Bool.false_eq_true,if_false]
           have hI':I (L.setIfInBounds i true) w:=hI1 L _ w hset hI
           exact⟨hI',next undef e' w ha' hI' hk'⟩
       ·cases hp'
theorem genS_soundS {st:List Nat}{e0:Env}{K:Env→World→Prop}(hK:∀e a w,AgreeD ds n e a→K e w→Q .normal a w)
  (hp:∀c e (a:Act) w',AgreeD ds n e a→(∀t∈st,look e t=look e0 t)→R (.panicked c) w'→Q (.panic c) a w') (ho:∀w',R .outgrown w'→LetsOut Q):
  ∀(os:List Oper) (pt:PT) (e:Env) (a:Act) (w:World),genS P n ops os=some pt→AgreeD ds n e a→(∀t∈st,look e t=look e0 t)→(∀o∈os,∀d,o.dst=some d→d ∉ st)→ptV P R pt e w K→wpList P ops Q os a w
 |[],pt,e,a,w,hg,ha,hS,hd,hv=>by
  simp [genS] at hg;subst hg
  exact hK e a w ha hv
 |o::os,pt,e,a,w,hg,ha,hS,hd,hv=>by
  have hd':∀o'∈os,∀d,o'.dst=some d→d ∉ st:=fun o' ho'=>hd o' (by simp [ho'])
  have put':∀(e':Env) (v:Value),(∀t,look e' t=look e t)→∀t∈st,look (put o.dst v e') t=look e0 t:=by
   intro e' v he t ht
   cases hod:o.dst with
   |none=>simp only[put];rw[he];exact hS t ht
   |some d=>
    have hne:¬d=t:=by rintro rfl;exact hd o (by simp) d hod ht
    simp only[put,look,if_neg hne];rw[he];exact hS t ht
  simp only[genS] at hg
  split at hg
  ·rename_i hdok
   cases hgs:gslot ops o with
   |none=>simp [hgs] at hg
   |some g=>
    simp only[hgs,Option.bind_some] at hg
    cases hcq:compQ P o with
    |some qi=>
     simp only[hcq] at hg
     cases hk:genS P n ops os with
     |none=>simp [hk] at hg
     |some k=>
      simp [hk] at hg;subst hg
      simp only[ptV] at hv
      unfold wpList
      rcases gdV_specS hgs ha hv with ⟨hw,e',⟨ha',he'⟩,hk'⟩|⟨hnw,e',⟨ha',he'⟩,hk'⟩
      ·obtain⟨v,hqv,hkv⟩:=getV_spec hk'
       rw[if_pos hw]
       exact .inl (oper_value (compQ_sound hcq ha' hqv) (genS_soundS hK hp ho os k _ _ _ hk (ha'.put o.dst (dstOK_spec hdok) v) (put' e' v he') hd' hkv))
      ·rw[if_neg (by simp [hnw])]
       exact genS_soundS hK hp ho os k _ _ _ hk (ha'.put o.dst (dstOK_spec hdok) undef) (put' e' undef he') hd' hk'
    |none=>
     simp only[hcq] at hg
     cases hcl:compL P o with
     |none=>simp [hcl] at hg
     |some li=>
      cases hk:genS P n ops os with
      |none=>simp [hcl,hk] at hg
      |some k=>
       simp [hcl,hk] at hg;subst hg
       simp only[ptV] at hv
       unfold wpList
       rcases gdV_specS hgs ha hv with ⟨hw,e',⟨ha',he'⟩,hk'⟩|⟨hnw,e',⟨ha',he'⟩,hk'⟩
       ·rw[if_pos hw]
        refine .inl (compL_sound hcl ha' (R:=R) ?_ (fun c w' h=>hp c e' a w' ha' (fun t ht=>by rw[he'];exact hS t ht) h) ho hk')
        rintro v w' ⟨_,hkv⟩
        exact genS_soundS hK hp ho os k _ _ _ hk (ha'.put o.dst (dstOK_spec hdok) v) (put' e' v he') hd' hkv
       ·rw[if_neg (by simp [hnw])]
        exact genS_soundS hK hp ho os k _ _ _ hk (ha'.put o.dst (dstOK_spec hdok) undef) (put' e' undef he') hd' hk'
  ·cases hg
theorem genS_sound {K:Env→World→Prop}(hK:∀e a w,AgreeD ds n e a→K e w→Q .normal a w)
  (hp:∀c e (a:Act) w',AgreeD ds n e a→R (.panicked c) w'→Q (.panic c) a w') (ho:∀w',R .outgrown w'→LetsOut Q)
  (os:List Oper) (pt:PT) (e:Env) (a:Act) (w:World) (h1:genS P n ops os=some pt) (h2:AgreeD ds n e a) (h3:ptV P R pt e w K):wpList P ops Q os a w:=
 genS_soundS (st:=[]) (e0:=e) hK (fun c e a w' h _=>hp c e a w' h) ho os pt e a w h1 h2 (fun t ht=>by cases ht) (fun o _ d _ hd=>by cases hd) h3
theorem Closed.init (ops:Array Oper):Closed ops (Array.replicate ops.size false):=by
 intro j o ho hj
 have:j<ops.size:=(Array.getElem?_eq_some_iff.1 ho).1
 simp [this] at hj
theorem region_soundS {st:List Nat}{pt:PT}(hpl:planOf P n ops false=some pt){id:Nat}{e:Env}{a:Act}{w:World}(ha:AgreeD ds n e a)
  (hst:∀o∈ops.toList,∀d,o.dst=some d→d ∉ st)
  {K:Env→World→Prop} (hK:∀e a w,AgreeD ds n e a→K e w→Q .normal a w)
  (hp:∀c e' (a:Act) w',AgreeD ds n e' a→(∀t∈st,look e' t=look e t)→R (.panicked c) w'→Q (.panic c) a w') (ho:∀w',R .outgrown w'→LetsOut Q)
  (hv:ptV P R pt e w K):(Code.region id ops false).wp P Q a w:=by
 unfold planOf at hpl
 simp only[Bool.false_eq_true,if_false] at hpl
 exact wp_region_list (genS_soundS hK hp ho ops.toList pt e a w hpl ha (fun _ _=>rfl) hst hv)
theorem region_sound {draw:Bool}{pt:PT}(hpl:planOf P n ops draw=some pt){id:Nat}{e:Env}{a:Act}{w:World}(ha:AgreeD ds n e a)
  (hQ:∀c (a:Act) dst v w,Q (.panic c) (a.put dst v) w→Q (.panic c) a w)
  {K:Env→World→Prop} (hK:∀e a w,AgreeD ds n e a→K e w→Q .normal a w)
  (hp:∀c e (a:Act) w',AgreeD ds n e a→R (.panicked c) w'→Q (.panic c) a w') (ho:∀w',R .outgrown w'→LetsOut Q)
  (hv:ptV P R pt e (if draw then w.drew else w) K):(Code.region id ops draw).wp P Q a w:=by
 unfold planOf at hpl
 cases draw with
 |true=>
  simp only[if_true] at hpl hv
  split at hpl
  ·rename_i hcond
   simp only[Bool.and_eq_true] at hcond
   refine wp_region_any hcond.1 (wpAny_of (I:=fun _ _=>True) _ _ _ _ ?_)
   exact gen_sound hcond.2 hQ hK hp ho ops.size _ [] pt e a _ _ hpl (by simp) (Closed.init ops) ha (fun _ _ _ _ _=>trivial) (fun _ _ _ _ _=>trivial) trivial
    (fun p hp=>by cases hp) (fun _ _ _ _=>trivial) hv
  ·cases hpl
 |false=>
  simp only[Bool.false_eq_true,if_false] at hpl hv
  exact wp_region_list (genS_sound hK hp ho ops.toList pt e a w hpl ha hv)
end
end Go.Vc
