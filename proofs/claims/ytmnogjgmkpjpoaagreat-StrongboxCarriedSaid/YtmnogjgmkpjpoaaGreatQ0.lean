/- Values whose cells are integers, bools and strings alone: '==', and maps' keys. -/
import Derived.Orders
import Derived.Laws.AppendOwn
import Derived.Laws.MakeOwn
import Derived.Laws.CopyOwn
import Derived.WideLaws
import Derived.DeepKeys3
import Derived.MapKept
import Derived.Laws.Strings
import Derived.Laws.StructEq
set_option linter.unusedSimpArgs false
set_option linter.unusedVariables false
set_option linter.constructorNameAsVariable false
namespace Go.Vc
theorem bytes_inj (a b:ByteArray):a.toList=b.toList↔a=b:=by
 rw[ByteArray.toList_eq,ByteArray.toList_eq]
 constructor
 ·intro h;cases a;cases b;simp at h;simpa using h
 ·intro h;rw[h]
theorem bytes_beq (a b:ByteArray):(a==b)=true↔a=b:=by
 rw[beq_toListBytes,beq_iff_eq,bytes_inj]
open Classical in
noncomputable def eqc (xs ys:List Value):Bool:=decide (xs=ys)
theorem eqc_iff {xs ys:List Value}:eqc xs ys=true↔xs=ys:=by simp [eqc]
theorem eqc_self (xs:List Value):eqc xs xs=true:=by simp [eqc]
inductive SK where
 |i (k:IntKind)
 |bo
 |st
 deriving Inhabited,DecidableEq
def SK.ok:SK→Value→Bool
 | .i k,.int k' _=>decide (k=k')
 | .bo,.bool _=>true
 | .st,.string _=>true
 |_,_=>false
def conf:List SK→List Value→Bool
 |[],[]=>true
 |s::l,v::vs=>s.ok v&&conf l vs
 |_,_=>false
theorem conf_length:∀{l:List SK} {vs:List Value},conf l vs=true→vs.length=l.length
 |[],[],_=>rfl
 |_::l,_::vs,h=>by simp only[conf,Bool.and_eq_true] at h;simp [conf_length h.2]
 |[],_::_,h=>by simp [conf] at h
 |_::_,[],h=>by simp [conf] at h
theorem conf_append:∀{l m:List SK} {vs:List Value},conf (l++m) vs=true↔conf l (vs.take l.length)=true∧conf m (vs.drop l.length)=true
 |[],m,vs=>by simp [conf]
 |s::l,m,[]=>by simp [conf]
 |s::l,m,v::vs=>by
  simp only[List.cons_append,conf,Bool.and_eq_true,List.length_cons,List.take_succ_cons,List.drop_succ_cons,conf_append (l:=l)]
  exact and_assoc.symm
def repL (n:Nat)(l:List SK):List SK:=(List.replicate n l).flatten
def sizeT' (P:Program)(t:TypeId):Option Nat:=(P.info? t).map (·.size)
def layFs (P:Program)(lay:TypeId→Option (List SK)):Nat→List Field→Option (List SK)
 |_,[]=>some []
 |off,f::fs=>if f.name≠ "_"∧f.offset=off then (lay f.type).bind fun l=>if sizeT' P f.type=some l.length then (layFs P lay (off+l.length) fs).map (l++ ·) else none else none
def layT (P:Program):Nat→TypeId→Option (List SK)
 |0,_=>none
 |d+1,t=>
  match P.underlying t with
  |some (.int k)=>some [.i k]
  |some .bool=>some [.bo]
  |some .string=>some [.st]
  |some (.array n el)=>(layT P d el).bind fun l=>if sizeT' P el=some l.length then some (repL n l) else none
  |some (.struct fs)=>if P.stoodInHeld t then none else layFs P (layT P d) 0 fs.toList
  |_=>none
def VOK (P:Program)(t:TypeId)(cs:List Value)(v:Value):Prop:=
 match P.underlying t with
 |some (.struct _)|some (.array _ _)=>v=.agg cs.toArray
 |some _=>cs=[v]
 |none=>False
section
variable {P:Program} (w:World)
theorem size_run' {t:TypeId}{n:Nat}(h:sizeT' P t=some n):(sizeOf t).run P w=.ok n w∧P.cellsOf t=n∧∃i,P.info? t=some i:=by
 unfold sizeT' at h
 cases hi:P.info? t with
 |none=>simp [hi] at h
 |some i=>simp [hi] at h;exact⟨by simp [sizeOf,typeInfo,hi,h],by simp [Program.cellsOf,hi,h],i,rfl⟩
theorem lay_und {d:Nat}{t:TypeId}{l:List SK}(h:layT P d t=some l):∃u,P.underlying t=some u:=by
 cases d with
 |zero=>simp [layT] at h
 |succ d=>
  cases hu:P.underlying t with
  |none=>simp [layT,hu] at h
  |some u=>exact⟨u,rfl⟩
theorem part_lay {d:Nat}{t:TypeId}{l:List SK}(hl:layT P d t=some l)(hs:sizeT' P t=some l.length){cs:List Value}{off:Nat}(hc:conf l ((cs.drop off).take l.length)=true):
  ∃v,(part t cs.toArray off).run P w=.ok v w∧VOK P t ((cs.drop off).take l.length) v:=by
 cases d with
 |zero=>simp [layT] at hl
 |succ d=>
  cases hu:P.underlying t with
  |none=>simp [layT,hu] at hl
  |some u=>
   have agg:((∃n e,u=.array n e)∨ ∃fs,u=.struct fs)→∃v,(part t cs.toArray off).run P w=.ok v w∧VOK P t ((cs.drop off).take l.length) v:=by
    intro h
    refine⟨.agg ((cs.drop off).take l.length).toArray,?_,?_⟩
    ·have e:cs.toArray.extract off (off+l.length)=((cs.drop off).take l.length).toArray:=by
      apply Array.ext';rw[Array.toList_extract];simp [List.extract]
     rcases h with ⟨n,e',rfl⟩|⟨fs,rfl⟩<;>simp [part,isAgg,run_underlying hu,(size_run' w hs).1,e]
    ·rcases h with ⟨n,e',rfl⟩|⟨fs,rfl⟩<;>simp [VOK,hu]
   have one:l.length=1→(∀n e,u≠ .array n e)→(∀fs,u≠ .struct fs)→∃v,(part t cs.toArray off).run P w=.ok v w∧VOK P t ((cs.drop off).take l.length) v:=by
    intro h1 hna hns
    have hlen:=conf_length hc
    rw[h1] at hlen hc⊢
    match hx:(cs.drop off).take 1,hlen with
    |[v],_=>
     refine⟨v,?_,?_⟩
     ·have hg:cs[off]?=some v:=by
       have:((cs.drop off).take 1)[0]?=some v:=by rw[hx];rfl
       rw[List.getElem?_take] at this
       simpa using this
      have hagg:(isAgg t).run P w=.ok false w:=by
       unfold isAgg
       rw[Sem.run_bind,run_underlying hu]
       cases u<;>simp_all
      simp [part,hagg,hg]
     ·unfold VOK;rw[hu];cases u<;>simp_all
   simp only[layT,hu] at hl
   cases u<;>simp only at hl<;>try (cases hl;done)
   case bool=>simp at hl;subst hl;exact one rfl (by simp) (by simp)
   case int k=>simp at hl;subst hl;exact one rfl (by simp) (by simp)
   case string=>simp at hl;subst hl;exact one rfl (by simp) (by simp)
   case array n e=>exact agg (.inl ⟨n,e,rfl⟩)
   case struct fs=>exact agg (.inr ⟨fs,rfl⟩)
def EqL (P:Program)(d:Nat)(t:TypeId)(l:List SK):Prop:=
 ∀(w:World) (m:Nat) (xs ys:List Value) (v u:Value),VOK P t xs v→VOK P t ys u→conf l xs=true→conf l ys=true→(Op.equalIn (d+m) t v u).run P w=.ok (eqc xs ys) w
theorem eqc_split {xs ys:List Value}{n:Nat}:eqc xs ys=(eqc (xs.take n) (ys.take n)&&eqc (xs.drop n) (ys.drop n)):=by
 rw[Bool.eq_iff_iff,Bool.and_eq_true,eqc_iff,eqc_iff,eqc_iff]
 constructor
 ·rintro rfl;exact⟨rfl,rfl⟩
 ·rintro⟨h1,h2⟩;rw[←List.take_append_drop n xs,h1,h2,List.take_append_drop]
theorem eqItems_lay {d m:Nat}{e:TypeId}{l:List SK}(hl:layT P d e=some l)(hs:sizeT' P e=some l.length)(IH:EqL P d e l)(xs ys:List Value):
  ∀(k i:Nat),conf (repL k l) (xs.drop (i*l.length))=true→conf (repL k l) (ys.drop (i*l.length))=true→
   (Op.eqItems (d+m) e l.length xs.toArray ys.toArray (List.range' i k)).run P w=.ok (eqc (xs.drop (i*l.length)) (ys.drop (i*l.length))) w
 |0,i,hx,hy=>by
  have h1:=conf_length hx
  have h2:=conf_length hy
  simp only[repL,List.replicate_zero,List.flatten_nil,List.length_nil] at h1 h2
  rw[List.eq_nil_of_length_eq_zero h1,List.eq_nil_of_length_eq_zero h2]
  simp [Op.eqItems,eqc]
 |k+1,i,hx,hy=>by
  have e1:repL (k+1) l=l++repL k l:=by simp [repL,List.replicate_succ]
  rw[e1,conf_append] at hx hy
  have hd:∀zs:List Value,(zs.drop (i*l.length)).drop l.length=zs.drop ((i+1)*l.length):=fun zs=>by rw[List.drop_drop,Nat.add_mul,Nat.one_mul]
  rw[hd] at hx hy
  obtain⟨v,p1,v1⟩:=part_lay w hl hs hx.1
  obtain⟨u,p2,v2⟩:=part_lay w hl hs hy.1
  have hq:=IH w m _ _ v u v1 v2 hx.1 hy.1
  have ih:=eqItems_lay hl hs IH xs ys k (i+1) hx.2 hy.2 (m:=m)
  rw[List.range'_succ]
  rw[eqc_split (n:=l.length) (xs:=xs.drop (i*l.length)),hd,hd]
  simp only[Op.eqItems,Sem.run_bind,p1,p2,hq,Result.andThen_ok]
  cases hb:eqc ((xs.drop (i*l.length)).take l.length) ((ys.drop (i*l.length)).take l.length)
  ·simp
  ·simp [ih]
theorem eqFields_lay {d m:Nat}(IH:∀t l,layT P d t=some l→EqL P d t l)(xs ys:List Value):
  ∀(fs:List Field) (off:Nat) (l:List SK),layFs P (layT P d) off fs=some l→conf l (xs.drop off)=true→conf l (ys.drop off)=true→
   (Op.eqFields (d+m) xs.toArray ys.toArray fs).run P w=.ok (eqc (xs.drop off) (ys.drop off)) w
 |[],off,l,h,hx,hy=>by
  simp [layFs] at h;subst h
  have h1:=conf_length hx
  have h2:=conf_length hy
  rw[List.eq_nil_of_length_eq_zero h1,List.eq_nil_of_length_eq_zero h2]
  simp [Op.eqFields,eqc]
 |f::fs,off,l,h,hx,hy=>by
  simp only[layFs] at h
  split at h
  ·rename_i hf
   obtain⟨hn,rfl⟩:=hf
   cases hl:layT P d f.type with
   |none=>simp [hl] at h
   |some lf=>
    simp only[hl,Option.bind_some] at h
    split at h
    ·rename_i hs
     cases hr:layFs P (layT P d) (f.offset+lf.length) fs with
     |none=>simp [hr] at h
     |some l'=>
      simp [hr] at h;subst h
      rw[conf_append] at hx hy
      rw[List.drop_drop] at hx hy
      obtain⟨v,p1,v1⟩:=part_lay w hl hs hx.1
      obtain⟨u,p2,v2⟩:=part_lay w hl hs hy.1
      have hq:=IH _ _ hl w m _ _ v u v1 v2 hx.1 hy.1
      have ih:=eqFields_lay IH xs ys fs _ l' hr hx.2 hy.2 (m:=m)
      rw[eqc_split (n:=lf.length) (xs:=xs.drop f.offset),List.drop_drop,List.drop_drop]
      simp only[Op.eqFields,hn,ne_eq,not_false_eq_true,if_true,Sem.run_bind,p1,p2,hq,Result.andThen_ok]
      cases hb:eqc ((xs.drop f.offset).take lf.length) ((ys.drop f.offset).take lf.length)
      ·simp
      ·simp [ih]
    ·cases h
  ·cases h
end
theorem fieldsOf_struct {P:Program}{t:TypeId}{fs:Array Field}(h:P.underlying t=some (.struct fs)):P.underlying t=some (.struct (P.fieldsOf t)):=by
 simp [Program.fieldsOf,h]
theorem equalIn_lay {P:Program}:∀(d:Nat) (t:TypeId) (l:List SK),layT P d t=some l→EqL P d t l
 |0,t,l,h=>by simp [layT] at h
 |d+1,t,l,h=>by
  intro w m xs ys v u hv hu' hx hy
  cases hu:P.underlying t with
  |none=>simp [layT,hu] at h
  |some kd=>
   simp only[layT,hu] at h
   unfold VOK at hv hu'
   rw[hu] at hv hu'
   have hone:∀{s:SK} {a b:Value},xs=[a]→ys=[b]→l=[s]→s.ok a=true∧s.ok b=true:=by
    intro s a b h1 h2 h3
    subst h1 h2 h3
    simpa [conf] using And.intro hx hy
   rw[show d+1+m=d+m+1 by omega]
   cases kd<;>simp only at h<;>try (cases h;done)
   case bool=>
    simp at h hv hu';subst h hv hu'
    obtain⟨h1,h2⟩:=hone rfl rfl rfl
    cases v<;>simp [SK.ok] at h1
    cases u<;>simp [SK.ok] at h2
    simp [Op.equalIn,run_underlying hu,eqc]
    all_goals (rw[Bool.eq_iff_iff];simp [bytes_beq])
   case int k=>
    simp at h hv hu';subst h hv hu'
    obtain⟨h1,h2⟩:=hone rfl rfl rfl
    cases v<;>simp [SK.ok] at h1
    cases u<;>simp [SK.ok] at h2
    subst h1 h2
    simp [Op.equalIn,run_underlying hu,eqc]
    all_goals (rw[Bool.eq_iff_iff];simp [bytes_beq])
   case string=>
    simp at h hv hu';subst h hv hu'
    obtain⟨h1,h2⟩:=hone rfl rfl rfl
    cases v<;>simp [SK.ok] at h1
    cases u<;>simp [SK.ok] at h2
    simp [Op.equalIn,run_underlying hu,eqc]
    all_goals (rw[Bool.eq_iff_iff];simp [bytes_beq])
   case array n e=>
    cases hl:layT P d e with
    |none=>simp [hl] at h
    |some le=>
     simp only[hl,Option.bind_some] at h
     split at h
     ·rename_i hs
      simp at h;subst h
      simp only at hv hu'
      subst hv hu'
      obtain⟨_,hcell,i,hi⟩:=size_run' w hs
      have:=eqItems_lay w hl hs (equalIn_lay d e le hl) xs ys n 0 (by simpa using hx) (by simpa using hy) (m:=m)
      rw[run_equalIn_array w (d+m) xs.toArray ys.toArray hu hi,hcell,List.range_eq_range',this]
      simp
     ·cases h
   case struct fs=>
    split at h
    ·cases h
    ·rename_i hst
     simp only at hv hu'
     subst hv hu'
     have:=eqFields_lay w (equalIn_lay d) xs ys fs.toList 0 l h (by simpa using hx) (by simpa using hy) (m:=m)
     have hfs:=fieldsOf_struct hu
     rw[run_equalIn_struct w (d+m) t xs.toArray ys.toArray hfs (by simpa using hst)]
     have e:P.fieldsOf t=fs:=by rw[hu] at hfs;simpa using hfs.symm
     rw[e,this]
     simp
def ChL (P:Program)(d:Nat)(t:TypeId)(l:List SK):Prop:=
 ∀(em:Bool) (w:World) (m:Nat) (xs:List Value) (v:Value),VOK P t xs v→conf l xs=true→(Instr.checkKey em (d+m) t v).run P w=.ok () w
theorem checkKey_lay {P:Program}:∀(d:Nat) (t:TypeId) (l:List SK),layT P d t=some l→ChL P d t l
 |0,t,l,h=>by simp [layT] at h
 |d+1,t,l,h=>by
  intro em w m xs v hv hx
  cases hu:P.underlying t with
  |none=>simp [layT,hu] at h
  |some kd=>
   simp only[layT,hu] at h
   unfold VOK at hv
   rw[hu] at hv
   rw[show d+1+m=d+m+1 by omega]
   cases kd<;>simp only at h<;>try (cases h;done)
   case bool=>cases v<;>simp [Instr.checkKey,run_underlying hu]
   case int k=>cases v<;>simp [Instr.checkKey,run_underlying hu]
   case string=>cases v<;>simp [Instr.checkKey,run_underlying hu]
   case array n e=>
    cases hl:layT P d e with
    |none=>simp [hl] at h
    |some le=>
     simp only[hl,Option.bind_some] at h
     split at h
     ·rename_i hs
      simp at h;subst h
      simp only at hv
      subst hv
      have IH:=checkKey_lay d e le hl
      simp only[Instr.checkKey,Sem.run_bind,run_underlying hu,Result.andThen_ok]
      simp only[Std.Legacy.Range.forIn_eq_forIn_range',Std.Legacy.Range.size,Nat.sub_zero,Nat.add_one_sub_one,Nat.div_one]
      have key:∀(k i:Nat),conf (repL k le) (xs.drop (i*le.length))=true→
        (forIn (List.range' i k) PUnit.unit fun i (_:PUnit)=>do
         Instr.checkKey em (d+m) e (←part e xs.toArray (i*(←sizeOf e)))
         pure (ForInStep.yield PUnit.unit):Sem PUnit).run P w=.ok PUnit.unit w:=by
       intro k
       induction k with
       |zero=>intro i _;simp
       |succ k ih=>
        intro i hc
        have e1:repL (k+1) le=le++repL k le:=by simp [repL,List.replicate_succ]
        rw[e1,conf_append,List.drop_drop] at hc
        obtain⟨v,p1,v1⟩:=part_lay w hl hs hc.1
        have p2:=IH em w m _ v v1 hc.1
        rw[List.range'_succ]
        simp only[List.forIn_cons,Sem.run_bind,(size_run' w hs).1,Result.andThen_ok,p1,p2,Sem.run_pure]
        exact ih (i+1) (by rw[Nat.add_mul,Nat.one_mul];exact hc.2)
      have:=key n 0 (by simpa using hx)
      simpa using congrArg (fun r=>Result.andThen r fun _ w'=>(Result.ok () w':Result Unit)) this
     ·cases h
   case struct fs=>
    split at h
    ·cases h
    ·simp only at hv
     subst hv
     simp only[Instr.checkKey,Sem.run_bind,run_underlying hu,Result.andThen_ok]
     rw[←Array.forIn_toList]
     have key:∀(L:List Field) (off:Nat) (l:List SK),layFs P (layT P d) off L=some l→conf l (xs.drop off)=true→
       (forIn L PUnit.unit fun f (_:PUnit)=>(if f.name≠ "_" then do
         Instr.checkKey em (d+m) f.type (←part f.type xs.toArray f.offset)
         pure (ForInStep.yield PUnit.unit) else pure (ForInStep.yield PUnit.unit):Sem (ForInStep PUnit))).run P w=.ok PUnit.unit w:=by
      intro L
      induction L with
      |nil=>intro off l _ _;simp
      |cons f L ih=>
       intro off l h hc
       simp only[layFs] at h
       split at h
       ·rename_i hf
        obtain⟨hn,rfl⟩:=hf
        cases hl:layT P d f.type with
        |none=>simp [hl] at h
        |some lf=>
         simp only[hl,Option.bind_some] at h
         split at h
         ·rename_i hs
          cases hr:layFs P (layT P d) (f.offset+lf.length) L with
          |none=>simp [hr] at h
          |some l'=>
           simp [hr] at h;subst h
           rw[conf_append,List.drop_drop] at hc
           obtain⟨v,p1,v1⟩:=part_lay w hl hs hc.1
           have p2:=checkKey_lay d f.type lf hl em w m _ v v1 hc.1
           simp only[List.forIn_cons,Sem.run_bind,hn,ne_eq,not_false_eq_true,if_true,Result.andThen_ok,p1,p2,Sem.run_pure]
           exact ih _ l' hr hc.2
         ·cases h
       ·cases h
     have:=key fs.toList 0 l h (by simpa using hx)
     simpa using congrArg (fun r=>Result.andThen r fun _ w'=>(Result.ok () w':Result Unit)) this
def kOK (lay:List SK)(agg:Bool)(v:Value):Bool:=
 match agg,v with
 |true,.agg cs=>conf lay cs.toList
 |true,_=>false
 |false,v=>conf lay [v]
open Classical in
noncomputable def fnd (k:Value):List MapEntry→Nat→Option (Nat×Value)
 |[],_=>none
 |e::es,i=>if k=e.key then some (i,e.val) else fnd k es (i+1)
def aggU (P:Program)(t:TypeId):Option Bool:=
 match P.underlying t with
 |some (.struct _)|some (.array _ _)=>some true
 |some _=>some false
 |none=>none
def keyLay (P:Program)(t:TypeId):Option (List SK×Bool):=
 (layT P 16 t).bind fun l=>(aggU P t).map fun g=>(l,g)
section
variable {P:Program} {w:World}
theorem keyLay_spec {t:TypeId}{lay:List SK}{g:Bool}(h:keyLay P t=some (lay,g)):layT P 16 t=some lay∧aggU P t=some g:=by
 unfold keyLay at h
 cases hl:layT P 16 t with
 |none=>simp [hl] at h
 |some l=>
  cases hg:aggU P t with
  |none=>simp [hl,hg] at h
  |some g'=>simp [hl,hg] at h;exact⟨by rw[h.1],by rw[h.2]⟩
theorem kOK_vok {t:TypeId}{lay:List SK}{g:Bool}(hg:aggU P t=some g){v:Value}(h:kOK lay g v=true):VOK P t v.cells.toList v∧conf lay v.cells.toList=true:=by
 unfold aggU at hg
 cases hu:P.underlying t with
 |none=>simp [hu] at hg
 |some u=>
  cases g with
  |true=>
   cases v<;>simp [kOK] at h
   rename_i cs
   cases u<;>simp [hu] at hg<;>simp [VOK,hu,Value.cells,h]
  |false=>
   have hcell:v.cells.toList=[v]:=by
    cases v<;>try rfl
    rename_i cs
    cases lay with
    |nil=>simp [kOK,conf] at h
    |cons s l=>
     simp only[kOK,conf,Bool.and_eq_true] at h
     cases s<;>simp [SK.ok] at h
   have hc:conf lay [v]=true:=by cases v<;>simpa [kOK] using h
   rw[hcell]
   refine⟨?_,hc⟩
   cases u<;>simp [hu] at hg<;>simp [VOK,hu]
theorem kOK_eq {lay:List SK}{g:Bool}{v u:Value}(h1:kOK lay g v=true)(h2:kOK lay g u=true):eqc v.cells.toList u.cells.toList=true↔v=u:=by
 rw[eqc_iff]
 constructor
 ·intro h
  cases g with
  |true=>
   cases v<;>simp [kOK] at h1
   cases u<;>simp [kOK] at h2
   simp only[Value.cells] at h
   congr 1
   exact Array.ext' h
  |false=>
   have one:∀x:Value,kOK lay false x=true→x.cells.toList=[x]:=by
    intro x hx
    cases x<;>try rfl
    cases lay with
    |nil=>simp [kOK,conf] at hx
    |cons s l=>
     simp only[kOK,conf,Bool.and_eq_true] at hx
     cases s<;>simp [SK.ok] at hx
   rw[one v h1,one u h2] at h
   simpa using h
 ·rintro rfl;rfl
theorem sameNow_spec {t:TypeId}{lay:List SK}{g:Bool}(hk:keyLay P t=some (lay,g)){u:TypeDesc}(hu:P.underlying t=some u){a b:Value}(ha:kOK lay g a=true)(hb:kOK lay g b=true):
  (g=false→Instr.sameNow u a b=some (eqc a.cells.toList b.cells.toList))∧(g=true→Instr.sameNow u a b=none):=by
 obtain⟨hl,hg⟩:=keyLay_spec hk
 unfold aggU at hg
 rw[hu] at hg
 simp only[layT,hu] at hl
 have hc:=(kOK_vok (P:=P) (t:=t) (by unfold aggU;rw[hu];exact hg) ha).2
 have hc':=(kOK_vok (P:=P) (t:=t) (by unfold aggU;rw[hu];exact hg) hb).2
 cases u<;>simp only at hl<;>try (cases hl;done)
 case bool=>
  simp at hl hg;subst hl hg
  cases a<;>simp [kOK,conf,SK.ok] at ha
  cases b<;>simp [kOK,conf,SK.ok] at hb
  refine⟨fun _=>?_,by simp⟩
  simp [Instr.sameNow,eqc,Value.cells]
  rw[Bool.eq_iff_iff];simp [bytes_beq]
 case int k=>
  simp at hl hg;subst hl hg
  cases a<;>simp [kOK,conf,SK.ok] at ha
  cases b<;>simp [kOK,conf,SK.ok] at hb
  subst ha hb
  refine⟨fun _=>?_,by simp⟩
  simp [Instr.sameNow,eqc,Value.cells]
  rw[Bool.eq_iff_iff];simp [bytes_beq]
 case string=>
  simp at hl hg;subst hl hg
  cases a<;>simp [kOK,conf,SK.ok] at ha
  cases b<;>simp [kOK,conf,SK.ok] at hb
  refine⟨fun _=>?_,by simp⟩
  simp [Instr.sameNow,eqc,Value.cells]
  rw[Bool.eq_iff_iff];simp [bytes_beq]
 case array n e=>simp at hg;subst hg;exact⟨by simp,fun _=>rfl⟩
 case struct fs=>simp at hg;subst hg;exact⟨by simp,fun _=>rfl⟩
theorem findKey_lay {t:TypeId}{lay:List SK}{g:Bool}(hk:keyLay P t=some (lay,g)){k:Value}(hkk:kOK lay g k=true):
  ∀(es:List MapEntry),(∀e∈es,kOK lay g e.key=true)→(Instr.findKey t k es).run P w=.ok (fnd k es 0) w:=by
 intro es hes
 obtain⟨hl,hg⟩:=keyLay_spec hk
 obtain⟨u,hu⟩:=lay_und hl
 have heqv:∀e:MapEntry,kOK lay g e.key=true→(eqc k.cells.toList e.key.cells.toList=true↔k=e.key):=fun e he=>kOK_eq hkk he
 unfold Instr.findKey
 rw[Sem.run_bind,run_underlying hu,Result.andThen_ok]
 cases g with
 |false=>
  have key:∀(es:List MapEntry) (i:Nat),(∀e∈es,kOK lay false e.key=true)→Instr.findNow u k es i=some (fnd k es i):=by
   intro es
   induction es with
   |nil=>intro i _;rfl
   |cons e es ih=>
    intro i h
    have he:=h e (by simp)
    have hs:=(sameNow_spec hk hu hkk he).1 rfl
    have hq:=heqv e he
    simp only[Instr.findNow,hs,fnd]
    cases hb:eqc k.cells.toList e.key.cells.toList with
    |true=>simp [hq.1 hb]
    |false=>
     have hne:¬k=e.key:=fun h=>by rw[hq.2 h] at hb;cases hb
     simp [hne,ih (i+1) fun e he=>h e (by simp [he])]
  rw[key es 0 hes];rfl
 |true=>
  cases es with
  |nil=>simp [Instr.findNow,fnd]
  |cons e es=>
   have hs:=(sameNow_spec hk hu hkk (hes e (by simp))).2 rfl
   simp only[Instr.findNow,hs]
   have key:∀(es:List MapEntry) (i:Nat),(∀e∈es,kOK lay true e.key=true)→(Instr.findAsking t k es i).run P w=.ok (fnd k es i) w:=by
    intro es
    induction es with
    |nil=>intro i _;rfl
    |cons e es ih=>
     intro i h
     have he:=h e (by simp)
     have hq:=heqv e he
     obtain⟨v1,c1⟩:=kOK_vok (P:=P) (t:=t) hg hkk
     obtain⟨v2,c2⟩:=kOK_vok (P:=P) (t:=t) hg he
     have hrun:(Op.equal t k e.key).run P w=.ok (eqc k.cells.toList e.key.cells.toList) w:=equalIn_lay 16 t lay hl w 9984 _ _ _ _ v1 v2 c1 c2
     simp only[Instr.findAsking,Sem.run_bind,hrun,Result.andThen_ok,fnd]
     cases hb:eqc k.cells.toList e.key.cells.toList with
     |true=>simp [hq.1 hb]
     |false=>
      have hne:¬k=e.key:=fun h=>by rw[hq.2 h] at hb;cases hb
      simp [hne,ih (i+1) fun e he=>h e (by simp [he])]
   exact key (e::es) 0 hes
theorem check_lay {t:TypeId}{lay:List SK}{g:Bool}(hk:keyLay P t=some (lay,g)){k:Value}(hkk:kOK lay g k=true)(em:Bool):(Instr.checkKey em 10000 t k).run P w=.ok () w:=by
 obtain⟨hl,hg⟩:=keyLay_spec hk
 obtain⟨v1,c1⟩:=kOK_vok (P:=P) (t:=t) hg hkk
 exact checkKey_lay 16 t lay hl em w 9984 _ _ v1 c1
theorem sameBits_conf:∀(lay:List SK) (vs:List Value),conf lay vs=true→∀(n:Nat),(vs.zip vs).all (fun (x,y)=>Instr.sameBits n x y)=true
 |[],[],_,n=>by simp
 |s::l,v::vs,h,n=>by
  simp only[conf,Bool.and_eq_true] at h
  have ih:=sameBits_conf l vs h.2 n
  simp only[List.zip_cons_cons,List.all_cons,Bool.and_eq_true]
  refine⟨?_,ih⟩
  cases s<;>cases v<;>simp [SK.ok] at h<;>simp [Instr.sameBits,bytes_beq]
 |[],_::_,h,_=>by simp [conf] at h
 |_::_,[],h,_=>by simp [conf] at h
theorem keyStays_lay {lay:List SK}{g:Bool}{k:Value}(hkk:kOK lay g k=true):(Instr.keyThatStays k k).run P w=.ok k w:=by
 have:Instr.sameBits 10000 k k=true:=by
  cases g with
  |true=>
   cases k<;>simp [kOK] at hkk
   rename_i cs
   have:=sameBits_conf lay cs.toList hkk 9999
   show Instr.sameBits (9999+1) _ _=true
   simp only[Instr.sameBits,beq_self_eq_true,Bool.true_and]
   exact this
  |false=>
   cases lay with
   |nil=>simp [kOK,conf] at hkk
   |cons s l=>
    have h1:conf (s::l) [k]=true:=by cases k<;>simpa [kOK] using hkk
    have:=sameBits_conf (s::l) [k] h1 10000
    simpa using this
 simp [Instr.keyThatStays,this]
end
end Go.Vc
