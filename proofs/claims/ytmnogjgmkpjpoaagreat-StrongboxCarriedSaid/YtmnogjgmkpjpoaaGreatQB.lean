/- Of each quiet operation: the form that the program's tables give it, and that the model runs it so. -/
import Derived.Test.YtmnogjgmkpjpoaaGreatQA
import Derived.Laws.Strings
import Derived.Laws.BytesString
import Derived.MapKept
import Derived.LaidEql
set_option linter.unusedSimpArgs false
set_option linter.unusedVariables false
set_option linter.constructorNameAsVariable false
namespace Go.Vc
def aggT (P:Program)(t:TypeId):Option Bool:=
 match P.underlying t with
 |some (.struct _)|some (.array _ _)=>some true
 |some _=>some false
 |none=>none
def sizeT (P:Program)(t:TypeId):Option Nat:=(P.info? t).map (·.size)
def fieldsOf (P:Program)(s:TypeId):Option (Array Field):=
 match P.underlying s with
 |some (.struct fs)=>some fs
 |_=>none
def partQ (P:Program)(t:TypeId):Option (Option Nat):=
 match aggT P t with
 |some true=>(sizeT P t).map some
 |some false=>some none
 |none=>none
def rle:List Value→List (Nat×Value)
 |[]=>[]
 |v::l=>match rle l with
  |(n,u)::r=>if zeq v u then (n+1,u)::r else (1,v)::(n,u)::r
  |[]=>[(1,v)]
where
 zeq:Value→Value→Bool
  | .int k a,.int k' b=>k==k'&&a==b
  | .bool a,.bool b=>a==b
  | .string a,.string b=>decide (a=b)
  | .pointer none,.pointer none=>true
  | .slice none 0 0,.slice none 0 0=>true
  | .map none,.map none=>true
  | .nilIface,.nilIface=>true
  |_,_=>false
theorem zeq_sound {v u:Value}(h:rle.zeq v u=true):v=u:=by
 unfold rle.zeq at h
 split at h<;>simp_all
theorem runs_rle:∀l:List Value,runs (rle l)=l
 |[]=>rfl
 |v::l=>by
  have ih:=runs_rle l
  simp only[rle]
  split
  ·rename_i n u r hr
   rw[hr] at ih
   split
   ·rename_i hz
    have:=zeq_sound hz
    subst this
    simp only[runs,List.replicate_succ,List.cons_append] at ih⊢
    rw[ih]
   ·simp only[runs] at ih⊢
    simp [ih]
  ·rename_i hr
   rw[hr] at ih
   simp only[runs] at ih⊢
   simp [ih]
def rleS:List SK→List (Nat×SK)
 |[]=>[]
 |v::l=>match rleS l with
  |(n,u)::r=>if v=u then (n+1,u)::r else (1,v)::(n,u)::r
  |[]=>[(1,v)]
theorem skR_rleS:∀l:List SK,skR (rleS l)=l
 |[]=>rfl
 |v::l=>by
  have ih:=skR_rleS l
  simp only[rleS]
  split
  ·rename_i n u r hr
   rw[hr] at ih
   split
   ·rename_i hz
    subst hz
    simp only[skR,List.replicate_succ,List.cons_append] at ih⊢
    rw[ih]
   ·simp only[skR] at ih⊢
    simp [ih]
  ·rename_i hr
   rw[hr] at ih
   simp only[skR] at ih⊢
   simp [ih]
def zseg (z:List Value)(l:List Seg):List Seg:=if z.isEmpty then l else .z (rle z)::l
def segs (place:Nat→Option (Nat×Nat)):Nat→List Value→List (Nat×Operand)→Option (List Seg)
 |_,z,[]=>some (zseg z [])
 |pos,z,(i,x)::ps=>
  match place i with
  |some (off,n)=>if pos≤off∧off - pos+n≤z.length then (segs place (off+n) (z.drop (off - pos+n)) ps).map fun l=>zseg (z.take (off - pos)) (.x n x::l) else none
  |none=>none
def placeOf (P:Program)(t:TypeId):Option (Nat→Option (Nat×Nat)):=
 match P.underlying t with
 |some (.struct fs)=>if fs.all (fun f=>(sizeT P f.type).isSome) then some fun i=>(fs[i]?).map fun f=>(f.offset,(sizeT P f.type).getD 0) else none
 |some (.array _ el)=>(sizeT P el).map fun n i=>some (i*n,n)
 |_=>none
def compMM (c:Call):Option QI:=
 match c.callee with
 | .builtin .max=>some (.max c.args.toList)
 | .builtin .min=>some (.min c.args.toList)
 |_=>none
def compCap (P:Program)(c:Call):Option QI:=
 match c.callee with
 | .builtin .cap=>
  match c.args.toList,c.argTypes.toList with
  |[x],[t]=>match P.underlying t with
   |some (.slice _)=>some (.cap x)
   |_=>none
  |_,_=>none
 |_=>none
def keyOfMap (P:Program)(t:TypeId):Option (List SK×Bool×TypeId):=
 match P.underlying t with
 |some (.map k el)=>(keyLay P k).map fun lg=>(lg.1,lg.2,el)
 |_=>none
def compLkp (P:Program)(t:TypeId)(m k:Operand)(ok:Bool):Option QI:=
 (keyOfMap P t).bind fun lge=>(aggU P lge.2.2).bind fun za=>((P.info? lge.2.2).bind (·.zero)).bind fun z=>
  let q:=if za then (match z with| .agg cs=>some (rle cs.toList)|_=>none) else (if rle.zeq z z then some [(1,z)] else none)
  q.map fun q=>.lkp (rleS lge.1) lge.2.1 za q ok m k
def compLen (P:Program)(c:Call):Option QI:=
 match c.callee with
 | .builtin .len=>
  match c.args.toList,c.argTypes.toList with
  |[x],[t]=>
   match P.underlying t with
   |some .string=>some (.lenT x)
   |some (.slice _)=>some (.len x)
   |some (.map _ _)=>some (.lenM x)
   |_=>none
  |_,_=>none
 |_=>none
def nilC:Operand→Bool
 | .const .nilIface=>true
 |_=>false
def compQ (P:Program)(o:Oper):Option QI:=
 match o.op with
 | .move x=>some (.mov x)
 | .assign x=>some (.mov x)
 | .pick c a b=>some (.pick c a b)
 | .nilCheck x=>some (.nc x)
 | .binOp op t x y _=>
  match P.underlying t with
  |some (.int _)|some .string=>some (.bin op x y)
  |some .bool=>match op with
   | .eql=>some (.eqB false x y)
   | .neq=>some (.eqB true x y)
   |_=>none
  |some (.pointer el)=>if (P.info? el).isSome then match op with
   | .eql=>some (.eqP false x y)
   | .neq=>some (.eqP true x y)
   |_=>none
   else none
  |some (.slice _)=>match op with
   | .eql=>some (.eqS false x y)
   | .neq=>some (.eqS true x y)
   |_=>none
  |some (.map _ _)=>match op with
   | .eql=>some (.eqM false x y)
   | .neq=>some (.eqM true x y)
   |_=>none
  |some (.interface _)=>if nilC x||nilC y then match op with
   | .eql=>some (.eqI false x y)
   | .neq=>some (.eqI true x y)
   |_=>none
   else none
  |some (.struct _)|some (.array _ _)=>if P.eqGuardType P.depth t then none else (layT P 16 t).bind fun l=>match op with
   | .eql=>some (.eqA false (rleS l) x y)
   | .neq=>some (.eqA true (rleS l) x y)
   |_=>none
  |_=>none
 | .unOp op _ x=>match op with
  | .not=>some (.not x)
  | .neg=>some (.neg x)
  | .xor=>some (.bnot x)
  |_=>none
 | .convert s d x=>
  match P.underlying s,P.underlying d with
  |some (.int _),some (.int k)=>some (.cvi k x)
  |some (.slice e),some .string=>match P.underlying e with
   |some (.int .u8)=>some (.b2s x)
   |_=>none
  |_,_=>none
 | .fieldAddr s x f=>(fieldsOf P s).bind fun fs=>(fs[f]?).bind fun fd=>(sizeT P fd.type).bind fun n=>if n=0 then none else some (.fadr fd.offset x)
 | .field s x f=>(fieldsOf P s).bind fun fs=>(fs[f]?).bind fun fd=>(partQ P fd.type).map fun sz=>.fld fd.offset sz x
 | .indexAddr t x i=>
  match P.underlying t with
  |some (.array n el)=>(sizeT P el).map fun s=>.iadrA n s x i
  |some (.slice el)=>(sizeT P el).map fun s=>.iadrS s x i
  |_=>none
 | .index t x i=>
  match P.underlying t with
  |some (.array n el)=>(sizeT P el).bind fun s=>(aggT P el).map fun g=>.idxA n s g x i
  |some .string=>some (.idxS x i)
  |_=>none
 | .load t x=>
  match aggT P t with
  |some true=>(sizeT P t).bind fun n=>if n=0 then none else some (.ldN n x)
  |some false=>some (.ld1 x)
  |none=>none
 | .extract x i=>some (.ext i x)
 | .slice t x lo hi mx=>
  match mx with
  |some mx=>match P.underlying t,hi with
   |some (.slice el),some hi=>(sizeT P el).map fun s=>.slc3 s x lo hi mx
   |_,_=>none
  |none=>
  match P.underlying t with
  |some (.array n el)=>(sizeT P el).map fun s=>.slcA n s x lo hi
  |some (.slice el)=>(sizeT P el).map fun s=>.slcS s x lo hi
  |some .string=>some (.slcT x lo hi)
  |_=>none
 | .build t ps=>(placeOf P t).bind fun pl=>((P.info? t).bind (·.zero)).bind fun z=>(segs pl 0 z.cells.toList ps.toList).map .bld
 | .lookup t m k ok=>compLkp P t m k ok
 | .makeInterface t x=>match P.underlying t with
  |some (.int _)|some .string|some (.struct _)|some .bool|some (.pointer _)|some (.map _ _)|some (.slice _)|some (.array _ _)=>some (.mif t x)
  |_=>none
 | .makeFunc (.func f) first cap=>some (.mkF f first.toList cap.toList)
 | .typeAssert x _ t true=>match P.underlying t,(P.info? t).bind (·.zero) with
  |some (.int k),some (.int k' n)=>if n=0∧k'=k then some (.tas t k x) else none
  |_,_=>none
 | .typeAssert x _ t false=>match P.underlying t with
  |some (.interface _)=>none
  |some _=>some (.ta t x)
  |none=>none
 | .call c=>match compLen P c with
  |some i=>some i
  |none=>match compMM c with
   |some i=>some i
   |none=>compCap P c
 |_=>none
section
variable {P:Program} {w:World}
theorem aggT_run {t:TypeId}{b:Bool}(h:aggT P t=some b):(isAgg t).run P w=.ok b w:=by
 unfold aggT at h
 cases hu:P.underlying t with
 |none=>simp [hu] at h
 |some d=>
  unfold isAgg
  rw[Sem.run_bind,run_underlying hu w]
  cases d<;>simp_all
theorem sizeT_run {t:TypeId}{n:Nat}(h:sizeT P t=some n):(sizeOf t).run P w=.ok n w:=by
 unfold sizeT at h
 cases hi:P.info? t with
 |none=>simp [hi] at h
 |some i=>simp [hi] at h;simp [sizeOf,typeInfo,hi,h]
theorem addr_add (b o n:Nat):(⟨b,o,none⟩:Addr).add n=⟨b,o+n,none⟩:=by
 unfold Addr.add;split<;>simp_all
theorem rdN_cell {b o n:Nat}{cs:Array Value}(h:rdN w b o n=some cs):cs.size=n∧∀j,j<n→w.cell? ⟨b,o+j,none⟩=some (cs.getD j undef):=by
 unfold rdN at h
 split at h
 ·rename_i c t fr hb
  split at h
  ·rename_i hle
   simp only[Option.some.injEq] at h
   subst h
   refine⟨by simp;omega,fun j hj=>?_⟩
   simp only[World.cell?,hb,Option.isSome_none,Bool.false_eq_true,if_false]
   rw[Array.getElem?_eq_getElem (by omega)]
   have h1:j<min (o+n) c.size - o:=by omega
   simp [Array.getD_eq_getD_getElem?,h1]
  ·cases h
 ·cases h
theorem rdN_run {b o n:Nat}{cs:Array Value}(h:rdN w b o n=some cs):(loadCells ⟨b,o,none⟩ n).run P w=.ok cs w:=by
 obtain⟨hs,hc⟩:=rdN_cell h
 have:=run_loadCells_list (P:=P) w ⟨b,o,none⟩ cs.toList (fun j v hv=>by
  have hj:j<n:=by
   rcases Nat.lt_or_ge j n with h'|h'
   ·exact h'
   ·rw[List.getElem?_eq_none (by simpa [hs] using h')] at hv;cases hv
  rw[addr_add,hc j hj]
  simp at hv
  simp [Array.getD_eq_getD_getElem?,hv])
 simpa [hs] using this
theorem toList_inj (a b:ByteArray):a.toList=b.toList↔a=b:=by
 rw[ByteArray.toList_eq,ByteArray.toList_eq]
 constructor
 ·intro h;cases a;cases b;simp at h;simpa using h
 ·intro h;rw[h]
theorem bin_run {op:BinOp}{t:TypeId}{x y v:Value}(h:binR op x y=some v)(X Y:Operand):
  (do eqGuard op t X Y x y;binOp op t x y).run P w=.ok v w:=by
 cases x<;>try (simp [binR] at h;done)
 case int k a=>
  cases y<;>try (simp [binR] at h;done)
  rename_i k' b
  have hg:(eqGuard op t X Y (.int k a) (.int k' b)).run P w=.ok () w:=by
   unfold eqGuard;split<;>rfl
  rw[Sem.run_bind,hg,Result.andThen_ok]
  cases op<;>simp only[binR] at h
  case shl=>
   split at h<;>simp at h
   subst h
   rename_i hb
   simp only[binOp,Op.shift]
   rw[if_neg (by omega)]
   rfl
  case shr=>
   split at h<;>simp at h
   subst h
   rename_i hb
   simp only[binOp,Op.shift]
   rw[if_neg (by omega)]
   rfl
  all_goals
   split at h
   ·rename_i hk
    subst hk
    simp only[binOp,ne_eq,not_true_eq_false,if_false,Op.intArith,Op.intDiv,Op.intBits,Op.intCmp]
    first
     |(simp at h;subst h;rfl)
     |(simp at h;subst h;simp)
     |(split at h
       ·cases h
       ·rename_i hb;simp at h;subst h;rw[if_neg hb];rfl)
     |(cases h;done)
   ·cases h
 case string a=>
  cases y<;>try (simp [binR] at h;done)
  rename_i b
  have hg:(eqGuard op t X Y (.string a) (.string b)).run P w=.ok () w:=by
   unfold eqGuard;split<;>rfl
  rw[Sem.run_bind,hg,Result.andThen_ok]
  cases op<;>simp only[binR] at h<;>try (cases h;done)
  case add=>
   split at h<;>simp at h
   subst h
   rename_i hb
   simp only[binOp,Op.stringOp]
   rw[if_neg hb];rfl
  case eql=>
   simp at h;subst h
   simp only[binOp,Op.stringOp]
   have:(a.toList==b.toList)=decide (a=b):=by
    rw[Bool.eq_iff_iff];simp [toList_inj]
   rw[this];rfl
  case neq=>
   simp at h;subst h
   simp only[binOp,Op.stringOp]
   have:(a.toList==b.toList)=decide (a=b):=by
    rw[Bool.eq_iff_iff];simp [toList_inj]
   rw[this];rfl
theorem nil_run {o:Oper}{ρ:Operand→Value}{x:Operand}(ho:o.op=.nilCheck x){v:Value}(h:nilR (ρ x)=some v):(execOp ρ o).run P w=.ok (.value v) w:=by
 unfold execOp
 simp only[ho]
 generalize ρ x=y at h
 unfold nilR at h
 split at h
 ·simp at h;subst h;rfl
 ·simp at h;subst h;rfl
 ·cases h
theorem part_run {t:TypeId}{sz:Option Nat}(hp:partQ P t=some sz){cs:Array Value}{off:Nat}{v:Value}(h:fldR off sz (.agg cs)=some v):
  (part t cs off).run P w=.ok v w:=by
 unfold partQ at hp
 unfold part
 cases ha:aggT P t with
 |none=>simp [ha] at hp
 |some b=>
  rw[Sem.run_bind,aggT_run ha,Result.andThen_ok]
  cases b with
  |true=>
   simp only[ha] at hp
   cases hs:sizeT P t with
   |none=>simp [hs] at hp
   |some n=>
    simp [hs] at hp
    subst hp
    simp only[fldR,Option.some.injEq] at h
    subst h
    simp [sizeT_run hs]
  |false=>
   simp [ha] at hp
   subst hp
   simp only[fldR] at h
   simp [h]
theorem fieldsOf_run {s:TypeId}{fs:Array Field}(h:fieldsOf P s=some fs):P.underlying s=some (.struct fs):=by
 unfold fieldsOf at h
 split at h
 ·simp at h;subst h;assumption
 ·cases h
theorem bnd_run {isSlice:Bool}{len cap:Nat}{lo hi:Option Value}{l h:Nat}(hb:bndR len cap lo hi=some (l,h)):
  (Instr.sliceBounds isSlice len cap lo hi none).run P w=.ok (l,h,cap) w:=by
 unfold bndR at hb
 cases hi with
 |none=>
  cases lo with
  |none=>simp at hb;obtain⟨rfl,rfl⟩:=hb;simp [Instr.sliceBounds]
  |some lv=>
   cases lv<;>try (simp at hb;done)
   rename_i k x
   simp only at hb
   split at hb
   ·rename_i hx
    simp at hb;obtain⟨rfl,rfl⟩:=hb
    simp [Instr.sliceBounds,Instr.sliceBound,asIntOf,hx]
   ·cases hb
 |some hv=>
  cases hv<;>try (simp at hb;done)
  rename_i k x
  simp only at hb
  split at hb
  ·rename_i hx
   cases lo with
   |none=>
    simp at hb;obtain⟨rfl,rfl⟩:=hb
    simp [Instr.sliceBounds,Instr.sliceBound,asIntOf,hx]
   |some lv=>
    cases lv<;>try (simp at hb;done)
    rename_i k' y
    simp only at hb
    split at hb
    ·rename_i hy
     simp at hb;obtain⟨rfl,rfl⟩:=hb
     have h3:¬(max x 0<y):=by omega
     simp [Instr.sliceBounds,Instr.sliceBound,asIntOf,hx,hy.1,h3]
    ·cases hb
  ·cases hb
theorem zc_rle (l:List Value):zc (rle l)=l.toArray:=by simp [zc,runs_rle]
theorem fill_segs {place:Nat→Option (Nat×Nat)}{e:Env}{ρ:Operand→Value}(hρ:∀x v,ev e x=some v→ρ x=v):
  ∀(ps:List (Nat×Operand)) (pos:Nat) (z:List Value) (sg:List Seg) (out:Array Value),segs place pos z ps=some sg→partsR e sg=some out→
   ∀(pre:List Value),pre.length=pos→
   Instr.fill place (pre++z).toArray (ps.map fun (i,x)=>(i,ρ x))=some (pre++out.toList).toArray:=by
 have hz:∀(z:List Value) (l:List Seg) (out:Array Value),partsR e (zseg z l)=some out→∃o,partsR e l=some o∧out.toList=z++o.toList:=by
  intro z l out h
  unfold zseg at h
  split at h
  ·rename_i hzz
   rw[List.isEmpty_iff] at hzz
   subst hzz
   exact⟨out,h,rfl⟩
  ·simp only[partsR] at h
   cases hl:partsR e l with
   |none=>simp [hl] at h
   |some o=>simp [hl] at h;subst h;exact⟨o,rfl,by simp [zc_rle]⟩
 intro ps
 induction ps with
 |nil=>
  intro pos z sg out hs ho pre hpre
  simp [segs] at hs
  subst hs
  obtain⟨o,h1,h2⟩:=hz z [] out ho
  simp [partsR] at h1
  subst h1
  simp [Instr.fill,h2]
 |cons p ps ih=>
  intro pos z sg out hs ho pre hpre
  obtain⟨i,x⟩:=p
  simp only[segs] at hs
  cases hpl:place i with
  |none=>simp [hpl] at hs
  |some on=>
   obtain⟨off,n⟩:=on
   simp only[hpl] at hs
   split at hs
   ·rename_i hcond
    obtain⟨hpos,hfit⟩:=hcond
    cases hq:segs place (off+n) (z.drop (off - pos+n)) ps with
    |none=>simp [hq] at hs
    |some l=>
     simp [hq] at hs
     subst hs
     obtain⟨o,h1,h2⟩:=hz _ _ _ ho
     simp only[partsR] at h1
     cases hx:ev e x with
     |none=>simp [hx] at h1
     |some v=>
      simp only[hx,Option.bind_some] at h1
      split at h1
      ·rename_i hvn
       cases hr:partsR e l with
       |none=>simp [hr] at h1
       |some o'=>
        simp [hr] at h1
        subst h1
        have ih':=ih (off+n) (z.drop (off - pos+n)) l o' hq hr (pre++z.take (off - pos)++v.cells.toList) (by simp [hvn,hpre];omega)
        simp only[List.map_cons,Instr.fill,hpl,hρ x v hx,hvn,ne_eq,not_true_eq_false,decide_false,Bool.false_or,decide_eq_true_eq]
        rw[if_neg (by simp [hpre];omega)]
        have key:∀(vs:List Value) (p q r:List Value),q.length=vs.length→
          (vs.zipIdx p.length).foldl (fun cs (c,j)=>cs.setIfInBounds j c) (p++q++r).toArray=(p++vs++r).toArray:=by
         intro vs
         induction vs with
         |nil=>intro p q r hq;simp at hq;subst hq;simp
         |cons c vs ihv=>
          intro p q r hq
          cases q with
          |nil=>simp at hq
          |cons q0 q=>
           simp only[List.zipIdx_cons,List.foldl_cons]
           have:=ihv (p++[c]) q r (by simpa using hq)
           simp at this⊢
           exact this
        have key2:∀(vs:List Value) (b:Nat) (A:Array Value),
          (vs.zipIdx b).foldl (fun cs (c,j)=>cs.setIfInBounds (off+j) c) A=(vs.zipIdx (off+b)).foldl (fun cs (c,j)=>cs.setIfInBounds j c) A:=by
         intro vs
         induction vs with
         |nil=>intro b A;simp
         |cons c vs ihv=>intro b A;simp only[List.zipIdx_cons,List.foldl_cons];rw[ihv];rfl
        have hsplit:pre++z=(pre++z.take (off - pos))++((z.drop (off - pos)).take n++z.drop (off - pos+n)):=by
         rw[List.append_assoc,←List.append_assoc (z.take (off - pos)),←List.take_add,List.take_append_drop]
        have e1:v.cells.zipIdx.foldl (fun cs (c,j)=>cs.setIfInBounds (off+j) c) (pre++z).toArray=(pre++z.take (off - pos)++v.cells.toList++z.drop (off - pos+n)).toArray:=by
         have h1:=key v.cells.toList (pre++z.take (off - pos)) ((z.drop (off - pos)).take n) (z.drop (off - pos+n)) (by simp [hvn];omega)
         have hl:(pre++z.take (off - pos)).length=off:=by simp [hpre];omega
         rw[hl,List.append_assoc (pre++z.take (off - pos)),←hsplit] at h1
         have h2:=key2 v.cells.toList 0 (pre++z).toArray
         simp only[Nat.add_zero] at h2
         rw[←h1,←h2,←Array.foldl_toList]
         simp
        have e1':(Array.foldl (fun cs x=>cs.setIfInBounds (off+x.2) x.1) (pre++z).toArray v.cells.zipIdx)=(pre++z.take (off - pos)++v.cells.toList++z.drop (off - pos+n)).toArray:=e1
        rw[e1',ih',h2]
        simp
      ·cases h1
   ·cases hs
theorem build_run {t:TypeId}{pl:Nat→Option (Nat×Nat)}(hp:placeOf P t=some pl){z:Value}(hz:(P.info? t).bind (·.zero)=some z){ps:Array (Nat×Operand)}{sg:List Seg}
  (hs:segs pl 0 z.cells.toList ps.toList=some sg) {e:Env} {ρ:Operand→Value} (hρ:∀x v,ev e x=some v→ρ x=v) {out:Array Value} (ho:partsR e sg=some out):
  (Instr.build t (ps.map fun (i,x)=>(i,ρ x))).run P w=.ok (.agg out) w:=by
 cases hi:P.info? t with
 |none=>simp [hi] at hz
 |some info=>
  cases hzz:info.zero with
  |none=>simp [hi,hzz] at hz
  |some z'=>
   simp [hi,hzz] at hz;subst hz
   have hfill:=fill_segs (place:=pl) hρ ps.toList 0 z'.cells.toList sg out hs ho [] rfl
   simp only[List.nil_append,Array.toArray_toList] at hfill
   unfold placeOf at hp
   unfold Instr.build
   simp only[Sem.run_bind,zeroValue,typeInfo,run_program,hi,Sem.run_pure,Result.andThen_ok,hzz]
   split at hp
   ·rename_i fs hu
    split at hp
    ·rename_i hall
     simp at hp
     have hplaces:(fs.mapM fun f=>do pure (f.offset,←sizeOf f.type):Sem (Array (Nat×Nat))).run P w=.ok (fs.map fun f=>(f.offset,(sizeT P f.type).getD 0)) w:=by
      have aux:∀(l:List Field),(∀f∈l,(sizeT P f.type).isSome=true)→
        (l.mapM fun f=>do pure (f.offset,←sizeOf f.type):Sem (List (Nat×Nat))).run P w=.ok (l.map fun f=>(f.offset,(sizeT P f.type).getD 0)) w:=by
       intro l
       induction l with
       |nil=>intro _;simp
       |cons g l ih=>
        intro h
        obtain⟨m,hm⟩:=Option.isSome_iff_exists.1 (h g (by simp))
        have ih':=ih (fun f hf=>h f (by simp [hf]))
        simp only[List.mapM_cons,Sem.run_bind,sizeT_run hm,Result.andThen_ok,Sem.run_pure,ih',List.map_cons,hm,Option.getD_some]
      have h1:=aux fs.toList (fun f hf=>Array.all_eq_true_iff_forall_mem.1 hall f (Array.mem_toList_iff.1 hf))
      rw[Array.mapM_eq_mapM_toList]
      simp only[Sem.run_map,h1,Result.andThen_ok]
      rw[←Array.toList_map]
     simp only[run_underlying hu w,hplaces,Result.andThen_ok,Sem.run_bind]
     rw[Array.toList_map]
     have hpl:(fun i=>(fs.map fun f=>(f.offset,(sizeT P f.type).getD 0))[i]?)=pl:=by rw[←hp];funext i;simp
     rw[hpl,hfill]
     simp
    ·cases hp
   ·rename_i n el hu
    cases hsz:sizeT P el with
    |none=>simp [hsz] at hp
    |some m=>
     simp [hsz] at hp;subst hp
     simp only[run_underlying hu w,Result.andThen_ok,Sem.run_bind,sizeT_run hsz]
     rw[Array.toList_map,hfill]
     simp
   ·cases hp
theorem eqA_run {t:TypeId}{l:List SK}(hg:P.eqGuardType P.depth t=false)(hl:layT P 16 t=some l){neg:Bool}{x y v:Value}(h:eqAR neg l x y=some v)(X Y:Operand)
  (hu:(∃fs,P.underlying t=some (.struct fs))∨ ∃n el,P.underlying t=some (.array n el)):
  (do eqGuard (if neg then .neq else .eql) t X Y x y;binOp (if neg then .neq else .eql) t x y).run P w=.ok v w:=by
 unfold eqAR at h
 split at h
 ·rename_i cs ds
  split at h
  ·rename_i hc
   simp at h;subst h
   have vok:∀cs:Array Value,VOK P t cs.toList (.agg cs):=by
    intro cs
    unfold VOK
    rcases hu with ⟨fs,hu⟩|⟨n,el,hu⟩<;>rw[hu]
   have he:(Op.equal t (.agg cs) (.agg ds)).run P w=.ok (eqc cs.toList ds.toList) w:=equalIn_lay 16 t l hl w 9984 _ _ _ _ (vok cs) (vok ds) hc.1 hc.2
   have hgd:∀op,(eqGuard op t X Y (.agg cs) (.agg ds)).run P w=.ok () w:=by
    intro op
    cases op<;>simp [eqGuard,hg]
   rw[Sem.run_bind,hgd,Result.andThen_ok]
   cases neg
   ·simp only[Bool.false_eq_true,if_false,binOp,Sem.run_bind,he,Result.andThen_ok,Sem.run_pure];simp
   ·simp only[if_true,binOp,Sem.run_bind,he,Result.andThen_ok,Sem.run_pure];simp
  ·cases h
 ·cases h
theorem keyOfMap_spec {t:TypeId}{lay:List SK}{g:Bool}{el:TypeId}(h:keyOfMap P t=some (lay,g,el)):∃k,P.underlying t=some (.map k el)∧keyLay P k=some (lay,g):=by
 unfold keyOfMap at h
 split at h
 ·rename_i k el' hu
  cases hk:keyLay P k with
  |none=>simp [hk] at h
  |some lg=>simp [hk] at h;obtain⟨rfl,rfl,rfl⟩:=h;exact⟨k,hu,hk⟩
 ·cases h
theorem mapE_spec {lay:List SK}{g:Bool}{r:Nat}{es:Array MapEntry}{c:Nat}(h:mapE lay g w r=some (es,c)):w.heap[r]?=some (.map es c)∧∀e∈es.toList,kOK lay g e.key=true:=by
 unfold mapE at h
 split at h
 ·rename_i es' c' hb
  split at h
  ·rename_i hall
   simp at h;obtain⟨rfl,rfl⟩:=h
   exact⟨hb,fun e he=>List.all_eq_true.1 hall e he⟩
  ·cases h
 ·cases h
theorem lkp_run {t:TypeId}{lay:List SK}{g:Bool}{el:TypeId}(hk:keyOfMap P t=some (lay,g,el)){z:Value}(hz:(P.info? el).bind (·.zero)=some z){ok:Bool}{m k v:Value}
  (h:lkpR lay g z ok w m k=some v):(Instr.lookup t m k ok).run P w=.ok v w:=by
 obtain⟨kt,hu,hkl⟩:=keyOfMap_spec hk
 have hzero:(zeroValue el).run P w=.ok z w:=by
  cases hi:P.info? el with
  |none=>simp [hi] at hz
  |some info=>
   cases hzz:info.zero with
   |none=>simp [hi,hzz] at hz
   |some z'=>simp [hi,hzz] at hz;subst hz;simp [zeroValue,typeInfo,hi,hzz]
 unfold lkpR at h
 split at h
 ·rename_i hkk
  split at h
  ·simp at h;subst h
   have hch:=check_lay (P:=P) (w:=w) hkl hkk true
   have hfi:=findKey_lay (P:=P) (w:=w) hkl hkk [] (by simp)
   simp only[Instr.lookup,Sem.run_bind,run_underlying hu w,Result.andThen_ok,Sem.run_pure]
   simp [hch,hfi,fnd,hzero,packL]
  ·rename_i r
   cases hE:mapE lay g w r with
   |none=>simp [hE] at h
   |some ec=>
    obtain⟨es,c⟩:=ec
    obtain⟨hb,hall⟩:=mapE_spec hE
    simp only[hE,Option.map_some,Option.some.injEq] at h
    have hg:(getObj r).run P w=.ok (.map es c) w:=by simp [getObj,Sem.run,hb]
    have hch:=check_lay (P:=P) (w:=w) hkl hkk es.isEmpty
    have hfi:=findKey_lay (P:=P) (w:=w) hkl hkk es.toList hall
    simp only[Instr.lookup,Sem.run_bind,run_underlying hu w,Result.andThen_ok,hg,Sem.run_pure,hch,hfi]
    cases hf:fnd k es.toList 0 with
    |none=>simp only[hf] at h;subst h;simp [hzero,packL]
    |some iv=>obtain⟨i,v'⟩:=iv;simp only[hf] at h;subst h;simp [packL]
  ·cases h
 ·cases h
theorem max_run {vs:List Value}{v:Value}(h:maxL vs=some v)(tys:Array TypeId)(ty:TypeId):(Builtin.max_ tys ty vs.toArray).run P w=.ok v w:=by
 have key:∀(r:List Value) (k:IntKind) (x:Int),maxF k x r=some v→(r.foldlM Builtin.max2 (.int k x):Sem Value).run P w=.ok v w:=by
  intro r
  induction r with
  |nil=>intro k x h;simp [maxF] at h;subst h;rfl
  |cons y r ih=>
   intro k x h
   cases y<;>try (simp [maxF] at h;done)
   simp only[maxF] at h
   split at h
   ·rename_i hk;subst hk
    have:=ih _ _ h
    simp only[List.foldlM_cons,Sem.run_bind,Builtin.max2,Sem.run_pure,Result.andThen_ok]
    exact this
   ·cases h
 unfold Builtin.max_
 cases vs with
 |nil=>simp [maxL] at h
 |cons x r=>
  cases x<;>try (simp [maxL] at h;done)
  exact key r _ _ h
theorem min_run {vs:List Value}{v:Value}(h:minL vs=some v)(tys:Array TypeId)(ty:TypeId):(Builtin.min_ tys ty vs.toArray).run P w=.ok v w:=by
 have key:∀(r:List Value) (k:IntKind) (x:Int),minF k x r=some v→(r.foldlM Builtin.min2 (.int k x):Sem Value).run P w=.ok v w:=by
  intro r
  induction r with
  |nil=>intro k x h;simp [minF] at h;subst h;rfl
  |cons y r ih=>
   intro k x h
   cases y<;>try (simp [minF] at h;done)
   simp only[minF] at h
   split at h
   ·rename_i hk;subst hk
    have:=ih _ _ h
    simp only[List.foldlM_cons,Sem.run_bind,Builtin.min2,Sem.run_pure,Result.andThen_ok]
    exact this
   ·cases h
 unfold Builtin.min_
 cases vs with
 |nil=>simp [minL] at h
 |cons x r=>
  cases x<;>try (simp [minL] at h;done)
  exact key r _ _ h
theorem slc3_run {t el:TypeId}(hu:P.underlying t=some (.slice el)){s:Nat}(hs:sizeT P el=some s){lo:Option Value}{hi mx x v:Value}
  (h:slc3R s lo hi mx x=some v):(Instr.sliceAt t x lo (some hi) (some mx)).run P w=.ok v w:=by
 unfold slc3R at h
 split at h
 ·rename_i a len cap
  split at h
  ·rename_i k1 hh k2 mm
   split at h
   ·rename_i hb
    obtain⟨h1,h2,h3,h4⟩:=hb
    have e1:(hh:Int)≤mm.toNat:=by omega
    unfold Instr.sliceAt Instr.slice Instr.sliceBounds Instr.sliceBound
    split at h
    ·simp at h;subst h
     have e2:hh≤max mm 0:=by omega
     have e4:(if mm≤0 then a else a.map (·.add 0))=a:=by
      split
      ·rfl
      ·cases a<;>simp [Addr.add]
     simp [run_underlying hu w,asIntOf,h1,h2,h3,sizeT_run hs,e2,e4]
    ·split at h
     ·rename_i l hl
      simp at h;subst h
      have e2:hh≤max mm 0:=by omega
      have e3:l≤max hh 0:=by omega
      simp [run_underlying hu w,asIntOf,h1,h2,h3,sizeT_run hs,e2,hl.1,e3]
     ·cases h
    ·cases h
   ·cases h
  ·cases h
 ·cases h
theorem eqIn_bool (d:Nat){t:TypeId}(hu:P.underlying t=some .bool)(p q:Bool):(Op.equalIn (d+1) t (.bool p) (.bool q)).run P w=.ok (p==q) w:=by
 simp [Op.equalIn,run_underlying hu w]
theorem eqB_run {t:TypeId}(hu:P.underlying t=some .bool){neg:Bool}{x y v:Value}(h:eqBR neg x y=some v)(X Y:Operand):
  (do eqGuard (if neg then .neq else .eql) t X Y x y;binOp (if neg then .neq else .eql) t x y).run P w=.ok v w:=by
 unfold eqBR at h
 split at h
 ·rename_i p q
  simp at h;subst h
  have hg:∀op,(eqGuard op t X Y (.bool p) (.bool q)).run P w=.ok () w:=by intro op;unfold eqGuard;split<;>rfl
  have he:(Op.equal t (.bool p) (.bool q)).run P w=.ok (p==q) w:=eqIn_bool 9999 hu p q
  rw[Sem.run_bind,hg,Result.andThen_ok]
  cases neg
  ·simp only[Bool.false_eq_true,if_false,binOp,Sem.run_bind,he,Result.andThen_ok,Sem.run_pure];simp
  ·simp only[if_true,binOp,Sem.run_bind,he,Result.andThen_ok,Sem.run_pure];simp
 ·cases h
theorem eqNil_fin {t:TypeId}{x y:Value}{neg r:Bool}(he:∀d,(Op.equalIn (d+1) t x y).run P w=.ok r w)(X Y:Operand)
  (hg:∀op,(eqGuard op t X Y x y).run P w=.ok () w) (h1:binOp .eql t x y=(do pure (.bool (←Op.equal t x y)))) (h2:binOp .neq t x y=(do pure (.bool (!(←Op.equal t x y))))):
  (do eqGuard (if neg then .neq else .eql) t X Y x y;binOp (if neg then .neq else .eql) t x y).run P w=.ok (.bool (neg^^r)) w:=by
 have he':(Op.equal t x y).run P w=.ok r w:=he 9999
 rw[Sem.run_bind,hg,Result.andThen_ok]
 cases neg
 ·simp only[Bool.false_eq_true,if_false,h1,Sem.run_bind,he',Result.andThen_ok,Sem.run_pure];simp
 ·simp only[if_true,h2,Sem.run_bind,he',Result.andThen_ok,Sem.run_pure];simp
theorem eqP_run {t:TypeId}{el:TypeId}(hu:P.underlying t=some (.pointer el))(hi:(P.info? el).isSome=true){neg:Bool}{x y v:Value}(h:eqPR neg x y=some v)(X Y:Operand):
  (do eqGuard (if neg then .neq else .eql) t X Y x y;binOp (if neg then .neq else .eql) t x y).run P w=.ok v w:=by
 unfold eqPR at h
 split at h
 ·simp at h;subst h
  exact eqNil_fin (fun d=>by simp [Op.equalIn,run_underlying hu w]) X Y (fun op=>by cases op<;>rfl) rfl rfl
 ·simp at h;subst h
  rw[show Value.bool neg=Value.bool (neg^^false) from by simp]
  exact eqNil_fin (fun d=>by simp [Op.equalIn,run_underlying hu w]) X Y (fun op=>by cases op<;>rfl) rfl rfl
 ·split at h
  ·rename_i a b hab
   subst hab
   simp at h;subst h
   obtain⟨j,hj⟩:=Option.isSome_iff_exists.1 hi
   rw[show Value.bool (!neg)=Value.bool (neg^^true) from by simp]
   exact eqNil_fin (fun d=>by simp [Op.equalIn,run_underlying hu w,sizeOf,typeInfo,hj,run_sameAddr_same]) X Y (fun op=>by cases op<;>rfl) rfl rfl
  ·cases h
 ·cases h
theorem eqS_run {t:TypeId}{el:TypeId}(hu:P.underlying t=some (.slice el)){neg:Bool}{x y v:Value}(h:eqSR neg x y=some v)(X Y:Operand):
  (do eqGuard (if neg then .neq else .eql) t X Y x y;binOp (if neg then .neq else .eql) t x y).run P w=.ok v w:=by
 unfold eqSR at h
 split at h
 ·simp at h;subst h
  exact eqNil_fin (fun d=>by simp [Op.equalIn,run_underlying hu w]) X Y (fun op=>by cases op<;>rfl) rfl rfl
 ·simp at h;subst h
  rw[show Value.bool neg=Value.bool (neg^^false) from by simp]
  exact eqNil_fin (fun d=>by simp [Op.equalIn,run_underlying hu w]) X Y (fun op=>by cases op<;>rfl) rfl rfl
 ·cases h
theorem eqM_run {t:TypeId}{ke el:TypeId}(hu:P.underlying t=some (.map ke el)){neg:Bool}{x y v:Value}(h:eqMR neg x y=some v)(X Y:Operand):
  (do eqGuard (if neg then .neq else .eql) t X Y x y;binOp (if neg then .neq else .eql) t x y).run P w=.ok v w:=by
 unfold eqMR at h
 split at h
 ·simp at h;subst h
  exact eqNil_fin (fun d=>by simp [Op.equalIn,run_underlying hu w]) X Y (fun op=>by cases op<;>rfl) rfl rfl
 ·simp at h;subst h
  rw[show Value.bool neg=Value.bool (neg^^false) from by simp]
  exact eqNil_fin (fun d=>by simp [Op.equalIn,run_underlying hu w]) X Y (fun op=>by cases op<;>rfl) rfl rfl
 ·cases h
theorem eqI_run {t:TypeId}{ms:Array (String×TypeId)}(hu:P.underlying t=some (.interface ms)){neg:Bool}{x y v:Value}{X Y:Operand}(h:eqIR neg x y=some v)(hn:nilC X=true∨nilC Y=true):
  (do eqGuard (if neg then .neq else .eql) t X Y x y;binOp (if neg then .neq else .eql) t x y).run P w=.ok v w:=by
 have hX:∀{Z:Operand},nilC Z=true→Z=.const .nilIface:=by
  intro Z hz
  cases Z with
  |const c=>cases c<;>first|rfl|(simp [nilC] at hz)
  |_=>simp [nilC] at hz
 unfold eqIR at h
 split at h
 ·simp at h;subst h
  rw[show Value.bool (!neg)=Value.bool (neg^^true) from by simp]
  refine eqNil_fin (fun d=>by simp [Op.equalIn,run_underlying hu w]) X Y (fun op=>?_) rfl rfl
  rcases hn with hn|hn<;>(have:=hX hn;subst this;cases op<;>simp [eqGuard])
 ·simp at h;subst h
  rw[show Value.bool neg=Value.bool (neg^^false) from by simp]
  exact eqNil_fin (fun d=>by simp [Op.equalIn,run_underlying hu w]) X Y (fun op=>by cases op<;>rfl) rfl rfl
 ·simp at h;subst h
  rw[show Value.bool neg=Value.bool (neg^^false) from by simp]
  exact eqNil_fin (fun d=>by simp [Op.equalIn,run_underlying hu w]) X Y (fun op=>by cases op<;>rfl) rfl rfl
 ·cases h
theorem index_run {t:TypeId}{x i v:Value}{len:Nat}{el:TypeId}(hu:P.underlying t=some (.array len el)){s:Nat}(hs:sizeT P el=some s){g:Bool}(hg:aggT P el=some g)
  (h:idxAR len s g x i=some v):(Instr.index t x i).run P w=.ok v w:=by
 unfold idxAR at h
 split at h
 ·rename_i cs k j
  split at h
  ·rename_i hj
   unfold Instr.index
   simp only[Sem.run_bind,asIntOf,Sem.run_pure,Result.andThen_ok,run_underlying hu w]
   rw[if_pos hj]
   simp only[Sem.run_bind,sizeT_run hs,Result.andThen_ok]
   unfold part
   rw[Sem.run_bind,aggT_run hg,Result.andThen_ok]
   cases g
   ·simp only[Bool.false_eq_true,if_false] at h⊢
    simp [h]
   ·simp only[if_true] at h⊢
    simp only[Option.some.injEq] at h
    subst h
    simp [sizeT_run hs]
  ·cases h
 ·cases h
theorem indexS_run {t:TypeId}{x i v:Value}(hu:P.underlying t=some .string)(h:idxSR x i=some v):(Instr.index t x i).run P w=.ok v w:=by
 unfold idxSR at h
 split at h
 ·rename_i s k j
  split at h
  ·rename_i hj
   unfold Instr.index
   simp only[Sem.run_bind,asIntOf,Sem.run_pure,Result.andThen_ok,run_underlying hu w]
   rw[if_pos hj]
   cases hb:s[j.toNat]? with
   |none=>simp [hb] at h
   |some b=>simp [hb] at h;subst h;simp
  ·cases h
 ·cases h
theorem indexAtA_run {t:TypeId}{x i v:Value}{len:Nat}{el:TypeId}(hu:P.underlying t=some (.array len el)){s:Nat}(hs:sizeT P el=some s)
  (h:iadrAR len s x i=some v):(Instr.indexAt t x i).run P w=.ok v w:=by
 unfold iadrAR at h
 split at h
 ·rename_i b o k j
  split at h
  ·rename_i hj
   simp only[Option.some.injEq] at h
   subst h
   unfold Instr.indexAt
   simp [asIntOf,run_underlying hu w,Instr.sureAddr,hj,sizeT_run hs,addr_add]
  ·cases h
 ·cases h
theorem indexAtS_run {t:TypeId}{x i v:Value}{el:TypeId}(hu:P.underlying t=some (.slice el)){s:Nat}(hs:sizeT P el=some s)
  (h:iadrSR s x i=some v):(Instr.indexAt t x i).run P w=.ok v w:=by
 unfold iadrSR at h
 split at h
 ·rename_i b o n c k j
  split at h
  ·rename_i hj
   simp only[Option.some.injEq] at h
   subst h
   unfold Instr.indexAt
   simp [asIntOf,run_underlying hu w,hj,sizeT_run hs,addr_add]
  ·cases h
 ·cases h
theorem len_run {t el:TypeId}(hu:P.underlying t=some (.slice el)){x v:Value}(h:lenR x=some v)(ty:TypeId):(Builtin.len_ #[t] ty #[x]).run P w=.ok v w:=by
 unfold lenR at h
 split at h
 ·simp at h;subst h;simp [Builtin.len_,run_underlying hu w,goInt]
 ·cases h
theorem lenT_run {t:TypeId}(hu:P.underlying t=some .string){x v:Value}(h:lenTR x=some v)(ty:TypeId):(Builtin.len_ #[t] ty #[x]).run P w=.ok v w:=by
 unfold lenTR at h
 split at h
 ·simp at h;subst h;simp [Builtin.len_,run_underlying hu w,goInt]
 ·cases h
theorem lenM_run {t ke el:TypeId}(hu:P.underlying t=some (.map ke el)){x v:Value}(h:lenMR w x=some v)(ty:TypeId):(Builtin.len_ #[t] ty #[x]).run P w=.ok v w:=by
 unfold lenMR at h
 split at h
 ·simp at h;subst h;simp [Builtin.len_,run_underlying hu w,goInt]
 ·rename_i r
  split at h
  ·rename_i es cl hb
   simp at h;subst h
   have hg:(getObj r).run P w=.ok (.map es cl) w:=by simp [getObj,Sem.run,hb]
   simp [Builtin.len_,run_underlying hu w,goInt,hg]
  ·cases h
 ·cases h
theorem field_run {s:TypeId}{fs:Array Field}(hf:fieldsOf P s=some fs){k:Nat}{fd:Field}(hk:fs[k]?=some fd){sz:Option Nat}(hp:partQ P fd.type=some sz)
  {x v:Value} (h:fldR fd.offset sz x=some v):(Instr.field s x k).run P w=.ok v w:=by
 cases x<;>try (simp [fldR] at h;done)
 rename_i cs
 unfold Instr.field
 simp only[Sem.run_bind,run_underlying (fieldsOf_run hf) w,Result.andThen_ok,hk,asAgg,Sem.run_pure]
 exact part_run hp h
theorem fieldAt_run {s:TypeId}{fs:Array Field}(hf:fieldsOf P s=some fs){k:Nat}{fd:Field}(hk:fs[k]?=some fd){n:Nat}(hs:sizeT P fd.type=some n)(hn:n≠0)
  {x v:Value} (h:fadrR fd.offset x=some v):(Instr.fieldAt s x k).run P w=.ok v w:=by
 unfold fadrR at h
 split at h
 ·rename_i b o
  simp at h;subst h
  unfold Instr.fieldAt fieldPlace
  simp [run_underlying (fieldsOf_run hf) w,hk,Instr.sureAddr,sizeT_run hs,hn,addr_add]
 ·cases h
theorem slcA_run {t el:TypeId}{len:Nat}(hu:P.underlying t=some (.array len el)){s:Nat}(hs:sizeT P el=some s){lo hi:Option Value}{x v:Value}
  (h:slcAR len s lo hi x=some v):(Instr.sliceAt t x lo hi none).run P w=.ok v w:=by
 cases x<;>try (simp [slcAR] at h;done)
 rename_i p
 cases p with
 |none=>simp [slcAR] at h
 |some ad=>
  simp only[slcAR] at h
  cases hb:bndR len len lo hi with
  |none=>simp [hb] at h
  |some lh=>
   obtain⟨l,hh⟩:=lh
   simp [hb] at h
   subst h
   unfold Instr.sliceAt
   simp only[Sem.run_bind,run_underlying hu w,Result.andThen_ok,Instr.sureAddr,Sem.run_pure,bnd_run hb,sizeT_run hs]
theorem slcS_run {t el:TypeId}(hu:P.underlying t=some (.slice el)){s:Nat}(hs:sizeT P el=some s){lo hi:Option Value}{x v:Value}
  (h:slcSR s lo hi x=some v):(Instr.sliceAt t x lo hi none).run P w=.ok v w:=by
 cases x<;>try (simp [slcSR] at h;done)
 rename_i p len cap
 simp only[slcSR] at h
 cases hb:bndR len cap lo hi with
 |none=>simp [hb] at h
 |some lh=>
  obtain⟨l,hh⟩:=lh
  simp [hb] at h
  subst h
  unfold Instr.sliceAt Instr.slice
  simp only[Sem.run_bind,run_underlying hu w,Result.andThen_ok,Sem.run_pure,bnd_run hb,sizeT_run hs]
theorem slcT_run {t:TypeId}(hu:P.underlying t=some .string){lo hi:Option Value}{x v:Value}
  (h:slcTR lo hi x=some v):(Instr.sliceAt t x lo hi none).run P w=.ok v w:=by
 cases x<;>try (simp [slcTR] at h;done)
 rename_i s
 simp only[slcTR] at h
 cases hb:bndR s.size s.size lo hi with
 |none=>simp [hb] at h
 |some lh=>
  obtain⟨l,hh⟩:=lh
  simp [hb] at h
  subst h
  unfold Instr.sliceAt Instr.slice
  simp only[Sem.run_bind,run_underlying hu w,Result.andThen_ok,Sem.run_pure,Option.isSome_none,Bool.false_eq_true,if_false,bnd_run hb]
theorem b2s_run {s d el:TypeId}(hs:P.underlying s=some (.slice el))(hd:P.underlying d=some .string)(he:P.underlying el=some (.int .u8)){x v:Value}(h:b2sR w x=some v):
  (convert s d x).run P w=.ok v w:=by
 unfold b2sR at h
 have base:∀y:Value,(∀k n,y≠ .int k n)→(∀k n,y≠ .float k n)→(∀k n m,y≠ .complex k n m)→(∀b,y≠ .string b)→(convert s d y).run P w=(Conv.bytesToString y).run P w:=by
  intro y h1 h2 h3 h4
  unfold convert
  simp only[Sem.run_bind,run_underlying hs w,run_underlying hd w,Result.andThen_ok]
  cases y<;>simp_all [run_underlying he w]
 split at h
 ·rw[base _ (by simp) (by simp) (by simp) (by simp)]
  simp at h;subst h
  simp [Conv.bytesToString]
 ·rename_i a n c
  rw[base _ (by simp) (by simp) (by simp) (by simp)]
  split at h
  ·rename_i h0
   simp at h;subst h;subst h0
   simp [Conv.bytesToString,loadCells,loadCellsFrom]
  obtain⟨b,o,sp⟩:=a
  cases sp
  case some=>cases h
  simp only at h
  cases hr:rdN w b o n with
  |none=>simp [hr] at h
  |some cs=>
   cases hb:bytesOf cs.toList with
   |none=>simp [hr,hb] at h
   |some l=>
    simp [hr,hb] at h
    subst h
    have hns:∀(vs:List Value) (l:List UInt8),bytesOf vs=some l→∃ns:List Int,vs=ns.map (fun m=>.int .u8 m)∧l=ns.map fun m=>UInt8.ofNat m.toNat:=by
     intro vs
     induction vs with
     |nil=>intro l h;simp [bytesOf] at h;exact⟨[],rfl,h⟩
     |cons c vs ih=>
      intro l h
      cases c with
      |int k m=>
       cases k<;>try (simp [bytesOf] at h;done)
       simp only[bytesOf] at h
       cases hq:bytesOf vs with
       |none=>simp [hq] at h
       |some l'=>
        simp [hq] at h
        obtain⟨ns,h1,h2⟩:=ih l' hq
        exact⟨m::ns,by simp [h1],by simp [←h,h2]⟩
      |_=>simp [bytesOf] at h
    obtain⟨ns,h1,h2⟩:=hns _ _ hb
    have h3:=run_bytesToString (P:=P) w ⟨b,o,none⟩ n c ns (by rw[rdN_run hr,←h1])
    rw[h3]
    have h4:∀(ns:List Int) (r:ByteArray),ns.foldl (fun r n=>r.push (UInt8.ofNat n.toNat)) r=⟨(r.data.toList++ns.map fun m=>UInt8.ofNat m.toNat).toArray⟩:=by
     intro ns
     induction ns with
     |nil=>intro r;simp
     |cons m ns ih=>intro r;rw[List.foldl_cons,ih];simp [ByteArray.push]
    rw[h4,h2]
    rfl
 ·cases h
theorem compQ_sound {o:Oper}{i:QI}(hc:compQ P o=some i){n:Nat}{e:Env}{a:Act}{ds:List Deferred}(ha:AgreeD ds n e a){v:Value}(hv:qiR e w i=some v):
  (execOp a.eval o).run P w=.ok (.value v) w:=by
 have hev:∀{x u},ev e x=some u→a.eval x=u:=fun h=>ha.ev h
 have bnd:∀{x} {f:Value→Option Value} {u},(ev e x).bind f=some u→f (a.eval x)=some u:=fun {x f u} h=>by
  cases hx:ev e x with
  |none=>simp [hx] at h
  |some y=>simp [hx] at h;rw[hev hx];exact h
 have bndO:∀{x:Option Operand} {f:Option Value→Option Value} {u},(evO e x).bind f=some u→f (x.map a.eval)=some u:=fun {x f u} h=>by
  cases x with
  |none=>simpa [evO] using h
  |some x=>
   cases hx:ev e x with
   |none=>simp [evO,hx] at h
   |some y=>simp [evO,hx] at h;rw[Option.map_some,hev hx];exact h
 have two:∀{x y} {f:Value→Value→Option Value} {u},((ev e x).bind fun x=>(ev e y).bind fun y=>f x y)=some u→f (a.eval x) (a.eval y)=some u:=fun {x y f u} h=>by
  have h1:=bnd (x:=x) (f:=fun x'=>(ev e y).bind fun y'=>f x' y') h
  exact bnd (x:=y) (f:=fun y'=>f (a.eval x) y') h1
 obtain⟨dst,op,ty,pos,aft,gd⟩:=o
 have hnc:∀x,op=.nilCheck x→nilR (a.eval x)=some v→(execOp a.eval ⟨dst,op,ty,pos,aft,gd⟩).run P w=.ok (.value v) w:=fun x hx h=>nil_run hx h
 unfold execOp
 cases op<;>simp only[compQ] at hc<;>try (cases hc;done)
 case move x=>simp at hc;subst hc;simp only[qiR] at hv;simp only[hev hv];rfl
 case assign x=>simp at hc;subst hc;simp only[qiR] at hv;simp only[hev hv];rfl
 case pick c x y=>
  simp at hc;subst hc
  simp only[qiR] at hv
  have h1:=bnd (x:=c) (f:=fun c'=>(ev e x).bind fun a'=>(ev e y).bind fun b'=>pickR c' a' b') hv
  have h2:pickR (a.eval c) (a.eval x) (a.eval y)=some v:=two (f:=fun x' y'=>pickR (a.eval c) x' y') h1
  unfold pickR at h2
  split at h2
  ·rename_i hcv;simp at h2;subst h2;simp [hcv,asBool]
  ·rename_i hcv;simp at h2;subst h2;simp [hcv,asBool]
  ·cases h2
 case nilCheck x=>simp at hc;subst hc;simp only[qiR] at hv;exact hnc x rfl (bnd hv)
 case binOp op t x y yt=>
  split at hc
  ·simp at hc;subst hc;simp only[qiR] at hv
   have:=bin_run (P:=P) (w:=w) (t:=t) (two hv) x y
   simp only[Sem.run_bind] at this⊢;rw[this];rfl
  ·simp at hc;subst hc;simp only[qiR] at hv
   have:=bin_run (P:=P) (w:=w) (t:=t) (two hv) x y
   simp only[Sem.run_bind] at this⊢;rw[this];rfl
  ·rename_i hu
   split at hc<;>simp at hc<;>subst hc<;>simp only[qiR] at hv
   ·have:=eqB_run (w:=w) hu (two hv) x y;simp only[Sem.run_bind] at this⊢;simp only[Bool.false_eq_true,if_false] at this;rw[this];rfl
   ·have:=eqB_run (w:=w) hu (two hv) x y;simp only[Sem.run_bind] at this⊢;simp only[if_true] at this;rw[this];rfl
  ·rename_i el hu
   split at hc
   ·rename_i hi
    split at hc<;>simp at hc<;>subst hc<;>simp only[qiR] at hv
    ·have:=eqP_run (w:=w) hu hi (two hv) x y;simp only[Sem.run_bind] at this⊢;simp only[Bool.false_eq_true,if_false] at this;rw[this];rfl
    ·have:=eqP_run (w:=w) hu hi (two hv) x y;simp only[Sem.run_bind] at this⊢;simp only[if_true] at this;rw[this];rfl
   ·cases hc
  ·rename_i hu
   split at hc<;>simp at hc<;>subst hc<;>simp only[qiR] at hv
   ·have:=eqS_run (w:=w) hu (two hv) x y;simp only[Sem.run_bind] at this⊢;simp only[Bool.false_eq_true,if_false] at this;rw[this];rfl
   ·have:=eqS_run (w:=w) hu (two hv) x y;simp only[Sem.run_bind] at this⊢;simp only[if_true] at this;rw[this];rfl
  ·rename_i hu
   split at hc<;>simp at hc<;>subst hc<;>simp only[qiR] at hv
   ·have:=eqM_run (w:=w) hu (two hv) x y;simp only[Sem.run_bind] at this⊢;simp only[Bool.false_eq_true,if_false] at this;rw[this];rfl
   ·have:=eqM_run (w:=w) hu (two hv) x y;simp only[Sem.run_bind] at this⊢;simp only[if_true] at this;rw[this];rfl
  ·rename_i hu
   split at hc
   ·rename_i hn
    simp only[Bool.or_eq_true] at hn
    split at hc<;>simp at hc<;>subst hc<;>simp only[qiR] at hv
    ·have:=eqI_run (w:=w) hu (two hv) hn;simp only[Sem.run_bind] at this⊢;simp only[Bool.false_eq_true,if_false] at this;rw[this];rfl
    ·have:=eqI_run (w:=w) hu (two hv) hn;simp only[Sem.run_bind] at this⊢;simp only[if_true] at this;rw[this];rfl
   ·cases hc
  all_goals (try (cases hc;done))
  all_goals
   rename_i hu
   split at hc
   ·cases hc
   ·rename_i hgt
    cases hl:layT P 16 t with
    |none=>simp [hl] at hc
    |some l=>
     simp only[hl,Option.bind_some] at hc
     have hgt':P.eqGuardType P.depth t=false:=by simpa using hgt
     split at hc<;>simp at hc<;>subst hc<;>simp only[qiR,skR_rleS] at hv
     ·have:=eqA_run (w:=w) hgt' hl (two hv) x y (by first|exact .inl ⟨_,hu⟩|exact .inr ⟨_,_,hu⟩);simp only[Sem.run_bind] at this⊢;simp only[Bool.false_eq_true,if_false] at this;rw[this];rfl
     ·have:=eqA_run (w:=w) hgt' hl (two hv) x y (by first|exact .inl ⟨_,hu⟩|exact .inr ⟨_,_,hu⟩);simp only[Sem.run_bind] at this⊢;simp only[if_true] at this;rw[this];rfl
 case unOp op t x=>
  split at hc<;>simp at hc<;>subst hc<;>simp only[qiR] at hv
  ·have h:=bnd hv
   unfold notR at h
   split at h
   ·rename_i b hb;simp at h;subst h;simp only[hb];simp [Op.unary]
   ·cases h
  ·have h:=bnd hv
   unfold negR at h
   split at h
   ·rename_i k m hb;simp at h;subst h;simp only[hb];simp [Op.unary,Op.intArith]
   ·cases h
  ·have h:=bnd hv
   unfold bnotR at h
   split at h
   ·rename_i k m hb;simp at h;subst h;simp only[hb];simp [Op.unary,Op.intBits]
   ·cases h
 case convert s d x=>
  split at hc
  ·rename_i k' k hs hd
   simp at hc;subst hc;simp only[qiR] at hv
   have h:=bnd hv
   unfold cviR at h
   split at h
   ·rename_i k2 m hb
    simp at h;subst h
    simp only[hb]
    unfold convert
    simp [run_underlying hs w,run_underlying hd w,Conv.intToInt]
   ·cases h
  ·rename_i el hs hd
   split at hc
   ·rename_i he
    simp at hc;subst hc;simp only[qiR] at hv
    have:=b2s_run (w:=w) hs hd he (bnd hv)
    simp [this]
   ·cases hc
  ·cases hc
 case fieldAddr s x f=>
  cases hf:fieldsOf P s with
  |none=>simp [hf] at hc
  |some fs=>
   cases hk:fs[f]? with
   |none=>simp [hf,hk] at hc
   |some fd=>
    cases hs:sizeT P fd.type with
    |none=>simp [hf,hk,hs] at hc
    |some m=>
     simp [hf,hk,hs] at hc
     obtain⟨hm,rfl⟩:=hc
     simp only[qiR] at hv
     have:=fieldAt_run (w:=w) hf hk hs hm (bnd hv)
     simp [this]
 case field s x f=>
  cases hf:fieldsOf P s with
  |none=>simp [hf] at hc
  |some fs=>
   cases hk:fs[f]? with
   |none=>simp [hf,hk] at hc
   |some fd=>
    cases hs:partQ P fd.type with
    |none=>simp [hf,hk,hs] at hc
    |some m=>
     simp [hf,hk,hs] at hc
     subst hc
     simp only[qiR] at hv
     have:=field_run (w:=w) hf hk hs (bnd hv)
     simp [this]
 case indexAddr t x i=>
  split at hc
  ·rename_i len el hu
   cases hs:sizeT P el with
   |none=>simp [hs] at hc
   |some s=>
    simp [hs] at hc;subst hc;simp only[qiR] at hv
    have:=indexAtA_run (w:=w) hu hs (two hv)
    simp [this]
  ·rename_i el hu
   cases hs:sizeT P el with
   |none=>simp [hs] at hc
   |some s=>
    simp [hs] at hc;subst hc;simp only[qiR] at hv
    have:=indexAtS_run (w:=w) hu hs (two hv)
    simp [this]
  ·cases hc
 case index t x i=>
  split at hc
  ·rename_i len el hu
   cases hs:sizeT P el with
   |none=>simp [hs] at hc
   |some s=>
    cases hg:aggT P el with
    |none=>simp [hs,hg] at hc
    |some g=>
     simp [hs,hg] at hc;subst hc;simp only[qiR] at hv
     have:=index_run (w:=w) hu hs hg (two hv)
     simp [this]
  ·rename_i hu
   simp at hc;subst hc;simp only[qiR] at hv
   have:=indexS_run (P:=P) (w:=w) hu (two hv)
   simp [this]
  ·cases hc
 case load t x=>
  split at hc
  ·rename_i hg
   cases hs:sizeT P t with
   |none=>simp [hs] at hc
   |some m=>
    simp [hs] at hc
    obtain⟨_,rfl⟩:=hc
    simp only[qiR] at hv
    have h:=bnd hv
    unfold ldNR at h
    split at h
    ·rename_i b o hb
     cases hr:rdN w b o m with
     |none=>simp [hr] at h
     |some cs=>
      simp [hr] at h;subst h
      simp only[hb]
      simp [Instr.loadAt,Instr.sureAddr,loadVar,aggT_run hg,sizeT_run hs,rdN_run hr]
    ·cases h
  ·rename_i hg
   simp at hc;subst hc;simp only[qiR] at hv
   have h:=bnd hv
   unfold ld1R at h
   split at h
   ·rename_i ad hb
    simp only[hb]
    simp [Instr.loadAt,Instr.sureAddr,loadVar,aggT_run hg,h]
   ·cases h
  ·cases hc
 case extract x k=>
  simp at hc;subst hc;simp only[qiR] at hv
  have h:=bnd hv
  unfold extR at h
  split at h
  ·rename_i vs hb
   simp only[hb]
   simp [Instr.extract,h]
  ·cases h
 case slice t x lo hi mx=>
  have three:∀{f:Option Value→Option Value→Value→Option Value},((ev e x).bind fun x=>(evO e lo).bind fun lo=>(evO e hi).bind fun hi=>f lo hi x)=some v→
    f (lo.map a.eval) (hi.map a.eval) (a.eval x)=some v:=fun {f} h=>by
   have h1:=bnd (x:=x) (f:=fun x=>(evO e lo).bind fun lo=>(evO e hi).bind fun hi=>f lo hi x) h
   have h2:=bndO (x:=lo) (f:=fun lo=>(evO e hi).bind fun hi=>f lo hi (a.eval x)) h1
   exact bndO (x:=hi) (f:=fun hi=>f (lo.map a.eval) hi (a.eval x)) h2
  cases mx with
  |some mx=>
   simp only at hc
   split at hc
   ·rename_i el hi' hu
    cases hs:sizeT P el with
    |none=>simp [hs] at hc
    |some s=>
     simp [hs] at hc;subst hc;simp only[qiR] at hv
     have h1:=bnd (x:=x) (f:=fun x=>(evO e lo).bind fun lo=>(ev e hi').bind fun hi=>(ev e mx).bind fun mx=>slc3R s lo hi mx x) hv
     have h2:=bndO (x:=lo) (f:=fun lo=>(ev e hi').bind fun hi=>(ev e mx).bind fun mx=>slc3R s lo hi mx (a.eval x)) h1
     have h3:=two (x:=hi') (y:=mx) (f:=fun hi mx=>slc3R s (lo.map a.eval) hi mx (a.eval x)) h2
     have:=slc3_run (w:=w) hu hs h3
     simp [this]
   ·cases hc
  |none=>
   simp only at hc
   split at hc
   ·rename_i len el hu
    cases hs:sizeT P el with
    |none=>simp [hs] at hc
    |some s=>
     simp [hs] at hc;subst hc;simp only[qiR] at hv
     have:=slcA_run (w:=w) hu hs (three hv)
     simp [this]
   ·rename_i el hu
    cases hs:sizeT P el with
    |none=>simp [hs] at hc
    |some s=>
     simp [hs] at hc;subst hc;simp only[qiR] at hv
     have:=slcS_run (w:=w) hu hs (three hv)
     simp [this]
   ·rename_i hu
    simp at hc;subst hc;simp only[qiR] at hv
    have:=slcT_run (P:=P) (w:=w) hu (three hv)
    simp [this]
   ·cases hc
 case build t ps=>
  cases hp:placeOf P t with
  |none=>simp [hp] at hc
  |some pl=>
   cases hz:(P.info? t).bind (·.zero) with
   |none=>simp only[hp,hz,Option.bind_some,Option.bind_none] at hc;cases hc
   |some z=>
    cases hs:segs pl 0 z.cells.toList ps.toList with
    |none=>simp only[hp,hz,hs,Option.bind_some,Option.map_none] at hc;cases hc
    |some sg=>
     simp only[hp,hz,hs,Option.bind_some,Option.map_some,Option.some.injEq] at hc
     subst hc
     simp only[qiR] at hv
     cases hpr:partsR e sg with
     |none=>simp [hpr] at hv
     |some out=>
      simp [hpr] at hv;subst hv
      have:=build_run (w:=w) hp hz hs (ρ:=a.eval) (fun x v h=>hev h) hpr
      simp only[Sem.run_bind,this,Result.andThen_ok,Sem.run_pure]
 case lookup t m k ok=>
  unfold compLkp at hc
  cases hk:keyOfMap P t with
  |none=>simp [hk] at hc
  |some lge=>
   obtain⟨lay,g,el⟩:=lge
   cases hu:aggU P el with
   |none=>simp [hk,hu] at hc
   |some za=>
    cases hz:(P.info? el).bind (·.zero) with
    |none=>simp only[hk,hu,hz,Option.bind_some,Option.bind_none] at hc;cases hc
    |some z=>
     simp only[hk,hu,hz,Option.bind_some] at hc
     have hfin:∀q,zvR za q=z→some (QI.lkp (rleS lay) g za q ok m k)=some i→(do pure (Next.value (←Instr.lookup t (a.eval m) (a.eval k) ok)):Sem Next).run P w=.ok (.value v) w:=by
      intro q hq hi
      simp only[Option.some.injEq] at hi
      subst hi
      simp only[qiR,skR_rleS,hq] at hv
      have:=lkp_run (w:=w) hk hz (two (f:=fun m k=>lkpR lay g z ok w m k) hv)
      simp only[Sem.run_bind,this,Result.andThen_ok,Sem.run_pure]
     cases za with
     |true=>
      cases z<;>simp only[if_true,Option.map_none,Option.map_some] at hc<;>try (cases hc;done)
      rename_i cs
      exact hfin _ (by simp [zvR,zc_rle]) hc
     |false=>
      simp only[Bool.false_eq_true,if_false] at hc
      split at hc
      ·exact hfin _ (by simp [zvR,runs]) hc
      ·simp at hc
 case makeInterface t x=>
  split at hc<;>simp at hc<;>subst hc<;>simp only[qiR] at hv<;>
  (rename_i hu
   cases hx:ev e x with
   |none=>simp [hx] at hv
   |some u=>simp [hx] at hv;subst hv;simp only[hev hx];simp [Instr.makeInterface,run_underlying hu w])
 case makeFunc fn first cap=>
  cases fn with
  |func f=>
   simp at hc;subst hc
   simp only[qiR] at hv
   cases h1:evs e first.toList with
   |none=>simp [h1] at hv
   |some fs=>
    cases h2:evs e cap.toList with
    |none=>simp [h1,h2] at hv
    |some cs=>
     simp [h1,h2] at hv;subst hv
     have e1:first.map a.eval=fs.toArray:=by apply Array.ext';simpa using ha.evs h1
     have e2:cap.map a.eval=cs.toArray:=by apply Array.ext';simpa using ha.evs h2
     simp [Instr.makeFunc,e1,e2]
  |_=>simp at hc
 case typeAssert x xt t ok=>
  cases ok with
  |false=>
   simp only at hc
   split at hc
   ·cases hc
   ·rename_i u hni hu
    simp at hc;subst hc
    simp only[qiR] at hv
    have h:=bnd hv
    unfold taR at h
    split at h
    ·rename_i u' v' hb
     split at h
     ·rename_i hut
      simp at h;subst h
      simp only[hb]
      cases u<;>first|(exact(hni _ rfl).elim)|simp [Instr.typeAssert,run_underlying hu w,hut]
     ·cases h
    ·cases h
   ·cases hc
  |true=>
   simp only at hc
   split at hc
   ·rename_i k k' n hu hz
    split at hc
    ·rename_i hk
     obtain⟨rfl,rfl⟩:=hk
     simp at hc;subst hc
     simp only[qiR] at hv
     have h:=bnd hv
     have hzv:(zeroValue t).run P w=.ok (.int k' 0) w:=by
      cases hi:P.info? t with
      |none=>simp [hi] at hz
      |some ti=>
       simp [hi] at hz
       simp [zeroValue,typeInfo,hi,hz]
     unfold tasR at h
     split at h
     ·rename_i hb;simp at h;subst h
      simp only[hb]
      simp [Instr.typeAssert,run_underlying hu w,hzv]
     ·rename_i u v' hb
      simp at h;subst h
      simp only[hb]
      by_cases hut:u=t
      ·simp [Instr.typeAssert,run_underlying hu w,hut]
      ·simp [Instr.typeAssert,run_underlying hu w,hut,hzv]
     ·cases h
    ·cases hc
   ·cases hc
 case call c=>
  obtain⟨callee,args,argTypes⟩:=c
  split at hc
  ·rename_i i' hcl
   simp only[Option.some.injEq] at hc
   subst hc
   unfold compLen at hcl
   cases callee<;>simp only at hcl<;>try (cases hcl;done)
   rename_i bi
   cases bi<;>simp only at hcl<;>try (cases hcl;done)
   split at hcl
   ·rename_i x t hx ht
    have hx':args=#[x]:=by apply Array.ext';simpa using hx
    have ht':argTypes=#[t]:=by apply Array.ext';simpa using ht
    subst hx' ht'
    split at hcl
    ·rename_i hu
     simp at hcl;subst hcl;simp only[qiR] at hv
     have:=lenT_run (P:=P) (w:=w) hu (bnd hv) ty
     simp [resolve,invoke,builtin,this]
    ·rename_i el hu
     simp at hcl;subst hcl;simp only[qiR] at hv
     have:=len_run (P:=P) (w:=w) hu (bnd hv) ty
     simp [resolve,invoke,builtin,this]
    ·rename_i ke el hu
     simp at hcl;subst hcl;simp only[qiR] at hv
     have:=lenM_run (P:=P) (w:=w) hu (bnd hv) ty
     simp [resolve,invoke,builtin,this]
    ·cases hcl
   ·cases hcl
  ·split at hc
   ·rename_i i' hmm
    simp only[Option.some.injEq] at hc
    subst hc
    have hargs:∀vs,evs e args.toList=some vs→args.map a.eval=vs.toArray:=fun vs h=>by
     apply Array.ext';simpa using ha.evs h
    unfold compMM at hmm
    cases callee with
    |value f=>cases hmm
    |invoke r m=>cases hmm
    |builtin bi=>
    cases bi<;>simp only at hmm<;>try (cases hmm;done)
    ·simp at hmm;subst hmm;simp only[qiR] at hv
     cases hvs:evs e args.toList with
     |none=>simp [hvs] at hv
     |some vs=>
      simp only[hvs,Option.bind_some] at hv
      have:=max_run (P:=P) (w:=w) hv argTypes ty
      simp [resolve,invoke,builtin,hargs vs hvs,this]
    ·simp at hmm;subst hmm;simp only[qiR] at hv
     cases hvs:evs e args.toList with
     |none=>simp [hvs] at hv
     |some vs=>
      simp only[hvs,Option.bind_some] at hv
      have:=min_run (P:=P) (w:=w) hv argTypes ty
      simp [resolve,invoke,builtin,hargs vs hvs,this]
   ·unfold compCap at hc
    cases callee with
    |value f=>cases hc
    |invoke r m=>cases hc
    |builtin bi=>
    cases bi<;>simp only at hc<;>try (cases hc;done)
    split at hc
    ·rename_i x t hx ht
     have hx':args=#[x]:=by apply Array.ext';simpa using hx
     have ht':argTypes=#[t]:=by apply Array.ext';simpa using ht
     subst hx' ht'
     split at hc
     ·rename_i el hu
      simp at hc;subst hc;simp only[qiR] at hv
      have h:=bnd hv
      unfold capR at h
      split at h
      ·rename_i p n' c' hb
       simp at h;subst h
       simp [resolve,invoke,builtin,Builtin.cap_,run_underlying hu w,hb,goInt]
      ·cases h
     ·cases hc
    ·cases hc
end
end Go.Vc
