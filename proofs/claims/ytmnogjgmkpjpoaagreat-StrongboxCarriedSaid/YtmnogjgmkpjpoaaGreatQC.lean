/- Loud operations: what each asks, and the world behind it; and that the model runs it so. -/
import Derived.Test.YtmnogjgmkpjpoaaGreatQB
import Derived.Laws.IdiomStrings
import Derived.Lib.SlBytesConst
set_option linter.unusedSimpArgs false
set_option linter.unusedVariables false
set_option linter.constructorNameAsVariable false
namespace Go.Vc
def getV {α:Type}(o:Option α)(K:α→Prop):Prop:=
 match o with
 |some v=>K v
 |none=>False
@[congr] theorem getV_congr {α:Type} {o o':Option α} {K:α→Prop} (h:o=o'):getV o K=getV o' K:=by rw[h]
theorem getV_some {α:Type}(v:α)(K:α→Prop):getV (some v) K=K v:=id rfl
def callV (P:Program)(R:Ending→World→Prop)(f:FuncId)(vs:List Value)(w:World)(K:Value→World→Prop):Prop:=
 Calls P f vs.toArray w fun en w'=>match en with
  | .returned v=>K v w'
  | .panicked c=>R (.panicked c) w'
  | .outgrown=>R .outgrown w'
def plainF (P:Program)(g:FuncId):Bool:=
 match P.funcs[g]? with
 |some fn=> !(fn.name== "runtime.NumGoroutine")&& !fn.body.isNone
 |none=>false
def callvV (P:Program)(R:Ending→World→Prop)(fv:Value)(vs:List Value)(w:World)(K:Value→World→Prop):Prop:=
 match fv with
 | .func (.func g) first cap=>plainF P g=true∧callV P R g (first.toList++vs++cap.toList) w K
 |_=>False
def callxV (P:Program)(f:FuncId)(vs:List Value)(w:World)(K:Value→World→Prop):Prop:=∃v w',(callFunc f vs.toArray).run P w=.ok (.value v) w'∧K v w'
def runV (P:Program)(s:Sem Value)(w:World)(K:Value→World→Prop):Prop:=∃v w',s.run P w=.ok v w'∧K v w'
def bixV (P:Program)(b:Builtin)(ts:List TypeId)(ty:TypeId)(cs:List Bool)(vs:List Value)(w:World)(K:Value→World→Prop):Prop:=∃v w',(builtin b ts.toArray ty cs.toArray vs.toArray).run P w=.ok (.value v) w'∧K v w'
def cvxV (P:Program)(s d:TypeId)(x:Value)(w:World)(K:Value→World→Prop):Prop:=runV P (convert s d x) w K
def rngV (P:Program)(t:TypeId)(x:Value)(w:World)(K:Value→World→Prop):Prop:=runV P (Instr.range t x) w K
def nxtV (P:Program)(isS:Bool)(ty:TypeId)(x:Value)(w:World)(K:Value→World→Prop):Prop:=runV P (Instr.next x isS ty) w K
def entV (P:Program)(x:Value)(w:World)(K:Value→World→Prop):Prop:=runV P (Instr.entry x) w K
def bldxV (P:Program)(t:TypeId)(js:List Nat)(vs:List Value)(w:World)(K:Value→World→Prop):Prop:=runV P (Instr.build t (js.zip vs).toArray) w K
theorem callV_of {P:Program}{R:Ending→World→Prop}{f:FuncId}{vs:List Value}{w:World}{K:Value→World→Prop}{φ:Ending→World→Prop}
  (h:Calls P f vs.toArray w φ) (hk:∀en w',φ en w'→∃v,en=.returned v∧K v w'):callV P R f vs w K:=
 h.mono fun en w' hp=>by obtain⟨v,rfl,hv⟩:=hk en w' hp;exact hv
def zrep (n:Nat)(z:List Value):List Value:=(List.replicate n z).flatten
theorem zrep_one (n:Nat)(v:Value):zrep n [v]=List.replicate n v:=by
 induction n with
 |zero=>rfl
 |succ n ih=>simp only[zrep,List.replicate_succ,List.flatten_cons] at ih⊢;rw[ih];rfl
theorem length_zrep (n:Nat)(z:List Value):(zrep n z).length=n*z.length:=by simp [zrep]
def rdS (w:World)(size:Nat):Value→Option (Array Value)
 | .slice p n _=>if n=0 then some #[] else match p with
  |some ⟨b,o,none⟩=>rdN w b o (n*size)
  |_=>none
 |_=>none
end Go.Vc
namespace Go
def World.putN (w:World)(b o:Nat)(cs:Array Value):World:=
 match w.heap[b]? with
 |some (.cells c _ _)=>w.setRow b (Vc.spliceA c o cs)
 |_=>w
end Go
namespace Go.Vc
def okN (w:World)(b o n:Nat):Prop:=∃c t fr,w.heap[b]?=some (.cells c t fr)∧o+n≤c.size∧(fr=(0,0)∨o+n≤fr.1)
inductive LI where
 |alloc (t:TypeId) (z:List (Nat×Value))
 |box (t:TypeId) (x:Operand)
 |st1 (a x:Operand)
 |stN (n:Nat) (a x:Operand)
 |call (f:FuncId) (xs:List Operand)
 |callx (f:FuncId) (xs:List Operand)
 |bix (b:Builtin) (ts:List TypeId) (ty:TypeId) (cs:List Bool) (xs:List Operand)
 |cvx (s d:TypeId) (x:Operand)
 |bldx (t:TypeId) (js:List Nat) (xs:List Operand)
 |rng (t:TypeId) (x:Operand)
 |nxt (isS:Bool) (ty:TypeId) (x:Operand)
 |ent (x:Operand)
 |callv (x:Operand) (xs:List Operand)
 |mkS (el size bytes:Nat) (z:List (Nat×Value)) (l c:Operand)
 |bldS (el size:Nat) (xs:List Operand)
 |app (el size bytes:Nat) (z:List (Nat×Value)) (s x:Operand)
 |cpy (size:Nat) (d s:Operand)
 |mkM
 |s2b (el:Nat) (x:Operand)
 |mks (el:Nat) (x:Operand)
 |mapU (lay:List (Nat×SK)) (kagg:Bool) (m k v:Operand)
 |mapD (lay:List (Nat×SK)) (kagg:Bool) (m k:Operand)
 |pan (x:Operand)
 deriving Inhabited
end Go.Vc
namespace Go
def World.setO (w:World)(r:Nat)(o:Obj):World:={w with heap:=w.heap.setIfInBounds r o}
end Go
namespace Go.Vc
noncomputable def putE (k v:Value)(es:Array MapEntry)(c:Nat):Obj:=
 match fnd k es.toList 0 with
 |some (i,_)=>.map (es.modify i fun e=>{e with key:=k,val:=v}) c
 |none=>.map (es.push {key:=k,val:=v,born:=c}) (c+1)
noncomputable def delE (k:Value)(es:Array MapEntry)(c:Nat):Obj:=
 match fnd k es.toList 0 with
 |some (i,_)=>.map (es.eraseIdxIfInBounds i) c
 |none=>.map es c
def mapUV (lay:List SK)(kagg:Bool)(m k v:Value)(w:World)(K:World→Prop):Prop:=
 match m with
 | .map (some r)=>kOK lay kagg k=true∧getV (mapE lay kagg w r) fun ec=>K (w.setO r (putE k v ec.1 ec.2))
 |_=>False
def mapDV (lay:List SK)(kagg:Bool)(m k:Value)(w:World)(K:World→Prop):Prop:=
 match m with
 | .map none=>kOK lay kagg k=true∧K w
 | .map (some r)=>kOK lay kagg k=true∧getV (mapE lay kagg w r) fun ec=>K (w.setO r (delE k ec.1 ec.2))
 |_=>False
def panV (R:Ending→World→Prop)(x:Value)(w:World):Prop:=
 match x with
 | .iface _ _=>R (.panicked [{v:=x,recovered:=false}]) w
 |_=>False
def st1V (a v:Value)(w:World)(K:World→Prop):Prop:=
 match a with
 | .pointer (some ⟨b,o,none⟩)=>v.oneCell'=true∧wr1 w b o∧K (w.setCell ⟨b,o,none⟩ v)
 |_=>False
def stNV (n:Nat)(a v:Value)(w:World)(K:World→Prop):Prop:=
 match a,v with
 | .pointer (some ⟨b,o,none⟩),.agg cs=>cs.size=n∧flat cs∧okN w b o n∧K (w.putN b o cs)
 |_,_=>False
def mkSV (el size bytes:Nat)(z:List Value)(l c:Value)(w:World)(K:Value→World→Prop):Prop:=
 match l,c with
 | .int _ l,.int _ c=>0≤l∧l≤c∧c≤9223372036854775807∧(bytes:Int)*c≤281474976710656∧z.length=size∧
  K (.slice (some ⟨w.heap.size,0,none⟩) l.toNat c.toNat) (w.alloc (.cells (zrep c.toNat z).toArray el))
 |_,_=>False
def catV (size:Nat):List Value→Option (List Value)
 |[]=>some []
 |v::vs=>if v.cells.size=size then (catV size vs).map (v.cells.toList++ ·) else none
def appV (el size bytes:Nat)(z:List Value)(s x:Value)(w:World)(K:Value→World→Prop):Prop:=
 match s,x with
 | .slice p n c,.slice q m d=>
  getV (rdS w size (.slice p n c)) fun olds=>getV (rdS w size (.slice q m d)) fun news=>
   flat news∧n+m≤maxLen∧(n+m)*bytes≤140737488355328∧z.length=size∧
   (n+m≤c→(m*size=0→K (.slice p (n+m) c) w)∧
    (m*size≠0→∀b o,p=some ⟨b,o,none⟩→okN w b (o+n*size) (m*size)∧K (.slice p (n+m) c) (w.putN b (o+n*size) news)))∧
   (n+m≤c→m*size≠0→∃b o,p=some ⟨b,o,none⟩)∧
   (c<n+m→∀c',n+m≤c'→c'≤maxLen→
    K (.slice (some ⟨w.heap.size,0,none⟩) (n+m) c') (w.drew.alloc (.cells (olds.toList++news.toList++zrep (c' - (n+m)) z).toArray el)))
 |_,_=>False
def cpyV (size:Nat)(d s:Value)(w:World)(K:Value→World→Prop):Prop:=
 match d,s with
 | .slice p n _,.slice q m e=>
  getV (rdS w size (.slice q (Nat.min m n) e)) fun news=>
   flat news∧(Nat.min m n*size=0→K (.int .i64 (Nat.min m n)) w)∧
   (Nat.min m n*size≠0→∃b o,p=some ⟨b,o,none⟩∧okN w b o (Nat.min m n*size)∧K (.int .i64 (Nat.min m n)) (w.putN b o news))
 |_,_=>False
def s2bV (el:Nat)(x:Value)(w:World)(K:Value→World→Prop):Prop:=
 match x with
 | .string s=>s.size≤maxLen∧∀c,s.size≤c→c≤maxLen→
   K (.slice (some ⟨w.heap.size,0,none⟩) s.size c)
    (w.drew.alloc (.cells ((s.data.map fun b=>Value.int .u8 b.toNat)++Array.replicate (c - s.size) (.int .u8 0)) el (c,c+1)))
 |_=>False
def mksV (el:Nat)(x:Value)(w:World)(K:Value→World→Prop):Prop:=
 ∃(w0:World) (C:Array Value) (n c:Nat),w=w0.alloc (.cells C el)∧x=.slice (some ⟨w0.heap.size,0,none⟩) n c∧K x (w0.alloc (.cells C el (C.size,C.size+1)))
def liV (P:Program)(R:Ending→World→Prop)(e:Env)(w:World)(K:Value→World→Prop):LI→Prop
 | .alloc t z=>K (.pointer (some ⟨w.heap.size,0,none⟩)) (w.alloc (.cells (zc z) t))
 | .box t x=>getV (ev e x) fun v=>K (.pointer (some ⟨w.heap.size,0,none⟩)) (w.alloc (.cells v.cells t))
 | .st1 a x=>getV (ev e a) fun a=>getV (ev e x) fun x=>st1V a x w (K undef)
 | .stN n a x=>getV (ev e a) fun a=>getV (ev e x) fun x=>stNV n a x w (K undef)
 | .call f xs=>getV (evs e xs) fun vs=>callV P R f vs w K
 | .callx f xs=>getV (evs e xs) fun vs=>callxV P f vs w K
 | .bix b ts ty cs xs=>getV (evs e xs) fun vs=>bixV P b ts ty cs vs w K
 | .cvx s d x=>getV (ev e x) fun x=>cvxV P s d x w K
 | .bldx t js xs=>getV (evs e xs) fun vs=>bldxV P t js vs w K
 | .rng t x=>getV (ev e x) fun x=>rngV P t x w K
 | .nxt isS ty x=>getV (ev e x) fun x=>nxtV P isS ty x w K
 | .ent x=>getV (ev e x) fun x=>entV P x w K
 | .callv x xs=>getV (ev e x) fun fv=>getV (evs e xs) fun vs=>callvV P R fv vs w K
 | .mkS el size bytes z l c=>getV (ev e l) fun l=>getV (ev e c) fun c=>mkSV el size bytes (runs z) l c w K
 | .bldS el size xs=>getV ((evs e xs).bind (catV size)) fun cs=>
   K (.slice (some ⟨w.heap.size,0,none⟩) xs.length xs.length) (w.alloc (.cells cs.toArray el))
 | .app el size bytes z s x=>getV (ev e s) fun s=>getV (ev e x) fun x=>appV el size bytes (runs z) s x w K
 | .cpy size d s=>getV (ev e d) fun d=>getV (ev e s) fun s=>cpyV size d s w K
 | .mkM=>K (.map (some w.heap.size)) (w.alloc (.map #[] 0))
 | .s2b el x=>getV (ev e x) fun x=>s2bV el x w K
 | .mks el x=>getV (ev e x) fun x=>mksV el x w K
 | .mapU lay g m k v=>getV (ev e m) fun m=>getV (ev e k) fun k=>getV (ev e v) fun v=>mapUV (skR lay) g m k v w (K undef)
 | .mapD lay g m k=>getV (ev e m) fun m=>getV (ev e k) fun k=>mapDV (skR lay) g m k w (K (.tuple #[]))
 | .pan x=>getV (ev e x) fun x=>panV R x w
def zeroRuns (P:Program)(t:TypeId):Option (List (Nat×Value)):=
 ((P.info? t).bind (·.zero)).map fun z=>rle z.cells.toList
def partsInOrder:Nat→List (Nat×Operand)→Option (List Operand)
 |_,[]=>some []
 |k,(i,x)::r=>if i=k then (partsInOrder (k+1) r).map (x:: ·) else none
def compCall0 (P:Program)(c:Call):Option LI:=
 match c.callee with
 | .value (.func f)=>
  match P.funcs[f]? with
  |some fn=>if fn.name== "runtime.NumGoroutine" then none else if fn.body.isNone then some (.callx f c.args.toList) else some (.call f c.args.toList)
  |none=>none
 | .value (.tmp t)=>some (.callv (.tmp t) c.args.toList)
 | .builtin .append=>
  match c.args.toList,c.argTypes.toList with
  |[s,x],[t,u]=>
   match P.underlying t,P.underlying u with
   |some (.slice el),some (.slice _)=>
    match P.info? el,zeroRuns P el with
    |some i,some z=>some (.app el i.size i.bytes z s x)
    |_,_=>none
   |_,_=>none
  |_,_=>none
 | .builtin .copy=>
  match c.args.toList,c.argTypes.toList with
  |[d,s],[t,u]=>
   match P.underlying t,P.underlying u with
   |some (.slice el),some (.slice _)=>(sizeT P el).map fun n=>.cpy n d s
   |_,_=>none
  |_,_=>none
 | .builtin .delete=>
  match c.args.toList,c.argTypes.toList with
  |[m,k],[t,_]=>(keyOfMap P t).map fun lge=>.mapD (rleS lge.1) lge.2.1 m k
  |_,_=>none
 |_=>none
def bixOk:Builtin→Bool
 | .append| .copy| .clear| .unsafeString| .unsafeSliceData| .unsafeStringData| .unsafeSlice=>true
 |_=>false
def constsOf (c:Call):List Bool:=(c.args.map fun| .const _=>true|_=>false).toList
def compCall (P:Program)(ty:TypeId)(c:Call):Option LI:=
 match compCall0 P c with
 |some i=>some i
 |none=>match c.callee with
  | .builtin b=>if bixOk b then some (.bix b c.argTypes.toList ty (constsOf c) c.args.toList) else none
  |_=>none
def compL (P:Program)(o:Oper):Option LI:=
 match o.op with
 | .alloc t=>(zeroRuns P t).map fun z=>.alloc t z
 | .box t x=>some (.box t x)
 | .store t a x=>
  match aggT P t with
  |some true=>(sizeT P t).bind fun n=>if n=0 then none else some (.stN n a x)
  |some false=>if sizeT P t=some 1 then some (.st1 a x) else none
  |none=>none
 | .makeSlice t l c=>
  match P.underlying t with
  |some (.slice el)=>
   match P.info? el,zeroRuns P el with
   |some i,some z=>some (.mkS el i.size i.bytes z l c)
   |_,_=>none
  |_=>none
 | .buildSlice t len parts=>
  match P.underlying t with
  |some (.slice el)=>
   match sizeT P el,partsInOrder 0 parts.toList with
   |some n,some xs=>if xs.length=len∧len*n≤16777216∧((P.info? el).bind (·.zero)).map (·.cells.size)=some n then some (.bldS el n xs) else none
   |_,_=>none
  |_=>none
 | .makeMap _ r=>if r.isNone then some .mkM else none
 | .mapUpdate t m k v=>(keyOfMap P t).map fun lge=>.mapU (rleS lge.1) lge.2.1 m k v
 | .insert t m k v=>(keyOfMap P t).map fun lge=>.mapU (rleS lge.1) lge.2.1 m k v
 | .panic x=>some (.pan x)
 | .convert s d x=>
  match P.underlying s,P.underlying d with
  |some .string,some (.slice el)=>match P.underlying el with
   |some (.int .u8)=>some (.s2b el x)
   |_=>none
  |some (.slice _),some (.slice el)=>if s=d then (match P.underlying el with
   |some (.int .u8)=>some (.mks el x)
   |_=>none) else none
  |some (.pointer _),some .unsafePointer=>some (.cvx s d x)
  |some .unsafePointer,some (.pointer _)=>some (.cvx s d x)
  |_,_=>none
 | .call c=>compCall P o.type c
 | .build t ps=>match (placeOf P t).bind fun pl=>((P.info? t).bind (·.zero)).bind fun z=>segs pl 0 z.cells.toList ps.toList with
  |some _=>none
  |none=>some (.bldx t (ps.toList.map (·.1)) (ps.toList.map (·.2)))
 | .range t x=>some (.rng t x)
 | .next x isS=>some (.nxt isS o.type x)
 | .entry x=>some (.ent x)
 |_=>none
section
variable {P:Program} {w:World} {R:Ending→World→Prop}
theorem putN_of {b o:Nat}{cs c:Array Value}{t:TypeId}{fr:Nat×Nat}(hb:w.heap[b]?=some (.cells c t fr)):w.putN b o cs=w.setRow b (spliceA c o cs):=by
 simp [World.putN,hb]
theorem run_storeCells_ahead (g o:Nat)(t:TypeId)(fz:Nat×Nat):∀(vs:List Value) (i:Nat) (cur:Array Value) (w:World),w.heap[g]?=some (.cells cur t fz)→(fz=(0,0)∨o+i+vs.length≤fz.1)→o+i+vs.length≤cur.size→(∀v∈vs,v.oneCell'=true)→
  (storeCells ⟨g,o,none⟩ vs i).run P w=.ok () (w.setRow g (cur.toList.take (o+i)++vs++cur.toList.drop (o+i+vs.length)).toArray)
 |[],i,cur,w,hg,_,_,_=>by
  simp only[storeCells,List.append_nil,List.length_nil,Nat.add_zero,List.take_append_drop,Array.toArray_toList]
  rw[setRow_self w g cur t fz hg]
  rfl
 |v::rest,i,cur,w,hg,hfz,hl,h1=>by
  have hi:o+i<cur.size:=by simp at hl;omega
  have hadd:(⟨g,o,none⟩:Addr).add i=⟨g,o+i,none⟩:=by unfold Addr.add;split<;>simp_all
  have hcell:w.cell? ⟨g,o+i,none⟩=some cur[o+i]:=by simp [World.cell?,hg,hi]
  have hfro:w.frozen? ⟨g,o+i,none⟩=false:=by
   obtain⟨lo,hi'⟩:=fz
   simp only[World.frozen?,hg,Bool.and_eq_false_iff,decide_eq_false_iff_not]
   rcases hfz with h|h
   ·cases h;right;omega
   ·left;simp only[List.length_cons] at h;omega
  have hst:(store ((⟨g,o,none⟩:Addr).add i) v).run P w=.ok () (w.setRow g (cur.setIfInBounds (o+i) v)):=by
   rw[hadd,run_store P w _ v _ (h1 v (by simp)),hcell]
   simp [hfro,setCell_eq_setRow w g (o+i) cur t fz v hg]
  have ih:=run_storeCells_ahead g o t fz rest (i+1) (cur.setIfInBounds (o+i) v) (w.setRow g (cur.setIfInBounds (o+i) v)) (setRow_heap w g cur _ t _ hg) (hfz.imp id fun h=>by simp only[List.length_cons] at h;omega) (by simp at hl⊢;omega) (fun x hx=>h1 x (by simp [hx]))
  simp only[storeCells,Sem.run_bind,hst,Result.andThen_ok,ih,setRow_setRow]
  congr 3
  have e:=list_seg_step cur.toList (o+i) v rest (by simp at hl⊢;omega)
  simpa [Array.toList_setIfInBounds,Nat.add_assoc] using e
theorem storeCells_run {b o:Nat}{cs:Array Value}(hf:flat cs)(hok:okN w b o cs.size):(storeCells ⟨b,o,none⟩ cs.toList).run P w=.ok () (w.putN b o cs):=by
 obtain⟨c,t,fr,hb,hle,hfr⟩:=hok
 rw[putN_of hb]
 have:=run_storeCells_ahead (P:=P) b o t fr cs.toList 0 c w hb (by simpa using hfr) (by simpa using hle) hf
 simpa [spliceA] using this
theorem rdN_some_size {b o n:Nat}{cs:Array Value}(h:rdN w b o n=some cs):cs.size=n:=(rdN_cell h).1
theorem rdS_run {size:Nat}{a:Option Addr}{n c:Nat}{cs:Array Value}(h:rdS w size (.slice a n c)=some cs):
  (Builtin.firstCells size n (.slice a n c)).run P w=.ok cs w∧cs.size=n*size:=by
 simp only[rdS] at h
 split at h
 ·rename_i hn;simp at h;subst h;subst hn
  cases a with
  |none=>exact⟨run_firstCells_none w size 0 _ _,by simp⟩
  |some a=>exact⟨by simp [Builtin.firstCells,loadCells,loadCellsFrom],by simp⟩
 ·split at h
  ·exact⟨by simp only[Builtin.firstCells];exact rdN_run h,rdN_some_size h⟩
  ·cases h
theorem fill_slice (size:Nat):∀(ps:List (Nat×Value)) (k:Nat) (cs:List Value),(∀i p,ps[i]?=some p→p.1=k+i)→catV size (ps.map (·.2))=some cs→
  ∀(pre z:List Value),pre.length=k*size→z.length=ps.length*size→
   Instr.fill (fun i=>some (i*size,size)) (pre++z).toArray ps=some (pre++cs).toArray
 |[],k,cs,_,hc,pre,z,_,hz=>by
  simp [catV] at hc;subst hc
  simp at hz;subst hz
  simp [Instr.fill]
 |(i,v)::ps,k,cs,hi,hc,pre,z,hpre,hz=>by
  have h0:=hi 0 (i,v) (by simp)
  simp at h0;subst h0
  simp only[List.map_cons,catV] at hc
  split at hc
  ·rename_i hv
   cases hq:catV size (ps.map (·.2)) with
   |none=>simp [hq] at hc
   |some l=>
    simp [hq] at hc
    subst hc
    have hlen:size≤z.length:=by rw[hz];simp [Nat.add_mul]
    simp only[Instr.fill,hv,ne_eq,not_true_eq_false,decide_false,Bool.false_or,decide_eq_true_eq]
    rw[if_neg (by simp [hpre,hz,Nat.add_mul])]
    have key:∀(vs:List Value) (p q r:List Value),q.length=vs.length→
      (vs.zipIdx p.length).foldl (fun cs (c,j)=>cs.setIfInBounds j c) (p++q++r).toArray=(p++vs++r).toArray:=by
     intro vs
     induction vs with
     |nil=>intro p q r hq;simp at hq;subst hq;simp
     |cons c vs ihv=>
      intro p q r hq
      cases q with
      |nil=>simp at hq
      |cons q0 q=>
       simp only[List.zipIdx_cons,List.foldl_cons]
       have:=ihv (p++[c]) q r (by simpa using hq)
       simp at this⊢
       exact this
    have key2:∀(vs:List Value) (b:Nat) (A:Array Value),
      (vs.zipIdx b).foldl (fun cs (c,j)=>cs.setIfInBounds (i*size+j) c) A=(vs.zipIdx (i*size+b)).foldl (fun cs (c,j)=>cs.setIfInBounds j c) A:=by
     intro vs
     induction vs with
     |nil=>intro b A;simp
     |cons c vs ihv=>intro b A;simp only[List.zipIdx_cons,List.foldl_cons];rw[ihv];rfl
    have e1:v.cells.zipIdx.foldl (fun cs (c,j)=>cs.setIfInBounds (i*size+j) c) (pre++z).toArray=(pre++v.cells.toList++z.drop size).toArray:=by
     have h1:=key v.cells.toList pre (z.take size) (z.drop size) (by simp [hv];try omega)
     rw[List.append_assoc,List.take_append_drop,hpre] at h1
     have h2:=key2 v.cells.toList 0 (pre++z).toArray
     simp only[Nat.add_zero] at h2
     rw[←h1,←h2,←Array.foldl_toList]
     simp
    have e1':(Array.foldl (fun cs x=>cs.setIfInBounds (i*size+x.2) x.1) (pre++z).toArray v.cells.zipIdx)=(pre++v.cells.toList++z.drop size).toArray:=e1
    rw[e1']
    have:=fill_slice size ps (i+1) l (fun j p hj=>by
     have:=hi (j+1) p (by simpa using hj)
     omega) hq (pre++v.cells.toList) (z.drop size) (by simp [hv,hpre,Nat.add_mul]) (by simp [hz,Nat.add_mul])
    rw[this]
    simp
  ·cases hc
theorem zrep_getElem? (z:List Value)(hz:0<z.length):∀(n i:Nat),(zrep n z)[i]?=if i<n*z.length then z[i%z.length]? else none
 |0,i=>by simp [zrep]
 |n+1,i=>by
  have ih:=zrep_getElem? z hz n (i - z.length)
  have e:zrep (n+1) z=z++zrep n z:=by simp [zrep,List.replicate_succ]
  rw[e,List.getElem?_append]
  split
  ·rename_i h
   rw[if_pos (by rw[Nat.add_mul];omega),Nat.mod_eq_of_lt h]
  ·rename_i h
   rw[ih]
   have hm:(i - z.length)%z.length=i%z.length:=by
    rw[show i=(i - z.length)+z.length by omega];simp
   rw[hm]
   by_cases h2:i< (n+1)*z.length
   ·rw[if_pos h2,if_pos (by rw[Nat.add_mul] at h2;omega)]
   ·rw[if_neg h2,if_neg (by rw[Nat.add_mul] at h2;omega)]
theorem zeroCells_eq (z:Array Value)(n:Nat):(Builtin.zeroCells z n).toList=zrep n z.toList:=by
 by_cases hz:z.size=0
 ·have:z=#[]:=Array.eq_empty_of_size_eq_zero hz
  subst this
  simp [Builtin.zeroCells,zrep]
 ·apply List.ext_getElem?
  intro i
  rw[zrep_getElem? z.toList (by simp;omega)]
  simp only[Builtin.zeroCells,Array.toList_map,List.getElem?_map,Array.toList_range,Array.length_toList]
  by_cases hi:i<n*z.size
  ·have hm:i%z.size<z.size:=Nat.mod_lt _ (by omega)
   rw[if_pos hi,List.getElem?_range hi]
   simp [hm]
  ·rw[if_neg hi]
   simp;omega
theorem madeCells_eq (z:Array Value)(n:Nat):(madeCells z (n*z.size)).toList=zrep n z.toList:=by
 have h:=zeroCells_eq z n
 simpa [madeCells,Builtin.zeroCells] using h
theorem zeroRuns_spec {t:TypeId}{z:List (Nat×Value)}(h:zeroRuns P t=some z):∃i v,P.info? t=some i∧i.zero=some v∧v.cells.toList=runs z:=by
 unfold zeroRuns at h
 cases hi:P.info? t with
 |none=>simp [hi] at h
 |some i=>
  cases hz:i.zero with
  |none=>simp [hi,hz] at h
  |some v=>simp [hi,hz] at h;exact⟨i,v,rfl,hz,by rw[←h,runs_rle]⟩
theorem getV_spec' {α:Type}{o:Option α}{K:α→Prop}(h:getV o K):∃v,o=some v∧K v:=by
 unfold getV at h
 split at h
 ·exact⟨_,rfl,h⟩
 ·exact h.elim
theorem oper_value {o:Oper}{a:Act}{next:Act→World→Prop}{Q:Exit→Act→World→Prop}{v:Value}{w':World}
  (h:(execOp a.eval o).run P w=.ok (.value v) w') (hn:next (a.put o.dst v) w'):o.wp P a w next Q:=by
 unfold Oper.wp;rw[h];exact hn
theorem oper_skip {o:Oper}{a:Act}{next:Act→World→Prop}{Q:Exit→Act→World→Prop}{w':World}
  (h:(execOp a.eval o).run P w=.ok .skip w') (hn:next (a.put o.dst undef) w'):o.wp P a w next Q:=by
 unfold Oper.wp;rw[h];exact hn
theorem app_run {t u el:TypeId}{i:TypeInfo}{z:List (Nat×Value)}(ht:P.underlying t=some (.slice el)){eu:TypeId}(hu:P.underlying u=some (.slice eu))(hi:P.info? el=some i)
  (hz:zeroRuns P el=some z) {s x:Value} {K:Value→World→Prop} (ty:TypeId) (h:appV el i.size i.bytes (runs z) s x w K):
  ∃v w',(Builtin.append_ #[t,u] ty #[s,x]).run P w=.ok v w'∧K v w':=by
 unfold appV at h
 split at h
 ·rename_i p n c q m d
  obtain⟨i',zv,hi',hzv,hrz⟩:=zeroRuns_spec hz
  rw[hi] at hi';simp at hi';subst hi'
  cases ho:rdS w i.size (.slice p n c) with
  |none=>simp [ho,getV] at h
  |some olds=>
   cases hn:rdS w i.size (.slice q m d) with
   |none=>simp [ho,hn,getV] at h
   |some news=>
    simp only[ho,hn,getV] at h
    obtain⟨hflat,hlen,hby,hzl,hroom,hp,hgrow⟩:=h
    obtain⟨ro,so⟩:=rdS_run (P:=P) ho
    obtain⟨rn,sn⟩:=rdS_run (P:=P) hn
    have hlen':n+m≤9223372036854775807:=by simp only[maxLen] at hlen;omega
    by_cases hc:n+m≤c
    ·obtain⟨h1,h2⟩:=hroom hc
     by_cases hm:m*i.size=0
     ·refine⟨_,w,?_,h1 hm⟩
      have hne:news=#[]:=Array.eq_empty_of_size_eq_zero (by rw[sn,hm])
      subst hne
      cases p<;>simp [Builtin.append_,run_underlying ht,run_underlying hu,sizeOf,typeInfo,hi,Builtin.lenOf,rn,hc,storeCells]
     ·obtain⟨b,o,rfl⟩:=hp hc hm
      obtain⟨hok,hk⟩:=h2 hm b o rfl
      refine⟨_,_,?_,hk⟩
      have hst:=storeCells_run (P:=P) (b:=b) (o:=o+n*i.size) hflat (by rw[sn];exact hok)
      simp [Builtin.append_,run_underlying ht,run_underlying hu,sizeOf,typeInfo,hi,Builtin.lenOf,rn,hc,addr_add,hst]
    ·have hg:=growslice_fits (need:=n+m) (old:=c) (by omega) hby
     have hk:=hgrow (by omega) (grownCap w (n+m) c el) (grownCap_ge w _ _ _) (grownCap_le_maxLen w _ _ _ hlen)
     refine⟨_,_,?_,hk⟩
     have hc':¬(n+m≤c):=hc
     have h63:¬(9223372036854775807< ((n:Int)+m)):=by omega
     have h48:¬(281474976710656<Builtin.nextslicecap (n+m) c*i.bytes):=by omega
     have hcells:(olds++news++Builtin.zeroCells zv.cells (grownCap w (n+m) c el - (n+m)))=(olds.toList++news.toList++zrep (grownCap w (n+m) c el - (n+m)) (runs z)).toArray:=by
      apply Array.ext'
      simp [zeroCells_eq,hrz]
     rw[←hcells]
     have ro':(Builtin.firstCells i.size n (.slice p n c)).run P w.drew=.ok olds w.drew:=(rdS_run (P:=P) (w:=w.drew) (by exact ho)).1
     have rn':(Builtin.firstCells i.size m (.slice q m d)).run P w.drew=.ok news w.drew:=(rdS_run (P:=P) (w:=w.drew) (by exact hn)).1
     simp [Builtin.append_,run_underlying ht,run_underlying hu,sizeOf,typeInfo,hi,Builtin.lenOf,hc',h63,h48,zeroValue,hzv,newRow,grownCap,Question.forced,ro',rn']
 ·exact h.elim
theorem cpy_run {t u el:TypeId}{n:Nat}(ht:P.underlying t=some (.slice el))(hs:sizeT P el=some n){d s:Value}{K:Value→World→Prop}(ty:TypeId)
  (h:cpyV n d s w K):∃v w',(Builtin.copy_ #[t,u] ty #[d,s]).run P w=.ok v w'∧K v w':=by
 unfold cpyV at h
 split at h
 ·rename_i p k c q m e
  cases hn:rdS w n (.slice q (Nat.min m k) e) with
  |none=>simp [hn,getV] at h
  |some news=>
   simp only[hn,getV] at h
   obtain⟨hflat,h0,h1⟩:=h
   obtain⟨rn,sn⟩:=rdS_run (P:=P) hn
   have hfc:(Builtin.firstCells n (Nat.min m k) (.slice q m e)).run P w=.ok news w:=by
    cases q<;>simpa [Builtin.firstCells] using rn
   by_cases hm:Nat.min m k*n=0
   ·have hne:news=#[]:=Array.eq_empty_of_size_eq_zero (by rw[sn,hm])
    subst hne
    refine⟨_,w,?_,h0 hm⟩
    cases p<;>simp [Builtin.copy_,run_underlying ht,Builtin.lenOf,sizeT_run hs,hfc,storeCells,goInt]
   ·obtain⟨b,o,rfl,hok,hk⟩:=h1 hm
    refine⟨_,_,?_,hk⟩
    have hst:=storeCells_run (P:=P) (b:=b) (o:=o) hflat (by rw[sn];exact hok)
    simp [Builtin.copy_,run_underlying ht,Builtin.lenOf,sizeT_run hs,hfc,hst,goInt]
 ·exact h.elim
theorem s2b_run {s d el:TypeId}(hs:P.underlying s=some .string)(hd:P.underlying d=some (.slice el))(he:P.underlying el=some (.int .u8)){x:Value}{K:Value→World→Prop}
  (h:s2bV el x w K):∃v w',(convert s d x).run P w=.ok v w'∧K v w':=by
 unfold s2bV at h
 split at h
 ·rename_i st
  obtain⟨hm,h⟩:=h
  have hk:=h (grownCap w st.size 0 el) (grownCap_ge w _ _ _) (grownCap_le_maxLen w _ _ _ hm)
  refine⟨_,_,run_bytes_of_string w s d el st hs hd he,?_⟩
  have hge:=grownCap_ge w st.size 0 el
  have hsz:((st.data.map fun b=>Value.int .u8 b.toNat)++Array.replicate (grownCap w st.size 0 el - st.size) (Value.int .u8 0)).size=grownCap w st.size 0 el:=by
   simp only[Array.size_append,Array.size_map,Array.size_replicate,ByteArray.size] at hge⊢
   omega
  simp only[bytesRow]
  rw[hsz]
  exact hk
 ·exact h.elim
theorem mk_run {t el:TypeId}{i:TypeInfo}{z:List (Nat×Value)}(ht:P.underlying t=some (.slice el))(hi:P.info? el=some i)(hz:zeroRuns P el=some z)
  {l c:Value} {K:Value→World→Prop} (h:mkSV el i.size i.bytes (runs z) l c w K):∃v w',(Instr.makeSlice t l c).run P w=.ok v w'∧K v w':=by
 unfold mkSV at h
 split at h
 ·rename_i kl l kc c
  obtain⟨h0,hlc,h63,hby,hzl,hk⟩:=h
  obtain⟨i',zv,hi',hzv,hrz⟩:=zeroRuns_spec hz
  rw[hi] at hi';simp at hi';subst hi'
  refine⟨_,_,run_make w t el i zv ht hi hzv kl kc l c h0 hlc hby h63,?_⟩
  have:madeCells zv.cells (c.toNat*i.size)=(zrep c.toNat (runs z)).toArray:=by
   apply Array.ext'
   have hsz:i.size=zv.cells.size:=by rw[←hzl,←hrz];simp
   rw[hsz,madeCells_eq,hrz]
  rw[this];exact hk
 ·exact h.elim
theorem bld_run {t el:TypeId}{n:Nat}(ht:P.underlying t=some (.slice el))(hs:sizeT P el=some n)(hz:((P.info? el).bind (·.zero)).map (·.cells.size)=some n)
  {parts:Array (Nat×Operand)} {xs:List Operand} (hp:partsInOrder 0 parts.toList=some xs) (hsmall:xs.length*n≤16777216)
  {a:Act} {vs cs:List Value} (hv:xs.map a.eval=vs) (hc:catV n vs=some cs):
  (Instr.buildSlice t xs.length (parts.map fun (i,x)=>(i,a.eval x))).run P w=.ok (.slice (some ⟨w.heap.size,0,none⟩) xs.length xs.length) (w.alloc (.cells cs.toArray el)):=by
 have hpo:∀(l:List (Nat×Operand)) (k:Nat) (ys:List Operand),partsInOrder k l=some ys→(∀i p,l[i]?=some p→p.1=k+i)∧l.map (·.2)=ys:=by
  intro l
  induction l with
  |nil=>intro k ys h;simp [partsInOrder] at h;subst h;simp
  |cons p l ih=>
   intro k ys h
   obtain⟨i,x⟩:=p
   simp only[partsInOrder] at h
   split at h
   ·rename_i hik
    cases hq:partsInOrder (k+1) l with
    |none=>simp [hq] at h
    |some zs=>
     simp [hq] at h;subst h
     obtain⟨h1,h2⟩:=ih _ _ hq
     refine⟨fun j q hj=>?_,by simp [h2]⟩
     cases j with
     |zero=>simp at hj;subst hj;simpa using hik
     |succ j=>have:=h1 j q (by simpa using hj);omega
   ·cases h
 obtain⟨h1,h2⟩:=hpo _ _ _ hp
 have hlen:xs.length=parts.toList.length:=by rw[←h2];simp
 have hfill:=fill_slice n (parts.toList.map fun (i,x)=>(i,a.eval x)) 0 cs (fun i p hi=>by
  simp only[List.getElem?_map] at hi
  cases hq:parts.toList[i]? with
  |none=>simp [hq] at hi
  |some q=>simp [hq] at hi;subst hi;exact h1 i q hq) (by
   rw[←hc,←hv,←h2];simp [List.map_map,Function.comp_def]) []
 cases hi:P.info? el with
 |none=>simp [hi] at hz
 |some info=>
  cases hzz:info.zero with
  |none=>simp [hi,hzz] at hz
  |some z=>
   simp [hi,hzz] at hz
   have hbig:¬(16777216<xs.length*n):=by omega
   have hrep:∀(A:Array Value),A.size=xs.length*n→Instr.fill (fun i=>some (i*n,n)) A ((parts.map fun (i,x)=>(i,a.eval x)).toList)=some cs.toArray:=by
    intro A hA
    have:=hfill A.toList (by simp) (by simp [hA,hlen])
    simp only[List.nil_append,Array.toArray_toList] at this
    rw[Array.toList_map]
    exact this
   unfold Instr.buildSlice
   simp only[Sem.run_bind,run_underlying ht w,Result.andThen_ok,sizeT_run hs]
   rw[if_neg (by simpa using hbig)]
   by_cases h0:xs.length*n=0
   ·rw[if_pos h0]
    simp only[Sem.run_bind,Sem.run_pure,Result.andThen_ok]
    rw[hrep _ (by simp)]
    simp [newRow]
   ·rw[if_neg h0]
    simp only[Sem.run_bind,zeroValue,typeInfo,run_program,hi,Sem.run_pure,Result.andThen_ok,hzz]
    rw[hrep _ (by simp)]
    simp [newRow]
theorem fnd_some {k:Value}:∀{es:List MapEntry} {i j:Nat} {v:Value},fnd k es i=some (j,v)→∃e,es[j - i]?=some e∧i≤j∧e.key=k
 |[],_,_,_,h=>by simp [fnd] at h
 |e::es,i,j,v,h=>by
  simp only[fnd] at h
  split at h
  ·rename_i hk
   simp at h;obtain⟨rfl,rfl⟩:=h
   exact⟨e,by simp,Nat.le_refl _,hk.symm⟩
  ·obtain⟨e',h1,h2,h3⟩:=fnd_some h
   refine⟨e',?_,by omega,h3⟩
   rw[show j - i=(j - (i+1))+1 by omega]
   simpa using h1
theorem setObj_run {r:Nat}{es:Array MapEntry}{c:Nat}(hb:w.heap[r]?=some (.map es c))(o:Obj):(setObj r o).run P w=.ok () (w.setO r o):=by
 simp [setObj,Sem.run,hb,World.setO]
theorem mapU_run {t:TypeId}{lay:List SK}{g:Bool}{el:TypeId}(hk:keyOfMap P t=some (lay,g,el)){m k v:Value}{K:World→Prop}(h:mapUV lay g m k v w K):
  ∃w',(Instr.mapUpdate t m k v).run P w=.ok () w'∧K w':=by
 obtain⟨kt,hu,hkl⟩:=keyOfMap_spec hk
 unfold mapUV at h
 split at h
 ·rename_i r
  obtain⟨hkk,h⟩:=h
  cases hE:mapE lay g w r with
  |none=>simp [hE,getV] at h
  |some ec=>
   obtain⟨es,c⟩:=ec
   obtain⟨hb,hall⟩:=mapE_spec hE
   simp only[hE,getV] at h
   refine⟨_,?_,h⟩
   have hg:(getObj r).run P w=.ok (.map es c) w:=by simp [getObj,Sem.run,hb]
   have hch:=check_lay (P:=P) (w:=w) hkl hkk false
   have hfi:=findKey_lay (P:=P) (w:=w) hkl hkk es.toList hall
   simp only[Instr.mapUpdate,Sem.run_bind,run_underlying hu w,Result.andThen_ok,hg,Sem.run_pure,hch,hfi]
   cases hf:fnd k es.toList 0 with
   |none=>simp only[putE,hf];exact setObj_run hb _
   |some iv=>
    obtain⟨i,v'⟩:=iv
    obtain⟨e,he,_,hek⟩:=fnd_some hf
    have he':es[i]?=some e:=by simpa using he
    have hst:=keyStays_lay (P:=P) (w:=w) hkk
    simp only[he',Option.map_some,Option.getD_some,hek,Sem.run_bind,hst,Result.andThen_ok,putE,hf]
    exact setObj_run hb _
 ·exact h.elim
theorem mapD_run {t t2:TypeId}{lay:List SK}{g:Bool}{el:TypeId}(hk:keyOfMap P t=some (lay,g,el)){m k:Value}{K:World→Prop}(ty:TypeId)(h:mapDV lay g m k w K):
  ∃w',(Builtin.delete_ #[t,t2] ty #[m,k]).run P w=.ok (.tuple #[]) w'∧K w':=by
 obtain⟨kt,hu,hkl⟩:=keyOfMap_spec hk
 unfold mapDV at h
 split at h
 ·obtain⟨hkk,h⟩:=h
  refine⟨_,?_,h⟩
  have hch:=check_lay (P:=P) (w:=w) hkl hkk true
  simp [Builtin.delete_,run_underlying hu w,hch]
 ·rename_i r
  obtain⟨hkk,h⟩:=h
  cases hE:mapE lay g w r with
  |none=>simp [hE,getV] at h
  |some ec=>
   obtain⟨es,c⟩:=ec
   obtain⟨hb,hall⟩:=mapE_spec hE
   simp only[hE,getV] at h
   refine⟨_,?_,h⟩
   have hg:(getObj r).run P w=.ok (.map es c) w:=by simp [getObj,Sem.run,hb]
   have hch:=check_lay (P:=P) (w:=w) hkl hkk es.isEmpty
   have hfi:=findKey_lay (P:=P) (w:=w) hkl hkk es.toList hall
   cases hf:fnd k es.toList 0 with
   |none=>
    rw[hf] at hfi
    have hso:=setObj_run (P:=P) hb (.map es c)
    simp only[Builtin.delete_]
    simp [run_underlying hu w,hg,hch,hfi,hso,delE,hf]
   |some iv=>
    obtain⟨i,v'⟩:=iv
    rw[hf] at hfi
    have hso:=setObj_run (P:=P) hb (.map (es.eraseIdxIfInBounds i) c)
    simp only[Builtin.delete_]
    simp [run_underlying hu w,hg,hch,hfi,hso,delE,hf]
 ·exact h.elim
theorem compL_sound {o:Oper}{i:LI}(hc:compL P o=some i){ds:List Deferred}{n:Nat}{e:Env}{a:Act}(ha:AgreeD ds n e a){K:Value→World→Prop}
  {next:Act→World→Prop} {Q:Exit→Act→World→Prop} (hn:∀v w',K v w'→next (a.put o.dst v) w')
  (hp:∀c w',R (.panicked c) w'→Q (.panic c) a w') (ho:∀w',R .outgrown w'→LetsOut Q) (h:liV P R e w K i):o.wp P a w next Q:=by
 have val:∀{s:Sem Next} {v w'},(execOp a.eval o).run P w=.ok (.value v) w'→K v w'→o.wp P a w next Q:=fun {s v w'} h hk=>oper_value h (hn v w' hk)
 obtain⟨dst,op,ty,pos,aft,gd⟩:=o
 cases op<;>simp only[compL] at hc<;>try (cases hc;done)
 case alloc t=>
  cases hz:zeroRuns P t with
  |none=>simp [hz] at hc
  |some z=>
   simp [hz] at hc;subst hc
   obtain⟨ti,zv,hi,hzv,hrz⟩:=zeroRuns_spec hz
   simp only[liV] at h
   refine oper_value ?_ (hn _ _ h)
   have:zv.cells=zc z:=by apply Array.ext';rw[hrz];rfl
   simp [execOp,Instr.alloc,zeroValue,typeInfo,hi,hzv,newVar,newRow,this]
 case box t x=>
  simp at hc;subst hc
  simp only[liV] at h
  cases hx:ev e x with
  |none=>simp [hx,getV] at h
  |some v=>
   simp only[hx,getV] at h
   refine oper_value ?_ (hn _ _ h)
   simp [execOp,Instr.box,newVar,newRow,ha.ev hx]
 case store t p x=>
  split at hc
  ·rename_i hg
   cases hs:sizeT P t with
   |none=>simp [hs] at hc
   |some m=>
    simp [hs] at hc
    obtain⟨hm,rfl⟩:=hc
    simp only[liV] at h
    cases hp':ev e p with
    |none=>simp [hp',getV] at h
    |some pv=>
     cases hx:ev e x with
     |none=>simp [hp',hx,getV] at h
     |some v=>
      simp only[hp',hx,getV] at h
      unfold stNV at h
      split at h
      ·rename_i b o cs
       obtain⟨hsz,hf,hok,hk⟩:=h
       refine oper_skip ?_ (hn _ _ hk)
       have hst:=storeCells_run (P:=P) hf (by rw[hsz];exact hok)
       simp [execOp,Instr.storeAt,ha.ev hp',ha.ev hx,Instr.sureAddr,storeVar,sizeT_run hs,Value.cells,hsz,hst]
      ·exact h.elim
  ·rename_i hg
   split at hc
   ·rename_i hs
    simp at hc;subst hc
    simp only[liV] at h
    cases hp':ev e p with
    |none=>simp [hp',getV] at h
    |some pv=>
     cases hx:ev e x with
     |none=>simp [hp',hx,getV] at h
     |some v=>
      simp only[hp',hx,getV] at h
      unfold st1V at h
      split at h
      ·rename_i b o
       obtain⟨h1,⟨⟨u,hu⟩,hfr⟩,hk⟩:=h
       refine oper_skip ?_ (hn _ _ hk)
       have hcells:v.cells=#[v]:=by cases v<;>simp [Value.oneCell',Value.cells] at h1⊢
       have hst:(store ⟨b,o,none⟩ v).run P w=.ok () (w.setCell ⟨b,o,none⟩ v):=by
        cases v<;>simp [Value.oneCell'] at h1<;>simp [store,Sem.run,hu,hfr]
       simp [execOp,Instr.storeAt,ha.ev hp',ha.ev hx,Instr.sureAddr,storeVar,sizeT_run hs,hcells,storeCells,addr_add,hst]
      ·exact h.elim
   ·cases hc
  ·cases hc
 case makeSlice t l c=>
  split at hc
  ·rename_i el ht
   split at hc
   ·rename_i ti z hi hz
    simp at hc;subst hc
    simp only[liV] at h
    cases hl:ev e l with
    |none=>simp [hl,getV] at h
    |some lv=>
     cases hcv:ev e c with
     |none=>simp [hl,hcv,getV] at h
     |some cv=>
      simp only[hl,hcv,getV] at h
      obtain⟨v,w',hr,hk⟩:=mk_run ht hi hz h
      refine oper_value ?_ (hn _ _ hk)
      simp [execOp,ha.ev hl,ha.ev hcv,hr]
   ·cases hc
  ·cases hc
 case buildSlice t len parts=>
  split at hc
  ·rename_i el ht
   split at hc
   ·rename_i m xs hs hx
    split at hc
    ·rename_i hcond
     obtain⟨rfl,hsm,hz⟩:=hcond
     simp at hc;subst hc
     simp only[liV] at h
     cases hv:evs e xs with
     |none=>simp [hv,getV] at h
     |some vs=>
      cases hcat:catV m vs with
      |none=>simp [hv,hcat,getV] at h
      |some cs=>
       simp only[hv,Option.bind_some,hcat,getV] at h
       refine oper_value ?_ (hn _ _ h)
       have:=bld_run (w:=w) ht hs hz hx hsm (ha.evs hv) hcat
       simp only[execOp,Sem.run_bind,this,Result.andThen_ok,Sem.run_pure]
    ·cases hc
   ·cases hc
  ·cases hc
 case mapUpdate t m k v=>
  cases hk:keyOfMap P t with
  |none=>simp [hk] at hc
  |some lge=>
   obtain⟨lay,g,el⟩:=lge
   simp [hk] at hc;subst hc
   simp only[liV,skR_rleS] at h
   obtain⟨mv,hm,h⟩:=getV_spec' h
   obtain⟨kv,hkv,h⟩:=getV_spec' h
   obtain⟨vv,hvv,h⟩:=getV_spec' h
   obtain⟨w',hr,hkk⟩:=mapU_run hk h
   refine oper_skip ?_ (hn _ _ hkk)
   simp only[execOp,ha.ev hm,ha.ev hkv,ha.ev hvv,Sem.run_bind,hr,Result.andThen_ok,Sem.run_pure]
 case insert t m k v=>
  cases hk:keyOfMap P t with
  |none=>simp [hk] at hc
  |some lge=>
   obtain⟨lay,g,el⟩:=lge
   simp [hk] at hc;subst hc
   simp only[liV,skR_rleS] at h
   obtain⟨mv,hm,h⟩:=getV_spec' h
   obtain⟨kv,hkv,h⟩:=getV_spec' h
   obtain⟨vv,hvv,h⟩:=getV_spec' h
   obtain⟨w',hr,hkk⟩:=mapU_run hk h
   refine oper_skip ?_ (hn _ _ hkk)
   simp only[execOp,ha.ev hm,ha.ev hkv,ha.ev hvv,Sem.run_bind,hr,Result.andThen_ok,Sem.run_pure]
 case panic x=>
  simp at hc;subst hc
  simp only[liV] at h
  obtain⟨xv,hx,h⟩:=getV_spec' h
  unfold panV at h
  split at h
  ·rename_i t' v'
   have hr:(execOp a.eval ⟨dst,.panic x,ty,pos,aft,gd⟩).run P w=.halt (.panic (.iface t' v')) w:=by
    simp [execOp,ha.ev hx,Instr.panic,goPanic]
   unfold Oper.wp
   rw[hr]
   exact hp _ _ h
  ·exact h.elim
 case makeMap t r=>
  cases r with
  |some r=>simp at hc
  |none=>
   simp at hc;subst hc
   simp only[liV] at h
   refine oper_value ?_ (hn _ _ h)
   simp [execOp,Instr.makeMap]
 case convert s d x=>
  split at hc
  ·rename_i el hs hd
   split at hc
   ·rename_i he
    simp at hc;subst hc
    simp only[liV] at h
    cases hx:ev e x with
    |none=>simp [hx,getV] at h
    |some v=>
     simp only[hx,getV] at h
     obtain⟨v',w',hr,hk⟩:=s2b_run hs hd he h
     refine oper_value ?_ (hn _ _ hk)
     simp [execOp,ha.ev hx,hr]
   ·cases hc
  ·rename_i el0 el hs hd
   split at hc
   ·rename_i hsd
    subst hsd
    split at hc
    ·rename_i he
     simp at hc;subst hc
     simp only[liV] at h
     cases hx:ev e x with
     |none=>simp [hx,getV] at h
     |some v=>
      simp only[hx,getV] at h
      obtain⟨w0,C,n0,c0,rfl,rfl,hk⟩:=h
      refine oper_value ?_ (hn _ _ hk)
      simp [execOp,ha.ev hx,Lib.run_convert_bytes_const w0 s el C n0 c0 hd he]
    ·cases hc
   ·cases hc
  ·simp at hc;subst hc
   simp only[liV] at h
   obtain⟨xv,hx,v,w',hr,hk⟩:=getV_spec' h
   refine oper_value ?_ (hn _ _ hk)
   simp [execOp,ha.ev hx,hr]
  ·simp at hc;subst hc
   simp only[liV] at h
   obtain⟨xv,hx,v,w',hr,hk⟩:=getV_spec' h
   refine oper_value ?_ (hn _ _ hk)
   simp [execOp,ha.ev hx,hr]
  ·cases hc
 case build t ps=>
  split at hc
  ·cases hc
  ·simp at hc;subst hc
   simp only[liV] at h
   obtain⟨vs,hx,v,w',hr,hk⟩:=getV_spec' h
   refine oper_value ?_ (hn _ _ hk)
   have e1:=ha.evs hx
   have e2:ps.map (fun (i,x)=>(i,a.eval x))=((ps.toList.map (·.1)).zip vs).toArray:=by
    rw[←e1]
    apply Array.ext'
    simp [List.zip_map,List.zip_eq_zipWith,List.map_map]
   simp only[execOp]
   rw[e2]
   simp [hr]
 case range t x=>
  simp at hc;subst hc
  simp only[liV] at h
  obtain⟨xv,hx,v,w',hr,hk⟩:=getV_spec' h
  refine oper_value ?_ (hn _ _ hk)
  simp [execOp,ha.ev hx,hr]
 case next x isS=>
  simp at hc;subst hc
  simp only[liV] at h
  obtain⟨xv,hx,v,w',hr,hk⟩:=getV_spec' h
  refine oper_value ?_ (hn _ _ hk)
  simp [execOp,ha.ev hx,hr]
 case entry x=>
  simp at hc;subst hc
  simp only[liV] at h
  obtain⟨xv,hx,v,w',hr,hk⟩:=getV_spec' h
  refine oper_value ?_ (hn _ _ hk)
  simp [execOp,ha.ev hx,hr]
 case call c=>
  unfold compCall at hc
  cases hq:compCall0 P c with
  |none=>
   simp only[hq] at hc
   split at hc
   ·rename_i b hcal
    split at hc
    ·simp at hc;subst hc
     simp only[liV] at h
     obtain⟨vs,hv,v,w',hr,hk⟩:=getV_spec' h
     have hargs:c.args.map a.eval=vs.toArray:=by
      apply Array.ext'
      simpa using ha.evs hv
     refine oper_value ?_ (hn _ _ hk)
     simp only[execOp,resolve,hcal,hargs,Sem.run_bind,Sem.run_pure,Result.andThen_ok,invoke]
     have e1:(constsOf c).toArray=c.args.map fun| .const _=>true|_=>false:=by unfold constsOf;exact Array.toArray_toList
     rw[e1,Array.toArray_toList] at hr
     exact hr
    ·cases hc
   ·cases hc
  |some i0=>
  simp only[hq,Option.some.injEq] at hc
  subst hc
  have hc:=hq
  clear hq
  unfold compCall0 at hc
  obtain⟨callee,args,argTypes⟩:=c
  cases callee with
  |invoke r m=>simp at hc
  |value f=>
   cases f with
   |func f=>
    simp only at hc
    cases hf:P.funcs[f]? with
    |none=>simp [hf] at hc
    |some fn=>
     simp only[hf] at hc
     split at hc
     ·cases hc
     rename_i hcn
     split at hc
     ·simp at hc;subst hc
      simp only[liV] at h
      obtain⟨vs,hv,h⟩:=getV_spec' h
      obtain⟨v,w',hr,hk⟩:=h
      have hargs:args.map a.eval=vs.toArray:=by
       apply Array.ext'
       simpa using ha.evs hv
      refine oper_value ?_ (hn _ _ hk)
      simp only[execOp,resolve,Act.eval,hargs,Deferred.ofValue,Sem.run_bind,Sem.run_pure,Result.andThen_ok,invoke]
      simpa using hr
     ·rename_i hcb
      simp at hc;subst hc
      simp only[liV] at h
      cases hv:evs e args.toList with
      |none=>simp [hv,getV] at h
      |some vs=>
       simp only[hv,getV,callV] at h
       have hargs:args.map a.eval=vs.toArray:=by
        apply Array.ext'
        simpa using ha.evs hv
       have hcond:(fn.name== "runtime.NumGoroutine")=false∧fn.body.isNone=false:=⟨by simpa using hcn,by cases hbb:fn.body.isNone with|false=>rfl|true=>exact absurd hbb hcb⟩
       unfold Oper.wp
       have hr:(execOp a.eval ⟨dst,.call ⟨.value (.func f),args,argTypes⟩,ty,pos,aft,gd⟩).run P w=.ok (.enter f vs.toArray) w:=by
        have hb:fn.body.isNone=false:=hcond.2
        have hnm:(fn.name== "runtime.NumGoroutine")=false:=hcond.1
        simp only[execOp,resolve,Act.eval,hargs,Deferred.ofValue,Sem.run_bind,Sem.run_pure,Result.andThen_ok,invoke,callFunc,run_program,hf,hb,hnm,Bool.false_eq_true,if_false,List.append_toArray,List.nil_append,List.append_nil]
       rw[hr]
       refine Calls.mono h fun en w' he=>?_
       cases en with
       |returned v=>exact hn _ _ he
       |panicked c=>exact hp _ _ he
       |outgrown=>exact ho _ he
   |tmp t=>
    simp at hc;subst hc
    simp only[liV] at h
    cases hx:ev e (.tmp t) with
    |none=>simp only[hx,getV] at h
    |some fv=>
     cases hv:evs e args.toList with
     |none=>simp only[hx,hv,getV] at h
     |some vs=>
      simp only[hx,hv,getV] at h
      unfold callvV at h
      split at h
      ·rename_i g first cap
       obtain⟨hpl,h⟩:=h
       have hargs:args.map a.eval=vs.toArray:=by
        apply Array.ext'
        simpa using ha.evs hv
       unfold Oper.wp
       have hr:(execOp a.eval ⟨dst,.call ⟨.value (.tmp t),args,argTypes⟩,ty,pos,aft,gd⟩).run P w=.ok (.enter g (first.toList++vs++cap.toList).toArray) w:=by
        unfold plainF at hpl
        cases hf:P.funcs[g]? with
        |none=>simp [hf] at hpl
        |some fn=>
         simp only[hf,Bool.and_eq_true,Bool.not_eq_true'] at hpl
         have hnm:(fn.name== "runtime.NumGoroutine")=false:=hpl.1
         have hb:fn.body.isNone=false:=hpl.2
         simp only[execOp,resolve,ha.ev hx,hargs,Deferred.ofValue,Sem.run_bind,Sem.run_pure,Result.andThen_ok,invoke,callFunc,run_program,hf,hb,hnm,Bool.false_eq_true,if_false]
         congr 2
         apply Array.ext'
         simp
       rw[hr]
       simp only[callV] at h
       refine Calls.mono h fun en w' he=>?_
       cases en with
       |returned v=>exact hn _ _ he
       |panicked c=>exact hp _ _ he
       |outgrown=>exact ho _ he
      ·exact h.elim
   |const v=>simp at hc
   |global g=>simp at hc
  |builtin bi=>
   cases bi<;>simp only at hc<;>try (cases hc;done)
   case append=>
    split at hc
    ·rename_i s x t u hargs htypes
     have hargs':args=#[s,x]:=by apply Array.ext';simpa using hargs
     have htypes':argTypes=#[t,u]:=by apply Array.ext';simpa using htypes
     subst hargs' htypes'
     split at hc
     ·rename_i el eu ht hu
      split at hc
      ·rename_i ti z hi hz
       simp at hc;subst hc
       simp only[liV] at h
       cases hs:ev e s with
       |none=>simp [hs,getV] at h
       |some sv=>
        cases hx:ev e x with
        |none=>simp [hs,hx,getV] at h
        |some xv=>
         simp only[hs,hx,getV] at h
         obtain⟨v',w',hr,hk⟩:=app_run ht hu hi hz ty h
         refine oper_value ?_ (hn _ _ hk)
         simp [execOp,resolve,invoke,builtin,ha.ev hs,ha.ev hx,hr]
      ·cases hc
     ·cases hc
    ·cases hc
   case copy=>
    split at hc
    ·rename_i s x t u hargs htypes
     have hargs':args=#[s,x]:=by apply Array.ext';simpa using hargs
     have htypes':argTypes=#[t,u]:=by apply Array.ext';simpa using htypes
     subst hargs' htypes'
     split at hc
     ·rename_i el eu ht hu
      cases hsz:sizeT P el with
      |none=>simp [hsz] at hc
      |some m=>
       simp [hsz] at hc;subst hc
       simp only[liV] at h
       cases hs:ev e s with
       |none=>simp [hs,getV] at h
       |some sv=>
        cases hx:ev e x with
        |none=>simp [hs,hx,getV] at h
        |some xv=>
         simp only[hs,hx,getV] at h
         obtain⟨v',w',hr,hk⟩:=cpy_run (u:=u) ht hsz ty h
         refine oper_value ?_ (hn _ _ hk)
         simp [execOp,resolve,invoke,builtin,ha.ev hs,ha.ev hx,hr]
     ·cases hc
    ·cases hc
   case delete=>
    split at hc
    ·rename_i m k t u hargs htypes
     have hargs':args=#[m,k]:=by apply Array.ext';simpa using hargs
     have htypes':argTypes=#[t,u]:=by apply Array.ext';simpa using htypes
     subst hargs' htypes'
     cases hk:keyOfMap P t with
     |none=>simp [hk] at hc
     |some lge=>
      obtain⟨lay,g,el⟩:=lge
      simp [hk] at hc;subst hc
      simp only[liV,skR_rleS] at h
      obtain⟨mv,hm,h⟩:=getV_spec' h
      obtain⟨kv,hkv,h⟩:=getV_spec' h
      obtain⟨w',hr,hkk⟩:=mapD_run (t2:=u) hk ty h
      refine oper_value ?_ (hn _ _ hkk)
      simp [execOp,resolve,invoke,builtin,ha.ev hm,ha.ev hkv,hr]
    ·cases hc
end
end Go.Vc
