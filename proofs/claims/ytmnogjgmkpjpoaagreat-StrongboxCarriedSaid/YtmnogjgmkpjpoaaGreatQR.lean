/- Rows: what an argument holds, said once for every type; a law that returns true. -/
import Derived.Test.YtmnogjgmkpjpoaaGreatQH
import Derived.ProofKit
import Derived.Deep.Slices
set_option linter.unusedSimpArgs false
set_option linter.unusedVariables false
set_option linter.constructorNameAsVariable false
namespace Go.Vc
open Go.ChangeShapes Go.WideShapes Go.ChangeAt Go.RowKit
mutual
inductive Ty where
 |int (k:IntKind)
 |bool
 |str
 |sl (e:Tys)
inductive Tys where
 |nil
 |cons (t:Ty) (r:Tys)
end
def Tys.len:Tys→Nat
 | .nil=>0
 | .cons _ r=>r.len+1
def Tys.app:Tys→Tys→Tys
 | .nil,s=>s
 | .cons t r,s=>.cons t (r.app s)
def Tys.rep (n:Nat)(e:Tys):Tys:=match n with|0=>.nil|n+1=>e.app (Tys.rep n e)
mutual
def Lies (w:World):Ty→Value→Prop
 | .int k,v=> ∃n,v=.int k n∧(Lit.int k n).wf=true
 | .bool,v=> ∃b,v=.bool b
 | .str,v=> ∃s,v=.string s∧s.size≤maxLen
 | .sl e,v=> ∃(q:Option Addr) (n c:Nat) (xs:List (Array Value)),v=.slice q n c∧n≤c∧c≤maxLen∧xs.length=n∧rdS w e.len v=some (xs.flatMap Array.toList).toArray∧
   (∀x∈xs,x.size=e.len)∧∀x∈xs,LiesAll w e x.toList
def LiesAll (w:World):Tys→List Value→Prop
 | .nil,cs=>cs=[]
 | .cons t r,cs=>match cs with|[]=>False|v::cs=>Lies w t v∧LiesAll w r cs
end
theorem liesAll_app {w:World}:∀{s t:Tys} {a b:List Value},LiesAll w s a→LiesAll w t b→LiesAll w (s.app t) (a++b)
 | .nil,t,a,b,h,k=>by simp only[LiesAll] at h;subst h;exact k
 | .cons u s,t,[],b,h,k=>by simp only[LiesAll] at h
 | .cons u s,t,v::a,b,h,k=>by
  simp only[LiesAll] at h
  simp only[Tys.app,List.cons_append,LiesAll]
  exact⟨h.1,liesAll_app h.2 k⟩
mutual
theorem Lies.keep {w w':World}(k:Ext w w'):∀{t:Ty} {v:Value},Lies w t v→Lies w' t v
 | .int _,_,h=>by simp only[Lies] at h⊢;exact h
 | .bool,_,h=>by simp only[Lies] at h⊢;exact h
 | .str,_,h=>by simp only[Lies] at h⊢;exact h
 | .sl e,v,h=>by
  simp only[Lies] at h⊢
  obtain⟨q,n,c,xs,h1,h2,h3,h4,h5,h6,h7⟩:=h
  exact⟨q,n,c,xs,h1,h2,h3,h4,rdS_keep h5 k fun _ _ h=>h,h6,fun x hx=>LiesAll.keep k (h7 x hx)⟩
theorem LiesAll.keep {w w':World}(k:Ext w w'):∀{s:Tys} {a:List Value},LiesAll w s a→LiesAll w' s a
 | .nil,_,h=>by simp only[LiesAll] at h⊢;exact h
 | .cons _ _,[],h=>by simp only[LiesAll] at h
 | .cons t r,v::a,h=>by
  simp only[LiesAll] at h⊢
  exact⟨Lies.keep k h.1,LiesAll.keep k h.2⟩
end
def fieldsTy (P:Program)(r:TypeId→Option Tys):Nat→List Field→Option Tys
 |_,[]=>some .nil
 |off,f::fs=>if f.offset=off then (r f.type).bind fun a=>if a.len=P.cellsOf f.type then (fieldsTy P r (off+P.cellsOf f.type) fs).map fun b=>a.app b else none else none
def tyOf (P:Program):Nat→TypeId→Option Tys
 |0,_=>none
 |n+1,t=>match P.underlying t with
  |some .bool=>some (.cons .bool .nil)
  |some (.int k)=>some (.cons (.int k) .nil)
  |some .string=>some (.cons .str .nil)
  |some (.slice e)=>(tyOf P n e).bind fun a=>if a.len=P.cellsOf e∧0<a.len then some (.cons (.sl a) .nil) else none
  |some (.struct fs)=>(fieldsTy P (tyOf P n) 0 fs.toList).bind fun a=>if a.len=P.cellsOf t then some a else none
  |some (.array m e)=>(tyOf P n e).bind fun a=>if a.len=P.cellsOf e∧m*a.len=P.cellsOf t then some (Tys.rep m a) else none
  |_=>none
theorem Tys.len_app:∀(s t:Tys),(s.app t).len=s.len+t.len
 | .nil,t=>by simp [Tys.app,Tys.len]
 | .cons u s,t=>by simp only[Tys.app,Tys.len,Tys.len_app s t];omega
theorem mapM_some {α β:Type}{g:α→Option β}:∀{l:List α} {ys:List β},l.mapM g=some ys→ys.length=l.length∧∀i (h:i<l.length),∃y,g l[i]=some y
 |[],ys,h=>by
  simp at h;subst h;exact⟨rfl,fun i h=>by simp at h⟩
 |x::l,ys,h=>by
  rw[List.mapM_cons] at h
  obtain⟨y,hy,h⟩:=Option.bind_eq_some_iff.1 h
  obtain⟨zs,hz,h⟩:=Option.bind_eq_some_iff.1 h
  cases h
  obtain⟨h1,h2⟩:=mapM_some hz
  refine⟨by simp [h1],fun i hi=>?_⟩
  cases i with
  |zero=>exact⟨y,hy⟩
  |succ i=>exact h2 i (by simpa using hi)
theorem mapM_get {α β:Type}{g:α→Option β}:∀{l:List α} {ys:List β},l.mapM g=some ys→∀i (h:i<l.length),∃y,g l[i]=some y∧ys[i]?=some y
 |[],ys,h=>fun i h=>by simp at h
 |x::l,ys,h=>by
  rw[List.mapM_cons] at h
  obtain⟨y,hy,h⟩:=Option.bind_eq_some_iff.1 h
  obtain⟨zs,hz,h⟩:=Option.bind_eq_some_iff.1 h
  cases h
  intro i hi
  cases i with
  |zero=>exact⟨y,hy,rfl⟩
  |succ i=>obtain⟨y,h1,h2⟩:=mapM_get hz i (by simpa using hi);exact⟨y,h1,by simpa using h2⟩
theorem cells_rdN {w:World}{a:Addr}{n:Nat}{cs:List Value}(h:w.cells? 0 a n=some cs)(hn:0<n):a.spot=none∧rdN w a.block a.off n=some cs.toArray∧cs.length=n:=by
 obtain⟨b,o,s⟩:=a
 unfold World.cells? at h
 rw[if_pos (Nat.zero_le _)] at h
 have hl':cs.length=n:=by simpa using (mapM_some h).1
 have hg:=mapM_get h
 obtain⟨y,hy,_⟩:=hg 0 (by simpa using hn)
 rw[List.getElem_range,show (Addr.mk b o s).add 0=⟨b,o,s⟩ from rfl] at hy
 have hs:s=none:=by
  cases s with
  |none=>rfl
  |some x=>
   simp only[World.cell?] at hy
   split at hy<;>simp at hy
 subst hs
 have hcell:∀i,i<n→cellO w.heap[b]? (o+i)=cs[i]?:=by
  intro i hi
  obtain⟨y,h1,h2⟩:=hg i (by simpa using hi)
  rw[h2,←h1,List.getElem_range]
  have e1:(Addr.mk b o none).add i=⟨b,o+i,none⟩:=by
   simp only[Addr.add];split
   ·rename_i h0;subst h0;rfl
   ·rfl
  rw[e1,cell_heap]
 refine⟨rfl,?_,hl'⟩
 show rdN w b o n=_
 rw[rdN_heap]
 have h0:=hcell (n - 1) (by omega)
 rw[List.getElem?_eq_getElem (by omega)] at h0
 cases hb:w.heap[b]? with
 |none=>rw[hb] at h0;cases h0
 |some x=>
  rw[hb] at h0 hcell
  cases x with
  |cells c t fr=>
   simp only[cellO_some] at h0 hcell
   have hlt:=(Array.getElem?_eq_some_iff.1 h0).1
   rw[rdO_some _ _ _ _ _ (by omega)]
   congr 1
   apply Array.ext'
   apply List.ext_getElem?
   intro i
   simp only[Array.toList_extract,List.extract_eq_take_drop,Nat.add_sub_cancel_left,List.getElem?_take,List.getElem?_drop]
   split
   ·rename_i hi
    rw[Array.getElem?_toList];exact hcell i hi
   ·rw[List.getElem?_eq_none (by omega)]
  |_=>cases h0
theorem list_choose {α β:Type}{p:α→β→Prop}:∀(l:List α),(∀x∈l,∃y,p x y)→∃ys:List β,ys.length=l.length∧∀i (h:i<l.length) (h':i<ys.length),p l[i] ys[i]
 |[],_=>⟨[],rfl,fun i h=>by simp at h⟩
 |x::l,h=>by
  obtain⟨y,hy⟩:=h x (by simp)
  obtain⟨ys,h1,h2⟩:=list_choose l fun x hx=>h x (by simp [hx])
  refine⟨y::ys,by simp [h1],fun i hi hi'=>?_⟩
  cases i with
  |zero=>exact hy
  |succ i=>exact h2 i _ _
theorem liesAll_rep {w:World}{a:Tys}(k:Nat):∀(m:Nat) (cs:List Value),a.len=k→cs.length=m*k→(∀i,i<m→LiesAll w a ((cs.drop (i*k)).take k))→LiesAll w (Tys.rep m a) cs
 |0,cs,hk,hl,h=>by
  have:cs=[]:=List.eq_nil_of_length_eq_zero (by simpa using hl)
  subst this;simp [Tys.rep,LiesAll]
 |m+1,cs,hk,hl,h=>by
  rw[Nat.add_mul,Nat.one_mul] at hl
  have h0:=h 0 (by omega)
  rw[Nat.zero_mul,List.drop_zero] at h0
  have:=liesAll_app h0 (liesAll_rep (w:=w) (a:=a) k m (cs.drop k) hk (by simp;omega) fun i hi=>by
   have:=h (i+1) (by omega)
   rw[List.drop_drop,show k+i*k=(i+1)*k by rw[Nat.add_mul];omega];exact this)
  rw[List.take_append_drop] at this
  exact this
theorem liesAll_fields {P:Program}{w:World}{r:TypeId→Option Tys}{g:Field→Prop}(cs:List Value):∀(fs:List Field) (off:Nat) (a:Tys),fieldsTy P r off fs=some a→off+a.len=cs.length→
  (∀f∈fs,∀b,r f.type=some b→LiesAll w b ((cs.drop f.offset).take (P.cellsOf f.type)))→LiesAll w a (cs.drop off)
 |[],off,a,h,hl,hf=>by
  simp only[fieldsTy,Option.some.injEq] at h;subst h
  simp only[Tys.len] at hl
  simp only[LiesAll];exact List.drop_eq_nil_of_le (by omega)
 |f::fs,off,a,h,hl,hf=>by
  simp only[fieldsTy] at h
  split at h
  ·rename_i ho
   obtain⟨b,hb,h⟩:=Option.bind_eq_some_iff.1 h
   split at h
   ·rename_i hbl
    obtain⟨c,hc,rfl⟩:=Option.map_eq_some_iff.1 h
    rw[Tys.len_app] at hl
    have h1:=hf f (by simp) b hb
    rw[ho] at h1
    have h2:=liesAll_fields (g:=g) cs fs (off+P.cellsOf f.type) c hc (by omega) fun f hf'=>hf f (by simp [hf'])
    have:=liesAll_app h1 h2
    rw[←List.drop_drop,List.take_append_drop] at this
    exact this
   ·cases h
  ·cases h
theorem rdN_app {w:World}{b o n m:Nat}{x y:Array Value}(hx:rdN w b o n=some x)(hy:rdN w b (o+n) m=some y):rdN w b o (n+m)=some (x++y):=by
 rw[rdN_heap] at hx hy⊢
 cases hb:w.heap[b]? with
 |none=>rw[hb] at hx;cases hx
 |some u=>
  rw[hb] at hx hy
  cases u with
  |cells c t fr=>
   simp only[rdO] at hx hy⊢
   split at hx
   ·split at hy
    ·rename_i h1 h2
     rw[if_pos (by omega)]
     simp only[Option.some.injEq] at hx hy⊢
     subst hx hy
     apply Array.ext'
     simp only[Array.toList_extract,Array.toList_append,List.extract_eq_take_drop,Nat.add_sub_cancel_left]
     rw[List.take_add,List.drop_drop]
    ·cases hy
   ·cases hx
  |_=>cases hx
theorem rdN_join {w:World}{b k:Nat}:∀(xs:List (Array Value)) (o:Nat),xs≠[]→(∀i (h:i<xs.length),rdN w b (o+i*k) k=some xs[i])→rdN w b o (xs.length*k)=some (xs.flatMap Array.toList).toArray
 |[],o,h,_=>absurd rfl h
 |[x],o,_,h=>by
  have:=h 0 (by simp)
  simpa using this
 |x::y::xs,o,_,h=>by
  have h0:=h 0 (by simp)
  rw[Nat.zero_mul,Nat.add_zero] at h0
  have h1:=rdN_join (y::xs) (o+k) (by simp) fun i hi=>by
   have:=h (i+1) (by simpa using hi)
   rw[Nat.add_assoc,show k+i*k=(i+1)*k by rw[Nat.add_mul];omega]
   simpa using this
  have:=rdN_app h0 h1
  rw[List.length_cons,show ((y::xs).length+1)*k=k+(y::xs).length*k by rw[Nat.add_mul];omega,this]
  simp
theorem trod_lies {H:Type}{enc:TypeId×Value→H}{P:Program}{w:World}{spare:Nat→Bool}{held:Bool}:∀(m n:Nat) (t:TypeId) (cs:List Value) (x:DataW H×List MemPlace) (a:Tys),tyOf P m t=some a→DataW.trod enc P w 0 spare held n t cs=some x→LiesAll w a cs
 |0,_,_,_,_,_,h,_=>by simp [tyOf] at h
 |_+1,0,_,_,_,_,_,h=>by simp [DataW.trod] at h
 |m+1,n+1,t,cs,x,a,ha,h=>by
  have ih:=fun n t cs x a=>trod_lies (enc:=enc) (P:=P) (w:=w) (spare:=spare) (held:=held) m n t cs x a
  simp only[tyOf] at ha
  cases hu:P.underlying t with
  |none=>simp [hu] at ha
  |some u=>
   simp only[hu] at ha
   cases u<;>try (cases ha;done)
   case bool=>
    simp only[Option.some.injEq] at ha;subst ha
    simp only[DataW.trod,hu] at h
    split at h<;>simp_all [LiesAll,Lies]
   case int k=>
    simp only[Option.some.injEq] at ha;subst ha
    simp only[DataW.trod,hu] at h
    split at h<;>simp_all [LiesAll,Lies]
   case string=>
    simp only[Option.some.injEq] at ha;subst ha
    simp only[DataW.trod,hu] at h
    split at h<;>simp_all [LiesAll,Lies]
   case slice e=>
    obtain⟨b,hb,ha⟩:=Option.bind_eq_some_iff.1 ha
    split at ha
    ·rename_i hbl
     simp only[Option.some.injEq] at ha;subst ha
     rcases Go.Deep.open_slice hu h with ⟨rfl,_⟩|⟨ad,len,cap,mm,n',D,Pl,rfl,_,hlc,hcm,hmm,_,hx⟩
     ·simp only[LiesAll,Lies]
      exact⟨⟨none,0,0,[],rfl,Nat.le_refl _,Nat.zero_le _,rfl,rfl,by simp,by simp⟩,trivial⟩
     ·have hlm:len≤mm:=by rw[hmm];split<;>omega
      obtain⟨ys,h1,h2⟩:=list_choose (p:=fun i cs'=>w.cells? 0 (ad.add (i*P.cellsOf e)) (P.cellsOf e)=some cs'∧LiesAll w b cs') (List.range len) (fun i hi=>by
       obtain⟨cs',h1,h2⟩:=hx i (by have:=List.mem_range.1 hi;omega)
       exact⟨cs',h1,ih _ _ _ _ _ hb h2⟩)
      have hyl:ys.length=len:=by simpa using h1
      have hch:∀i (hi:i<ys.length),w.cells? 0 (ad.add (i*P.cellsOf e)) (P.cellsOf e)=some ys[i]∧LiesAll w b ys[i]:=by
       intro i hi
       have:=h2 i (by simpa using (hyl▸hi)) hi
       simpa using this
      simp only[LiesAll,Lies]
      refine⟨⟨some ad,len,cap,ys.map List.toArray,rfl,hlc,hcm,by simp [hyl],?_,?_,?_⟩,trivial⟩
      ·by_cases h0:len=0
       ·have:ys=[]:=List.eq_nil_of_length_eq_zero (by omega)
        subst this;simp [rdS,h0]
       ·have hpos:0<P.cellsOf e:=by rw[←hbl.1];exact hbl.2
        have hc0:=(hch 0 (by omega)).1
        obtain⟨bb,oo,ss⟩:=ad
        rw[Nat.zero_mul,show (Addr.mk bb oo ss).add 0=⟨bb,oo,ss⟩ from rfl] at hc0
        obtain⟨hs,_,_⟩:=cells_rdN hc0 hpos
        simp only at hs
        subst hs
        simp only[rdS,if_neg h0,hbl.1]
        have hj:=rdN_join (w:=w) (b:=bb) (k:=P.cellsOf e) (ys.map List.toArray) oo (by intro h;apply h0;rw[←hyl];simpa using congrArg List.length h) (fun i hi=>by
         have hi':i<ys.length:=by simpa using hi
         obtain⟨_,h3,_⟩:=cells_rdN (hch i hi').1 hpos
         have e1:(Addr.mk bb oo none).add (i*P.cellsOf e)=⟨bb,oo+i*P.cellsOf e,none⟩:=by
          simp only[Addr.add];split
          ·rename_i h0;rw[h0];rfl
          ·rfl
         rw[e1] at h3
         rw[List.getElem_map];exact h3)
        rw[List.length_map,hyl] at hj
        exact hj
      ·intro x hx
       obtain⟨y,hy,rfl⟩:=List.mem_map.1 hx
       obtain⟨i,hi,rfl⟩:=List.getElem_of_mem hy
       have:=(cells_rdN (hch i hi).1 (by rw[←hbl.1];exact hbl.2)).2.2
       simp [this,hbl.1]
      ·intro x hx
       obtain⟨y,hy,rfl⟩:=List.mem_map.1 hx
       obtain⟨i,hi,rfl⟩:=List.getElem_of_mem hy
       exact(hch i hi).2
    ·cases ha
   case struct fs=>
    obtain⟨b,hb,ha⟩:=Option.bind_eq_some_iff.1 ha
    split at ha
    ·rename_i hbl
     simp only[Option.some.injEq] at ha;subst ha
     simp only[DataW.trod,hu] at h
     split at h
     ·rename_i hl
      obtain⟨ys,hys,_⟩:=Option.map_eq_some_iff.1 h
      have:=liesAll_fields (w:=w) (g:=fun _=>True) cs fs.toList 0 b hb (by omega) (fun f hf c hc=>by
       obtain⟨i,hi,rfl⟩:=List.getElem_of_mem hf
       obtain⟨y,hy⟩:=(mapM_some hys).2 i hi
       exact ih _ _ _ _ _ hc hy)
      rwa [List.drop_zero] at this
     ·cases h
    ·cases ha
   case array k e=>
    obtain⟨b,hb,ha⟩:=Option.bind_eq_some_iff.1 ha
    split at ha
    ·rename_i hbl
     simp only[Option.some.injEq] at ha;subst ha
     simp only[DataW.trod,hu] at h
     split at h
     ·rename_i hl
      obtain⟨ys,hys,_⟩:=Option.map_eq_some_iff.1 h
      refine liesAll_rep (P.cellsOf e) k cs hbl.1 (by rw[hl,←hbl.2,hbl.1]) fun i hi=>?_
      obtain⟨y,hy⟩:=(mapM_some hys).2 i (by simpa using hi)
      rw[List.getElem_range] at hy
      exact ih _ _ _ _ _ hb hy
     ·cases h
    ·cases ha
theorem below_of_ext {w w':World}(h:Ext w w'):Below w.heap.size w w':=⟨h.os,h.tape,h.output,h.size,fun k hk=>h.block k hk fun h=>h⟩
theorem trodAll_stays {H:Type}{enc:TypeId×Value→H}{P:Program}(hl:laidOutB P=true){W W':World}(hb:Below W.heap.size W W'):∀{ts:List TypeId} {vs:List Value} {ds:List (DataW H)} {ps:List MemPlace},
  (∀t∈ts,P.readableRec t=true∧t<P.types.size)→DataW.TrodAll enc P W 0 (fun _=>true) true ts vs ds ps→(∀x∈ps,x.block<W.heap.size)→DataW.TrodAll enc P W' 0 (fun b=>decide (b<W.heap.size)) true ts vs ds ps
 |[],[],[],ps,_,h,_=>h
 |t::ts,v::vs,d::ds,ps,ht,h,hlt=>by
  obtain⟨p,q,h1,h2,rfl⟩:=h
  exact⟨p,q,Below.trod hl (ht t (by simp)).1 (ht t (by simp)).2 h1 hb (fun x hx=>hlt x (by simp [hx])),trodAll_stays hl hb (fun t h=>ht t (by simp [h])) h2 (fun x hx=>hlt x (by simp [hx])),rfl⟩
 |[],[],_::_,_,_,h,_=>by cases h
 |[],_::_,_,_,_,h,_=>by cases h
 |_::_,[],_,_,_,h,_=>by cases h
 |_::_,_::_,[],_,_,h,_=>by cases h
def ArgLies (P:Program)(W:World)(t:TypeId)(v:Value):Prop:=
 (∀m a,tyOf P m t=some a→LiesAll W a v.cells.toList)∧(match P.underlying t with|some (.struct _)|some (.array _ _)=> ∃cs,v=.agg cs|_=>v.cells=#[v])
theorem argLies_of {H:Type}{enc:TypeId×Value→H}{P:Program}{W:World}{base:Nat}{t:TypeId}{v:Value}{d:DataW H}{ps:List MemPlace}(ho:Value.okWide P W .any base t v)
  (h:DataW.Trod enc P W 0 (fun _=>true) true t v d ps):ArgLies P W t v:=by
 obtain⟨n,h⟩:=h
 refine⟨fun m a ha=>trod_lies m n t _ _ a ha h,?_⟩
 unfold Value.okWide at ho
 split at ho
 ·rename_i hu;rw[hu];obtain⟨cs,rfl,_⟩:=ho;exact⟨cs,rfl⟩
 ·rename_i hu;rw[hu];obtain⟨cs,rfl,_⟩:=ho;exact⟨cs,rfl⟩
 ·rename_i h1 h2
  split
  ·rename_i hu;exact absurd hu (h1 _)
  ·rename_i hu;exact absurd hu (h2 _ _)
  ·cases v<;>first|rfl|skip
   all_goals
    exfalso
    unfold Cell.okWide at ho
    split at ho<;>simp_all [Cell.ok]
theorem argInt {P:Program}{W:World}{t:TypeId}{k:IntKind}{v:Value}{m:Nat}(ht:tyOf P m t=some (.cons (.int k) .nil))(hu:P.underlying t=some (.int k))(h:ArgLies P W t v):∃n,v=.int k n∧(Lit.int k n).wf=true:=by
 obtain⟨h1,h2⟩:=h
 rw[hu] at h2
 have h3:=h1 m _ ht
 simp only at h2
 rw[h2] at h3
 simp only[LiesAll,Lies] at h3
 exact h3.1
theorem argAgg {P:Program}{W:World}{t:TypeId}{v:Value}{m:Nat}{a:Tys}(ht:tyOf P m t=some a)(hu:(∃fs,P.underlying t=some (.struct fs))∨ ∃n e,P.underlying t=some (.array n e))(h:ArgLies P W t v):∃cs,v=.agg cs∧LiesAll W a cs.toList:=by
 obtain⟨h1,h2⟩:=h
 have h4:∃cs,v=.agg cs:=by
  rcases hu with ⟨fs,hu⟩|⟨n,e,hu⟩<;>(rw[hu] at h2;exact h2)
 obtain⟨cs,rfl⟩:=h4
 exact⟨cs,rfl,h1 m _ ht⟩
theorem wf_int {k:IntKind}{n:Int}(h:(Lit.int k n).wf=true):k.min≤n∧n≤k.max:=by
 simpa [Lit.wf] using h
theorem argsLie {H:Type}{enc:TypeId×Value→H}{P:Program}{W:World}{base:Nat}:∀{ts:List TypeId} {vs:List Value} {ds:List (DataW H)} {ps:List MemPlace},
  (∀(j:Nat) t v,ts[j]?=some t→vs[j]?=some v→Value.okWide P W .any base t v)→DataW.TrodAll enc P W 0 (fun _=>true) true ts vs ds ps→
  vs.length=ts.length∧ds.length=ts.length∧∀(j:Nat) t v,ts[j]?=some t→vs[j]?=some v→ArgLies P W t v
 |[],[],[],ps,_,h=>⟨rfl,rfl,fun j t v h=>by simp at h⟩
 |t::ts,v::vs,d::ds,ps,ho,h=>by
  obtain⟨p,q,h1,h2,rfl⟩:=h
  obtain⟨e1,e2,e3⟩:=argsLie (fun j t v h1 h2=>ho (j+1) t v (by simpa using h1) (by simpa using h2)) h2
  refine⟨by simp [e1],by simp [e2],fun j t' v' h3 h4=>?_⟩
  cases j with
  |zero=>
   simp only[List.getElem?_cons_zero,Option.some.injEq] at h3 h4
   subst h3 h4
   exact argLies_of (ho 0 _ _ rfl rfl) h1
  |succ j=>exact e3 j t' v' (by simpa using h3) (by simpa using h4)
 |[],[],_::_,_,_,h=>by cases h
 |[],_::_,_,_,_,h=>by cases h
 |_::_,[],_,_,_,h=>by cases h
 |_::_,_::_,[],_,_,h=>by cases h
theorem post_true {H:Type}{enc:TypeId×Value→H}{P:Program}{fn:Func}{s:ChangeSpec}{fresh handsOn:Bool}{W:World}{base:Nat}{args:Array Value}{ds gs:List (DataW H)}{before:List MemPlace}{f:FuncId}{tb:TypeId}
  (hl:laidOutB P=true) (hvars:s.vars=[]) (hres:fn.resultTypes=#[tb]) (htb:P.underlying tb=some .bool)
  (hread:∀t∈fn.params.toList,P.readableRec t=true∧t<P.types.size)
  (hfn:∀ds:List (DataW H),ds.length=fn.params.size→s.fn H ds={results:=[.lit (.bool true)],args:=ds})
  (hval:∀(j:Nat) t v,fn.params[j]?=some t→args[j]?=some v→Value.okWide P W .any base t v)
  (hW:DataW.Whole enc P fn.params.toList s.vars false W args.toList ds gs before)
  (hC:args.size=fn.params.size→(∀(j:Nat) t v,fn.params[j]?=some t→args[j]?=some v→ArgLies P W t v)→Calls P f args W (Ret fun v W'=>v=.bool true∧Ext W W')):
  Calls P f args W fun e W'=> ∃v,e=.returned v∧s.post enc P fn false fresh handsOn false W args v W':=by
 have hW':=hW
 obtain⟨p,q,hA,hV,rfl,hfz,hnd⟩:=hW
 rw[hvars] at hV
 obtain⟨rfl,rfl⟩:=trodVars_none hV
 obtain⟨e1,e2,e3⟩:=argsLie (fun j t v h1 h2=>hval j t v (by simpa using h1) (by simpa using h2)) hA
 have hlt:∀x∈p,x.block<W.heap.size:=fun x hx=>by simpa using hW'.lt x (by simpa using hx)
 refine Calls.mono (hC (by simpa using e1) fun j t v h1 h2=>e3 j t v (by simpa using h1) (by simpa using h2)) fun e W' he=>?_
 obtain⟨v,rfl,rfl,hE⟩:=he
 have hB:=below_of_ext hE
 refine⟨_,rfl,ds,[],p++[],[],p,[],hW',?_,?_,?_,hB.frame _,fun h=>by cases h⟩
 ·rw[List.append_nil,hfn ds (by simpa using e2),hres]
  refine trodAll_mk1 ⟨1,?_⟩
  simp [Value.cells,DataW.trod,htb]
 ·rw[List.append_nil,hfn ds (by simpa using e2)]
  exact trodAll_stays hl hB hread hA hlt
 ·rw[List.append_nil,hfn ds (by simpa using e2),hvars];rfl
end Go.Vc
