/- Memory: what a store, a new block, a draw leave; slices; what a call keeps. -/
import Derived.Test.YtmnogjgmkpjpoaaGreatQG
set_option linter.unusedSimpArgs false
set_option linter.unusedVariables false
set_option linter.constructorNameAsVariable false
namespace Go.Vc
theorem sz1 (v:Value):(#[v]:Array Value).size=1:=rfl
theorem sz2 (v u:Value):(#[v,u]:Array Value).size=2:=rfl
theorem sz3 (v u x:Value):(#[v,u,x]:Array Value).size=3:=rfl
theorem app_empty (v:Array Value):v++#[]=v:=by simp
theorem one_app (v u:Value):(#[v]:Array Value)++#[u]=#[v,u]:=rfl
theorem size_alloc (w:World)(o:Obj):(w.alloc o).heap.size=w.heap.size+1:=by simp
theorem size_setCell (w:World)(a:Addr)(v:Value):(w.setCell a v).heap.size=w.heap.size:=by simp
theorem size_drew (w:World):w.drew.heap.size=w.heap.size:=id rfl
theorem size_setO (w:World)(r:Nat)(o:Obj):(w.setO r o).heap.size=w.heap.size:=by simp [World.setO]
theorem size_putN (w:World)(b o:Nat)(cs:Array Value):(w.putN b o cs).heap.size=w.heap.size:=by
 unfold World.putN;split<;>simp
theorem heap_new (w:World)(o:Obj)(b:Nat)(h:b=w.heap.size):(w.alloc o).heap[b]?=some o:=by subst h;exact heap_alloc_new w o
theorem heap_old (w:World)(o:Obj)(b:Nat)(h:b≠w.heap.size):(w.alloc o).heap[b]?=w.heap[b]?:=by
 show (w.heap.push o)[b]?=w.heap[b]?
 rw[Array.getElem?_push,if_neg h]
theorem heap_drw (w:World):w.drew.heap=w.heap:=id rfl
theorem heap_setCell_ne (w:World)(b c o:Nat)(s:Option Nat)(v:Value)(h:c≠b):(w.setCell ⟨b,o,s⟩ v).heap[c]?=w.heap[c]?:=heap_setCell_other w ⟨b,o,s⟩ c v h
theorem heap_setCell_eq {w:World}{b o:Nat}{v:Value}{c:Array Value}{t:TypeId}{fr:Nat×Nat}(hb:w.heap[b]?=some (.cells c t fr)):
  (w.setCell ⟨b,o,none⟩ v).heap[b]?=some (.cells (c.setIfInBounds o v) t fr):=by
 simp [World.setCell,Array.getElem?_modify,hb]
theorem heap_putN_ne (w:World)(b c o:Nat)(cs:Array Value)(h:c≠b):(w.putN b o cs).heap[c]?=w.heap[c]?:=by
 unfold World.putN
 split
 ·exact setRow_other w b c _ h
 ·rfl
theorem heap_putN_eq {w:World}{b o:Nat}{cs c:Array Value}{t:TypeId}{fr:Nat×Nat}(hb:w.heap[b]?=some (.cells c t fr)):
  (w.putN b o cs).heap[b]?=some (.cells (spliceA c o cs) t fr):=by
 simp only[World.putN,hb]
 exact setRow_heap w b c _ t _ hb
theorem heap_setO_ne (w:World)(r c:Nat)(o:Obj)(h:c≠r):(w.setO r o).heap[c]?=w.heap[c]?:=by
 simp only[World.setO,Array.getElem?_setIfInBounds_ne (Ne.symm h)]
theorem heap_setO_eq (w:World)(r:Nat)(o:Obj)(h:r<w.heap.size):(w.setO r o).heap[r]?=some o:=by
 simp [World.setO,h]
theorem splice_all {c cs:Array Value}(h:cs.size=c.size):spliceA c 0 cs=cs:=by
 apply Array.ext'
 simp only[spliceA,List.take_zero,List.nil_append,Nat.zero_add]
 rw[List.drop_eq_nil_of_le (by simp [h])];simp
def cellO:Option Obj→Nat→Option Value
 |some (.cells c _ _),o=>c[o]?
 |_,_=>none
def rdO:Option Obj→Nat→Nat→Option (Array Value)
 |some (.cells c _ _),o,n=>if o+n≤c.size then some (c.extract o (o+n)) else none
 |_,_,_=>none
theorem cell_heap (w:World)(b o:Nat):w.cell? ⟨b,o,none⟩=cellO w.heap[b]? o:=by
 simp only[World.cell?]
 cases h:w.heap[b]? with
 |none=>rfl
 |some x=>cases x<;>rfl
theorem rdN_heap (w:World)(b o n:Nat):rdN w b o n=rdO w.heap[b]? o n:=by
 unfold rdN
 cases h:w.heap[b]? with
 |none=>rfl
 |some x=>cases x<;>rfl
theorem cellO_some (c:Array Value)(t:TypeId)(fr:Nat×Nat)(o:Nat):cellO (some (.cells c t fr)) o=c[o]?:=rfl
theorem rdO_some (c:Array Value)(t:TypeId)(fr:Nat×Nat)(o n:Nat)(h:o+n≤c.size):rdO (some (.cells c t fr)) o n=some (c.extract o (o+n)):=by simp [rdO,h]
theorem rdO_all (c:Array Value)(t:TypeId)(fr:Nat×Nat)(n:Nat)(h:c.size=n):rdO (some (.cells c t fr)) 0 n=some c:=by
 subst h;simp [rdO]
theorem ext_all (c:Array Value)(n:Nat)(h:c.size=n):c.extract 0 n=c:=by subst h;simp
theorem okN_of {w:World}{b o n:Nat}{c:Array Value}{t:TypeId}(hb:w.heap[b]?=some (.cells c t (0,0)))(h:o+n≤c.size):okN w b o n:=⟨c,t,(0,0),hb,h,.inl rfl⟩
theorem wr1_of {w:World}{b o:Nat}{c:Array Value}{t:TypeId}(hb:w.heap[b]?=some (.cells c t (0,0)))(h:o<c.size):wr1 w b o:=
 ⟨⟨c[o],by rw[cell_heap,hb,cellO_some];simp [h]⟩,by simp [World.frozen?,hb]⟩
def okO:Option Obj→Nat→Nat→Prop
 |some (.cells c _ fr),o,n=>(fr=(0,0)∨o+n≤fr.1)∧o+n≤c.size
 |_,_,_=>False
theorem okN_o (w:World)(b o n:Nat):okN w b o n=okO w.heap[b]? o n:=by
 apply propext
 constructor
 ·rintro⟨c',t',fr,h,hle,hf⟩;rw[h];exact⟨hf,hle⟩
 ·intro h
  cases hb:w.heap[b]? with
  |none=>rw[hb] at h;exact h.elim
  |some x=>
   rw[hb] at h
   cases x<;>first|exact h.elim|(obtain⟨hf,h⟩:=h;exact⟨_,_,_,hb,h,hf⟩)
theorem okO_some (c:Array Value)(t:TypeId)(o n:Nat):okO (some (.cells c t (0,0))) o n=(o+n≤c.size):=by simp [okO]
def wrO:Option Obj→Nat→Prop
 |some (.cells c _ fr),o=>fr=(0,0)∧o<c.size
 |_,_=>False
theorem wrO_some (c:Array Value)(t:TypeId)(o:Nat):wrO (some (.cells c t (0,0))) o=(o<c.size):=by simp [wrO]
theorem flat_1 (a:Value):flat #[a]=a.oneCell':=by simp [flat]
theorem flat_2 (a b:Value):flat #[a,b]=(a.oneCell'∧b.oneCell'):=by simp [flat]
theorem flat_3 (a b c:Value):flat #[a,b,c]=(a.oneCell'∧b.oneCell'∧c.oneCell'):=by simp [flat]
theorem size_zc1 (n:Nat)(v:Value):(zc [(n,v)]).size=n:=by simp [zc,runs]
theorem size_zc2 (n m:Nat)(v u:Value):(zc [(n,v),(m,u)]).size=n+m:=by simp [zc,runs]
theorem lenM_none (w:World):lenMR w (.map none)=some (.int .i64 0):=rfl
structure Keep (S:Nat→Prop)(w w':World):Prop where
 os:w'.os=w.os
 tape:w'.tape=w.tape
 output:w'.output=w.output
 size:w.heap.size≤w'.heap.size
 block:∀k,k<w.heap.size→¬S k→w'.heap[k]?=w.heap[k]?
abbrev Ext (w w':World):Prop:=Keep (fun _=>False) w w'
theorem Keep.refl (S:Nat→Prop)(w:World):Keep S w w:=⟨rfl,rfl,rfl,Nat.le_refl _,fun _ _ _=>rfl⟩
theorem Keep.trans {S T:Nat→Prop}{a b c:World}(h:Keep S a b)(k:Keep T b c)(hT:∀i,i<a.heap.size→T i→S i):Keep S a c:=
 ⟨k.os.trans h.os,k.tape.trans h.tape,k.output.trans h.output,Nat.le_trans h.size k.size,
  fun i hi hs=>(k.block i (Nat.lt_of_lt_of_le hi h.size) fun ht=>hs (hT i hi ht)).trans (h.block i hi hs)⟩
theorem Keep.mono {S T:Nat→Prop}{a b:World}(h:Keep S a b)(hT:∀i,S i→T i):Keep T a b:=
 ⟨h.os,h.tape,h.output,h.size,fun i hi hs=>h.block i hi fun h=>hs (hT i h)⟩
theorem Keep.ext {S:Nat→Prop}{a b c:World}(h:Keep S a b)(k:Ext b c):Keep S a c:=h.trans k fun _ _ h=>h.elim
theorem Keep.alloc {S:Nat→Prop}{a w:World}(h:Keep S a w)(o:Obj):Keep S a (w.alloc o):=
 h.ext ⟨rfl,rfl,rfl,by simp,fun k hk _=>heap_alloc_old w o k hk⟩
theorem Keep.drew {S:Nat→Prop}{a w:World}(h:Keep S a w):Keep S a w.drew:=⟨h.os,h.tape,h.output,h.size,h.block⟩
theorem Keep.setCell {S:Nat→Prop}{a w:World}(h:Keep S a w){b o:Nat}{s:Option Nat}(v:Value)(hb:b<a.heap.size→S b):Keep S a (w.setCell ⟨b,o,s⟩ v):=
 h.trans (T:=fun i=>i=b) ⟨rfl,rfl,rfl,by simp,fun k _ hs=>heap_setCell_ne w b k o s v hs⟩ fun i hi hs=>by subst hs;exact hb hi
theorem Keep.putN {S:Nat→Prop}{a w:World}(h:Keep S a w){b o:Nat}(cs:Array Value)(hb:b<a.heap.size→S b):Keep S a (w.putN b o cs):=
 h.trans (T:=fun i=>i=b) ⟨by unfold World.putN;split<;>rfl,by unfold World.putN;split<;>rfl,by unfold World.putN;split<;>rfl,by rw[size_putN];exact Nat.le_refl _,fun k _ hs=>heap_putN_ne w b k o cs hs⟩
  fun i hi hs=>by subst hs;exact hb hi
theorem Keep.setO {S:Nat→Prop}{a w:World}(h:Keep S a w){r:Nat}(o:Obj)(hb:r<a.heap.size→S r):Keep S a (w.setO r o):=
 h.trans (T:=fun i=>i=r) ⟨rfl,rfl,rfl,by rw[size_setO];exact Nat.le_refl _,fun k _ hs=>heap_setO_ne w r k o hs⟩ fun i hi hs=>by subst hs;exact hb hi
theorem Keep.grown {S:Nat→Prop}{a w w':World}{row:Option Nat}(h:Keep S a w)(hg:w.grownBy w' row)(hr:∀k,k<a.heap.size→row=some k→S k):Keep S a w':=
 h.trans (T:=fun i=>row=some i) ⟨hg.os,hg.tape,hg.output,hg.size,fun k hk hs=>hg.block k hk fun e=>hs e.symm⟩ fun i hi hs=>hr i hi hs
theorem Keep.at {S:Nat→Prop}{w w':World}(h:Keep S w w'){b:Nat}{o:Obj}(hb:w.heap[b]?=some o)(hs:¬S b):w'.heap[b]?=some o:=by
 rw[h.block b (Array.getElem?_eq_some_iff.1 hb).1 hs];exact hb
theorem lt_of_heap {w:World}{b:Nat}{o:Obj}(hb:w.heap[b]?=some o):b<w.heap.size:=(Array.getElem?_eq_some_iff.1 hb).1
theorem rdS_own {w:World}{base:Nat}{e:TypeId}{size:Nat}{v:Value}{n:Nat}{xs:List Value}(h:w.ownsRow base e size v n xs):rdS w size v=some xs.toArray:=by
 obtain⟨hl,⟨rfl,rfl⟩|⟨g,cap,cur,rfl,_,hb,hn,_,hcs,htake⟩⟩:=h
 ·have:xs=[]:=List.eq_nil_of_length_eq_zero (by simpa using hl)
  subst this;rfl
 ·simp only[rdS]
  split
  ·rename_i h0;subst h0
   have:xs=[]:=List.eq_nil_of_length_eq_zero (by simpa using hl)
   subst this;rfl
  ·rw[rdN_heap,hb]
   have hle:n*size≤cur.size:=by rw[hcs];exact Nat.mul_le_mul_right _ hn
   rw[rdO_some _ _ _ _ _ (by omega)]
   congr 1
   apply Array.ext'
   simp [←htake,List.extract]
theorem appV_own3 {w:World}{base el size bytes:Nat}{z:List Value}{v x:Value}{n:Nat}{xs:List Value}{news:Array Value}{q:Option Addr}{m d:Nat}{K:Value→World→Prop}
  (h:w.ownsRow base el size v n xs) (hx:x=.slice q m d) (hr:rdS w size x=some news) (hf:flat news) (hlen:n+m≤maxLen) (hb:(n+m)*bytes≤140737488355328) (hz:z.length=size)
  (hbase:base≤w.heap.size) (hs:0<size)
  (hk:∀v' w',w'.ownsRow base el size v' (n+m) (xs++news.toList)→w.grownBy w' v.ownBlock→(∀g,v'.ownBlock=some g→v.ownBlock=some g∨w.heap.size≤g)→K v' w'):appV el size bytes z v x w K:=by
 subst hx
 have hro:=rdS_own h
 have hnews:news.size=m*size:=by
  simp only[rdS] at hr
  split at hr
  ·rename_i h0;subst h0;simp at hr;subst hr;simp
  ·split at hr
   ·exact rdN_some_size hr
   ·cases hr
 have hxl:(xs++news.toList).length=(n+m)*size:=by rw[List.length_append,h.1];simp [hnews,Nat.add_mul]
 have grow:∀(p:Option Addr) (c:Nat),v=.slice p n c→c<n+m→∀c',n+m≤c'→c'≤maxLen→
   K (.slice (some ⟨w.heap.size,0,none⟩) (n+m) c') (w.drew.alloc (.cells (xs++news.toList++zrep (c' - (n+m)) z).toArray el)):=by
  intro p c hv hc c' hc1 hc2
  refine hk _ _ ⟨hxl,.inr ⟨w.heap.size,c',_,rfl,hbase,heap_alloc_new w.drew _,hc1,hc2,?_,?_⟩⟩ ⟨rfl,rfl,rfl,by simp,fun k hk _=>heap_alloc_old w.drew _ k hk⟩ (fun g hg=>by cases hg;exact .inr (Nat.le_refl _))
  ·rw[List.size_toArray,List.length_append,hxl,length_zrep,hz,←Nat.add_mul];congr 1;omega
  ·rw[←hxl];exact List.take_left
 have keep0:∀(p:Option Addr) (c:Nat),v=.slice p n c→m*size=0→K (.slice p (n+m) c) w:=by
  intro p c hv h0
  have hm:m=0:=by rcases Nat.mul_eq_zero.1 h0 with h|h;exact h;omega
  subst hm
  have hn0:news.toList=[]:=List.eq_nil_of_length_eq_zero (by simp [hnews])
  rw[Nat.add_zero,←hv]
  refine hk v w ?_ ⟨rfl,rfl,rfl,Nat.le_refl _,fun _ _ _=>rfl⟩ (fun g hg=>.inl hg)
  rw[hn0,List.append_nil];exact h
 unfold appV
 obtain⟨hl,⟨rfl,rfl⟩|⟨g,cap,cur,rfl,hbg,hg,hn,hcm,hcs,htake⟩⟩:=h
 ·have hm0:0+m≤0→m*size=0:=fun h=>by
   have h0:m=0:=by omega
   rw[h0,Nat.zero_mul]
  simp only[hro,hr,getV_some]
  exact⟨hf,hlen,hb,hz,fun hc=>⟨fun h0=>keep0 _ _ rfl h0,fun h0=>absurd (hm0 hc) h0⟩,fun hc h0=>absurd (hm0 hc) h0,grow _ _ rfl⟩
 ·simp only[hro,hr,getV_some]
  refine⟨hf,hlen,hb,hz,fun hc=>⟨fun h0=>keep0 _ _ rfl h0,fun h0 b o hp=>?_⟩,fun hc h0=>⟨g,0,rfl⟩,grow _ _ rfl⟩
  cases hp
  have hfit:n*size+m*size≤cur.size:=by rw[hcs,←Nat.add_mul];exact Nat.mul_le_mul_right _ hc
  refine⟨okN_of hg (by omega),hk _ _ ⟨hxl,.inr ⟨g,cap,_,rfl,hbg,heap_putN_eq hg,hc,hcm,?_,?_⟩⟩ ⟨by simp only[World.putN,hg];rfl,by simp only[World.putN,hg];rfl,by simp only[World.putN,hg];rfl,by rw[size_putN];exact Nat.le_refl _,fun k _ hk=>heap_putN_ne w g k _ _ (fun e=>hk (by simp [Value.ownBlock,e]))⟩ (fun g' hg'=>.inl hg')⟩
  ·simp only[spliceA,List.size_toArray,List.length_append,List.length_take,List.length_drop,Array.length_toList,hnews]
   omega
  ·simp only[spliceA,Nat.zero_add]
   rw[htake,←hxl]
   exact List.take_left
theorem ownsRow_keep {S:Nat→Prop}{w w':World}{base el size n:Nat}{v:Value}{xs:List Value}(h:w.ownsRow base el size v n xs)(k:Keep S w w')(hS:∀b,v.ownBlock=some b→¬S b):
  w'.ownsRow base el size v n xs:=by
 refine⟨h.1,?_⟩
 obtain⟨_,h|⟨g,cap,cur,rfl,hbg,hg,r⟩⟩:=h
 ·exact .inl h
 ·exact .inr ⟨g,cap,cur,rfl,hbg,k.at hg (hS g rfl),r⟩
theorem rdS_keep {S:Nat→Prop}{w w':World}{size:Nat}{v:Value}{cs:Array Value}(h:rdS w size v=some cs)(k:Keep S w w')(hS:∀b,v.ownBlock=some b→¬S b):rdS w' size v=some cs:=by
 unfold rdS at h⊢
 cases v<;>try (cases h;done)
 rename_i p n c
 simp only at h⊢
 split at h
 ·rename_i h0;rw[if_pos h0];exact h
 ·rename_i h0
  rw[if_neg h0]
  split at h
  ·rename_i b o
   rw[rdN_heap] at h⊢
   cases hb:w.heap[b]? with
   |none=>rw[hb] at h;cases h
   |some x=>rw[k.at hb (hS b rfl)];rw[hb] at h;exact h
  ·cases h
theorem catV_nil (n:Nat):catV n []=some []:=id rfl
theorem catV_cons (n:Nat)(v:Value)(vs:List Value):catV n (v::vs)=if v.cells.size=n then (catV n vs).map (v.cells.toList++ ·) else none:=id rfl
theorem one_row {w:World}{base el size:Nat}{v:Value}{n:Nat}{xs:List Value}(h:w.ownsRow base el size v n xs):v.oneCell'=true:=by
 obtain⟨_,⟨rfl,h0⟩|⟨g,cap,cur,rfl,_⟩⟩:=h<;>rfl
theorem row_max {w:World}{base el size:Nat}{v:Value}{n:Nat}{xs:List Value}(h:w.ownsRow base el size v n xs):n≤maxLen:=by
 obtain⟨_,⟨_,h0⟩|⟨g,cap,cur,rfl,_,_,h1,h2,_⟩⟩:=h
 ·rw[h0];exact Nat.zero_le _
 ·exact Nat.le_trans h1 h2
theorem flat_take {size:Nat}:∀{ids:List (Array Value)} (j:Nat),(∀k∈ids,k.size=size)→(ids.flatMap Array.toList).take (j*size)=(ids.take j).flatMap Array.toList
 |[],j,_=>by simp
 |k::ids,0,hs=>by simp
 |k::ids,j+1,hs=>by
  have e:k.toList.length=size:=by simpa using hs k (by simp)
  have ih:=flat_take (ids:=ids) j fun k hk=>hs k (by simp [hk])
  simp only[List.flatMap_cons,List.take_succ_cons]
  rw[List.take_append,e,List.take_of_length_le (by rw[e,Nat.add_mul];omega)]
  have:(j+1)*size - size=j*size:=by rw[Nat.add_mul];omega
  rw[this,ih]
theorem flat_drop {size:Nat}:∀{ids:List (Array Value)} (j:Nat),(∀k∈ids,k.size=size)→(ids.flatMap Array.toList).drop (j*size)=(ids.drop j).flatMap Array.toList
 |[],j,_=>by simp
 |k::ids,0,hs=>by simp
 |k::ids,j+1,hs=>by
  have e:k.toList.length=size:=by simpa using hs k (by simp)
  have ih:=flat_drop (ids:=ids) j fun k hk=>hs k (by simp [hk])
  simp only[List.flatMap_cons,List.drop_succ_cons]
  rw[List.drop_append,e,List.drop_eq_nil_of_le (by rw[e,Nat.add_mul];omega)]
  have:(j+1)*size - size=j*size:=by rw[Nat.add_mul];omega
  rw[this,ih,List.nil_append]
theorem flat_len {size:Nat}:∀{ids:List (Array Value)},(∀k∈ids,k.size=size)→(ids.flatMap Array.toList).length=ids.length*size
 |[],_=>by simp
 |k::ids,hs=>by
  have e:k.toList.length=size:=by simpa using hs k (by simp)
  have ih:=flat_len (ids:=ids) fun k hk=>hs k (by simp [hk])
  rw[List.flatMap_cons,List.length_append,e,ih,List.length_cons,Nat.add_mul];omega
theorem flat_flat {ids:List (Array Value)}(h:∀k∈ids,flat k):flat (ids.flatMap Array.toList).toArray:=by
 intro v hv
 obtain⟨k,hk,hv⟩:=List.mem_flatMap.1 hv
 exact h k hk v hv
end Go.Vc
