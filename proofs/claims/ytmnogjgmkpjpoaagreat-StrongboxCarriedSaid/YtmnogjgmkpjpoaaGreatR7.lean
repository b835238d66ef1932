/- Laws that the last text of this claim uses, part 7: written for it, merged by program. -/
import Derived.Test.YtmnogjgmkpjpoaaGreatR6
set_option linter.unusedSimpArgs false
set_option linter.unusedVariables false
set_option linter.constructorNameAsVariable false
namespace Go.Proofs
open Go.Vc Go.RowKit
set_option maxRecDepth 10000
def prW (n i:Nat):Nat:=min 2 (n - 2*i)
def prV (b o n i:Nat):Value:=.slice (some ⟨b,o+2*i*32,none⟩) (prW n i) (prW n i)
def chL (k i:Nat):List (Fin k):=(List.finRange k).take i
theorem chL_succ {k i:Nat}(h:i<k):chL k (i+1)=chL k i++[⟨i,h⟩]:=by
 unfold chL
 rw[List.take_add_one,List.getElem?_eq_getElem (by simpa using h)]
 simp
theorem chL_len {k i:Nat}(h:i≤k):(chL k i).length=i:=by simp [chL];omega
theorem chL_all (k:Nat):chL k k=List.finRange k:=by
 unfold chL
 rw[List.take_of_length_le (by simp)]
theorem grown_drew (w:World):w.grownBy w.drew none:=⟨rfl,rfl,rfl,Nat.le_refl _,fun _ _ _=>rfl⟩
set_option maxHeartbeats 1600000 in
theorem chunk_stops (w0:World)(b1 b2 b o n c:Nat)(T1 T2:TypeId)(h1:w0.heap[b1]?=some (.cells #[.slice (some ⟨b,o,none⟩) n c] T1 (0,0)))(h2:w0.heap[b2]?=some (.cells #[.int .i64 2] T2 (0,0)))
  (hb1:b1<w0.heap.size) (hb2:b2<w0.heap.size) (hnc:n≤c) (hl:n≤1000000):
  SeqStopsK (fen none) 2 Tryz.prog 130 #[.pointer (some ⟨b1,0,none⟩),.pointer (some ⟨b2,0,none⟩)] (fun i:Fin ((n+1)/2)=>#[prV b o n i.val]) (KpB [b1,b2]) (fun xs=>xs=List.finRange ((n+1)/2)) (fun _=>True) ((n+1)/2) w0:=by
 intro l J Jx W hW hJ hJx hY h0
 refine callsIn_of_ct t130_ok (Nat.le_of_ble_eq_true rfl) ?_
 simp only[Array.toList_append,List.cons_append,List.nil_append]
 simp only[argE_nil,argE_cons,Nat.reduceAdd,Nat.zero_add]
 have m1:=(hW.block b1 (by omega)).trans h1
 have m2:=(hW.block b2 (by omega)).trans h2
 simp (disch:=first|omega|assumption|rfl|(simp only[vcS]<;>omega)|fail) only[↓vcN,vcQ,simprocAttr,t130,↓vcC]
 (refine nx_at ?_;simp (disch:=first|omega|assumption|rfl|(simp only[vcS]<;>omega)|fail) only[↓vcN,vcQ,simprocAttr,↓vcC])
 refine lp_of (fun j ds e W=>ds=[]∧∃i,i+j=(n+1)/2∧Vc.look e 4=some (.int .i64 (2*i:Nat))∧Vc.look e 0=some (.func (.yield l) #[] #[])∧Vc.look e 1=some (.pointer (some ⟨b1,0,none⟩))∧Vc.look e 2=some (.pointer (some ⟨b2,0,none⟩))∧
  J (chL ((n+1)/2) i) W∧W.heap[b1]?=some (.cells #[.slice (some ⟨b,o,none⟩) n c] T1 (0,0))∧W.heap[b2]?=some (.cells #[.int .i64 2] T2 (0,0))) ((n+1)/2) ?_ ?_
 ·exact⟨rfl,0,by omega,rfl,rfl,rfl,rfl,h0,m1,m2⟩
 clear h0 m1 m2 hW
 generalize W.heap.size=B at hJ hJx
 clear W
 rintro j ds e W ⟨rfl,i,hi,l4,l0,l1,l2,hJi,m1,m2⟩
 simp (disch:=first|omega|assumption|rfl|(simp only[vcS]<;>omega)|fail) only[↓vcN,vcQ,simprocAttr,↓vcC,l4,l1,m1]
 by_cases hik:i< (n+1)/2
 ·have c1:((2*i:Nat):Int)< (n:Nat):=by omega
  (refine nx_at ?_;simp (disch:=first|omega|assumption|rfl|(simp only[vcS]<;>omega)|fail) only[↓vcN,vcQ,simprocAttr,↓vcC,c1])
  have c2:0≤((2*i:Nat):Int)∧((2*i:Nat):Int)≤(n:Nat):=by omega
  have c3:min (2:Int) ((n - ((2*i:Nat):Int).toNat:Nat):Int)=(prW n i:Nat):=by unfold prW;omega
  (refine nx_at ?_;simp (disch:=first|omega|assumption|rfl|(simp only[vcS]<;>omega)|fail) only[↓vcN,vcQ,simprocAttr,↓vcC,l4,l1,l2,m1,m2,c2,c3])
  have hz2:prW n i≤2:=by unfold prW;omega
  have hz1:1≤prW n i:=by unfold prW;omega
  have hz3:2*i+prW n i≤n:=by unfold prW;omega
  have hpv:prV b o n i=.slice (some ⟨b,o+2*i*32,none⟩) (prW n i) (prW n i):=rfl
  generalize hze:prW n i=z at*
  have c4:IntKind.i64.wrap (((2*i:Nat):Int)+(z:Nat))=((2*i+z:Nat):Int):=by rw[wrap_i64 (by omega) (by omega)];omega
  have c5:0≤((2*i+z:Nat):Int)∧((2*i+z:Nat):Int)≤(c:Nat)∧0≤((2*i+z:Nat):Int)∧((2*i+z:Nat):Int)≤((2*i+z:Nat):Int):=by omega
  have c6:0≤((2*i:Nat):Int)∧((2*i:Nat):Int)≤((2*i+z:Nat):Int):=by omega
  have c7:advA 32 (some ⟨b,o,none⟩) (2*i+z) (2*i)=some ⟨b,o+2*i*32,none⟩:=by
   unfold advA
   rw[if_neg (by omega)]
   show some (Addr.add ⟨b,o,none⟩ (2*i*32))=_
   unfold Addr.add
   by_cases h0:2*i*32=0
   ·rw[if_pos h0,h0,Nat.add_zero]
   ·rw[if_neg h0]
  have c8:2*i+z - 2*i=z:=by omega
  (refine nx_at ?_;simp (disch:=first|omega|assumption|rfl|(simp only[vcS]<;>omega)|fail) only[↓vcN,vcQ,simprocAttr,↓vcC,slc3_s,l0,l4,l1,m1,c4,c5,c6,Int.toNat_natCast,c7,c8])
  have hJd:J (chL ((n+1)/2) i) W.drew:=hJ _ _ _ _ hJi (grown_drew W) (fun r h=>by cases h)
  rw[←hpv]
  refine yv_of (hY (chL ((n+1)/2) i) ⟨i,hik⟩ W.drew hJd (by rw[chL_len (by omega)];exact hik)) ?_
  rintro en W2 (⟨rfl,hJ2,hB2⟩|⟨rfl,hJx2⟩)
  ·refine⟨_,rfl,?_⟩
   have m1':=(hB2 b1 (by simp)).trans m1
   have m2':=(hB2 b2 (by simp)).trans m2
   have c9:IntKind.i64.wrap (((2*i:Nat):Int)+2)=((2*(i+1):Nat):Int):=by rw[wrap_i64 (by omega) (by omega)];omega
   simp (disch:=first|omega|assumption|rfl|(simp only[vcS]<;>omega)|fail) only[↓vcN,vcQ,simprocAttr]
   (refine nx_at ?_;simp (disch:=first|omega|assumption|rfl|(simp only[vcS]<;>omega)|fail) only[↓vcN,vcQ,simprocAttr,↓vcC])
   (refine nx_at ?_;simp (disch:=first|omega|assumption|rfl|(simp only[vcS]<;>omega)|fail) only[↓vcN,vcQ,simprocAttr,↓vcC,l4,l1,l2,m1',m2',c9])
   exact⟨j - 1,by omega,i+1,by omega,rfl,l0,by rw[chL_succ hik];exact hJ2⟩
  ·refine⟨_,rfl,?_⟩
   simp (disch:=first|omega|assumption|rfl|(simp only[vcS]<;>omega)|fail) only[↓vcN,vcQ,simprocAttr]
   (refine nx_at ?_;simp (disch:=first|omega|assumption|rfl|(simp only[vcS]<;>omega)|fail) only[↓vcN,vcQ,simprocAttr,↓vcC])
   exact⟨⟨_,rfl⟩,.inr ⟨_,hJx2⟩⟩
 ·obtain rfl:i=(n+1)/2:=by omega
  have c1:¬((2*((n+1)/2):Nat):Int)< (n:Nat):=by omega
  (refine nx_at ?_;simp (disch:=first|omega|assumption|rfl|(simp only[vcS]<;>omega)|fail) only[↓vcN,vcQ,simprocAttr,↓vcC,c1])
  rw[chL_all] at hJi
  exact⟨⟨_,rfl⟩,.inl ⟨_,rfl,hJi⟩⟩
theorem chunk_ok (w:World)(x:Value)(hx:x.cells=#[x]):
  Calls Tryz.prog 108 #[x,.int .i64 2] w (Ret fun u w'=> ∃b1 b2 T1 T2,u=.func (.func 130) #[] #[.pointer (some ⟨b1,0,none⟩),.pointer (some ⟨b2,0,none⟩)]∧
   w'.heap[b1]?=some (.cells #[x] T1 (0,0))∧w'.heap[b2]?=some (.cells #[.int .i64 2] T2 (0,0))∧Ext w w'∧b1<w'.heap.size∧b2<w'.heap.size∧w.heap.size≤b1∧w.heap.size≤b2):=by
 refine calls_of_cfg c108_ok (Nat.le_of_ble_eq_true rfl) ?_
 simp only[argE_nil,argE_cons,Nat.reduceAdd,Nat.zero_add]
 (refine W_at c108_ok ⟨_,rfl,?_⟩;simp (disch:=first|omega|assumption|rfl|(simp only[vcS]<;>omega)|fail) only[↓vcN,vcQ,simprocAttr,hx])
 have h1:((w.alloc (.cells #[x] 105)).alloc (.cells #[.int .i64 2] 3)).heap[w.heap.size]?=some (.cells #[x] 105 (0,0)):=by rw[heap_old _ _ _ (by simp)];exact heap_new _ _ _ rfl
 have h2:((w.alloc (.cells #[x] 105)).alloc (.cells #[.int .i64 2] 3)).heap[w.heap.size+1]?=some (.cells #[.int .i64 2] 3 (0,0)):=heap_new _ _ _ (by simp)
 have hE:Ext w ((w.alloc (.cells #[x] 105)).alloc (.cells #[.int .i64 2] 3)):=((Keep.refl _ w).alloc _).alloc _
 have hS:((w.alloc (.cells #[x] 105)).alloc (.cells #[.int .i64 2] 3)).heap.size=w.heap.size+2:=by simp
 generalize World.alloc _ _=w1 at h1 h2 hE hS⊢
 iterate 4 (refine W_at c108_ok ⟨_,rfl,?_⟩;simp (disch:=first|omega|assumption|rfl|(simp only[vcS]<;>omega)|fail) only[↓vcN,vcQ,simprocAttr,h2,Ret_returned])
 exact⟨_,_,_,_,rfl,h1,h2,hE,by omega,by omega,by omega,by omega⟩
end Go.Proofs
namespace Go.Proofs
open Go.Vc Go.RowKit
set_option maxRecDepth 10000
def pairD (L:List (List Int))(i:Nat):List Int:=dblF (L.getD (2*i) []++L.getD (2*i+prW L.length i - 1) [])
theorem pairD_succ {a b:List Int}{l:List (List Int)}{i:Nat}(h:2*i<l.length):pairD (a::b::l) (i+1)=pairD l i:=by
 unfold pairD
 have e1:prW (a::b::l).length (i+1)=prW l.length i:=by simp only[prW,List.length_cons];omega
 have hz:1≤prW l.length i:=by unfold prW;omega
 rw[e1]
 have e2:2*(i+1)=(2*i)+1+1:=by omega
 have e3:2*(i+1)+prW l.length i - 1=(2*i+prW l.length i - 1)+1+1:=by omega
 rw[e3,e2]
 rfl
theorem pairs_up:∀(L:List (List Int)),(List.range ((L.length+1)/2)).map (pairD L)=upF L
 |a::b::l=>by
  have hl:((a::b::l).length+1)/2=(l.length+1)/2+1:=by simp only[List.length_cons];omega
  have ih:=pairs_up l
  rw[hl,List.range_succ_eq_map,List.map_cons,List.map_map,upF,←ih]
  congr 1
  refine List.map_congr_left fun i hi=>?_
  have:=List.mem_range.1 hi
  exact pairD_succ (by omega)
 |[a]=>by simp [pairD,prW,upF]
 |[]=>rfl
theorem fin_map {β:Type}(k:Nat)(f:Nat→β):(List.finRange k).map (fun i=>f i.val)=(List.range k).map f:=by
 apply List.ext_getElem<;>simp
def CollOk (lo:Nat)(w:World)(ds:List Deferred):Prop:=∃Ds:List Nat,ds=Ds.map collD∧Ds.Nodup∧∀D∈Ds,lo≤D∧w.heap[D]?=some (.deferred (some []))
theorem CollOk.keep {S:Nat→Prop}{lo:Nat}{w w':World}{ds:List Deferred}(h:CollOk lo w ds)(k:Keep S w w')(hS:∀g,S g→w.heap[g]?=some (.deferred (some []))→False):CollOk lo w' ds:=by
 obtain⟨Ds,h1,h2,h3⟩:=h
 exact⟨Ds,h1,h2,fun D hD=>⟨(h3 D hD).1,k.at (h3 D hD).2 fun hs=>hS D hs (h3 D hD).2⟩⟩
theorem CollOk.cons {lo D:Nat}{w7 w:World}{ds:List Deferred}(h7:CollOk lo w7 ds)(h:CollOk lo w ds)(hlo:lo≤D)(hD:w.heap[D]?=some (.deferred (some [])))(hB:w7.heap.size≤D):CollOk lo w (collD D::ds):=by
 obtain⟨Ds,h1,h2,h3⟩:=h
 obtain⟨Es,g1,g2,g3⟩:=h7
 refine⟨D::Ds,by rw[h1];rfl,List.nodup_cons.2 ⟨fun hm=>?_,h2⟩,fun E hE=>?_⟩
 ·have hmem:collD D∈ds:=by rw[h1];exact List.mem_map.2 ⟨D,hm,rfl⟩
  rw[g1] at hmem
  obtain⟨D',hD',he⟩:=List.mem_map.1 hmem
  have he2:D'=D:=by
   unfold collD at he
   injection he with he
   injection he
  subst he2
  have:=lt_of_heap (g3 D' hD').2
  omega
 ·rcases List.mem_cons.1 hE with rfl|hE
  ·exact⟨hlo,hD⟩
  ·exact h3 E hE
theorem lv_all {rs:List RV}{R:Ending→World→Prop}{e:Env}{lo:Nat}:∀{ds:List Deferred} {w:World},CollOk lo w ds→(∀w',Keep (fun g=>lo≤g∧∃x,w.heap[g]?=some (.deferred x)) w w'→lvV rs R [] e w')→lvV rs R ds e w
 |[],w,_,h=>h w (Keep.refl _ w)
 |d::ds,w,hc,h=>by
  obtain⟨Ds,h1,h2,h3⟩:=hc
  cases Ds with
  |nil=>cases h1
  |cons D Ds=>
   simp only[List.map_cons,List.cons.injEq] at h1
   obtain⟨rfl,rfl⟩:=h1
   obtain⟨hlo,hD⟩:=h3 D (by simp)
   refine lvV_cons hD ?_
   have hk:Keep (fun g=>g=D) w (w.putObj D (.deferred none)):=(Keep.refl _ w).grown (grownBy_putObj' w D _) fun i _ h=>by cases h;rfl
   refine lv_all (lo:=lo) ⟨Ds,rfl,(List.nodup_cons.1 h2).2,fun E hE=>⟨(h3 E (by simp [hE])).1,?_⟩⟩ fun w' k'=>h w' ?_
   ·have hne:E≠D:=fun e=>(List.nodup_cons.1 h2).1 (e▸hE)
    exact hk.at (h3 E (by simp [hE])).2 hne
   ·refine(hk.mono fun g e=>?_).trans k' fun g hg hs=>?_
    ·subst e;exact⟨hlo,_,hD⟩
    ·refine⟨hs.1,?_⟩
     by_cases e:g=D
     ·subst e;exact⟨_,hD⟩
     ·obtain⟨x,hx⟩:=hs.2
      rw[World.putObj_heap_other (fun h=>e h)] at hx
      exact⟨x,hx⟩
theorem rd32_of {w:World}{b o:Nat}{H:List Int}(hl:H.length=32)(hr:rdO w.heap[b]? o 32=some (bv H).toArray):Rd w (.slice (some ⟨b,o,none⟩) 32 32) H:=by
 refine⟨⟨_,32,by rw[hl],by omega⟩,by rw[hl];decide,?_⟩
 simp only[rdS]
 rw[if_neg (by omega),rdN_heap]
 simpa using hr
theorem HsO.at {T m:Nat}{w:World}{v:Value}{hs:List (List Int)}(h:HsO T m w v hs){i:Nat}(hi:i<hs.length):∃b o c,v=.slice (some ⟨b,o,none⟩) hs.length c∧hs.length≤c∧m≤b∧(∃cur,w.heap[b]?=some (.cells cur T (0,0)))∧∀j (hj:j<hs.length),rdO w.heap[b]? (o+j*32) 32=some (bv hs[j]).toArray:=by
 obtain⟨q,c,e,hc⟩:=OwnO.is h
 rw[List.length_map] at e hc
 obtain⟨b,o,cap,cur,e',hg,hr⟩:=OwnO.at h (j:=i) (by rw[List.length_map];exact hi)
 rw[List.length_map] at e'
 rw[e'] at e
 injection e with e1 e2 e3
 subst e3
 refine⟨b,o,cap,e',hc,(OwnO.blk h (g:=b) (by rw[e'];rfl)).1,⟨cur,hg⟩,fun j hj=>?_⟩
 obtain⟨b',o',cap',cur',e'',hg',hr'⟩:=OwnO.at h (j:=j) (by rw[List.length_map];exact hj)
 rw[e'] at e''
 injection e'' with f1 f2 f3
 injection f1 with f1
 injection f1 with f4 f5
 subst f4 f5
 rw[hr']
 simp
theorem keepsFrom_of {S:Nat→Prop}{B:Nat}{w w':World}(h:Keep S w w')(hS:∀k,S k→∀o,w.heap[k]?=some o→o.isCells=true):KeepsFrom B w w':=by
 refine⟨h.size,fun k o _ hk ho=>?_⟩
 have hs:¬S k:=fun hs=>by rw[hS k hs o hk] at ho;cases ho
 exact(h.block k (Array.getElem?_eq_some_iff.1 hk).1 hs).trans hk
theorem at_own {B:Nat}{w w':World}{row:Option Nat}{p:Nat}{c:Array Value}{t:TypeId}{fr:Nat×Nat}(hg:w.grownBy w' row)(hr:∀r,row=some r→B≤r∧∃o:Obj,w.heap[r]?=some o∧o.isCells=false)
  (h:w.heap[p]?=some (.cells c t fr)):w'.heap[p]?=some (.cells c t fr):=
 (keep_grow hg hr).at h fun hn=>by obtain⟨_,o,ho,hc⟩:=hn;rw[h] at ho;cases ho;cases hc
theorem hs_own {B T m:Nat}{w w':World}{row:Option Nat}{v:Value}{L:List (List Int)}(hg:w.grownBy w' row)(hr:∀r,row=some r→B≤r∧∃o:Obj,w.heap[r]?=some o∧o.isCells=false)
  (h:HsO T m w v L):HsO T m w' v L:=
 OwnO.keep h (keep_grow hg hr) fun g hb hn=>by obtain⟨_,c,hc⟩:=OwnO.blk h hb;obtain⟨_,o',ho',hc'⟩:=hn;rw[hc] at ho';cases ho';cases hc'
end Go.Proofs
namespace Go.Proofs
open Go.Vc Go.RowKit
set_option maxRecDepth 10000
theorem hclone_ok (w:World)(b0:Nat)(v:Value)(cs:List (Array Value))(h:OwnO w b0 23 32 v cs)(hfl:∀c∈cs,flat c)(hl:cs.length≤100000):
  Calls Tryz.prog 107 #[v] w (Ret fun u w'=>OwnO w' w.heap.size 23 32 u cs∧Ext w w'):=by
 refine calls_of_cfg c107_ok (Nat.le_of_ble_eq_true rfl) ?_
 simp only[argE_nil,argE_cons,Nat.zero_add]
 have hr:=h.rd
 have hsz:=h.sz
 obtain⟨q,c,rfl,hc⟩:=h.is
 (refine W_at c107_ok ⟨_,rfl,?_⟩;simp (disch:=first|omega|assumption|rfl|(simp only[vcS]<;>omega)|fail) only[↓vcN,vcQ,simprocAttr])
 cases q with
 |none=>
  have h0:cs=[]:=by
   by_cases h0:cs.length=0
   ·exact List.eq_nil_of_length_eq_zero h0
   ·simp only[rdS] at hr
    rw[if_neg (by omega)] at hr
    cases hr
  subst h0
  iterate 4 (refine W_at c107_ok ⟨_,rfl,?_⟩;simp (disch:=first|omega|assumption|rfl|(simp only[vcS]<;>omega)|fail) only[↓vcN,vcQ,simprocAttr,Ret_returned])
  exact⟨OwnO.nil _ _ _ _,Keep.refl _ w⟩
 |some a=>
  iterate 3 (refine W_at c107_ok ⟨_,rfl,?_⟩;simp (disch:=first|omega|assumption|rfl|(simp only[vcS]<;>omega)|fail) only[↓vcN,vcQ,simprocAttr])
  have hE:Ext w (w.alloc (.cells [].toArray 23)):=(Keep.refl _ w).alloc _
  have hO:OwnO (w.alloc (.cells [].toArray 23)) w.heap.size 23 32 (.slice (some ⟨w.heap.size,0,none⟩) 0 0) []:=
   ⟨fun _ h=>(by cases h),.inr ⟨_,0,0,_,rfl,Nat.le_refl _,heap_new _ _ _ rfl,Nat.le_refl _,Nat.zero_le _,by simp,by simp⟩⟩
  refine appO4 (ids2:=cs) hO (rdS_keep hr hE fun _ _ h=>h) rfl hsz hfl (by simp;omega) (by simp;omega) rfl hE.size (by decide) fun v' w' k1 k2 k3=>?_
  rw[List.nil_append] at k1
  first|(simp (disch:=first|omega|assumption|rfl|(simp only[vcS]<;>omega)|fail) only[↓vcN,vcQ,simprocAttr])|skip
  (refine W_at c107_ok ⟨_,rfl,?_⟩;simp (disch:=first|omega|assumption|rfl|(simp only[vcS]<;>omega)|fail) only[↓vcN,vcQ,simprocAttr,Ret_returned])
  exact⟨k1,hE.trans k2 fun i hi e=>by have e':w.heap.size=i:=Option.some.inj e;omega⟩
set_option maxHeartbeats 3200000 in
theorem merkle_ok (w:World)(m0:Nat)(x:Value)(hs:List (List Int))(hx:HsO 23 m0 w x hs)(ho:HsOk hs)(hn:hs.length≤10):
  Calls Tryz.prog 58 #[x] w (Ret fun u w'=>u=.agg (bv (merkF hs.length hs)).toArray∧Ext w w'):=by
 refine calls_of_ct 3 t58_ok (Nat.le_of_ble_eq_true rfl) ?_
 simp only[]
 simp only[argE_nil,argE_cons,Nat.zero_add]
 have hlen:=OwnO.len hx
 rw[List.length_map] at hlen
 have hz:zc [(32,Value.int .u8 0)]=(bv Z32).toArray:=rfl
 have zl:(bv Z32).toArray.size=32:=rfl
 have oz:okO (some (.cells (bv Z32).toArray 23 (0,0))) 0 32=True:=by simp only[okO,zl];simp
 simp (disch:=first|omega|assumption|rfl|(simp only[vcS]<;>omega)|fail) only[↓vcN,vcQ,simprocAttr,t58,↓vcC,hz]
 have hE1:Ext w (w.alloc (.cells (bv Z32).toArray 23)):=(Keep.refl _ w).alloc _
 have c1:(w.alloc (.cells (bv Z32).toArray 23)).heap[w.heap.size]?=some (.cells (bv Z32).toArray 23 (0,0)):=heap_new _ _ _ rfl
 generalize World.alloc w _=w1 at hE1 c1⊢
 have hp2lt:w.heap.size<w1.heap.size:=lt_of_heap c1
 generalize hp2:w.heap.size=p2 at*
 have fin:∀(wj:World) (D:List Int),D.length=32→Ext w wj→wj.heap[p2]?=some (.cells (bv Z32).toArray 23 (0,0))→
   Ext w (wj.putN p2 0 (bv D).toArray)∧(wj.putN p2 0 (bv D).toArray).heap[p2]?=some (.cells (bv D).toArray 23 (0,0))∧rdO (some (.cells (bv D).toArray 23 (0,0))) 0 32=some (bv D).toArray:=fun wj D hD hE c=>
  ⟨hE.trans ((Keep.refl (fun g=>g=p2) wj).putN _ fun _=>rfl) fun g hg e=>by omega,by rw[heap_putN_eq c,splice_all (by rw[bva_size,hD,zl])],rdO_all _ _ _ _ (by rw[bva_size,hD])⟩
 by_cases h0:hs.length=0
 ·have:hs=[]:=List.eq_nil_of_length_eq_zero h0
  subst this
  obtain⟨f1,f2,f3⟩:=fin w1 Z32 rfl hE1 c1
  have hl0:(([]:List (List Int)).length:Int)=0:=rfl
  (refine nx_at ?_;simp (disch:=first|omega|assumption|rfl|(simp only[vcS]<;>omega)|fail) only[↓vcN,vcQ,simprocAttr,↓vcC,hlen])
  (refine nx_at ?_;simp (disch:=first|omega|assumption|rfl|(simp only[vcS]<;>omega)|fail) only[↓vcN,vcQ,simprocAttr,↓vcC,hz,c1,oz,zl])
  refine⟨bv_flat _,?_⟩
  first|((refine nx_at ?_;simp (disch:=first|omega|assumption|rfl|(simp only[vcS]<;>omega)|fail) only[↓vcN,vcQ,simprocAttr,↓vcC,f2,f3,Ret_returned]))|(simp (disch:=first|omega|assumption|rfl|(simp only[vcS]<;>omega)|fail) only[↓vcN,vcQ,simprocAttr,↓vcC,slc3_s,f2,f3,Ret_returned])|skip
  exact⟨rfl,f1⟩
 have h0i:¬(((hs.length:Nat):Int)=0):=by omega
 (refine nx_at ?_;simp (disch:=first|omega|assumption|rfl|(simp only[vcS]<;>omega)|fail) only[↓vcN,vcQ,simprocAttr,↓vcC,hlen,h0i])
 (refine nx_at ?_;simp (disch:=first|omega|assumption|rfl|(simp only[vcS]<;>omega)|fail) only[↓vcN,vcQ,simprocAttr,↓vcC])
 refine callV_ret (hclone_ok w1 m0 x _ (OwnO.ext hx hE1) (fun c hc=>by obtain⟨H,_,rfl⟩:=List.mem_map.1 hc;exact bv_flat H) (by rw[List.length_map];omega)) ?_
 rintro row0 w2 ⟨hR0,hE2⟩
 have c12:=hE2.at c1 (fun h=>h)
 have hE02:=hE1.ext hE2
 first|(simp (disch:=first|omega|assumption|rfl|(simp only[vcS]<;>omega)|fail) only[↓vcN,vcQ,simprocAttr,↓vcC])|skip
 (refine nx_at ?_;simp (disch:=first|omega|assumption|rfl|(simp only[vcS]<;>omega)|fail) only[↓vcN,vcQ,simprocAttr,↓vcC])
 have l2:w1.heap.size≤w2.heap.size:=hE2.size
 refine lp_of (fun j ds e W=> ∃row L,Vc.look e 2=some (.pointer (some ⟨p2,0,none⟩))∧Vc.look e 3=some row∧HsO 23 w1.heap.size W row L∧HsOk L∧0<L.length∧L.length≤j∧j≤10∧merkF hs.length hs=merkF j L∧Ext w W∧W.heap[p2]?=some (.cells (bv Z32).toArray 23 (0,0))∧w1.heap.size≤W.heap.size∧CollOk w1.heap.size W ds) hs.length ?_ ?_
 ·exact⟨row0,hs,rfl,rfl,hR0,ho,by omega,Nat.le_refl _,hn,rfl,hE02,c12,l2,[],rfl,List.nodup_nil,fun D hD=>by cases hD⟩
 generalize merkF hs.length hs=M
 clear hR0 hE2 c12 hE02 l2
 rintro j ds e W ⟨row,L,e2,e3,hR,hL,hpos,hlj,hj10,hM,hE,c2,lW,hC⟩
 have hlenL:=OwnO.len hR
 rw[List.length_map] at hlenL
 obtain⟨b,o,c,rfl,hcap,hmb,⟨cur,hcur⟩,hrd⟩:=HsO.at hR hpos
 have hlenL':lenR (.slice (some ⟨b,o,none⟩) L.length c)=some (.int .i64 (L.length:Nat)):=rfl
 simp (disch:=first|omega|assumption|rfl|(simp only[vcS]<;>omega)|fail) only[↓vcN,vcQ,simprocAttr,↓vcC,e3,hlenL']
 by_cases h1:L.length=1
 ·have h1i:¬((1:Int)< (L.length:Nat)):=by omega
  obtain⟨H,rfl⟩:=List.length_eq_one_iff.1 h1
  have hH:=hL H (by simp)
  have hr0:=hrd 0 (by simp)
  rw[Nat.zero_mul,Nat.add_zero,List.getElem_cons_zero] at hr0
  obtain⟨j',rfl⟩:∃j',j=j'+1:=⟨j - 1,by simp at hlj;omega⟩
  rw[merkF_one] at hM
  subst hM
  obtain⟨f1,f2,f3⟩:=fin W M hH.1 hE c2
  have sH:(bv M).toArray.size=32:=by rw[bva_size,hH.1]
  have bb:(0:Int)≤0∧(0:Int)< (([M]:List (List Int)).length:Nat):=by simp
  (refine nx_at ?_;simp (disch:=first|omega|assumption|rfl|(simp only[vcS]<;>omega)|fail) only[↓vcN,vcQ,simprocAttr,↓vcC])
  (refine nx_at ?_;simp (disch:=first|omega|assumption|rfl|(simp only[vcS]<;>omega)|fail) only[↓vcN,vcQ,simprocAttr,↓vcC,e3,e2,bb,Int.toNat_zero,hr0,c2,oz,sH])
  refine⟨bv_flat _,?_⟩
  (refine nx_at ?_;simp (disch:=first|omega|assumption|rfl|(simp only[vcS]<;>omega)|fail) only[↓vcN,vcQ,simprocAttr,↓vcC])
  have hCf:CollOk w1.heap.size (W.putN p2 0 (bv M).toArray) ds:=hC.keep ((Keep.refl (fun g=>g=p2) W).putN _ fun _=>rfl) fun g hg h=>by subst hg;rw[c2] at h;cases h
  refine lv_all hCf fun w' k'=>?_
  have f2':=k'.at f2 (fun h=>by have:=h.1;omega)
  have f1':=f1.trans k' fun g hg h=>by have:=h.1;omega
  simp (disch:=first|omega|assumption|rfl|(simp only[vcS]<;>omega)|fail) only[↓vcN,vcQ,simprocAttr,↓vcC,e2,f2',f3,Ret_returned]
  exact f1'
 ·have h1i:(1:Int)< (L.length:Nat):=by omega
  have hz1:zc [(1,Value.slice none 0 0)]=#[.slice none 0 0]:=rfl
  (refine nx_at ?_;simp (disch:=first|omega|assumption|rfl|(simp only[vcS]<;>omega)|fail) only[↓vcN,vcQ,simprocAttr,↓vcC,h1i])
  (refine nx_at ?_;simp (disch:=first|omega|assumption|rfl|(simp only[vcS]<;>omega)|fail) only[↓vcN,vcQ,simprocAttr,↓vcC,hz1])
  obtain⟨j,rfl⟩:∃j',j=j'+1:=⟨j - 1,by omega⟩
  rw[merkF_two (by omega)] at hM
  have hE3:Ext W (W.alloc (.cells #[.slice none 0 0] 105)):=(Keep.refl _ W).alloc _
  have c4:(W.alloc (.cells #[.slice none 0 0] 105)).heap[W.heap.size]?=some (.cells #[.slice none 0 0] 105 (0,0)):=heap_new _ _ _ rfl
  generalize World.alloc W _=w3 at hE3 c4⊢
  have lW4:W.heap.size<w3.heap.size:=lt_of_heap c4
  have lb4:b<W.heap.size:=lt_of_heap hcur
  have l2p:p2<W.heap.size:=lt_of_heap c2
  have hCW:CollOk w1.heap.size w3 ds:=hC.keep hE3 fun _ h=>h.elim
  generalize hp4:W.heap.size=p4 at*
  have hck:(Value.slice (some ⟨b,o,none⟩) L.length c).cells=#[.slice (some ⟨b,o,none⟩) L.length c]:=rfl
  (refine nx_at ?_;simp (disch:=first|omega|assumption|rfl|(simp only[vcS]<;>omega)|fail) only[↓vcN,vcQ,simprocAttr,↓vcC,e3])
  refine callV_ret (chunk_ok w3 (.slice (some ⟨b,o,none⟩) L.length c) hck) ?_
  rintro _ w7 ⟨b1,b2,T1,T2,rfl,hm1,hm2,hE7,hl1,hl2,hl3,hl4⟩
  first|(simp (disch:=first|omega|assumption|rfl|(simp only[vcS]<;>omega)|fail) only[↓vcN,vcQ,simprocAttr,↓vcC,slc3_s])|skip
  (refine nx_at ?_;simp (disch:=first|omega|assumption|rfl|(simp only[vcS]<;>omega)|fail) only[↓vcN,vcQ,simprocAttr,↓vcC])
  have hRW:=OwnO.ext (OwnO.ext hR hE3) hE7
  have c47:=hE7.at c4 (fun h=>h)
  have c27:=hE7.at (hE3.at c2 fun h=>h) (fun h=>h)
  have hC7:CollOk w1.heap.size w7 ds:=hCW.keep hE7 fun _ h=>h.elim
  have hE07:=(hE.ext hE3).ext hE7
  have l47:p4<w7.heap.size:=lt_of_heap c47
  have hst:=chunk_stops w7 b1 b2 b o L.length c T1 T2 hm1 hm2 hl1 hl2 hcap (by omega)
  have hrd7:∀W',Keep (fun i=>i=p4) w7 W'→∀j (hj:j<L.length),rdO W'.heap[b]? (o+j*32) 32=some (bv L[j]).toArray:=fun W' k j hj=>by
   have h1:=rdO_ext' (hE3.ext hE7) (hrd j hj)
   cases hg:w7.heap[b]? with
   |none=>rw[hg] at h1;cases h1
   |some ob=>rw[k.at hg (by omega)];rw[hg] at h1;exact h1
  refine rg_of [b1,b2] (by decide) _ _ _ _ _ _
   (fun (pre:List (Fin ((L.length+1)/2))) W=>Keep (fun i=>i=p4) w7 W∧∃up,W.heap[p4]?=some (.cells #[up] 105 (0,0))∧HsO 23 w7.heap.size W up (pre.map fun i=>pairD L i.val))
   (fun _ _ _=>False)
   (fun i e1 _=>Vc.look e1 5=some (prV b o L.length i.val)∧Vc.look e1 4=some (.pointer (some ⟨p4,0,none⟩)))
   rfl rfl (by intro b hb;simp at hb;omega) hst (fun _=>rfl) ?_ ?_ ⟨Keep.refl _ _,_,c47,OwnO.nil _ _ _ _⟩ (fun _ _ _ _ _ _ h _ _=>h) ?_ ?_ ?_ ?_
  ·rintro pre W W' row ⟨g1,up,g2,g3⟩ hg hr
   exact⟨g1.trans (keep_grow hg hr) fun i hi hk=>by have:=hk.1;omega,up,at_own hg hr g2,hs_own hg hr g3⟩
  ·rintro key pre W W' row hF hg hr
   exact hF
  ·intro l pre i W hI
   show ctV _ _ _ _ _ _ _ _ ((18,prV b o L.length i.val)::_) _
   simp (disch:=first|omega|assumption|rfl|(simp only[vcS]<;>omega)|fail) only[↓vcN,vcQ,simprocAttr,↓vcC]
   exact⟨KeepsFrom.refl _ _,fun _ _=>rfl,hI⟩
  ·rintro l pre i e1 W hl1 hr ⟨g1,up,g2,g3⟩ ⟨l5,l4⟩ hlt
   have hik:=i.isLt
   have hlt2:2*i.val<L.length:=by omega
   have hz1':1≤prW L.length i.val:=by unfold prW;omega
   have hz3:2*i.val+prW L.length i.val≤L.length:=by unfold prW;omega
   have hz2:prW L.length i.val≤2:=by unfold prW;omega
   have hpd:pairD L i.val=dblF (L.getD (2*i.val) []++L.getD (2*i.val+prW L.length i.val - 1) []):=rfl
   have l5':Vc.look e1 5=some (.slice (some ⟨b,o+2*i.val*32,none⟩) (prW L.length i.val) (prW L.length i.val)):=l5
   have hr1:=hrd7 W g1 (2*i.val) hlt2
   have hr2:=hrd7 W g1 (2*i.val+prW L.length i.val - 1) (by omega)
   have hH1:=hL _ (List.getElem_mem hlt2)
   have hH2:=hL _ (List.getElem_mem (show 2*i.val+prW L.length i.val - 1<L.length by omega))
   rw[List.getD_eq_getElem?_getD,List.getElem?_eq_getElem hlt2,List.getD_eq_getElem?_getD,List.getElem?_eq_getElem (show 2*i.val+prW L.length i.val - 1<L.length by omega)] at hpd
   simp only[Option.getD_some] at hpd
   generalize L[2*i.val]=H1 at hr1 hH1 hpd
   generalize L[2*i.val+prW L.length i.val - 1]=H2 at hr2 hH2 hpd
   have eo:o+2*i.val*32+(prW L.length i.val - 1)*32=o+(2*i.val+prW L.length i.val - 1)*32:=by omega
   rw[←eo] at hr2
   generalize hzz:prW L.length i.val=z at*
   have R1:=rd32_of hH1.1 hr1
   have R2:=rd32_of hH2.1 hr2
   generalize o+2*i.val*32=oo at*
   have lWp4:p4<W.heap.size:=lt_of_heap g2
   have lWb:b<W.heap.size:=by have:=g1.size;omega
   have bb:(0:Int)≤0∧(0:Int)< (z:Nat):=by omega
   have bz:0≤((z - 1:Nat):Int)∧((z - 1:Nat):Int)< (z:Nat):=by omega
   have hwz:IntKind.i64.wrap (((z:Nat):Int) - 1)=((z - 1:Nat):Int):=by rw[wrap_i64 (by omega) (by omega)];omega
   simp (disch:=first|omega|assumption|rfl|(simp only[vcS]<;>omega)|fail) only[↓vcN,vcQ,simprocAttr,↓vcC]
   have hS1:=new_sum W
   have hE6:Ext W (W.alloc (.cells (zc [(8,.int .u32 0),(1,.slice none 0 0),(1,.int .u64 0),(1,.bool false)]) 77)):=(Keep.refl _ W).alloc _
   generalize World.alloc W _=wA at hS1 hE6⊢
   generalize hp6:W.heap.size=p6 at*
   (refine nx_at ?_;simp (disch:=first|omega|assumption|rfl|(simp only[vcS]<;>omega)|fail) only[↓vcN,vcQ,simprocAttr,↓vcC,l5',bb,Int.toNat_zero])
   refine callV_ret (add_ok wA p6 _ _ [] H1 false hS1 (R1.ext hE6) (fun _ q n c e=>by cases e;show b≠p6;omega) hH1.2 byt_nil (by simp [hH1.1])) ?_
   rintro _ wB ⟨wv1,hS2,hK2,hB2⟩
   rw[List.nil_append] at hS2
   have hE2':Ext W wB:=hE6.trans hK2 fun g hg hs=>by
    rcases hs with e|hs
    ·omega
    ·cases hs
   first|(simp (disch:=first|omega|assumption|rfl|(simp only[vcS]<;>omega)|fail) only[↓vcN,vcQ,simprocAttr,↓vcC,slc3_s])|skip
   (refine nx_at ?_;simp (disch:=first|omega|assumption|rfl|(simp only[vcS]<;>omega)|fail) only[↓vcN,vcQ,simprocAttr,↓vcC,l5',hwz,bz,Int.toNat_natCast])
   refine callV_ret (add_ok wB p6 wv1 _ H1 H2 true hS2 (R2.ext hE2') (fun _ q n c e=>by cases e;show b≠p6;omega) hH2.2 hH1.2 (by simp [hH1.1,hH2.1])) ?_
   rintro _ wC ⟨wv2,hS3,hK3,hB3⟩
   have hwv1:∀y,blk wv1 y→p6≤y:=fun y hy=>by
    rcases hB2 y hy with h|h
    ·cases h
    ·have:=hE6.size;omega
   have hE3':Ext W wC:=hE2'.trans hK3 fun g hg hs=>by
    rcases hs with e|hs
    ·omega
    ·have:=hwv1 g hs;omega
   first|(simp (disch:=first|omega|assumption|rfl|(simp only[vcS]<;>omega)|fail) only[↓vcN,vcQ,simprocAttr,↓vcC,slc3_s])|skip
   have g2C:=hE3'.at g2 (fun h=>h)
   have hEd:Ext wC wC.drew:=(Keep.refl _ wC).drew
   have g2d:=hEd.at g2C (fun h=>h)
   (refine nx_at ?_;simp (disch:=first|omega|assumption|rfl|(simp only[vcS]<;>omega)|fail) only[↓vcN,vcQ,simprocAttr,↓vcC,l4,g2C])
   refine callV_ret (twice_ok wC.drew p6 wv2 (H1++H2) true (hS3.keep hEd (fun h=>h) fun _ _ h=>h) (byt_app hH1.2 hH2.2) (by simp [hH1.1,hH2.1])) ?_
   rintro _ wE ⟨rfl,hEe⟩
   have hDl:(dblF (H1++H2)).length=32:=dblF_len _
   rw[←hpd] at hDl⊢
   generalize hDD:pairD L i.val=D at*
   have hEW:=(hE3'.ext hEd).ext hEe
   have g2E:=hEW.at g2 (fun h=>h)
   have hupE:HsO 23 w7.heap.size wE up _:=OwnO.ext g3 hEW
   have hcx:(Value.agg (bv D).toArray).cells=(bv D).toArray:=rfl
   have hcz:(bv D).toArray.size=32:=by rw[bva_size,hDl]
   have hcl:(bv D).toArray.toList++[]=bv D:=by rw[List.append_nil]
   have g2E2:(wE.alloc (.cells (bv D).toArray 23)).heap[p4]?=some (.cells #[up] 105 (0,0)):=((Keep.refl (fun _=>False) wE).alloc _).at g2E (fun h=>h)
   have lw7:w7.heap.size≤wE.heap.size:=by have:=g1.size;have:=hEW.size;omega
   first|(simp (disch:=first|omega|assumption|rfl|(simp only[vcS]<;>omega)|fail) only[↓vcN,vcQ,simprocAttr,g2E,hcx,hcz,hcl,g2E2])|skip
   have hpl:pre.length≤10:=by omega
   refine HsO.app hupE hDl (by rw[List.length_map];omega) lw7 fun v' wF hvF hKF hbF=>?_
   have nb4:¬blk up p4:=fun hb=>by
    obtain⟨_,cc,hcc⟩:=OwnO.blk hupE hb
    rw[g2E] at hcc;cases hcc
   have g2F:=hKF.at g2E nb4
   have kG:Keep (fun g=>g=p4) wF (wF.setCell ⟨p4,0,none⟩ v'):=(Keep.refl _ wF).setCell _ fun _=>rfl
   have hkp:Keep (fun g=>g=p4∨blk up g) W (wF.setCell ⟨p4,0,none⟩ v'):=((hEW.mono fun _ h=>h.elim).trans hKF fun _ _ h=>.inr h).trans kG fun _ _ h=>.inl h
   have hup7:∀g,blk up g→w7.heap.size≤g:=fun g hg=>(OwnO.blk g3 hg).1
   first|(simp (disch:=first|omega|assumption|rfl|(simp only[vcS]<;>omega)|fail) only[↓vcN,vcQ,simprocAttr,↓vcC,slc3_s])|skip
   refine⟨OwnO.one hvF,wr1_of g2F (by simp),keepsFrom_of hkp fun k hk ob hob=>?_,fun q hq=>?_,g1.trans hkp fun k hk hs=>?_,v',by rw[heap_setCell_eq g2F];rfl,?_⟩
   ·rcases hk with rfl|hk
    ·rw[g2] at hob;cases hob;rfl
    ·obtain⟨_,cc,hcc⟩:=OwnO.blk g3 hk
     rw[hcc] at hob;cases hob;rfl
   ·simp only[List.mem_cons,List.not_mem_nil,or_false] at hq
    have h9:=g1.size
    refine hkp.block q (by rcases hq with rfl|rfl<;>omega) fun hs=>?_
    rcases hs with hs|hs
    ·rcases hq with rfl|rfl<;>omega
    ·have:=hup7 q hs
     rcases hq with rfl|rfl<;>omega
   ·rcases hs with hs|hs
    ·exact hs
    ·have:=hup7 k hs;omega
   ·have h5:HsO 23 w7.heap.size (wF.setCell ⟨p4,0,none⟩ v') v' (pre.map (fun i=>pairD L i.val)++[D]):=OwnO.keep hvF kG fun g hg e=>by
     subst e
     obtain⟨_,cc,hcc⟩:=OwnO.blk hvF hg
     rw[g2F] at hcc;cases hcc
    rw[List.map_append,List.map_singleton,hDD]
    exact h5
  ·rintro D xs W hD rfl ⟨g1,up,g2,g3⟩ hDK
   rw[fin_map,pairs_up] at g3
   have hup:=upF_len L
   have h9:=g1.size
   (refine nx_at ?_;simp (disch:=first|omega|assumption|rfl|(simp only[vcS]<;>omega)|fail) only[↓vcN,vcQ,simprocAttr,↓vcC,g2])
   exact⟨j,rfl,up,upF L,e2,rfl,OwnO.base g3 (by omega),fun H hH=>upF_mem hH,by omega,by omega,by omega,hM,hE07.trans g1 fun k hk e=>by omega,g1.at c27 (by omega),by omega,CollOk.cons hC7 (hC7.keep g1 fun g hg h=>by subst hg;rw[c47] at h;cases h) (by omega) hDK hD⟩
  ·rintro D key pre W hD _ hF hDK
   exact hF.elim
end Go.Proofs
namespace Go.Proofs
open Go.Vc
set_option maxRecDepth 10000
def wids (ts:List TxV):List (List Int):=ts.map fun t=>dblF (encT t)
def rootF (ts:List TxV):List Int:=merkF ts.length (wids ts)
theorem wids_ok (ts:List TxV):HsOk (wids ts):=fun H hH=>by
 obtain⟨t,_,rfl⟩:=List.mem_map.1 hH
 exact⟨dblF_len _,dblF_byt _⟩
theorem wids_len (ts:List TxV):(wids ts).length=ts.length:=List.length_map _
theorem wids_take {ts:List TxV}{i:Nat}(h:i<ts.length):wids (ts.take (i+1))=wids (ts.take i)++[dblF (encT ts[i])]:=by
 unfold wids
 rw[List.take_add_one,List.getElem?_eq_getElem h,List.map_append];rfl
theorem rootF_len (ts:List TxV):(rootF ts).length=32:=merkF_len (wids_ok ts)
set_option maxHeartbeats 1600000 in
theorem root_ok (w:World)(h:HdV)(v:Value)(ts:List TxV)(hT:TxsR w v ts)(hb:BOk h ts):
  Calls Tryz.prog 19 #[.agg (bC h v)] w (Ret fun u w'=>u=.agg (bv (rootF ts)).toArray∧Ext w w'):=by
 refine calls_of_cfg c19_ok (Nat.le_of_ble_eq_true rfl) ?_
 simp only[argE_nil,argE_cons,Nat.zero_add]
 have ho:=hb.ho
 have hn:=hb.n
 have hbs:=bC_size ho v
 have hbf:=bC_flat h (u:=v) hT.one
 have hbx:(Value.agg (bC h v)).cells=bC h v:=rfl
 have b68:=bC_68 ho v
 have hz:zc [(32,Value.int .u8 0)]=(bv Z32).toArray:=rfl
 have zl:(bv Z32).toArray.size=32:=rfl
 have oz:okO (some (.cells (bv Z32).toArray 23 (0,0))) 0 32=True:=by simp only[okO,zl];simp
 (refine W_at c19_ok ⟨_,rfl,?_⟩;simp (disch:=first|omega|assumption|rfl|(simp only[vcS]<;>omega)|fail) only[↓vcN,vcQ,simprocAttr,hbx,hz])
 have hE0:Ext w (w.alloc (.cells (bC h v) 29)):=(Keep.refl _ w).alloc _
 have hp1:(w.alloc (.cells (bC h v) 29)).heap[w.heap.size]?=some (.cells (bC h v) 29 (0,0)):=heap_new _ _ _ rfl
 have s1:(w.alloc (.cells (bC h v) 29)).heap.size=w.heap.size+1:=size_alloc _ _
 generalize World.alloc w _=w1 at hE0 hp1 s1⊢
 have hE2:Ext w1 (w1.alloc (.cells (bv Z32).toArray 23)):=(Keep.refl _ w1).alloc _
 have c2:(w1.alloc (.cells (bv Z32).toArray 23)).heap[w.heap.size+1]?=some (.cells (bv Z32).toArray 23 (0,0)):=heap_new _ _ _ s1.symm
 generalize World.alloc w1 _=w2 at hE2 c2⊢
 have hp12:=hE2.at hp1 (fun h=>h)
 have hE:=hE0.ext hE2
 have l2:w.heap.size≤w.heap.size+1:=by omega
 have l22:w.heap.size+1<w2.heap.size:=lt_of_heap c2
 generalize w.heap.size+1=p2 at c2 l2 l22⊢
 have hlT:=hT.len
 iterate 2 (refine W_at c19_ok ⟨_,rfl,?_⟩;simp (disch:=first|omega|assumption|rfl|(simp only[vcS]<;>omega)|fail) only[↓vcN,vcQ,simprocAttr,hp12,b68,hlT])
 have L:∀(k i:Nat) (wj:World) (vj:Value) (tl:Env),i+k=ts.length→Ext w wj→Ext w2 wj→HsO 23 w2.heap.size wj vj (wids (ts.take i))→
   W Tryz.prog (Ret fun u w'=>u=.agg (bv (rootF ts)).toArray∧Ext w w') 19 8 ((2,.pointer (some ⟨p2,0,none⟩))::(3,vj)::(7,v)::(8,.int .i64 (ts.length:Nat))::(9,.int .i64 (i:Nat))::tl) wj:=by
  intro k
  induction k with
  |zero=>
   intro i wj vj tl hi hEj hE2j hV
   obtain rfl:i=ts.length:=by omega
   rw[List.take_length] at hV
   have hno:¬((ts.length:Nat):Int)< (ts.length:Nat):=by omega
   iterate 3 (refine W_at c19_ok ⟨_,rfl,?_⟩;simp (disch:=first|omega|assumption|rfl|(simp only[vcS]<;>omega)|fail) only[↓vcN,vcQ,simprocAttr,hno])
   refine callV_ret (merkle_ok wj _ vj (wids ts) hV (wids_ok ts) (by rw[wids_len];omega)) ?_
   rintro _ wk ⟨rfl,hEk⟩
   have c2k:=hEk.at (hE2j.at c2 fun h=>h) (fun h=>h)
   rw[wids_len]
   have hrl:=rootF_len ts
   have hrr:merkF ts.length (wids ts)=rootF ts:=rfl
   rw[hrr]
   generalize rootF ts=R at*
   have sR:(bv R).toArray.size=32:=by rw[bva_size,hrl]
   first|(simp (disch:=first|omega|assumption|rfl|(simp only[vcS]<;>omega)|fail) only[↓vcN,vcQ,simprocAttr,c2k,sR,oz])|skip
   refine⟨bv_flat _,?_⟩
   have d9:(wk.putN p2 0 (bv R).toArray).heap[p2]?=some (.cells (bv R).toArray 23 (0,0)):=by
    rw[heap_putN_eq c2k,splice_all (by rw[sR,zl])]
   have r32:rdO (some (.cells (bv R).toArray 23 (0,0))) 0 32=some (bv R).toArray:=rdO_all _ _ _ _ sR
   (refine W_at c19_ok ⟨_,rfl,?_⟩;simp (disch:=first|omega|assumption|rfl|(simp only[vcS]<;>omega)|fail) only[↓vcN,vcQ,simprocAttr,d9,r32,Ret_returned])
   exact(hEj.ext hEk).trans ((Keep.refl (fun g=>g=p2) wk).putN _ fun _=>rfl) fun g hg e=>by omega
  |succ k ih=>
   intro i wj vj tl hi hEj hE2j hV
   have hil:i<ts.length:=by omega
   have hlt:((i:Nat):Int)< (ts.length:Nat):=by omega
   have b1:0≤((i:Nat):Int)∧((i:Nat):Int)< (ts.length:Nat):=by omega
   have hwi:IntKind.i64.wrap (((i:Nat):Int)+1)=((i+1:Nat):Int):=wrap_i64 (by omega) (by omega)
   obtain⟨b,o,c,cs,ev,hr,hcs,iv,ov,ecs,hR⟩:=(hT.ext hEj).at hil
   have h3:=hb.txs _ (List.getElem_mem hil)
   have htk:=wids_take hil
   generalize ts[i]=t at*
   subst ecs
   have s4:=txC_sz t iv ov
   rw[ev]
   iterate 3 (refine W_at c19_ok ⟨_,rfl,?_⟩;simp (disch:=first|omega|assumption|rfl|(simp only[vcS]<;>omega)|fail) only[↓vcN,vcQ,simprocAttr,hlt,b1,Int.toNat_natCast,hr,s4])
   refine⟨txC_flat2 hR,by decide,?_⟩
   have hEb:Ext wj ((wj.alloc (.cells (zc [(1,.int .i32 0),(2,.slice none 0 0),(1,.int .u32 0)]) 33)).putN wj.heap.size 0 (txC t iv ov)):=((Keep.refl _ wj).alloc _).putN _ (by intro hh;exfalso;omega)
   have h9:((wj.alloc (.cells (zc [(1,.int .i32 0),(2,.slice none 0 0),(1,.int .u32 0)]) 33)).putN wj.heap.size 0 (txC t iv ov)).heap[wj.heap.size]?=some (.cells (txC t iv ov) 33 (0,0)):=by
    rw[heap_putN_eq (heap_new _ _ _ rfl),splice_all (by rw[s4];rfl)]
   generalize World.putN _ _ _ _=wa at hEb h9⊢
   generalize wj.heap.size=p9 at h9⊢
   have r4:rdO (some (.cells (txC t iv ov) 33 (0,0))) 0 4=some (txC t iv ov):=rdO_all _ _ _ _ s4
   (refine W_at c19_ok ⟨_,rfl,?_⟩;simp (disch:=first|omega|assumption|rfl|(simp only[vcS]<;>omega)|fail) only[↓vcN,vcQ,simprocAttr,h9,r4])
   refine callV_ret (wid_ok wa iv ov t (hR.ext hEb) h3) ?_
   rintro _ wb ⟨rfl,hEb2⟩
   rw[encT_eq]
   have hDl:(dblF (encT t)).length=32:=dblF_len _
   generalize dblF (encT t)=D at*
   have hcx:(Value.agg (bv D).toArray).cells=(bv D).toArray:=rfl
   have hcz:(bv D).toArray.size=32:=by rw[bva_size,hDl]
   have hcl:(bv D).toArray.toList++[]=bv D:=by rw[List.append_nil]
   have hEw:=(hE2j.ext hEb).ext hEb2
   have hVb:HsO 23 w2.heap.size wb vj _:=OwnO.ext (OwnO.ext hV hEb) hEb2
   first|(simp (disch:=first|omega|assumption|rfl|(simp only[vcS]<;>omega)|fail) only[↓vcN,vcQ,simprocAttr,hcx,hcz,hcl])|skip
   refine HsO.app hVb hDl (by rw[wids_len,List.length_take];omega) hEw.size fun v' wc hVc hKc hbc=>?_
   rw[←htk] at hVc
   have hEc2:=hEw.trans hKc fun g hg hb=>by have:=(OwnO.blk hVb hb).1;omega
   have hEc:=((hEj.ext hEb).ext hEb2).trans hKc fun g hg hb=>by have:=(OwnO.blk hVb hb).1;have:=hE.size;omega
   first|(simp (disch:=first|omega|assumption|rfl|(simp only[vcS]<;>omega)|fail) only[↓vcN,vcQ,simprocAttr])|skip
   iterate 2 (refine W_at c19_ok ⟨_,rfl,?_⟩;simp (disch:=first|omega|assumption|rfl|(simp only[vcS]<;>omega)|fail) only[↓vcN,vcQ,simprocAttr,hwi])
   rw[←ev]
   exact ih (i+1) wc v' _ (by omega) hEc hEc2 hVc
 exact L ts.length 0 w2 _ _ (by omega) hE (Keep.refl _ _) (OwnO.nil _ _ _ _)
set_option maxHeartbeats 1600000 in
theorem rroot_ok (w:World)(h:HdV)(v:Value)(ts:List TxV)(hT:TxsR w v ts)(hb:BOk h ts):
  Calls Tryz.prog 30 #[.agg (bC h v)] w (Ret fun u w'=>u=.agg (bv (rootF ts)).toArray∧Ext w w'):=by
 refine calls_of_cfg c30_ok (Nat.le_of_ble_eq_true rfl) ?_
 simp only[argE_nil,argE_cons,Nat.zero_add]
 have ho:=hb.ho
 have hn:=hb.n
 have hbs:=bC_size ho v
 have hbf:=bC_flat h (u:=v) hT.one
 have hbx:(Value.agg (bC h v)).cells=bC h v:=rfl
 have b68:=bC_68 ho v
 have hz:zc [(32,Value.int .u8 0)]=(bv Z32).toArray:=rfl
 have zl:(bv Z32).toArray.size=32:=rfl
 have oz:okO (some (.cells (bv Z32).toArray 22 (0,0))) 0 32=True:=by simp only[okO,zl];simp
 (refine W_at c30_ok ⟨_,rfl,?_⟩;simp (disch:=first|omega|assumption|rfl|(simp only[vcS]<;>omega)|fail) only[↓vcN,vcQ,simprocAttr,hbx,hz])
 have hE0:Ext w (w.alloc (.cells (bC h v) 29)):=(Keep.refl _ w).alloc _
 have hp1:(w.alloc (.cells (bC h v) 29)).heap[w.heap.size]?=some (.cells (bC h v) 29 (0,0)):=heap_new _ _ _ rfl
 have s1:(w.alloc (.cells (bC h v) 29)).heap.size=w.heap.size+1:=size_alloc _ _
 generalize World.alloc w _=w1 at hE0 hp1 s1⊢
 have hE2:Ext w1 (w1.alloc (.cells (bv Z32).toArray 22)):=(Keep.refl _ w1).alloc _
 have c2:(w1.alloc (.cells (bv Z32).toArray 22)).heap[w.heap.size+1]?=some (.cells (bv Z32).toArray 22 (0,0)):=heap_new _ _ _ s1.symm
 generalize World.alloc w1 _=w2 at hE2 c2⊢
 have hp12:=hE2.at hp1 (fun h=>h)
 have hE:=hE0.ext hE2
 have l2:w.heap.size≤w.heap.size+1:=by omega
 generalize w.heap.size+1=p2 at c2 l2⊢
 generalize hp1e:w.heap.size=p1 at*
 have hlT:=hT.len
 iterate 2 (refine W_at c30_ok ⟨_,rfl,?_⟩;simp (disch:=first|omega|assumption|rfl|(simp only[vcS]<;>omega)|fail) only[↓vcN,vcQ,simprocAttr])
 have L:∀(k i:Nat) (wj:World) (vj:Value) (tl:Env),k+i=ts.length→Ext w wj→Ext w2 wj→HsO 22 w2.heap.size wj vj (wids (ts.take i))→
   W Tryz.prog (Ret fun u w'=>u=.agg (bv (rootF ts)).toArray∧Ext w w') 30 7 ((1,.pointer (some ⟨p1,0,none⟩))::(2,.pointer (some ⟨p2,0,none⟩))::(3,vj)::(4,.int .i64 (i:Nat))::tl) wj:=by
  intro k
  induction k with
  |zero=>
   intro i wj vj tl hi hEj hE2j hV
   obtain rfl:i=ts.length:=by omega
   rw[List.take_length] at hV
   have hno:¬((ts.length:Nat):Int)< (ts.length:Nat):=by omega
   have hp1j:=hE2j.at hp12 (fun h=>h)
   iterate 3 (refine W_at c30_ok ⟨_,rfl,?_⟩;simp (disch:=first|omega|assumption|rfl|(simp only[vcS]<;>omega)|fail) only[↓vcN,vcQ,simprocAttr,hp1j,b68,hlT,hno])
   refine callV_ret (rmerkle_ok ts.length wj vj (wids ts) (by rw[wids_len];omega) (by omega) (HsO.rd hV (wids_ok ts)) (wids_ok ts)) ?_
   rintro _ wk ⟨rfl,hEk⟩
   have c2k:=hEk.at (hE2j.at c2 fun h=>h) (fun h=>h)
   have hrl:=rootF_len ts
   have hrr:merkF ts.length (wids ts)=rootF ts:=rfl
   rw[hrr]
   generalize rootF ts=R at*
   have sR:(bv R).toArray.size=32:=by rw[bva_size,hrl]
   first|(simp (disch:=first|omega|assumption|rfl|(simp only[vcS]<;>omega)|fail) only[↓vcN,vcQ,simprocAttr,c2k,sR,oz])|skip
   refine⟨bv_flat _,?_⟩
   have d9:(wk.putN p2 0 (bv R).toArray).heap[p2]?=some (.cells (bv R).toArray 22 (0,0)):=by
    rw[heap_putN_eq c2k,splice_all (by rw[sR,zl])]
   have r32:rdO (some (.cells (bv R).toArray 22 (0,0))) 0 32=some (bv R).toArray:=rdO_all _ _ _ _ sR
   (refine W_at c30_ok ⟨_,rfl,?_⟩;simp (disch:=first|omega|assumption|rfl|(simp only[vcS]<;>omega)|fail) only[↓vcN,vcQ,simprocAttr,d9,r32,Ret_returned])
   exact(hEj.ext hEk).trans ((Keep.refl (fun g=>g=p2) wk).putN _ fun _=>rfl) fun g hg e=>by omega
  |succ k ih=>
   intro i wj vj tl hi hEj hE2j hV
   have hil:i<ts.length:=by omega
   have hlt:((i:Nat):Int)< (ts.length:Nat):=by omega
   have b1:0≤((i:Nat):Int)∧((i:Nat):Int)< (ts.length:Nat):=by omega
   have hwi:IntKind.i64.wrap (((i:Nat):Int)+1)=((i+1:Nat):Int):=wrap_i64 (by omega) (by omega)
   obtain⟨b,o,c,cs,ev,hr,hcs,iv,ov,ecs,hR⟩:=(hT.ext hEj).at hil
   have h3:=hb.txs _ (List.getElem_mem hil)
   have htk:=wids_take hil
   generalize ts[i]=t at*
   subst ecs
   have hp1j:=hE2j.at hp12 (fun h=>h)
   have b68':(bC h v)[68]?=some (.slice (some ⟨b,o,none⟩) ts.length c):=by rw[←ev];exact b68
   have hlT':lenR (.slice (some ⟨b,o,none⟩) ts.length c)=some (.int .i64 (ts.length:Nat)):=rfl
   iterate 3 (refine W_at c30_ok ⟨_,rfl,?_⟩;simp (disch:=first|omega|assumption|rfl|(simp only[vcS]<;>omega)|fail) only[↓vcN,vcQ,simprocAttr,hp1j,b68',hlT',hlt,b1,Int.toNat_natCast,hr])
   refine callV_ret (rencodeW_ok wj iv ov t true hR h3) ?_
   intro u wa hu
   rw[encT_eq] at hu
   have hl3:=encT_len h3
   have hb3:=encT_byt h3.ok
   first|(simp (disch:=first|omega|assumption|rfl|(simp only[vcS]<;>omega)|fail) only[↓vcN,vcQ,simprocAttr])|skip
   refine callV_ret (rdouble_ok wa u _ hu.own.rd hb3 (by omega)) ?_
   rintro _ wb ⟨rfl,hEb2⟩
   have hEb:=hu.ext
   have hDl:(dblF (encT t)).length=32:=dblF_len _
   generalize dblF (encT t)=D at*
   have hcx:(Value.agg (bv D).toArray).cells=(bv D).toArray:=rfl
   have hcz:(bv D).toArray.size=32:=by rw[bva_size,hDl]
   have hcl:(bv D).toArray.toList++[]=bv D:=by rw[List.append_nil]
   have hEw:=(hE2j.ext hEb).ext hEb2
   have hVb:HsO 22 w2.heap.size wb vj _:=OwnO.ext (OwnO.ext hV hEb) hEb2
   first|(simp (disch:=first|omega|assumption|rfl|(simp only[vcS]<;>omega)|fail) only[↓vcN,vcQ,simprocAttr,hcx,hcz,hcl])|skip
   refine HsO.app hVb hDl (by rw[wids_len,List.length_take];omega) hEw.size fun v' wc hVc hKc hbc=>?_
   rw[←htk] at hVc
   have hEc2:=hEw.trans hKc fun g hg hb=>by have:=(OwnO.blk hVb hb).1;omega
   have hEc:=((hEj.ext hEb).ext hEb2).trans hKc fun g hg hb=>by have:=(OwnO.blk hVb hb).1;have:=hE.size;omega
   first|(simp (disch:=first|omega|assumption|rfl|(simp only[vcS]<;>omega)|fail) only[↓vcN,vcQ,simprocAttr])|skip
   iterate 2 (refine W_at c30_ok ⟨_,rfl,?_⟩;simp (disch:=first|omega|assumption|rfl|(simp only[vcS]<;>omega)|fail) only[↓vcN,vcQ,simprocAttr,hwi])
   exact ih (i+1) wc v' _ (by omega) hEc hEc2 hVc
 exact L ts.length 0 w2 _ _ (by omega) hE (Keep.refl _ _) (OwnO.nil _ _ _ _)
end Go.Proofs
namespace Go.Proofs
open Go.Vc
set_option maxRecDepth 10000
theorem lexF_neg:∀(a b:List Int),lexF b a= - lexF a b
 |[],[]=>rfl
 |[],_::_=>rfl
 |_::_,[]=>rfl
 |x::a,y::b=>by
  simp only[lexF]
  by_cases h:x=y
  ·subst h;rw[if_pos rfl,if_pos rfl];exact lexF_neg a b
  ·rw[if_neg h,if_neg (fun e=>h e.symm)]
   by_cases h2:x<y
   ·rw[if_pos h2,if_neg (by omega)];rfl
   ·rw[if_neg h2,if_pos (by omega)]
theorem xpF_len {x:Int}{l:List Int}(h:xpF x=some l):l.length=32∧byt l:=by
 unfold xpF at h
 split at h
 ·cases h
 ·exact⟨xpL_len h,xpL_byt Z32_byt h⟩
theorem tgF_len {x:Int}{l:List Int}(h:tgF x=some l):l.length=32∧byt l:=by
 unfold tgF at h
 split at h
 ·cases h
 ·rename_i l' h'
  split at h
  ·cases h
  ·cases h;exact xpF_len h'
set_option maxHeartbeats 800000 in
theorem target_ok (w:World)(x:Int)(hx:0≤x∧x≤4294967295):
  Calls Tryz.prog 64 #[.int .u32 x] w (Ret fun u w'=>u=tgR (.int .i64 3) (tgF x)∧Ext w w'):=by
 refine calls_of_cfg c64_ok (Nat.le_of_ble_eq_true rfl) ?_
 simp only[argE_nil,argE_cons,Nat.zero_add]
 have hz:zc [(32,Value.int .u8 0)]=(bv Z32).toArray:=rfl
 have zl:(bv Z32).toArray.size=32:=rfl
 have fz:=bv_flat Z32
 have oz:okO (some (.cells (bv Z32).toArray 112 (0,0))) 0 32=True:=by simp only[okO,zl];simp
 have rz:rdO (some (.cells (bv Z32).toArray 112 (0,0))) 0 32=some (bv Z32).toArray:=rdO_all _ _ _ _ zl
 (refine W_at c64_ok ⟨_,rfl,?_⟩;simp (disch:=first|omega|assumption|rfl|(simp only[vcS]<;>omega)|fail) only[↓vcN,vcQ,simprocAttr,hz])
 have hE1:Ext w (w.alloc (.cells (bv Z32).toArray 112)):=(Keep.refl _ w).alloc _
 have c1:(w.alloc (.cells (bv Z32).toArray 112)).heap[w.heap.size]?=some (.cells (bv Z32).toArray 112 (0,0)):=heap_new _ _ _ rfl
 generalize World.alloc w _=w1 at hE1 c1⊢
 generalize hp2:w.heap.size=p2 at*
 (refine W_at c64_ok ⟨_,rfl,?_⟩;simp (disch:=first|omega|assumption|rfl|(simp only[vcS]<;>omega)|fail) only[↓vcN,vcQ,simprocAttr])
 refine callV_ret (expand_ok w1 x hx) ?_
 rintro _ w2 ⟨rfl,hE2⟩
 have c12:=hE2.at c1 (fun h=>h)
 have lab:∀w3,Ext w w3→w3.heap[p2]?=some (.cells (bv Z32).toArray 112 (0,0))→∀tl,W Tryz.prog (Ret fun u w'=>u=tgR (.int .i64 3) none∧Ext w w') 64 4 ((2,.pointer (some ⟨p2,0,none⟩))::tl) w3:=by
  intro w3 hE3 c3 tl
  (refine W_at c64_ok ⟨_,rfl,?_⟩;simp (disch:=first|omega|assumption|rfl|(simp only[vcS]<;>omega)|fail) only[↓vcN,vcQ,simprocAttr,hz,c3,oz,zl])
  refine⟨fz,?_⟩
  have d9:(w3.putN p2 0 (bv Z32).toArray).heap[p2]?=some (.cells (bv Z32).toArray 112 (0,0)):=by
   rw[heap_putN_eq c3,splice_all (by rw[zl])]
  (refine W_at c64_ok ⟨_,rfl,?_⟩;simp (disch:=first|omega|assumption|rfl|(simp only[vcS]<;>omega)|fail) only[↓vcN,vcQ,simprocAttr,d9,rz,Ret_returned])
  exact⟨rfl,hE3.trans ((Keep.refl (fun g=>g=p2) w3).putN _ fun _=>rfl) fun g hg e=>by omega⟩
 have conv:∀l:List Int,l.length=32→∀b,(b=true→l.length=32)→Ext w2 ((w2.alloc (.cells (bv Z32).toArray 112)).putN w2.heap.size 0 (bv l).toArray)∧((w2.alloc (.cells (bv Z32).toArray 112)).putN w2.heap.size 0 (bv l).toArray).heap[w2.heap.size]?=some (.cells (bv l).toArray 112 (0,0)):=fun l hl _ _=>
  ⟨((Keep.refl _ w2).alloc _).putN _ (by intro hh;exfalso;omega),by rw[heap_putN_eq (heap_new _ _ _ rfl),splice_all (by rw[bva_size,hl];rfl)]⟩
 cases hxp:xpF x with
 |none=>
  have htg:tgF x=none:=by unfold tgF;rw[hxp]
  rw[htg,xpR]
  first|(simp (disch:=first|omega|assumption|rfl|(simp only[vcS]<;>omega)|fail) only[↓vcN,vcQ,simprocAttr,hz,zl,oz])|skip
  refine⟨fz,?_⟩
  obtain⟨hE3,c3⟩:=conv Z32 rfl true fun _=>rfl
  have c13:=hE3.at c12 (fun h=>h)
  have hE03:=(hE1.ext hE2).ext hE3
  generalize World.putN _ _ _ _=w3 at hE3 c3 c13 hE03⊢
  generalize w2.heap.size=p4 at*
  have nf:¬(false=true):=fun h=>by cases h
  have hEd:Ext w3 w3.drew:=(Keep.refl _ w3).drew
  iterate 2 (refine W_at c64_ok ⟨_,rfl,?_⟩;simp (disch:=first|omega|assumption|rfl|(simp only[vcS]<;>omega)|fail) only[↓vcN,vcQ,simprocAttr])
  exact lab _ (hE03.ext hEd) (hEd.at c13 fun h=>h) _
 |some l=>
  obtain⟨hl,hlb⟩:=xpF_len hxp
  have sl:(bv l).toArray.size=32:=by rw[bva_size,hl]
  have htg:tgF x=if l=Z32∨ltF limV l=true then none else some l:=by unfold tgF;rw[hxp]
  rw[htg,xpR]
  first|(simp (disch:=first|omega|assumption|rfl|(simp only[vcS]<;>omega)|fail) only[↓vcN,vcQ,simprocAttr,hz,sl,oz])|skip
  refine⟨bv_flat l,?_⟩
  obtain⟨hE3,c3⟩:=conv l hl true fun _=>hl
  have c13:=hE3.at c12 (fun h=>h)
  have hE03:=(hE1.ext hE2).ext hE3
  generalize World.putN _ _ _ _=w3 at hE3 c3 c13 hE03⊢
  generalize w2.heap.size=p4 at*
  have rl:rdO (some (.cells (bv l).toArray 112 (0,0))) 0 32=some (bv l).toArray:=rdO_all _ _ _ _ sl
  have q1:=conf32 hl
  have q2:=conf32 (D:=Z32) rfl
  have q3:=eqc32 l Z32
  have hEd:Ext w3 w3.drew:=(Keep.refl _ w3).drew
  have c3d:=hEd.at c3 (fun h=>h)
  have c13d:=hEd.at c13 (fun h=>h)
  have hEd3:=hE03.ext hEd
  by_cases hlz:l=Z32
  ·rw[if_pos (.inl hlz)]
   rw[decide_eq_true hlz] at q3
   iterate 2 (refine W_at c64_ok ⟨_,rfl,?_⟩;simp (disch:=first|omega|assumption|rfl|(simp only[vcS]<;>omega)|fail) only[↓vcN,vcQ,simprocAttr,c3,hz,rl,q1,q2,q3,Bool.false_xor])
   exact lab _ hEd3 c13d _
  ·rw[decide_eq_false hlz] at q3
   (refine W_at c64_ok ⟨_,rfl,?_⟩;simp (disch:=first|omega|assumption|rfl|(simp only[vcS]<;>omega)|fail) only[↓vcX,ptS2_eq,vcQ,simprocAttr,c3,hz,rl,q1,q2,q3,Bool.false_xor])
   refine callV_ret (limit_ok w3.drew) ?_
   rintro _ w4 ⟨rfl,hE4⟩
   have c34:=hE4.at c3d (fun h=>h)
   simp (disch:=first|omega|assumption|rfl|(simp only[vcS]<;>omega)|fail) only[↓vcY,ptS1_eq,vcQ,simprocAttr,c34,rl]
   refine callV_ret (Compare_ok w4 l limV hl rfl hlb limV_byt) ?_
   rintro _ w5 ⟨rfl,hE5⟩
   have hE05:=(hEd3.ext hE4).ext hE5
   have c15:=hE5.at (hE4.at c13d (fun h=>h)) (fun h=>h)
   have c35:=hE5.at c34 (fun h=>h)
   have hlt:(0<lexF l limV)↔ltF limV l=true:=by
    unfold ltF
    rw[decide_eq_true_iff,lexF_neg l limV]
    omega
   by_cases hgt:0<lexF l limV
   ·rw[if_pos (.inr (hlt.1 hgt))]
    simp (disch:=first|omega|assumption|rfl|(simp only[vcS]<;>omega)|fail) only[↓vcX,ptS2_eq,vcQ,simprocAttr,hgt]
    first|((refine W_at c64_ok ⟨_,rfl,?_⟩;simp (disch:=first|omega|assumption|rfl|(simp only[vcS]<;>omega)|fail) only[↓vcN,vcQ,simprocAttr]))|skip
    exact lab _ hE05 c15 _
   ·rw[if_neg (fun h=>h.elim hlz fun h=>hgt (hlt.2 h))]
    simp (disch:=first|omega|assumption|rfl|(simp only[vcS]<;>omega)|fail) only[↓vcX,ptS2_eq,vcQ,simprocAttr,hgt]
    first|((refine W_at c64_ok ⟨_,rfl,?_⟩;simp (disch:=first|omega|assumption|rfl|(simp only[vcS]<;>omega)|fail) only[↓vcN,vcQ,simprocAttr]))|skip
    (refine W_at c64_ok ⟨_,rfl,?_⟩;simp (disch:=first|omega|assumption|rfl|(simp only[vcS]<;>omega)|fail) only[↓vcN,vcQ,simprocAttr,c35,c15,rl,sl,oz])
    refine⟨bv_flat l,?_⟩
    have d9:(w5.putN p2 0 (bv l).toArray).heap[p2]?=some (.cells (bv l).toArray 112 (0,0)):=by
     rw[heap_putN_eq c15,splice_all (by rw[zl,sl])]
    (refine W_at c64_ok ⟨_,rfl,?_⟩;simp (disch:=first|omega|assumption|rfl|(simp only[vcS]<;>omega)|fail) only[↓vcN,vcQ,simprocAttr,d9,rl,Ret_returned])
    exact⟨rfl,hE05.trans ((Keep.refl (fun g=>g=p2) w5).putN _ fun _=>rfl) fun g hg e=>by omega⟩
end Go.Proofs
namespace Go.Proofs
open Go.Vc
set_option maxRecDepth 10000
set_option maxHeartbeats 1600000 in
theorem rtarget_ok (w:World)(x:Int)(hx:0≤x∧x≤4294967295):
  Calls Tryz.prog 23 #[.int .u32 x] w (Ret fun u w'=>(match tgF x with|some l=>u=.tuple #[.agg (bv l).toArray,.bool true]|none=>u=.tuple #[.agg (bv Z32).toArray,.bool false])∧Ext w w'):=by
 refine calls_of_cfg c23_ok (Nat.le_of_ble_eq_true rfl) ?_
 simp only[argE_nil,argE_cons,Nat.zero_add]
 have hz:zc [(32,Value.int .u8 0)]=(bv Z32).toArray:=rfl
 have zl:(bv Z32).toArray.size=32:=rfl
 have fz:=bv_flat Z32
 have oz:okO (some (.cells (bv Z32).toArray 22 (0,0))) 0 32=True:=by simp only[okO,zl];simp
 have rz:rdO (some (.cells (bv Z32).toArray 22 (0,0))) 0 32=some (bv Z32).toArray:=rdO_all _ _ _ _ zl
 generalize hφ:(fun (u:Value) (w':World)=>(match tgF x with|some l=>u=.tuple #[.agg (bv l).toArray,.bool true]|none=>u=.tuple #[.agg (bv Z32).toArray,.bool false])∧Ext w w')=φ
 have hφn:∀u w',tgF x=none→u=.tuple #[.agg (bv Z32).toArray,.bool false]→Ext w w'→φ u w':=fun u w' h1 h2 h3=>by subst hφ;simp only[h1];exact⟨h2,h3⟩
 have hφs:∀u w' l,tgF x=some l→u=.tuple #[.agg (bv l).toArray,.bool true]→Ext w w'→φ u w':=fun u w' l h1 h2 h3=>by subst hφ;simp only[h1];exact⟨h2,h3⟩
 clear hφ
 (refine W_at c23_ok ⟨_,rfl,?_⟩;simp (disch:=first|omega|assumption|rfl|(simp only[vcS]<;>omega)|fail) only[↓vcN,vcQ,simprocAttr,hz])
 have hE1:Ext w (w.alloc (.cells (bv Z32).toArray 22)):=(Keep.refl _ w).alloc _
 have c1:(w.alloc (.cells (bv Z32).toArray 22)).heap[w.heap.size]?=some (.cells (bv Z32).toArray 22 (0,0)):=heap_new _ _ _ rfl
 have s1:(w.alloc (.cells (bv Z32).toArray 22)).heap.size=w.heap.size+1:=size_alloc _ _
 generalize World.alloc w _=w1 at hE1 c1 s1⊢
 (refine W_at c23_ok ⟨_,rfl,?_⟩;simp (disch:=first|omega|assumption|rfl|(simp only[vcS]<;>omega)|fail) only[↓vcN,vcQ,simprocAttr,hz])
 have hE2:Ext w1 (w1.alloc (.cells (bv Z32).toArray 22)):=(Keep.refl _ w1).alloc _
 have c2:(w1.alloc (.cells (bv Z32).toArray 22)).heap[w1.heap.size]?=some (.cells (bv Z32).toArray 22 (0,0)):=heap_new _ _ _ rfl
 generalize World.alloc w1 _=w2 at hE2 c2⊢
 have c12:=hE2.at c1 (fun h=>h)
 have hE:=hE1.ext hE2
 clear hE1 hE2 c1
 rw[s1] at c2⊢
 generalize hp2:w.heap.size=p2 at*
 generalize hp4:p2+1=p4 at*
 have hp24:p2≠p4:=by omega
 have he:IntKind.i64.wrap (IntKind.u32.wrap (x.tdiv 16777216))=x/16777216:=by
  rw[Int.tdiv_eq_ediv_of_nonneg hx.1,wrap_u32,wrap_i64 (by omega) (by omega)]
  omega
 have hm:x.tmod 16777216=x%16777216:=Int.tmod_eq_emod_of_nonneg hx.1
 iterate 2 (refine W_at c23_ok ⟨_,rfl,?_⟩;simp (disch:=first|omega|assumption|rfl|(simp only[vcS]<;>omega)|fail) only[↓vcN,vcQ,simprocAttr,he,hm])
 have hxp:xpF x=if 8388608≤x%16777216 then none else xpL (x/16777216) (x%16777216) 3 0 Z32:=rfl
 have htg:tgF x=match xpF x with|none=>none|some l=>if l=Z32∨ltF limV l=true then none else some l:=rfl
 rw[hxp] at htg
 clear hxp he hm
 have b1:0≤x/16777216∧x/16777216≤255:=by omega
 have b2:0≤x%16777216∧x%16777216<16777216:=by omega
 generalize tgF x=X at*
 clear hx
 generalize x/16777216=e at*
 generalize x%16777216=m at*
 have fin:∀(w3:World) (l:List Int),l.length=32→w3.heap[p2]?=some (.cells (bv Z32).toArray 22 (0,0))→Ext w w3→
   Ext w (w3.putN p2 0 (bv l).toArray)∧(w3.putN p2 0 (bv l).toArray).heap[p2]?=some (.cells (bv l).toArray 22 (0,0)):=fun w3 l hl h2 hE=>
  ⟨hE.trans ((Keep.refl (fun g=>g=p2) w3).putN _ fun _=>rfl) fun g hg e=>by omega,by rw[heap_putN_eq h2,splice_all (by rw[zl,bva_size,hl])]⟩
 by_cases hg:8388608≤m
 ·rw[if_pos hg] at htg
  iterate 3 (refine W_at c23_ok ⟨_,rfl,?_⟩;simp (disch:=first|omega|assumption|rfl|(simp only[vcS]<;>omega)|fail) only[↓vcN,vcQ,simprocAttr,hg,c2,c12,rz,zl,oz])
  refine⟨fz,?_⟩
  obtain⟨f1,f2⟩:=fin w2 Z32 rfl c12 hE
  (refine W_at c23_ok ⟨_,rfl,?_⟩;simp (disch:=first|omega|assumption|rfl|(simp only[vcS]<;>omega)|fail) only[↓vcN,vcQ,simprocAttr,f2,rz])
  exact⟨_,rfl,hφn _ _ htg rfl f1⟩
 rw[if_neg hg,←two_ways b1 (by omega)] at htg
 have bad4:∀w3 tl,(0:Nat)=0→X=none→w3.heap[p2]?=some (.cells (bv Z32).toArray 22 (0,0))→Ext w w3→W Tryz.prog (Ret φ) 23 4 ((2,.pointer (some ⟨p2,0,none⟩))::tl) w3:=by
  intro w3 tl _ hX c3 hE3
  (refine W_at c23_ok ⟨_,rfl,?_⟩;simp (disch:=first|omega|assumption|rfl|(simp only[vcS]<;>omega)|fail) only[↓vcN,vcQ,simprocAttr,hz,c3,oz,zl])
  refine⟨fz,?_⟩
  obtain⟨f1,f2⟩:=fin w3 Z32 rfl c3 hE3
  (refine W_at c23_ok ⟨_,rfl,?_⟩;simp (disch:=first|omega|assumption|rfl|(simp only[vcS]<;>omega)|fail) only[↓vcN,vcQ,simprocAttr,f2,rz])
  exact⟨_,rfl,hφn _ _ hX rfl f1⟩
 have bad13:∀w3 tl,X=none→w3.heap[p2]?=some (.cells (bv Z32).toArray 22 (0,0))→Ext w w3→W Tryz.prog (Ret φ) 23 13 ((2,.pointer (some ⟨p2,0,none⟩))::tl) w3:=by
  intro w3 tl hX c3 hE3
  (refine W_at c23_ok ⟨_,rfl,?_⟩;simp (disch:=first|omega|assumption|rfl|(simp only[vcS]<;>omega)|fail) only[↓vcN,vcQ,simprocAttr,hz,c3,oz,zl])
  refine⟨fz,?_⟩
  obtain⟨f1,f2⟩:=fin w3 Z32 rfl c3 hE3
  (refine W_at c23_ok ⟨_,rfl,?_⟩;simp (disch:=first|omega|assumption|rfl|(simp only[vcS]<;>omega)|fail) only[↓vcN,vcQ,simprocAttr,f2,rz])
  exact⟨_,rfl,hφn _ _ hX rfl f1⟩
 have last:∀w3 l tl,l.length=32→(X=if l=Z32∨ltF limV l=true then none else some l)→w3.heap[p2]?=some (.cells (bv Z32).toArray 22 (0,0))→w3.heap[p4]?=some (.cells (bv l).toArray 22 (0,0))→Ext w w3→
   W Tryz.prog (Ret φ) 23 6 ((2,.pointer (some ⟨p2,0,none⟩))::(4,.pointer (some ⟨p4,0,none⟩))::tl) w3:=by
  intro w3 l tl hl hX h2 h4 hE3
  have sl:(bv l).toArray.size=32:=by rw[bva_size,hl]
  have rl:rdO (some (.cells (bv l).toArray 22 (0,0))) 0 32=some (bv l).toArray:=rdO_all _ _ _ _ sl
  have q1:=conf32 hl
  have q2:=conf32 (D:=Z32) rfl
  have q3:=eqc32 l Z32
  have hEd:Ext w3 w3.drew:=(Keep.refl _ w3).drew
  have h4d:=hEd.at h4 (fun h=>h)
  have h2d:=hEd.at h2 (fun h=>h)
  by_cases hlz:l=Z32
  ·rw[if_pos (.inl hlz)] at hX
   rw[decide_eq_true hlz] at q3
   iterate 2 (refine W_at c23_ok ⟨_,rfl,?_⟩;simp (disch:=first|omega|assumption|rfl|(simp only[vcS]<;>omega)|fail) only[↓vcN,vcQ,simprocAttr,h4,hz,rl,q1,q2,q3,Bool.false_xor])
   exact bad4 _ _ rfl hX h2d (hE3.ext hEd)
  ·rw[decide_eq_false hlz] at q3
   (refine W_at c23_ok ⟨_,rfl,?_⟩;simp (disch:=first|omega|assumption|rfl|(simp only[vcS]<;>omega)|fail) only[↓vcX,ptS2_eq,vcQ,simprocAttr,h4,hz,rl,q1,q2,q3,Bool.false_xor])
   refine callV_ret (rlimit_ok w3.drew) ?_
   rintro _ w4 ⟨rfl,hE4⟩
   have h44:=hE4.at h4d (fun h=>h)
   simp (disch:=first|omega|assumption|rfl|(simp only[vcS]<;>omega)|fail) only[↓vcY,ptS1_eq,vcQ,simprocAttr,h44,rl]
   refine callV_ret (less_ok w4 limV l rfl hl) ?_
   rintro _ w5 ⟨rfl,hE5⟩
   have hE05:=((hE3.ext hEd).ext hE4).ext hE5
   have h25:=hE5.at (hE4.at h2d (fun h=>h)) (fun h=>h)
   have h45:=hE5.at h44 (fun h=>h)
   cases hgt:ltF limV l with
   |true=>
    rw[if_pos (.inr hgt)] at hX
    simp (disch:=first|omega|assumption|rfl|(simp only[vcS]<;>omega)|fail) only[↓vcX,ptS2_eq,vcQ,simprocAttr]
    first|((refine W_at c23_ok ⟨_,rfl,?_⟩;simp (disch:=first|omega|assumption|rfl|(simp only[vcS]<;>omega)|fail) only[↓vcN,vcQ,simprocAttr]))|skip
    exact bad4 _ _ rfl hX h25 hE05
   |false=>
    rw[if_neg (fun h=>h.elim hlz fun h=>by rw[hgt] at h;cases h)] at hX
    simp (disch:=first|omega|assumption|rfl|(simp only[vcS]<;>omega)|fail) only[↓vcX,ptS2_eq,vcQ,simprocAttr]
    first|((refine W_at c23_ok ⟨_,rfl,?_⟩;simp (disch:=first|omega|assumption|rfl|(simp only[vcS]<;>omega)|fail) only[↓vcN,vcQ,simprocAttr]))|skip
    (refine W_at c23_ok ⟨_,rfl,?_⟩;simp (disch:=first|omega|assumption|rfl|(simp only[vcS]<;>omega)|fail) only[↓vcN,vcQ,simprocAttr,h45,h25,rl,sl,oz])
    refine⟨bv_flat l,?_⟩
    obtain⟨f1,f2⟩:=fin w5 l hl h25 hE05
    (refine W_at c23_ok ⟨_,rfl,?_⟩;simp (disch:=first|omega|assumption|rfl|(simp only[vcS]<;>omega)|fail) only[↓vcN,vcQ,simprocAttr,f2,rl])
    exact⟨_,rfl,hφs _ _ l hX rfl f1⟩
 have L2:∀(e':Int),3≤e'∧e'≤255→∀(j k:Nat) (m':Int) (l:List Int) (wj:World) (tl:Env),j+k=3→0≤m'∧m'<16777216→l.length=32→wj.heap[p2]?=some (.cells (bv Z32).toArray 22 (0,0))→wj.heap[p4]?=some (.cells (bv l).toArray 22 (0,0))→Ext w wj→
   (X=match rtL e' j k m' l with|none=>none|some l=>if l=Z32∨ltF limV l=true then none else some l)→
   W Tryz.prog (Ret φ) 23 20 ((2,.pointer (some ⟨p2,0,none⟩))::(4,.pointer (some ⟨p4,0,none⟩))::(5,.int .i64 e')::(6,.int .u32 m')::(7,.int .i64 (k:Nat))::tl) wj:=by
  intro e' he' j
  induction j with
  |zero=>
   intro k m' l wj tl hk hm' hl h2 h4 hE hX
   obtain rfl:k=3:=by omega
   have hil:¬(((3:Nat):Int)<3):=by omega
   rw[rtL] at hX
   iterate 2 (refine W_at c23_ok ⟨_,rfl,?_⟩;simp (disch:=first|omega|assumption|rfl|(simp only[vcS]<;>omega)|fail) only[↓vcN,vcQ,simprocAttr])
   exact last wj l _ hl hX h2 h4 hE
  |succ j ih=>
   intro k m' l wj tl hk hm' hl h2 h4 hE hX
   have hil:((k:Nat):Int)<3:=by omega
   have hwk:IntKind.i64.wrap ((k:Int)+1)=((k+1:Nat):Int):=wrap_i64 (by omega) (by omega)
   have hwa:IntKind.i64.wrap (IntKind.i64.wrap (31 - IntKind.i64.wrap (e' - 3)) - (k:Int))=31 - (e' - 3) - k:=by
    rw[wrap_i64 (x:=e' - 3) (by omega) (by omega),wrap_i64 (x:=31 - (e' - 3)) (by omega) (by omega)];exact wrap_i64 (by omega) (by omega)
   have hc:IntKind.u8.wrap (m'.tmod 256)=m'%256:=by rw[Int.tmod_eq_emod_of_nonneg hm'.1,wrap_u8];omega
   have hd:IntKind.u32.wrap (m'.tdiv 256)=m'/256:=by rw[Int.tdiv_eq_ediv_of_nonneg hm'.1,wrap_u32];omega
   have hd2:0≤m'/256∧m'/256<16777216:=by omega
   rw[rtL] at hX
   iterate 5 (refine W_at c23_ok ⟨_,rfl,?_⟩;simp (disch:=first|omega|assumption|rfl|(simp only[vcS]<;>omega)|fail) only[↓vcN,vcQ,simprocAttr,hil,hwa,hc,hd])
   generalize m'/256=m2 at*
   generalize m'%256=c at*
   have hat:31 - (e' - 3) - (k:Int)<32:=by omega
   generalize 31 - (e' - 3) - (k:Int)=q at*
   by_cases hq:0≤q
   ·rw[if_neg (fun h=>by omega),if_pos hq] at hX
    have hq0:¬(q<0):=by omega
    have c3:0≤q∧q<32:=⟨hq,hat⟩
    have h4w:wr1 wj p4 q.toNat:=wr1_of h4 (by rw[bva_size,hl];omega)
    have kk:Keep (fun g=>g=p4) wj (wj.setCell ⟨p4,q.toNat,none⟩ (.int .u8 c)):=(Keep.refl _ wj).setCell _ fun _=>rfl
    have h42:(wj.setCell ⟨p4,q.toNat,none⟩ (.int .u8 c)).heap[p4]?=some (.cells (bv (l.set q.toNat c)).toArray 22 (0,0)):=by rw[heap_setCell_eq h4,bva_set]
    have go:∀tl,W Tryz.prog (Ret φ) 23 11 ((2,.pointer (some ⟨p2,0,none⟩))::(4,.pointer (some ⟨p4,0,none⟩))::(5,.int .i64 e')::(6,.int .u32 m2)::(7,.int .i64 (k:Nat))::(8,.int .i64 q)::(9,.int .u8 c)::tl) wj:=by
     intro tl
     iterate 5 (refine W_at c23_ok ⟨_,rfl,?_⟩;simp (disch:=first|omega|assumption|rfl|(simp only[vcS]<;>omega)|fail) only[↓vcN,vcQ,simprocAttr,hq,c3,Nat.mul_one,h4w,hwk])
     exact ih (k+1) m2 _ _ _ (by omega) hd2 (by rw[List.length_set,hl]) (kk.at h2 (by omega)) h42 (hE.trans kk fun g hg e=>by omega) hX
    by_cases hc0:c=0
    ·subst hc0
     iterate 2 (refine W_at c23_ok ⟨_,rfl,?_⟩;simp (disch:=first|omega|assumption|rfl|(simp only[vcS]<;>omega)|fail) only[↓vcN,vcQ,simprocAttr])
     exact go _
    ·(refine W_at c23_ok ⟨_,rfl,?_⟩;simp (disch:=first|omega|assumption|rfl|(simp only[vcS]<;>omega)|fail) only[↓vcN,vcQ,simprocAttr,hq0,hc0])
     (refine W_at c23_ok ⟨_,rfl,?_⟩;simp (disch:=first|omega|assumption|rfl|(simp only[vcS]<;>omega)|fail) only[↓vcN,vcQ,simprocAttr])
     exact go _
   ·have hq0:q<0:=by omega
    by_cases hc0:c=0
    ·subst hc0
     rw[if_neg (fun h=>h.1 rfl),if_neg hq] at hX
     iterate 6 (refine W_at c23_ok ⟨_,rfl,?_⟩;simp (disch:=first|omega|assumption|rfl|(simp only[vcS]<;>omega)|fail) only[↓vcN,vcQ,simprocAttr,hq,hwk])
     exact ih (k+1) m2 _ _ _ (by omega) hd2 hl h2 h4 hE hX
    ·rw[if_pos ⟨hc0,hq0⟩] at hX
     iterate 2 (refine W_at c23_ok ⟨_,rfl,?_⟩;simp (disch:=first|omega|assumption|rfl|(simp only[vcS]<;>omega)|fail) only[↓vcN,vcQ,simprocAttr,hq0,hc0])
     exact bad13 wj _ hX h2 hE
 have L1:∀(k:Nat) (e m:Int) (tl:Env),3≤e+k→0≤e∧e≤255→0≤m∧m<16777216→(X=match rtL (shF k e m).1 3 0 (shF k e m).2 Z32 with|none=>none|some l=>if l=Z32∨ltF limV l=true then none else some l)→
   W Tryz.prog (Ret φ) 23 26 ((2,.pointer (some ⟨p2,0,none⟩))::(4,.pointer (some ⟨p4,0,none⟩))::(5,.int .i64 e)::(6,.int .u32 m)::tl) w2:=by
  have done:∀(e m:Int) (tl:Env),3≤e→e≤255→0≤m∧m<16777216→(X=match rtL e 3 0 m Z32 with|none=>none|some l=>if l=Z32∨ltF limV l=true then none else some l)→
    W Tryz.prog (Ret φ) 23 26 ((2,.pointer (some ⟨p2,0,none⟩))::(4,.pointer (some ⟨p4,0,none⟩))::(5,.int .i64 e)::(6,.int .u32 m)::tl) w2:=by
   intro e m tl h3 h255 hm hX
   have hge:¬(e<3):=by omega
   iterate 3 (refine W_at c23_ok ⟨_,rfl,?_⟩;simp (disch:=first|omega|assumption|rfl|(simp only[vcS]<;>omega)|fail) only[↓vcN,vcQ,simprocAttr,hge])
   exact L2 e ⟨h3,h255⟩ 3 0 m Z32 w2 _ rfl hm rfl c12 c2 hE hX
  intro k
  induction k with
  |zero=>
   intro e m tl h3 he hm hX
   exact done e m tl (by omega) he.2 hm hX
  |succ k ih=>
   intro e m tl h3 he hm hX
   by_cases hlt:e<3
   ·rw[shF,if_pos hlt] at hX
    have hd:IntKind.u32.wrap (m.tdiv 256)=m/256:=by rw[Int.tdiv_eq_ediv_of_nonneg hm.1,wrap_u32];omega
    have hwe:IntKind.i64.wrap (e+1)=e+1:=wrap_i64 (by omega) (by omega)
    iterate 5 (refine W_at c23_ok ⟨_,rfl,?_⟩;simp (disch:=first|omega|assumption|rfl|(simp only[vcS]<;>omega)|fail) only[↓vcN,vcQ,simprocAttr,hlt,hd,hwe])
    exact ih (e+1) (m/256) _ (by omega) (by omega) (by omega) hX
   ·rw[shF_ge (by omega)] at hX
    exact done e m tl (by omega) he.2 hm hX
 iterate 2 (refine W_at c23_ok ⟨_,rfl,?_⟩;simp (disch:=first|omega|assumption|rfl|(simp only[vcS]<;>omega)|fail) only[↓vcN,vcQ,simprocAttr,hg])
 exact L1 3 e m _ (by omega) b1 b2 htg
end Go.Proofs
namespace Go.Proofs
open Go.Vc
set_option maxRecDepth 10000
def revK (a:List Int)(k:Nat):List Int:=(List.range a.length).map fun p=>if p<k∨a.length - k≤p then a.getD (a.length - 1 - p) 0 else a.getD p 0
theorem revK_len (a:List Int)(k:Nat):(revK a k).length=a.length:=by simp [revK]
theorem revK_get {a:List Int}{k p:Nat}(h:p< (revK a k).length):(revK a k)[p]=if p<k∨a.length - k≤p then a.getD (a.length - 1 - p) 0 else a.getD p 0:=by
 simp only[revK,List.getElem_map,List.getElem_range]
theorem revK_0 (a:List Int):revK a 0=a:=by
 refine List.ext_getElem (revK_len a 0) fun i h1 h2=>?_
 rw[revK_get,if_neg (by omega),List.getD_eq_getElem?_getD,List.getElem?_eq_getElem h2];rfl
theorem revK_end {a:List Int}{k:Nat}(h:a.length≤2*k+1):revK a k=a.reverse:=by
 refine List.ext_getElem (by rw[revK_len,List.length_reverse]) fun i h1 h2=>?_
 rw[List.length_reverse] at h2
 rw[revK_get,List.getElem_reverse]
 by_cases hc:i<k∨a.length - k≤i
 ·rw[if_pos hc,List.getD_eq_getElem?_getD,List.getElem?_eq_getElem (by omega)];rfl
 ·rw[if_neg hc]
  have:a.length - 1 - i=i:=by omega
  rw[List.getD_eq_getElem?_getD,List.getElem?_eq_getElem h2]
  simp only[this];rfl
theorem revK_step {a:List Int}{k:Nat}(h:2*k+1<a.length):((revK a k).set k (a.getD (a.length - 1 - k) 0)).set (a.length - 1 - k) (a.getD k 0)=revK a (k+1):=by
 refine List.ext_getElem (by simp [revK_len]) fun i h1 h2=>?_
 rw[revK_len] at h2
 rw[revK_get,List.getElem_set,List.getElem_set,revK_get]
 by_cases e1:a.length - 1 - k=i
 ·rw[if_pos e1,if_pos (by omega)]
  congr 1;omega
 ·rw[if_neg e1]
  by_cases e2:k=i
  ·subst e2
   rw[if_pos rfl,if_pos (by omega)]
  ·rw[if_neg e2]
   by_cases hc:i<k∨a.length - k≤i
   ·rw[if_pos hc,if_pos (by omega)]
   ·rw[if_neg hc,if_neg (by omega)]
set_option maxHeartbeats 800000 in
theorem reverse_ok (w:World)(g:Nat)(T:TypeId)(a:List Int)(n:Nat)(hn:a.length=n)(h1:n≤1000000)(hg:w.heap[g]?=some (.cells (bv a).toArray T (0,0))):
  Calls Tryz.prog 65 #[.slice (some ⟨g,0,none⟩) n n] w (Ret fun _ w'=>w'.heap[g]?=some (.cells (bv a.reverse).toArray T (0,0))∧Keep (fun i=>i=g) w w'):=by
 refine calls_of_cfg c65_ok (Nat.le_of_ble_eq_true rfl) ?_
 simp only[argE_nil,argE_cons,Nat.zero_add]
 have hw0:IntKind.i64.wrap ((n:Int) - 1)=(n:Int) - 1 - ((0:Nat):Int):=by rw[wrap_i64 (by omega) (by omega)];omega
 (refine W_at c65_ok ⟨_,rfl,?_⟩;simp (disch:=first|omega|assumption|rfl|(simp only[vcS]<;>omega)|fail) only[↓vcN,vcQ,simprocAttr,hw0])
 have L:∀(j k:Nat) (wj:World) (tl:Env),j+2*k=n+1∨j=0∧n≤2*k+1∧2*k≤n→2*k≤n→wj.heap[g]?=some (.cells (bv (revK a k)).toArray T (0,0))→Keep (fun i=>i=g) w wj→
   W Tryz.prog (Ret fun _ w'=>w'.heap[g]?=some (.cells (bv a.reverse).toArray T (0,0))∧Keep (fun i=>i=g) w w') 65 5 ((0,.slice (some ⟨g,0,none⟩) n n)::(2,.int .i64 (k:Nat))::(3,.int .i64 ((n:Int) - 1 - (k:Nat)))::tl) wj:=by
  intro j
  induction j using Nat.strongRecOn with
  |_ j ih=>
   intro k wj tl hj hk hgj hK
   by_cases hlt:2*k+1<n
   ·have hb:((k:Nat):Int)< (n:Int) - 1 - (k:Nat):=by omega
    have hrl:=revK_len a k
    have e1:(n:Int) - 1 - (k:Nat)=((n - 1 - k:Nat):Int):=by omega
    have hwk:IntKind.i64.wrap ((k:Int)+1)=((k+1:Nat):Int):=wrap_i64 (by omega) (by omega)
    have hwn:IntKind.i64.wrap (((n - 1 - k:Nat):Int) - 1)=(n:Int) - 1 - ((k+1:Nat):Int):=by rw[wrap_i64 (by omega) (by omega)];omega
    have g1:(bv (revK a k)).toArray[k]?=some (.int .u8 (a.getD k 0)):=by
     rw[bva_get (by omega),revK_get,if_neg (by omega)]
    have g2:(bv (revK a k)).toArray[n - 1 - k]?=some (.int .u8 (a.getD (a.length - 1 - k) 0)):=by
     rw[bva_get (by omega),revK_get,if_neg (by omega),←hn]
    have q1:cellO wj.heap[g]? k=some (.int .u8 (a.getD k 0)):=by rw[hgj,cellO_some];exact g1
    have q2:cellO wj.heap[g]? (n - 1 - k)=some (.int .u8 (a.getD (a.length - 1 - k) 0)):=by rw[hgj,cellO_some];exact g2
    have b1:0≤((k:Nat):Int)∧((k:Nat):Int)< (n:Nat):=by omega
    have b2:0≤((n - 1 - k:Nat):Int)∧((n - 1 - k:Nat):Int)< (n:Nat):=by omega
    have hst:=revK_step (a:=a) (k:=k) (by omega)
    rw[hn] at hst g2 q2
    have szr:(bv (revK a k)).toArray.size=n:=by rw[bva_size,hrl,hn]
    have hEd:Ext wj wj.drew:=(Keep.refl _ wj).drew
    have hgd:=hEd.at hgj (fun h=>h)
    have w1:wr1 wj.drew g k:=wr1_of hgd (by rw[szr];omega)
    have k1:Keep (fun i=>i=g) wj.drew (wj.drew.setCell ⟨g,k,none⟩ (.int .u8 (a.getD (n - 1 - k) 0))):=(Keep.refl _ _).setCell _ fun _=>rfl
    have c1:(wj.drew.setCell ⟨g,k,none⟩ (.int .u8 (a.getD (n - 1 - k) 0))).heap[g]?=some (.cells (bv ((revK a k).set k (a.getD (n - 1 - k) 0))).toArray T (0,0)):=by rw[heap_setCell_eq hgd,bva_set]
    have w2:wr1 (wj.drew.setCell ⟨g,k,none⟩ (.int .u8 (a.getD (n - 1 - k) 0))) g (n - 1 - k):=wr1_of c1 (by rw[bva_size,List.length_set,hrl];omega)
    have hK1:=(hK.ext hEd).trans k1 fun _ _ h=>h
    iterate 2 (refine W_at c65_ok ⟨_,rfl,?_⟩;simp (disch:=first|omega|assumption|rfl|(simp only[vcS]<;>omega)|fail) only[↓vcN,vcQ,simprocAttr,hb])
    rw[e1]
    (refine W_at c65_ok ⟨_,rfl,?_⟩;simp (disch:=first|omega|assumption|rfl|(simp only[vcS]<;>omega)|fail) only[↓vcN,vcQ,simprocAttr,b1,b2,Int.toNat_natCast,Nat.mul_one,q1,q2,w1,w2])
    generalize World.setCell wj.drew _ _=wa at c1 w2 hK1⊢
    have k2:Keep (fun i=>i=g) wa (wa.setCell ⟨g,n - 1 - k,none⟩ (.int .u8 (a.getD k 0))):=(Keep.refl _ _).setCell _ fun _=>rfl
    have c2:(wa.setCell ⟨g,n - 1 - k,none⟩ (.int .u8 (a.getD k 0))).heap[g]?=some (.cells (bv (revK a (k+1))).toArray T (0,0)):=by rw[heap_setCell_eq c1,bva_set,hst]
    first|(refine⟨w1,?_⟩)|skip
    first|(refine⟨w2,?_⟩)|skip
    iterate 2 (refine W_at c65_ok ⟨_,rfl,?_⟩;simp (disch:=first|omega|assumption|rfl|(simp only[vcS]<;>omega)|fail) only[↓vcN,vcQ,simprocAttr,hwk,hwn])
    by_cases hlt2:2*(k+1)+1<n
    ·exact ih (n+1 - 2*(k+1)) (by omega) (k+1) _ _ (by omega) (by omega) c2 (hK1.trans k2 fun _ _ h=>h)
    ·exact ih 0 (by omega) (k+1) _ _ (by omega) (by omega) c2 (hK1.trans k2 fun _ _ h=>h)
   ·have hb:¬(((k:Nat):Int)< (n:Int) - 1 - (k:Nat)):=by omega
    rw[revK_end (by omega)] at hgj
    iterate 3 (refine W_at c65_ok ⟨_,rfl,?_⟩;simp (disch:=first|omega|assumption|rfl|(simp only[vcS]<;>omega)|fail) only[↓vcN,vcQ,simprocAttr,hb])
    exact⟨_,rfl,hgj,hK⟩
 exact L (n+1) 0 w _ (by omega) (by omega) (by rw[revK_0];exact hg) (Keep.refl _ w)
def prF (h:HdV):Bool:=match tgF h.bits with
 |none=>false
 |some t=> !(ltF t (dblF (encH h)).reverse)
set_option maxHeartbeats 800000 in
theorem proved_ok (w:World)(h:HdV)(ho:h.Ok):Calls Tryz.prog 26 #[.agg (hC h)] w (Ret fun u w'=>u=.bool (prF h)∧Ext w w'):=by
 refine calls_of_cfg c26_ok (Nat.le_of_ble_eq_true rfl) ?_
 simp only[argE_nil,argE_cons,Nat.zero_add]
 have hcs:=hC_size ho
 have hcf:=hC_flat h
 have hcx:(Value.agg (hC h)).cells=hC h:=rfl
 have hz:zc [(32,Value.int .u8 0)]=(bv Z32).toArray:=rfl
 have zl:(bv Z32).toArray.size=32:=rfl
 (refine W_at c26_ok ⟨_,rfl,?_⟩;simp (disch:=first|omega|assumption|rfl|(simp only[vcS]<;>omega)|fail) only[↓vcN,vcQ,simprocAttr,hcx])
 have hE1:Ext w (w.alloc (.cells (hC h) 26)):=(Keep.refl _ w).alloc _
 have c1:(w.alloc (.cells (hC h) 26)).heap[w.heap.size]?=some (.cells (hC h) 26 (0,0)):=heap_new _ _ _ rfl
 generalize World.alloc w _=w1 at hE1 c1⊢
 generalize hp1:w.heap.size=p1 at*
 have t66:=hC_66 ho
 have r68:rdO (some (.cells (hC h) 26 (0,0))) 0 68=some (hC h):=rdO_all _ _ _ _ hcs
 (refine W_at c26_ok ⟨_,rfl,?_⟩;simp (disch:=first|omega|assumption|rfl|(simp only[vcS]<;>omega)|fail) only[↓vcN,vcQ,simprocAttr,c1,t66])
 refine callV_ret (target_ok w1 h.bits ho.bits) ?_
 rintro _ w2 ⟨rfl,hE2⟩
 have c12:=hE2.at c1 (fun h=>h)
 obtain⟨T,e,hT,hTl,hTb,he⟩:∃(T:List Int) (e:Int),tgR (.int .i64 3) (tgF h.bits)=.tuple #[.agg (bv T).toArray,.int .i64 e]∧T.length=32∧byt T∧(tgF h.bits=some T∧e=0∨tgF h.bits=none∧e=3):=by
  cases ht:tgF h.bits with
  |none=>exact⟨Z32,3,rfl,rfl,Z32_byt,.inr ⟨rfl,rfl⟩⟩
  |some t=>exact⟨t,0,rfl,(tgF_len ht).1,(tgF_len ht).2,.inl ⟨rfl,rfl⟩⟩
 rw[hT]
 have sT:(bv T).toArray.size=32:=by rw[bva_size,hTl]
 have oz:∀T',okO (some (.cells (bv Z32).toArray T' (0,0))) 0 32=True:=fun T'=>by simp only[okO,zl];simp
 first|(simp (disch:=first|omega|assumption|rfl|(simp only[vcS]<;>omega)|fail) only[↓vcN,vcQ,simprocAttr,hz,sT,oz])|skip
 refine⟨bv_flat T,?_⟩
 have hE3:Ext w2 ((w2.alloc (.cells (bv Z32).toArray 112)).putN w2.heap.size 0 (bv T).toArray):=((Keep.refl _ w2).alloc _).putN _ (by intro hh;exfalso;omega)
 have c3:((w2.alloc (.cells (bv Z32).toArray 112)).putN w2.heap.size 0 (bv T).toArray).heap[w2.heap.size]?=some (.cells (bv T).toArray 112 (0,0)):=by
  rw[heap_putN_eq (heap_new _ _ _ rfl),splice_all (by rw[sT];rfl)]
 have c13:=hE3.at c12 (fun h=>h)
 have hE03:=(hE1.ext hE2).ext hE3
 generalize World.putN _ _ _ _=w3 at hE3 c3 c13 hE03⊢
 generalize w2.heap.size=p3 at*
 (refine W_at c26_ok ⟨_,rfl,?_⟩;simp (disch:=first|omega|assumption|rfl|(simp only[vcS]<;>omega)|fail) only[↓vcN,vcQ,simprocAttr,c13,r68])
 refine callV_ret (hid_ok w3 h ho) ?_
 rintro _ w4 ⟨rfl,hE4⟩
 have sD:(bv (dblF (encH h))).toArray.size=32:=by rw[bva_size,dblF_len]
 have c34:=hE4.at c3 (fun h=>h)
 first|(simp (disch:=first|omega|assumption|rfl|(simp only[vcS]<;>omega)|fail) only[↓vcN,vcQ,simprocAttr,hz,sD,oz])|skip
 refine⟨bv_flat _,?_⟩
 have hE5:Ext w4 ((w4.alloc (.cells (bv Z32).toArray 23)).putN w4.heap.size 0 (bv (dblF (encH h))).toArray):=((Keep.refl _ w4).alloc _).putN _ (by intro hh;exfalso;omega)
 have c5:((w4.alloc (.cells (bv Z32).toArray 23)).putN w4.heap.size 0 (bv (dblF (encH h))).toArray).heap[w4.heap.size]?=some (.cells (bv (dblF (encH h))).toArray 23 (0,0)):=by
  rw[heap_putN_eq (heap_new _ _ _ rfl),splice_all (by rw[sD];rfl)]
 have c35:=hE5.at c34 (fun h=>h)
 have hE05:=(hE03.ext hE4).ext hE5
 have hw4:w.heap.size≤w4.heap.size:=(hE03.ext hE4).size
 have l34:=lt_of_heap c34
 generalize World.putN _ _ _ _=w5 at hE5 c5 c35 hE05⊢
 generalize w4.heap.size=p5 at*
 (refine W_at c26_ok ⟨_,rfl,?_⟩;simp (disch:=first|omega|assumption|rfl|(simp only[vcS]<;>omega)|fail) only[↓vcN,vcQ,simprocAttr])
 refine callV_ret (reverse_ok w5 p5 _ (dblF (encH h)) 32 (dblF_len _) (by omega) c5) ?_
 rintro _ w6 ⟨c56,k6⟩
 have c36:=k6.at c35 (by omega)
 have hE06:Ext w w6:=hE05.trans k6 fun i hi e=>by omega
 first|(simp (disch:=first|omega|assumption|rfl|(simp only[vcS]<;>omega)|fail) only[↓vcN,vcQ,simprocAttr])|skip
 have hD:(dblF (encH h)).reverse.length=32:=by rw[List.length_reverse,dblF_len]
 have hDb:byt (dblF (encH h)).reverse:=fun x hx=>dblF_byt _ x (List.mem_reverse.1 hx)
 have hpr:prF h=match tgF h.bits with|none=>false|some t=> !(ltF t (dblF (encH h)).reverse):=rfl
 generalize (dblF (encH h)).reverse=D at*
 have sD2:(bv D).toArray.size=32:=by rw[bva_size,hD]
 have rD:∀T',rdO (some (.cells (bv D).toArray T' (0,0))) 0 32=some (bv D).toArray:=fun _=>rdO_all _ _ _ _ sD2
 have rT:∀T',rdO (some (.cells (bv T).toArray T' (0,0))) 0 32=some (bv T).toArray:=fun _=>rdO_all _ _ _ _ sT
 rcases he with ⟨ht,rfl⟩|⟨ht,rfl⟩
 ·rw[ht] at hpr
  simp only at hpr
  rw[hpr]
  (refine W_at c26_ok ⟨_,rfl,?_⟩;simp (disch:=first|omega|assumption|rfl|(simp only[vcS]<;>omega)|fail) only[↓vcN,vcQ,simprocAttr,c56,c36,rD,rT])
  refine callV_ret (Compare_ok _ D T hD hTl hDb hTb) ?_
  rintro _ w7 ⟨rfl,hE7⟩
  have hle:decide (lexF D T≤0)= !(ltF T D):=by
   unfold ltF
   rw[lexF_neg D T]
   by_cases hh:lexF D T≤0
   ·rw[decide_eq_true hh,decide_eq_false (by omega)];rfl
   ·rw[decide_eq_false hh,decide_eq_true (by omega)];rfl
  simp (disch:=first|omega|assumption|rfl|(simp only[vcS]<;>omega)|fail) only[↓vcN,vcQ,simprocAttr,hle]
  (refine W_at c26_ok ⟨_,rfl,?_⟩;simp (disch:=first|omega|assumption|rfl|(simp only[vcS]<;>omega)|fail) only[↓vcN,vcQ,simprocAttr,Ret_returned])
  exact hE06.ext hE7
 ·rw[ht] at hpr
  simp only at hpr
  rw[hpr]
  iterate 2 (refine W_at c26_ok ⟨_,rfl,?_⟩;simp (disch:=first|omega|assumption|rfl|(simp only[vcS]<;>omega)|fail) only[↓vcN,vcQ,simprocAttr,Ret_returned])
  exact hE06
end Go.Proofs
namespace Go.Proofs
open Go.Vc
set_option maxRecDepth 10000
def nK (a:List Int)(k:Nat):List Int:=a.reverse.take k++Z32.drop k
theorem nK_len {a:List Int}(ha:a.length=32){k:Nat}(hk:k≤32):(nK a k).length=32:=by
 have:Z32.length=32:=rfl
 simp only[nK,List.length_append,List.length_take,List.length_reverse,List.length_drop,ha,this]
 omega
theorem nK_step {a:List Int}(ha:a.length=32){k:Nat}(hk:k<32):(nK a k).set k (a[31 - k]'(by omega))=nK a (k+1):=by
 have hz:Z32.length=32:=rfl
 have hl:(a.reverse.take k).length=k:=by rw[List.length_take,List.length_reverse];omega
 have hr:k<a.reverse.length:=by rw[List.length_reverse];omega
 have hg:a.reverse[k]=a[31 - k]'(by omega):=by
  rw[List.getElem_reverse];congr 1;omega
 unfold nK
 rw[List.set_append_right _ _ (by omega),hl,Nat.sub_self,List.drop_eq_getElem_cons (by omega:k<Z32.length),List.set_cons_zero,List.take_add_one,List.getElem?_eq_getElem hr,hg]
 simp
set_option maxHeartbeats 800000 in
theorem rproved_ok (w:World)(h:HdV)(ho:h.Ok):Calls Tryz.prog 5 #[.agg (hC h)] w (Ret fun u w'=>u=.bool (prF h)∧Ext w w'):=by
 refine calls_of_cfg c5_ok (Nat.le_of_ble_eq_true rfl) ?_
 simp only[argE_nil,argE_cons,Nat.zero_add]
 have hcs:=hC_size ho
 have hcf:=hC_flat h
 have hcx:(Value.agg (hC h)).cells=hC h:=rfl
 have hz:zc [(32,Value.int .u8 0)]=(bv Z32).toArray:=rfl
 have zl:(bv Z32).toArray.size=32:=rfl
 (refine W_at c5_ok ⟨_,rfl,?_⟩;simp (disch:=first|omega|assumption|rfl|(simp only[vcS]<;>omega)|fail) only[↓vcN,vcQ,simprocAttr,hcx])
 have hE1:Ext w (w.alloc (.cells (hC h) 26)):=(Keep.refl _ w).alloc _
 have c1:(w.alloc (.cells (hC h) 26)).heap[w.heap.size]?=some (.cells (hC h) 26 (0,0)):=heap_new _ _ _ rfl
 generalize World.alloc w _=w1 at hE1 c1⊢
 generalize hp1:w.heap.size=p1 at*
 have t66:=hC_66 ho
 have r68:rdO (some (.cells (hC h) 26 (0,0))) 0 68=some (hC h):=rdO_all _ _ _ _ hcs
 (refine W_at c5_ok ⟨_,rfl,?_⟩;simp (disch:=first|omega|assumption|rfl|(simp only[vcS]<;>omega)|fail) only[↓vcN,vcQ,simprocAttr,c1,t66])
 refine callV_ret (rtarget_ok w1 h.bits ho.bits) ?_
 rintro vt w2 ⟨hvt,hE2⟩
 have c12:=hE2.at c1 (fun h=>h)
 obtain⟨T,e,hT,hTl,hTb,he⟩:∃(T:List Int) (e:Bool),vt=.tuple #[.agg (bv T).toArray,.bool e]∧T.length=32∧byt T∧(tgF h.bits=some T∧e=true∨tgF h.bits=none∧e=false):=by
  cases ht:tgF h.bits with
  |none=>rw[ht] at hvt;exact⟨Z32,false,hvt,rfl,Z32_byt,.inr ⟨rfl,rfl⟩⟩
  |some t=>rw[ht] at hvt;exact⟨t,true,hvt,(tgF_len ht).1,(tgF_len ht).2,.inl ⟨rfl,rfl⟩⟩
 subst hT
 clear hvt
 have sT:(bv T).toArray.size=32:=by rw[bva_size,hTl]
 have oz:∀T',okO (some (.cells (bv Z32).toArray T' (0,0))) 0 32=True:=fun T'=>by simp only[okO,zl];simp
 first|(simp (disch:=first|omega|assumption|rfl|(simp only[vcS]<;>omega)|fail) only[↓vcN,vcQ,simprocAttr,hz,sT,oz])|skip
 refine⟨bv_flat T,?_⟩
 have hE3:Ext w2 ((w2.alloc (.cells (bv Z32).toArray 22)).putN w2.heap.size 0 (bv T).toArray):=((Keep.refl _ w2).alloc _).putN _ (by intro hh;exfalso;omega)
 have c3:((w2.alloc (.cells (bv Z32).toArray 22)).putN w2.heap.size 0 (bv T).toArray).heap[w2.heap.size]?=some (.cells (bv T).toArray 22 (0,0)):=by
  rw[heap_putN_eq (heap_new _ _ _ rfl),splice_all (by rw[sT];rfl)]
 have c13:=hE3.at c12 (fun h=>h)
 have hE03:=(hE1.ext hE2).ext hE3
 generalize World.putN _ _ _ _=w3 at hE3 c3 c13 hE03⊢
 generalize w2.heap.size=p3 at*
 (refine W_at c5_ok ⟨_,rfl,?_⟩;simp (disch:=first|omega|assumption|rfl|(simp only[vcS]<;>omega)|fail) only[↓vcN,vcQ,simprocAttr,c13,r68])
 refine callV_ret (rhid_ok w3 h ho) ?_
 rintro _ w4 ⟨rfl,hE4⟩
 have hpr:prF h=match tgF h.bits with|none=>false|some t=> !(ltF t (dblF (encH h)).reverse):=rfl
 have hDl:=dblF_len (encH h)
 have hDb:=dblF_byt (encH h)
 generalize dblF (encH h)=D at*
 have sD:(bv D).toArray.size=32:=by rw[bva_size,hDl]
 have c34:=hE4.at c3 (fun h=>h)
 first|(simp (disch:=first|omega|assumption|rfl|(simp only[vcS]<;>omega)|fail) only[↓vcN,vcQ,simprocAttr,hz,sD,oz])|skip
 refine⟨bv_flat _,?_⟩
 have hE5:Ext w4 ((w4.alloc (.cells (bv Z32).toArray 22)).putN w4.heap.size 0 (bv D).toArray):=((Keep.refl _ w4).alloc _).putN _ (by intro hh;exfalso;omega)
 have c5:((w4.alloc (.cells (bv Z32).toArray 22)).putN w4.heap.size 0 (bv D).toArray).heap[w4.heap.size]?=some (.cells (bv D).toArray 22 (0,0)):=by
  rw[heap_putN_eq (heap_new _ _ _ rfl),splice_all (by rw[sD];rfl)]
 have c35:=hE5.at c34 (fun h=>h)
 have hE05:=(hE03.ext hE4).ext hE5
 generalize World.putN _ _ _ _=w5 at hE5 c5 c35 hE05⊢
 generalize w4.heap.size=p5 at*
 (refine W_at c5_ok ⟨_,rfl,?_⟩;simp (disch:=first|omega|assumption|rfl|(simp only[vcS]<;>omega)|fail) only[↓vcN,vcQ,simprocAttr,hz])
 have hE6:Ext w5 (w5.alloc (.cells (bv Z32).toArray 22)):=(Keep.refl _ w5).alloc _
 have c6:(w5.alloc (.cells (bv Z32).toArray 22)).heap[w5.heap.size]?=some (.cells (bv Z32).toArray 22 (0,0)):=heap_new _ _ _ rfl
 have c56:=hE6.at c5 (fun h=>h)
 have c36:=hE6.at c35 (fun h=>h)
 have hE06:=hE05.ext hE6
 have l5:=lt_of_heap c5
 have l3:=lt_of_heap c35
 have hw5:w.heap.size≤w5.heap.size:=hE05.size
 generalize World.alloc w5 _=w6 at hE6 c6 c56 c36 hE06⊢
 generalize w5.heap.size=p6 at*
 clear hE6 c5 c35 hE05 hE5 c34 hE4 hE03 c13 c3 hE3 c12 hE2 c1 hE1
 (refine W_at c5_ok ⟨_,rfl,?_⟩;simp (disch:=first|omega|assumption|rfl|(simp only[vcS]<;>omega)|fail) only[↓vcN,vcQ,simprocAttr])
 have fin:∀(wj:World) (tl:Env),wj.heap[p3]?=some (.cells (bv T).toArray 22 (0,0))→wj.heap[p6]?=some (.cells (bv D.reverse).toArray 22 (0,0))→Ext w wj→
   W Tryz.prog (Ret fun u w'=>u=.bool (prF h)∧Ext w w') 5 2 ((3,.pointer (some ⟨p3,0,none⟩))::(4,.bool e)::(5,.pointer (some ⟨p5,0,none⟩))::(6,.pointer (some ⟨p6,0,none⟩))::tl) wj:=by
  intro wj tl h3 h6 hE
  have hR:D.reverse.length=32:=by rw[List.length_reverse,hDl]
  generalize D.reverse=R at*
  have sR:(bv R).toArray.size=32:=by rw[bva_size,hR]
  have rR:∀T',rdO (some (.cells (bv R).toArray T' (0,0))) 0 32=some (bv R).toArray:=fun _=>rdO_all _ _ _ _ sR
  have rT:∀T',rdO (some (.cells (bv T).toArray T' (0,0))) 0 32=some (bv T).toArray:=fun _=>rdO_all _ _ _ _ sT
  rcases he with ⟨ht,rfl⟩|⟨ht,rfl⟩
  ·rw[ht] at hpr
   simp only at hpr
   rw[hpr]
   (refine W_at c5_ok ⟨_,rfl,?_⟩;simp (disch:=first|omega|assumption|rfl|(simp only[vcS]<;>omega)|fail) only[↓vcN,vcQ,simprocAttr,h3,h6,rR,rT])
   refine callV_ret (less_ok _ T R hTl hR) ?_
   rintro _ w7 ⟨rfl,hE7⟩
   simp (disch:=first|omega|assumption|rfl|(simp only[vcS]<;>omega)|fail) only[↓vcN,vcQ,simprocAttr]
   (refine W_at c5_ok ⟨_,rfl,?_⟩;simp (disch:=first|omega|assumption|rfl|(simp only[vcS]<;>omega)|fail) only[↓vcN,vcQ,simprocAttr,Ret_returned])
   exact hE.ext hE7
  ·rw[ht] at hpr
   simp only at hpr
   rw[hpr]
   iterate 2 (refine W_at c5_ok ⟨_,rfl,?_⟩;simp (disch:=first|omega|assumption|rfl|(simp only[vcS]<;>omega)|fail) only[↓vcN,vcQ,simprocAttr,Ret_returned])
   exact hE
 have L:∀(k i:Nat) (wj:World) (tl:Env),k+i=32→wj.heap[p3]?=some (.cells (bv T).toArray 22 (0,0))→wj.heap[p5]?=some (.cells (bv D).toArray 22 (0,0))→wj.heap[p6]?=some (.cells (bv (nK D i)).toArray 22 (0,0))→Ext w wj→
   W Tryz.prog (Ret fun u w'=>u=.bool (prF h)∧Ext w w') 5 7 ((3,.pointer (some ⟨p3,0,none⟩))::(4,.bool e)::(5,.pointer (some ⟨p5,0,none⟩))::(6,.pointer (some ⟨p6,0,none⟩))::(7,.int .i64 (i:Nat))::tl) wj:=by
  intro k
  induction k with
  |zero=>
   intro i wj tl hi h3 h5 h6 hE
   obtain rfl:i=32:=by omega
   have hil:¬(((32:Nat):Int)<32):=by omega
   have e9:nK D 32=D.reverse:=by
    unfold nK
    rw[List.take_of_length_le (by rw[List.length_reverse,hDl];omega),List.drop_eq_nil_of_le (by decide),List.append_nil]
   rw[e9] at h6
   iterate 2 (refine W_at c5_ok ⟨_,rfl,?_⟩;simp (disch:=first|omega|assumption|rfl|(simp only[vcS]<;>omega)|fail) only[↓vcN,vcQ,simprocAttr])
   exact fin wj _ h3 h6 hE
  |succ k ih=>
   intro i wj tl hi h3 h5 h6 hE
   have hi32:i<32:=by omega
   have hil:((i:Nat):Int)<32:=by omega
   have hwi:IntKind.i64.wrap ((i:Int)+1)=((i+1:Nat):Int):=wrap_i64 (by omega) (by omega)
   have hw31:IntKind.i64.wrap (31 - (i:Int))=((31 - i:Nat):Int):=by rw[wrap_i64 (by omega) (by omega)];omega
   have b1:0≤((i:Nat):Int)∧((i:Nat):Int)<32:=by omega
   have b2:0≤((31 - i:Nat):Int)∧((31 - i:Nat):Int)<32:=by omega
   have q5:cellO wj.heap[p5]? (31 - i)=some (.int .u8 (D[31 - i]'(by omega))):=by rw[h5,cellO_some];exact bva_get (by omega)
   have hst:=nK_step hDl hi32
   have hnl:=nK_len hDl (k:=i) (by omega)
   generalize D[31 - i]'(by omega)=c at*
   have hEd:Ext wj wj.drew:=(Keep.refl _ wj).drew
   have w6':wr1 wj p6 i:=wr1_of h6 (by rw[bva_size,hnl];omega)
   have k6:Keep (fun g=>g=p6) wj (wj.setCell ⟨p6,i,none⟩ (.int .u8 c)):=(Keep.refl _ _).setCell _ fun _=>rfl
   have c6':(wj.setCell ⟨p6,i,none⟩ (.int .u8 c)).heap[p6]?=some (.cells (bv (nK D (i+1))).toArray 22 (0,0)):=by rw[heap_setCell_eq h6,bva_set,hst]
   iterate 5 (refine W_at c5_ok ⟨_,rfl,?_⟩;simp (disch:=first|omega|assumption|rfl|(simp only[vcS]<;>omega)|fail) only[↓vcN,vcQ,simprocAttr,hil,hw31,b1,b2,Int.toNat_natCast,Nat.mul_one,q5,w6',hwi])
   exact ih (i+1) _ _ (by omega) (k6.at h3 (by omega)) (k6.at h5 (by omega)) c6' (hE.trans k6 fun g hg e=>by omega)
 exact L 32 0 w6 _ rfl c36 c56 c6 hE06
end Go.Proofs
namespace Go.Proofs
open Go.Vc
set_option maxRecDepth 10000
def formL:Nat→List TxV→Bool
 |_,[]=>true
 |i,t::l=>(coinB t==decide (i=0))&&formL (i+1) l
def errL:List TxV→Int
 |[]=>0
 |t::l=>if chkT t≠0 then chkT t else errL l
def tid (t:TxV):List Int:=dblF (encW t false)
def chkB (h:HdV)(ts:List TxV):Int:=
 if prF h=false then 12
 else if ts.length=0 then 3
 else if formL 0 ts=false then 3
 else if h.merkle≠rootF ts then 5
 else if errL ts≠0 then errL ts
 else if dupF [] (ts.map tid) then 18 else 0
theorem formL_at {ts:List TxV}{i:Nat}(h:i<ts.length):formL i (ts.drop i)=((coinB ts[i]==decide (i=0))&&formL (i+1) (ts.drop (i+1))):=by
 rw[List.drop_eq_getElem_cons h,formL]
theorem errL_at {ts:List TxV}{i:Nat}(h:i<ts.length):errL (ts.drop i)=if chkT ts[i]≠0 then chkT ts[i] else errL (ts.drop (i+1)):=by
 rw[List.drop_eq_getElem_cons h,errL]
theorem tid_len (t:TxV):(tid t).length=32:=dblF_len _
abbrev layN:List SK:=skR [(32,.i .u8)]
def entsN (L:List (List Int)):List KV:=L.map fun H=>(.agg (bv H).toArray,.bool true)
theorem kokN {p:List Int}(hp:p.length=32):kOK layN true (.agg (bv p).toArray)=true:=by
 have:=conf32 hp
 simpa [kOK] using this
theorem getN_in {L:List (List Int)}{p:List Int}:getG (.agg (bv p).toArray) (entsN L)=if p∈L then some (.bool true) else none:=by
 by_cases h:p∈L
 ·rw[if_pos h]
  obtain⟨v,hv⟩:=getG_some (l:=entsN L) (k:=.agg (bv p).toArray) ⟨_,List.mem_map.2 ⟨p,h,rfl⟩,rfl⟩
  rw[hv]
  obtain⟨y,_,hy⟩:=List.mem_map.1 (getG_mem hv)
  have:=congrArg Prod.snd hy
  exact congrArg some this.symm
 ·rw[if_neg h]
  cases hg:getG (.agg (bv p).toArray) (entsN L) with
  |none=>rfl
  |some v=>
   exfalso
   obtain⟨y,hy,he⟩:=List.mem_map.1 (getG_mem hg)
   have e1:(bv y).toArray=(bv p).toArray:=by
    have:=congrArg Prod.fst he
    injection this
   have e2:bv y=bv p:=by simpa using e1
   rw[bv_inj.1 e2] at hy
   exact h hy
theorem lkN {w:World}{r:Nat}{L:List (List Int)}(h:MG layN true w r (entsN L)){p:List Int}(hp:p.length=32):
  lkpR (skR [(32,.i .u8)]) true (.bool false) false w (.map (some r)) (.agg (bv p).toArray)=some (.bool (decide (p∈L))):=by
 rw[h.lkp (.bool false) (kokN hp) false,getN_in]
 by_cases hm:p∈L
 ·rw[if_pos hm,decide_eq_true hm];rfl
 ·rw[if_neg hm,decide_eq_false hm];rfl
set_option maxHeartbeats 3200000 in
theorem bcheck_ok (w:World)(h:HdV)(v:Value)(ts:List TxV)(hT:TxsR w v ts)(hb:BOk h ts):
  Calls Tryz.prog 6 #[.agg (bC h v)] w (Ret fun u w'=>u=.int .i64 (chkB h ts)∧Ext w w'):=by
 refine calls_of_cfg c6_ok (Nat.le_of_ble_eq_true rfl) ?_
 simp only[argE_nil,argE_cons,Nat.zero_add]
 have ho:=hb.ho
 have hn:=hb.n
 have hbs:=bC_size ho v
 have hbf:=bC_flat h (u:=v) hT.one
 have hbx:(Value.agg (bC h v)).cells=bC h v:=rfl
 have b68:=bC_68 ho v
 have rh:=bC_head ho v 29 (0,0)
 have ra:=bC_all ho v 29 (0,0)
 have rm:=bC_mrk ho v 29 (0,0)
 have hlT:=hT.len
 have hch:chkB h ts=if prF h=false then 12
   else if ts.length=0 then 3
   else if formL 0 ts=false then 3
   else if h.merkle≠rootF ts then 5
   else if errL ts≠0 then errL ts
   else if dupF [] (ts.map tid) then 18 else 0:=rfl
 (refine W_at c6_ok ⟨_,rfl,?_⟩;simp (disch:=first|omega|assumption|rfl|(simp only[vcS]<;>omega)|fail) only[↓vcN,vcQ,simprocAttr,hbx])
 have hE1:Ext w (w.alloc (.cells (bC h v) 29)):=(Keep.refl _ w).alloc _
 have c1:(w.alloc (.cells (bC h v) 29)).heap[w.heap.size]?=some (.cells (bC h v) 29 (0,0)):=heap_new _ _ _ rfl
 generalize World.alloc w _=w1 at hE1 c1⊢
 generalize w.heap.size=p1 at*
 (refine W_at c6_ok ⟨_,rfl,?_⟩;simp (disch:=first|omega|assumption|rfl|(simp only[vcS]<;>omega)|fail) only[↓vcN,vcQ,simprocAttr,c1,rh])
 refine callV_ret (proved_ok w1 h ho) ?_
 rintro _ w2 ⟨rfl,hE2⟩
 have c12:=hE2.at c1 (fun h=>h)
 have hE02:=hE1.ext hE2
 first|(simp (disch:=first|omega|assumption|rfl|(simp only[vcS]<;>omega)|fail) only[↓vcN,vcQ,simprocAttr])|skip
 cases hp:prF h with
 |false=>
  rw[hch,if_pos hp]
  iterate 3 (refine W_at c6_ok ⟨_,rfl,?_⟩;simp (disch:=first|omega|assumption|rfl|(simp only[vcS]<;>omega)|fail) only[↓vcN,vcQ,simprocAttr,Ret_returned])
  exact hE02
 |true=>
 rw[if_neg (by rw[hp];decide)] at hch
 iterate 2 (refine W_at c6_ok ⟨_,rfl,?_⟩;simp (disch:=first|omega|assumption|rfl|(simp only[vcS]<;>omega)|fail) only[↓vcN,vcQ,simprocAttr,c12,b68,hlT])
 have LD:∀(k i:Nat) (wj:World) (rmp:Nat) (tl:Env),k+i=ts.length→chkB h ts=(if dupF [] (ts.map tid) then 18 else 0)→Ext w wj→w.heap.size≤rmp→MG layN true wj rmp (entsN ((ts.map tid).take i))→dupF [] (ts.map tid)=dupF ((ts.map tid).take i) ((ts.map tid).drop i)→
   W Tryz.prog (Ret fun u w'=>u=.int .i64 (chkB h ts)∧Ext w w') 6 13 ((8,.map (some rmp))::(62,v)::(63,.int .i64 (ts.length:Nat))::(64,.int .i64 (i:Nat))::tl) wj:=by
  intro k
  induction k with
  |zero=>
   intro i wj rmp tl hi hch hE hr hM hd
   obtain rfl:i=ts.length:=by omega
   have hno:¬((ts.length:Nat):Int)< (ts.length:Nat):=by omega
   rw[List.drop_eq_nil_of_le (by rw[List.length_map];omega)] at hd
   rw[hd] at hch
   have hc0:chkB h ts=0:=hch
   rw[hc0]
   iterate 4 (refine W_at c6_ok ⟨_,rfl,?_⟩;simp (disch:=first|omega|assumption|rfl|(simp only[vcS]<;>omega)|fail) only[↓vcN,vcQ,simprocAttr,hno,Ret_returned])
   exact hE
  |succ k ih=>
   intro i wj rmp tl hi hch hE hr hM hd
   have hil:i<ts.length:=by omega
   have hlt:((i:Nat):Int)< (ts.length:Nat):=by omega
   have b1:0≤((i:Nat):Int)∧((i:Nat):Int)< (ts.length:Nat):=by omega
   have hwi:IntKind.i64.wrap (((i:Nat):Int)+1)=((i+1:Nat):Int):=wrap_i64 (by omega) (by omega)
   obtain⟨b,o,c,cs,ev,hrr,hcs,iv,ov,ecs,hR⟩:=(hT.ext hE).at hil
   have h3:=hb.txs _ (List.getElem_mem hil)
   rw[dupF_at (by rw[List.length_map];exact hil),List.getElem_map] at hd
   have htk:entsN ((ts.map tid).take (i+1))=entsN ((ts.map tid).take i)++[(.agg (bv (tid ts[i])).toArray,.bool true)]:=by
    unfold entsN
    rw[List.take_add_one,List.getElem?_eq_getElem (by rw[List.length_map];exact hil),List.map_append,List.getElem_map];rfl
   have ih':=ih (i+1)
   generalize ts[i]=t at*
   subst ecs
   have s4:=txC_sz t iv ov
   rw[ev]
   iterate 3 (refine W_at c6_ok ⟨_,rfl,?_⟩;simp (disch:=first|omega|assumption|rfl|(simp only[vcS]<;>omega)|fail) only[↓vcN,vcQ,simprocAttr,hlt,b1,Int.toNat_natCast,hrr,s4])
   refine⟨txC_flat2 hR,by decide,?_⟩
   have hEb:Ext wj ((wj.alloc (.cells (zc [(1,.int .i32 0),(2,.slice none 0 0),(1,.int .u32 0)]) 33)).putN wj.heap.size 0 (txC t iv ov)):=((Keep.refl _ wj).alloc _).putN _ (by intro hh;exfalso;omega)
   have h9:((wj.alloc (.cells (zc [(1,.int .i32 0),(2,.slice none 0 0),(1,.int .u32 0)]) 33)).putN wj.heap.size 0 (txC t iv ov)).heap[wj.heap.size]?=some (.cells (txC t iv ov) 33 (0,0)):=by
    rw[heap_putN_eq (heap_new _ _ _ rfl),splice_all (by rw[s4];rfl)]
   generalize World.putN _ _ _ _=wa at hEb h9⊢
   generalize wj.heap.size=p9 at h9⊢
   have r4:rdO (some (.cells (txC t iv ov) 33 (0,0))) 0 4=some (txC t iv ov):=rdO_all _ _ _ _ s4
   (refine W_at c6_ok ⟨_,rfl,?_⟩;simp (disch:=first|omega|assumption|rfl|(simp only[vcS]<;>omega)|fail) only[↓vcN,vcQ,simprocAttr,h9,r4])
   refine callV_ret (id_ok wa iv ov t (hR.ext hEb) h3) ?_
   rintro _ wb ⟨rfl,hEb2⟩
   have etid:dblF (encW t (false&&witB t))=tid t:=rfl
   rw[etid]
   have hDl:=tid_len t
   generalize tid t=D at*
   have hcx:(Value.agg (bv D).toArray).cells=(bv D).toArray:=rfl
   have hcz:(bv D).toArray.size=32:=by rw[bva_size,hDl]
   first|(simp (disch:=first|omega|assumption|rfl|(simp only[vcS]<;>omega)|fail) only[↓vcN,vcQ,simprocAttr,hcz])|skip
   refine⟨bv_flat _,?_⟩
   have hEc:Ext wb ((wb.alloc (.cells (zc [(32,.int .u8 0)]) 23)).putN wb.heap.size 0 (bv D).toArray):=((Keep.refl _ wb).alloc _).putN _ (by intro hh;exfalso;omega)
   have h11:((wb.alloc (.cells (zc [(32,.int .u8 0)]) 23)).putN wb.heap.size 0 (bv D).toArray).heap[wb.heap.size]?=some (.cells (bv D).toArray 23 (0,0)):=by
    rw[heap_putN_eq (heap_new _ _ _ rfl),splice_all (by rw[hcz];rfl)]
   generalize World.putN _ _ _ _=wc at hEc h11⊢
   have hEjc:=(hEb.ext hEb2).ext hEc
   have hMc:=hM.ext hEjc
   have lrm:=hMc.lt
   generalize wb.heap.size=p11 at h11⊢
   have hlk:=lkN hMc hDl
   have hz:zvR false [(1,Value.bool false)]=.bool false:=rfl
   have r32:rdO (some (.cells (bv D).toArray 23 (0,0))) 0 32=some (bv D).toArray:=rdO_all _ _ _ _ hcz
   have hEw:=hE.ext hEjc
   have hgt:=getN_in (L:=(ts.map tid).take i) (p:=D)
   by_cases hin:D∈(ts.map tid).take i
   ·rw[decide_eq_true hin] at hlk
    have hd1:dupF [] (ts.map tid)=true:=by rw[hd];simp [hin]
    rw[hd1,if_pos rfl] at hch
    rw[hch]
    iterate 4 (refine W_at c6_ok ⟨_,rfl,?_⟩;simp (disch:=first|omega|assumption|rfl|(simp only[vcS]<;>omega)|fail) only[↓vcN,vcQ,simprocAttr,h11,r32,hz,hlk,Ret_returned])
    exact hEw
   ·rw[decide_eq_false hin] at hlk
    have hd1:dupF [] (ts.map tid)=dupF ((ts.map tid).take (i+1)) ((ts.map tid).drop (i+1)):=by rw[hd];simp [hin]
    rw[if_neg hin] at hgt
    iterate 3 (refine W_at c6_ok ⟨_,rfl,?_⟩;simp (disch:=first|omega|assumption|rfl|(simp only[vcS]<;>omega)|fail) only[↓vcN,vcQ,simprocAttr,h11,r32,hz,hlk])
    refine MG.put hMc (kokN hDl) fun wd hMd hKd=>?_
    rw[putG_new hgt,←htk] at hMd
    first|(simp (disch:=first|omega|assumption|rfl|(simp only[vcS]<;>omega)|fail) only[↓vcN,vcQ,simprocAttr])|skip
    iterate 2 (refine W_at c6_ok ⟨_,rfl,?_⟩;simp (disch:=first|omega|assumption|rfl|(simp only[vcS]<;>omega)|fail) only[↓vcN,vcQ,simprocAttr,hwi])
    rw[←ev]
    exact ih' wd rmp _ (by omega) hch (hEw.trans hKd fun g hg e=>by omega) hr hMd hd1
 have LE:∀(k i:Nat) (wj:World) (tl:Env),k+i=ts.length→chkB h ts=(if errL ts≠0 then errL ts else if dupF [] (ts.map tid) then 18 else 0)→Ext w wj→wj.heap[p1]?=some (.cells (bC h v) 29 (0,0))→errL ts=errL (ts.drop i)→
   W Tryz.prog (Ret fun u w'=>u=.int .i64 (chkB h ts)∧Ext w w') 6 25 ((1,.pointer (some ⟨p1,0,none⟩))::(48,v)::(49,.int .i64 (ts.length:Nat))::(50,.int .i64 (i:Nat))::tl) wj:=by
  intro k
  induction k with
  |zero=>
   intro i wj tl hi hch hE c1 hd
   obtain rfl:i=ts.length:=by omega
   have hno:¬((ts.length:Nat):Int)< (ts.length:Nat):=by omega
   rw[List.drop_eq_nil_of_le (Nat.le_refl _)] at hd
   have hd0:errL ts=0:=hd
   rw[hd0,if_neg (fun h=>h rfl)] at hch
   iterate 3 (refine W_at c6_ok ⟨_,rfl,?_⟩;simp (disch:=first|omega|assumption|rfl|(simp only[vcS]<;>omega)|fail) only[↓vcN,vcQ,simprocAttr,hno])
   have hM:=MG.empty (lay:=layN) (g:=true) wj
   have hEm:Ext wj (wj.alloc (.map #[] 0)):=(Keep.refl _ wj).alloc _
   have c1m:=hEm.at c1 (fun h=>h)
   have hws:=hE.size
   generalize World.alloc _ _=wm at hM hEm c1m⊢
   (refine W_at c6_ok ⟨_,rfl,?_⟩;simp (disch:=first|omega|assumption|rfl|(simp only[vcS]<;>omega)|fail) only[↓vcN,vcQ,simprocAttr,c1m,b68,hlT])
   exact LD ts.length 0 wm _ _ (by omega) hch (hE.ext hEm) hws hM rfl
  |succ k ih=>
   intro i wj tl hi hch hE c1 hd
   have hil:i<ts.length:=by omega
   have hlt:((i:Nat):Int)< (ts.length:Nat):=by omega
   have b1:0≤((i:Nat):Int)∧((i:Nat):Int)< (ts.length:Nat):=by omega
   have hwi:IntKind.i64.wrap (((i:Nat):Int)+1)=((i+1:Nat):Int):=wrap_i64 (by omega) (by omega)
   obtain⟨b,o,c,cs,ev,hrr,hcs,iv,ov,ecs,hR⟩:=(hT.ext hE).at hil
   have h3:=hb.txs _ (List.getElem_mem hil)
   rw[errL_at hil] at hd
   have ih':=ih (i+1)
   generalize ts[i]=t at*
   subst ecs
   have s4:=txC_sz t iv ov
   rw[ev]
   iterate 3 (refine W_at c6_ok ⟨_,rfl,?_⟩;simp (disch:=first|omega|assumption|rfl|(simp only[vcS]<;>omega)|fail) only[↓vcN,vcQ,simprocAttr,hlt,b1,Int.toNat_natCast,hrr,s4])
   refine⟨txC_flat2 hR,by decide,?_⟩
   have hEb:Ext wj ((wj.alloc (.cells (zc [(1,.int .i32 0),(2,.slice none 0 0),(1,.int .u32 0)]) 33)).putN wj.heap.size 0 (txC t iv ov)):=((Keep.refl _ wj).alloc _).putN _ (by intro hh;exfalso;omega)
   have h9:((wj.alloc (.cells (zc [(1,.int .i32 0),(2,.slice none 0 0),(1,.int .u32 0)]) 33)).putN wj.heap.size 0 (txC t iv ov)).heap[wj.heap.size]?=some (.cells (txC t iv ov) 33 (0,0)):=by
    rw[heap_putN_eq (heap_new _ _ _ rfl),splice_all (by rw[s4];rfl)]
   generalize World.putN _ _ _ _=wa at hEb h9⊢
   generalize wj.heap.size=p9 at h9⊢
   have r4:rdO (some (.cells (txC t iv ov) 33 (0,0))) 0 4=some (txC t iv ov):=rdO_all _ _ _ _ s4
   (refine W_at c6_ok ⟨_,rfl,?_⟩;simp (disch:=first|omega|assumption|rfl|(simp only[vcS]<;>omega)|fail) only[↓vcN,vcQ,simprocAttr,h9,r4])
   refine callV_ret (tcheck_ok wa iv ov t (hR.ext hEb) h3) ?_
   rintro _ wb ⟨rfl,hEb2⟩
   have hEw:=(hE.ext hEb).ext hEb2
   have c1b:=hEb2.at (hEb.at c1 fun h=>h) (fun h=>h)
   first|(simp (disch:=first|omega|assumption|rfl|(simp only[vcS]<;>omega)|fail) only[↓vcN,vcQ,simprocAttr])|skip
   by_cases hc:chkT t=0
   ·rw[if_neg (fun h=>h hc)] at hd
    rw[hc]
    iterate 4 (refine W_at c6_ok ⟨_,rfl,?_⟩;simp (disch:=first|omega|assumption|rfl|(simp only[vcS]<;>omega)|fail) only[↓vcN,vcQ,simprocAttr,hwi])
    rw[←ev]
    exact ih' wb _ (by omega) hch hEw c1b hd
   ·rw[if_pos hc] at hd
    rw[hd,if_pos hc] at hch
    rw[hch]
    iterate 4 (refine W_at c6_ok ⟨_,rfl,?_⟩;simp (disch:=first|omega|assumption|rfl|(simp only[vcS]<;>omega)|fail) only[↓vcN,vcQ,simprocAttr,hc,Ret_returned])
    exact hEw
 have mid:∀(wj:World) (tl:Env),chkB h ts=(if ts.length=0 then 3 else if h.merkle≠rootF ts then 5 else if errL ts≠0 then errL ts else if dupF [] (ts.map tid) then 18 else 0)→Ext w wj→wj.heap[p1]?=some (.cells (bC h v) 29 (0,0))→
   W Tryz.prog (Ret fun u w'=>u=.int .i64 (chkB h ts)∧Ext w w') 6 38 ((1,.pointer (some ⟨p1,0,none⟩))::tl) wj:=by
  intro wj tl hch hE c1
  by_cases h0:ts.length=0
  ·have h0i:((ts.length:Nat):Int)=0:=by omega
   rw[hch,if_pos h0]
   iterate 4 (refine W_at c6_ok ⟨_,rfl,?_⟩;simp (disch:=first|omega|assumption|rfl|(simp only[vcS]<;>omega)|fail) only[↓vcN,vcQ,simprocAttr,c1,b68,hlT,h0i,Ret_returned])
   exact hE
  have h0i:¬(((ts.length:Nat):Int)=0):=by omega
  rw[if_neg h0] at hch
  iterate 3 (refine W_at c6_ok ⟨_,rfl,?_⟩;simp (disch:=first|omega|assumption|rfl|(simp only[vcS]<;>omega)|fail) only[↓vcN,vcQ,simprocAttr,c1,b68,hlT,h0i,ra])
  refine callV_ret (bencode_ok wj h v ts (hT.ext hE) hb) ?_
  intro u wk hu
  have hul:=hu.own.rd.len
  have hbl:=encB_len hb
  have hgt:¬((1000000:Int)< ((encB h ts).length:Nat)):=by omega
  have hEk:=hE.ext hu.ext
  have c1k:=hu.ext.at c1 (fun h=>h)
  generalize encB h ts=EB at*
  first|(simp (disch:=first|omega|assumption|rfl|(simp only[vcS]<;>omega)|fail) only[↓vcN,vcQ,simprocAttr,hul,hgt])|skip
  (refine W_at c6_ok ⟨_,rfl,?_⟩;simp (disch:=first|omega|assumption|rfl|(simp only[vcS]<;>omega)|fail) only[↓vcN,vcQ,simprocAttr])
  have hEd:Ext wk wk.drew:=(Keep.refl _ wk).drew
  have c1d:=hEd.at c1k (fun h=>h)
  have q1:=conf32 ho.mlen
  have q2:=conf32 (rootF_len ts)
  have q3:=eqc32 h.merkle (rootF ts)
  (refine W_at c6_ok ⟨_,rfl,?_⟩;simp (disch:=first|omega|assumption|rfl|(simp only[vcS]<;>omega)|fail) only[↓vcX,ptS2_eq,vcQ,simprocAttr,c1k,ra,rm])
  refine callV_ret (root_ok wk.drew h v ts ((hT.ext hEk).ext hEd) hb) ?_
  rintro _ wl ⟨rfl,hEl⟩
  have c1l:=hEl.at c1d (fun h=>h)
  have hEwl:=(hEk.ext hEd).ext hEl
  by_cases hm:h.merkle=rootF ts
  ·rw[if_neg (fun h=>h hm)] at hch
   rw[decide_eq_true hm] at q3
   simp (disch:=first|omega|assumption|rfl|(simp only[vcS]<;>omega)|fail) only[↓vcY,ptS1_eq,vcQ,simprocAttr,c1l,rm,q1,q2,q3,Bool.true_xor]
   first|((refine W_at c6_ok ⟨_,rfl,?_⟩;simp (disch:=first|omega|assumption|rfl|(simp only[vcS]<;>omega)|fail) only[↓vcN,vcQ,simprocAttr]))|skip
   (refine W_at c6_ok ⟨_,rfl,?_⟩;simp (disch:=first|omega|assumption|rfl|(simp only[vcS]<;>omega)|fail) only[↓vcN,vcQ,simprocAttr,c1l,b68,hlT])
   exact LE ts.length 0 wl _ (by omega) hch hEwl c1l rfl
  ·rw[if_pos hm] at hch
   rw[decide_eq_false hm] at q3
   rw[hch]
   simp (disch:=first|omega|assumption|rfl|(simp only[vcS]<;>omega)|fail) only[↓vcY,ptS1_eq,vcQ,simprocAttr,c1l,rm,q1,q2,q3,Bool.xor_false]
   first|((refine W_at c6_ok ⟨_,rfl,?_⟩;simp (disch:=first|omega|assumption|rfl|(simp only[vcS]<;>omega)|fail) only[↓vcN,vcQ,simprocAttr]))|skip
   iterate 2 (refine W_at c6_ok ⟨_,rfl,?_⟩;simp (disch:=first|omega|assumption|rfl|(simp only[vcS]<;>omega)|fail) only[↓vcN,vcQ,simprocAttr,Ret_returned])
   exact hEwl
 have LF:∀(k i:Nat) (wj:World) (tl:Env),k+i=ts.length→Ext w wj→wj.heap[p1]?=some (.cells (bC h v) 29 (0,0))→formL 0 ts=formL i (ts.drop i)→
   W Tryz.prog (Ret fun u w'=>u=.int .i64 (chkB h ts)∧Ext w w') 6 47 ((1,.pointer (some ⟨p1,0,none⟩))::(17,v)::(18,.int .i64 (ts.length:Nat))::(19,.int .i64 (i:Nat))::tl) wj:=by
  intro k
  induction k with
  |zero=>
   intro i wj tl hi hE c1 hd
   obtain rfl:i=ts.length:=by omega
   have hno:¬((ts.length:Nat):Int)< (ts.length:Nat):=by omega
   rw[List.drop_eq_nil_of_le (Nat.le_refl _),formL] at hd
   rw[hd] at hch
   rw[if_neg (show¬(true=false) by decide)] at hch
   iterate 2 (refine W_at c6_ok ⟨_,rfl,?_⟩;simp (disch:=first|omega|assumption|rfl|(simp only[vcS]<;>omega)|fail) only[↓vcN,vcQ,simprocAttr,hno])
   exact mid wj _ hch hE c1
  |succ k ih=>
   intro i wj tl hi hE c1 hd
   have hil:i<ts.length:=by omega
   have hlt:((i:Nat):Int)< (ts.length:Nat):=by omega
   have b1:0≤((i:Nat):Int)∧((i:Nat):Int)< (ts.length:Nat):=by omega
   have hwi:IntKind.i64.wrap (((i:Nat):Int)+1)=((i+1:Nat):Int):=wrap_i64 (by omega) (by omega)
   obtain⟨b,o,c,cs,ev,hrr,hcs,iv,ov,ecs,hR⟩:=(hT.ext hE).at hil
   have h3:=hb.txs _ (List.getElem_mem hil)
   rw[formL_at hil] at hd
   have ih':=ih (i+1)
   generalize ts[i]=t at*
   subst ecs
   have s4:=txC_sz t iv ov
   rw[ev]
   iterate 3 (refine W_at c6_ok ⟨_,rfl,?_⟩;simp (disch:=first|omega|assumption|rfl|(simp only[vcS]<;>omega)|fail) only[↓vcN,vcQ,simprocAttr,hlt,b1,Int.toNat_natCast,hrr,s4])
   refine⟨txC_flat2 hR,by decide,?_⟩
   have hEb:Ext wj ((wj.alloc (.cells (zc [(1,.int .i32 0),(2,.slice none 0 0),(1,.int .u32 0)]) 33)).putN wj.heap.size 0 (txC t iv ov)):=((Keep.refl _ wj).alloc _).putN _ (by intro hh;exfalso;omega)
   have h9:((wj.alloc (.cells (zc [(1,.int .i32 0),(2,.slice none 0 0),(1,.int .u32 0)]) 33)).putN wj.heap.size 0 (txC t iv ov)).heap[wj.heap.size]?=some (.cells (txC t iv ov) 33 (0,0)):=by
    rw[heap_putN_eq (heap_new _ _ _ rfl),splice_all (by rw[s4];rfl)]
   generalize World.putN _ _ _ _=wa at hEb h9⊢
   generalize wj.heap.size=p9 at h9⊢
   have r4:rdO (some (.cells (txC t iv ov) 33 (0,0))) 0 4=some (txC t iv ov):=rdO_all _ _ _ _ s4
   (refine W_at c6_ok ⟨_,rfl,?_⟩;simp (disch:=first|omega|assumption|rfl|(simp only[vcS]<;>omega)|fail) only[↓vcN,vcQ,simprocAttr,h9,r4])
   refine callV_ret (coinbase_ok wa iv ov t (hR.ext hEb) h3.ok (by have:=h3.few.ins;omega)) ?_
   rintro _ wb ⟨rfl,hEb2⟩
   have hEw:=(hE.ext hEb).ext hEb2
   have c1b:=hEb2.at (hEb.at c1 fun h=>h) (fun h=>h)
   have k1:(true==true)=true:=rfl
   have k2:(false==false)=true:=rfl
   have k3:(false==true)=false:=rfl
   have k4:(true==false)=false:=rfl
   have hdi:decide (((i:Nat):Int)=0)=decide (i=0):=by
    by_cases h0:i=0
    ·rw[decide_eq_true h0,decide_eq_true (by omega)]
    ·rw[decide_eq_false h0,decide_eq_false (by omega)]
   by_cases hc:coinB t=decide (i=0)
   ·have hbb:(coinB t==decide (i=0))=true:=by rw[hc];exact beq_self_eq_true _
    rw[hbb,Bool.true_and] at hd
    rw[hc]
    cases hi0:decide (i=0) with
    |true=>
     rw[hi0] at hdi
     first|(simp (disch:=first|omega|assumption|rfl|(simp only[vcS]<;>omega)|fail) only[↓vcN,vcQ,simprocAttr,hdi,k1])|skip
     iterate 3 (refine W_at c6_ok ⟨_,rfl,?_⟩;simp (disch:=first|omega|assumption|rfl|(simp only[vcS]<;>omega)|fail) only[↓vcN,vcQ,simprocAttr,hwi])
     rw[←ev]
     exact ih' wb _ (by omega) hEw c1b hd
    |false=>
     rw[hi0] at hdi
     first|(simp (disch:=first|omega|assumption|rfl|(simp only[vcS]<;>omega)|fail) only[↓vcN,vcQ,simprocAttr,hdi,k2])|skip
     iterate 3 (refine W_at c6_ok ⟨_,rfl,?_⟩;simp (disch:=first|omega|assumption|rfl|(simp only[vcS]<;>omega)|fail) only[↓vcN,vcQ,simprocAttr,hwi])
     rw[←ev]
     exact ih' wb _ (by omega) hEw c1b hd
   ·have hbb:(coinB t==decide (i=0))=false:=by
     cases h1:coinB t<;>cases h2:decide (i=0)<;>rw[h1,h2] at hc<;>first|rfl|exact absurd rfl hc
    rw[hbb,Bool.false_and] at hd
    have hne:¬(ts.length=0):=by omega
    rw[if_neg hne,if_pos hd] at hch
    rw[hch]
    cases hi0:decide (i=0) with
    |true=>
     rw[hi0] at hdi
     have hcf:coinB t=false:=by
      cases h1:coinB t
      ·rfl
      ·rw[h1,hi0] at hc;exact absurd rfl hc
     rw[hcf]
     first|(simp (disch:=first|omega|assumption|rfl|(simp only[vcS]<;>omega)|fail) only[↓vcN,vcQ,simprocAttr,hdi,k3])|skip
     iterate 3 (refine W_at c6_ok ⟨_,rfl,?_⟩;simp (disch:=first|omega|assumption|rfl|(simp only[vcS]<;>omega)|fail) only[↓vcN,vcQ,simprocAttr,Ret_returned])
     exact hEw
    |false=>
     rw[hi0] at hdi
     have hcf:coinB t=true:=by
      cases h1:coinB t
      ·rw[h1,hi0] at hc;exact absurd rfl hc
      ·rfl
     rw[hcf]
     first|(simp (disch:=first|omega|assumption|rfl|(simp only[vcS]<;>omega)|fail) only[↓vcN,vcQ,simprocAttr,hdi,k4])|skip
     iterate 3 (refine W_at c6_ok ⟨_,rfl,?_⟩;simp (disch:=first|omega|assumption|rfl|(simp only[vcS]<;>omega)|fail) only[↓vcN,vcQ,simprocAttr,Ret_returned])
     exact hEw
 exact LF ts.length 0 w2 _ (by omega) hE02 c12 rfl
end Go.Proofs
namespace Go.Proofs
open Go.Vc
set_option maxRecDepth 10000
theorem dup_mem {α:Type}[DecidableEq α]:∀{l seen:List α} {x:α},x∈seen→dupF seen (l++[x])=true
 |[],seen,x,h=>by simp [dupF,h]
 |y::l,seen,x,h=>by
  rw[List.cons_append,dupF,dup_mem (l:=l) (List.mem_append_left _ h),Bool.or_true]
theorem dup_last {α:Type}[DecidableEq α]:∀{l seen:List α} {x:α},x∈l→dupF seen (l++[x])=true
 |y::l,seen,x,h=>by
  rw[List.cons_append,dupF]
  rcases List.mem_cons.1 h with rfl|h
  ·rw[dup_mem (l:=l) (List.mem_append_right _ (List.mem_singleton.2 rfl)),Bool.or_true]
  ·rw[dup_last (l:=l) h,Bool.or_true]
theorem chk_more (h:HdV)(l:List TxV)(t:TxV)(ht:t∈l):chkB h (l++[t])≠0:=by
 unfold chkB
 rw[List.map_append,List.map_cons,List.map_nil,dup_last (List.mem_map.2 ⟨t,ht,rfl⟩)]
 repeat' split
 all_goals first|assumption|decide|(rename_i hh;exact absurd rfl hh)
theorem form_at:∀{l:List TxV} {k:Nat},formL k l=true→∀(i:Nat) (h:i<l.length),coinB l[i]=decide (k+i=0)
 |[],k,h,i,hi=>by simp at hi
 |t::l,k,h,i,hi=>by
  rw[formL,Bool.and_eq_true] at h
  cases i with
  |zero=>exact beq_iff_eq.1 h.1
  |succ i=>
   have:=form_at h.2 i (by simpa using hi)
   rw[List.getElem_cons_succ,this]
   congr 1
   apply propext;omega
theorem err_at:∀{l:List TxV},errL l=0→∀t∈l,chkT t=0
 |t::l,h,u,hu=>by
  rw[errL] at h
  split at h
  ·rename_i hn;exact absurd h hn
  ·rename_i hn
   rcases List.mem_cons.1 hu with rfl|hu
   ·exact Classical.byContradiction hn
   ·exact err_at h u hu
structure BFine (ts:List TxV):Prop where
 ne:ts≠[]
 coin:∀i (h:i<ts.length),coinB ts[i]=decide (i=0)
 chk:∀t∈ts,chkT t=0
 ins:∀t∈ts,0<t.ins.length
theorem chk_fine {h:HdV}{ts:List TxV}(hc:chkB h ts=0):BFine ts:=by
 unfold chkB at hc
 split at hc
 ·exact absurd hc (by decide)
 split at hc
 ·exact absurd hc (by decide)
 rename_i h0
 split at hc
 ·exact absurd hc (by decide)
 rename_i h1
 split at hc
 ·exact absurd hc (by decide)
 split at hc
 ·rename_i h2;exact absurd hc h2
 rename_i h2
 have hf:formL 0 ts=true:=by simpa using h1
 have he:=err_at (Classical.byContradiction h2)
 refine⟨fun e=>h0 (by rw[e];rfl),fun i hi=>by rw[form_at hf i hi,Nat.zero_add],he,fun t ht=>?_⟩
 have:=he t ht
 unfold chkT at this
 split at this
 ·exact absurd this (by decide)
 ·omega
end Go.Proofs
namespace Go.Proofs
open Go.Vc
set_option maxRecDepth 10000
def rdV (r:Nat):Value:=.agg #[.pointer (some ⟨r,0,none⟩)]
theorem Stp.grow {m:Nat}{w w1 w2:World}{r:Nat}{rest:List Int}(h:Stp m w1 w2 r rest)(k:Ext w w1):Stp m w w2 r rest:=⟨(k.mono fun _ h=>h.elim).trans h.keep fun _ _ h=>h,h.rs⟩
theorem Stp.then {m:Nat}{w w1 w2:World}{r:Nat}{rest:List Int}(h:Stp m w w1 r rest)(k:Ext w1 w2):Stp m w w2 r rest:=⟨h.keep.ext k,h.rs.ext k⟩
theorem must_ok (w:World)(r:Nat)(e:Int):Calls Tryz.prog 94 #[rdV r,.bool false,.int .i64 e] w (Ret fun _ w'=>Ext w w'):=by
 refine calls_of_cfg c94_ok (Nat.le_of_ble_eq_true rfl) ?_
 simp only[argE_nil,argE_cons,Nat.reduceAdd,Nat.zero_add]
 have hcx:(rdV r).cells=#[.pointer (some ⟨r,0,none⟩)]:=rfl
 have f:flat #[Value.pointer (some ⟨r,0,none⟩)]:=by rw[flat_1];rfl
 (refine W_at c94_ok ⟨_,rfl,?_⟩;simp (disch:=first|omega|assumption|rfl|(simp only[vcS]<;>omega)|fail) only[↓vcN,vcQ,simprocAttr,hcx])
 have hE:Ext w (w.alloc (.cells #[.pointer (some ⟨r,0,none⟩)] 94)):=(Keep.refl _ w).alloc _
 generalize World.alloc _ _=w1 at hE⊢
 iterate 3 (refine W_at c94_ok ⟨_,rfl,?_⟩;simp (disch:=first|omega|assumption|rfl|(simp only[vcS]<;>omega)|fail) only[↓vcN,vcQ,simprocAttr,Ret_returned])
 exact hE
theorem fine_ok (m:Nat)(w:World)(r:Nat)(bs:List Int)(h:RS m w r bs):Calls Tryz.prog 93 #[rdV r] w (Ret fun _ w'=>Ext w w'):=by
 refine calls_of_cfg c93_ok (Nat.le_of_ble_eq_true rfl) ?_
 simp only[argE_nil,argE_cons,Nat.zero_add]
 have hcx:(rdV r).cells=#[.pointer (some ⟨r,0,none⟩)]:=rfl
 have f:flat #[Value.pointer (some ⟨r,0,none⟩)]:=by rw[flat_1];rfl
 (refine W_at c93_ok ⟨_,rfl,?_⟩;simp (disch:=first|omega|assumption|rfl|(simp only[vcS]<;>omega)|fail) only[↓vcN,vcQ,simprocAttr,hcx])
 have hE:Ext w (w.alloc (.cells #[.pointer (some ⟨r,0,none⟩)] 94)):=(Keep.refl _ w).alloc _
 have c1:(w.alloc (.cells #[.pointer (some ⟨r,0,none⟩)] 94)).heap[w.heap.size]?=some (.cells #[.pointer (some ⟨r,0,none⟩)] 94 (0,0)):=heap_new _ _ _ rfl
 generalize World.alloc _ _=w1 at hE c1⊢
 generalize w.heap.size=p1 at c1⊢
 have hEd:Ext w1 w1.drew:=(Keep.refl _ w1).drew
 have c1d:=hEd.at c1 (fun h=>h)
 have r1:rdO (some (.cells #[Value.pointer (some ⟨r,0,none⟩)] 94 (0,0))) 0 1=some #[.pointer (some ⟨r,0,none⟩)]:=rdO_all _ _ _ _ rfl
 have hR:=(h.ext hE).ext hEd
 (refine W_at c93_ok ⟨_,rfl,?_⟩;simp (disch:=first|omega|assumption|rfl|(simp only[vcS]<;>omega)|fail) only[↓vcX,ptS2_eq,vcQ,simprocAttr,c1,r1])
 refine callV_ret (sErr_ok m _ r bs hR) ?_
 rintro _ w2 ⟨rfl,hw⟩
 obtain rfl:w2=w1.drew:=hw
 simp (disch:=first|omega|assumption|rfl|(simp only[vcS]<;>omega)|fail) only[↓vcY,ptS1_eq,vcQ,simprocAttr,c1,r1]
 refine callV_ret (sErr_ok m _ r bs hR) ?_
 rintro _ w3 ⟨rfl,hw⟩
 obtain rfl:w3=w1.drew:=hw
 have hrv:(Value.agg #[Value.pointer (some ⟨r,0,none⟩)])=rdV r:=rfl
 simp (disch:=first|omega|assumption|rfl|(simp only[vcS]<;>omega)|fail) only[↓vcX,ptS2_eq,vcQ,simprocAttr,c1,r1,hrv]
 refine callV_ret (must_ok _ r 0) ?_
 rintro _ w4 hE4
 first|(simp (disch:=first|omega|assumption|rfl|(simp only[vcS]<;>omega)|fail) only[↓vcY,ptS1_eq,vcQ,simprocAttr])|skip
 first|((refine W_at c93_ok ⟨_,rfl,?_⟩;simp (disch:=first|omega|assumption|rfl|(simp only[vcS]<;>omega)|fail) only[↓vcN,vcQ,simprocAttr,Ret_returned]))|skip
 exact(hE.ext hEd).ext hE4
theorem rv_flat (r:Nat):flat #[Value.pointer (some ⟨r,0,none⟩)]:=by rw[flat_1];rfl
theorem rv_box (w:World)(r:Nat):Ext w (w.alloc (.cells #[.pointer (some ⟨r,0,none⟩)] 94))∧(w.alloc (.cells #[.pointer (some ⟨r,0,none⟩)] 94)).heap[w.heap.size]?=some (.cells #[.pointer (some ⟨r,0,none⟩)] 94 (0,0)):=⟨(Keep.refl _ w).alloc _,heap_new _ _ _ rfl⟩
theorem rv_rd (r:Nat):rdO (some (.cells #[Value.pointer (some ⟨r,0,none⟩)] 94 (0,0))) 0 1=some #[.pointer (some ⟨r,0,none⟩)]:=rdO_all _ _ _ _ rfl
theorem rv_eq (r:Nat):(Value.agg #[Value.pointer (some ⟨r,0,none⟩)])=rdV r:=rfl
theorem RS.ne {m p:Nat}{w:World}{r:Nat}{bs:List Int}(h:RS m w r bs)(hp:m≤p):p≠r:=by have:=h.1;omega
set_option maxHeartbeats 800000 in
theorem rnum_ok (m:Nat)(w:World)(r:Nat)(x:Int)(rest:List Int)(hx:0≤x∧x≤4294967295)(h:RS m w r (lowF 4 x++rest)):
  Calls Tryz.prog 90 #[rdV r] w (Ret fun u w'=>u=.int .u32 x∧Stp m w w' r rest):=by
 refine calls_of_cfg c90_ok (Nat.le_of_ble_eq_true rfl) ?_
 simp only[argE_nil,argE_cons,Nat.zero_add]
 have hcx:(rdV r).cells=#[.pointer (some ⟨r,0,none⟩)]:=rfl
 have f:=rv_flat r
 have r1:=rv_rd r
 have hrv:=rv_eq r
 (refine W_at c90_ok ⟨_,rfl,?_⟩;simp (disch:=first|omega|assumption|rfl|(simp only[vcS]<;>omega)|fail) only[↓vcN,vcQ,simprocAttr,hcx])
 obtain⟨hE,c1⟩:=rv_box w r
 have hml:=h.2.1
 generalize World.alloc _ _=w1 at hE c1⊢
 generalize hp1:w.heap.size=p1 at*
 have hpr:=h.ne hml
 (refine W_at c90_ok ⟨_,rfl,?_⟩;simp (disch:=first|omega|assumption|rfl|(simp only[vcS]<;>omega)|fail) only[↓vcN,vcQ,simprocAttr,c1])
 refine callV_ret (s32_ok m w1 r x rest hx (h.ext hE)) ?_
 rintro u2 w2 ⟨hu,hS⟩
 first|(simp (disch:=first|omega|assumption|rfl|(simp only[vcS]<;>omega)|fail) only[↓vcN,vcQ,simprocAttr])|skip
 have c12:=hS.keep.at c1 hpr
 (refine W_at c90_ok ⟨_,rfl,?_⟩;simp (disch:=first|omega|assumption|rfl|(simp only[vcS]<;>omega)|fail) only[↓vcN,vcQ,simprocAttr,c12,r1,hrv])
 refine callV_ret (fine_ok m w2 r _ hS.rs) ?_
 rintro _ w3 hE3
 have c13:=hE3.at c12 (fun h=>h)
 have hS3:=(hS.grow hE).then hE3
 first|(simp (disch:=first|omega|assumption|rfl|(simp only[vcS]<;>omega)|fail) only[↓vcN,vcQ,simprocAttr])|skip
 subst hu
 iterate 2 (refine W_at c90_ok ⟨_,rfl,?_⟩;simp (disch:=first|omega|assumption|rfl|(simp only[vcS]<;>omega)|fail) only[↓vcN,vcQ,simprocAttr,Ret_returned])
 exact hS3
set_option maxHeartbeats 800000 in
theorem rcnt_ok (m:Nat)(w:World)(r:Nat)(x:Int)(rest:List Int)(hx:0≤x∧x≤25000)(h:RS m w r (sizeF x++rest)):
  Calls Tryz.prog 91 #[rdV r] w (Ret fun u w'=>u=.int .i64 x∧Stp m w w' r rest):=by
 refine calls_of_cfg c91_ok (Nat.le_of_ble_eq_true rfl) ?_
 simp only[argE_nil,argE_cons,Nat.zero_add]
 have hcx:(rdV r).cells=#[.pointer (some ⟨r,0,none⟩)]:=rfl
 have f:=rv_flat r
 have r1:=rv_rd r
 have hrv:=rv_eq r
 (refine W_at c91_ok ⟨_,rfl,?_⟩;simp (disch:=first|omega|assumption|rfl|(simp only[vcS]<;>omega)|fail) only[↓vcN,vcQ,simprocAttr,hcx])
 obtain⟨hE,c1⟩:=rv_box w r
 have hml:=h.2.1
 generalize World.alloc _ _=w1 at hE c1⊢
 generalize hp1:w.heap.size=p1 at*
 have hpr:=h.ne hml
 (refine W_at c91_ok ⟨_,rfl,?_⟩;simp (disch:=first|omega|assumption|rfl|(simp only[vcS]<;>omega)|fail) only[↓vcN,vcQ,simprocAttr,c1])
 refine callV_ret (sSize_ok m w1 r x rest (by omega) (h.ext hE)) ?_
 rintro u2 w2 ⟨hu,hS⟩
 first|(simp (disch:=first|omega|assumption|rfl|(simp only[vcS]<;>omega)|fail) only[↓vcN,vcQ,simprocAttr])|skip
 have c12:=hS.keep.at c1 hpr
 (refine W_at c91_ok ⟨_,rfl,?_⟩;simp (disch:=first|omega|assumption|rfl|(simp only[vcS]<;>omega)|fail) only[↓vcN,vcQ,simprocAttr,c12,r1,hrv])
 refine callV_ret (fine_ok m w2 r _ hS.rs) ?_
 rintro _ w3 hE3
 have c13:=hE3.at c12 (fun h=>h)
 have hS3:=(hS.grow hE).then hE3
 first|(simp (disch:=first|omega|assumption|rfl|(simp only[vcS]<;>omega)|fail) only[↓vcN,vcQ,simprocAttr])|skip
 subst hu
 have hgt:¬((25000:Int)<x):=by omega
 have hw:IntKind.i64.wrap x=x:=wrap_i64 (by omega) (by omega)
 (refine W_at c91_ok ⟨_,rfl,?_⟩;simp (disch:=first|omega|assumption|rfl|(simp only[vcS]<;>omega)|fail) only[↓vcN,vcQ,simprocAttr,c13,r1,hrv,hgt])
 refine callV_ret (must_ok w3 r 2) ?_
 rintro _ w4 hE4
 have hS4:=hS3.then hE4
 first|(simp (disch:=first|omega|assumption|rfl|(simp only[vcS]<;>omega)|fail) only[↓vcN,vcQ,simprocAttr])|skip
 iterate 2 (refine W_at c91_ok ⟨_,rfl,?_⟩;simp (disch:=first|omega|assumption|rfl|(simp only[vcS]<;>omega)|fail) only[↓vcN,vcQ,simprocAttr,hw,Ret_returned])
 exact hS4
set_option maxHeartbeats 800000 in
theorem rtext_ok (m:Nat)(w:World)(r:Nat)(p rest:List Int)(hp:p.length≤1000)(h:RS m w r (txtF p++rest)):
  Calls Tryz.prog 100 #[rdV r] w (Ret fun u w'=>N1 w.heap.size w' u p∧Stp m w w' r rest):=by
 refine calls_of_cfg c100_ok (Nat.le_of_ble_eq_true rfl) ?_
 simp only[argE_nil,argE_cons,Nat.zero_add]
 have hcx:(rdV r).cells=#[.pointer (some ⟨r,0,none⟩)]:=rfl
 have f:=rv_flat r
 have r1:=rv_rd r
 have hrv:=rv_eq r
 (refine W_at c100_ok ⟨_,rfl,?_⟩;simp (disch:=first|omega|assumption|rfl|(simp only[vcS]<;>omega)|fail) only[↓vcN,vcQ,simprocAttr,hcx])
 obtain⟨hE,c1⟩:=rv_box w r
 have hml:=h.2.1
 generalize World.alloc _ _=w1 at hE c1⊢
 generalize hp1:w.heap.size=p1 at*
 have hpr:=h.ne hml
 (refine W_at c100_ok ⟨_,rfl,?_⟩;simp (disch:=first|omega|assumption|rfl|(simp only[vcS]<;>omega)|fail) only[↓vcN,vcQ,simprocAttr,c1])
 refine callV_ret (sBytes_ok m w1 r 100000 p rest (by omega) (by omega) (h.ext hE)) ?_
 rintro u2 w2 ⟨hu,hS⟩
 first|(simp (disch:=first|omega|assumption|rfl|(simp only[vcS]<;>omega)|fail) only[↓vcN,vcQ,simprocAttr])|skip
 have c12:=hS.keep.at c1 hpr
 (refine W_at c100_ok ⟨_,rfl,?_⟩;simp (disch:=first|omega|assumption|rfl|(simp only[vcS]<;>omega)|fail) only[↓vcN,vcQ,simprocAttr,c12,r1,hrv])
 refine callV_ret (fine_ok m w2 r _ hS.rs) ?_
 rintro _ w3 hE3
 have c13:=hE3.at c12 (fun h=>h)
 have hS3:=(hS.grow hE).then hE3
 first|(simp (disch:=first|omega|assumption|rfl|(simp only[vcS]<;>omega)|fail) only[↓vcN,vcQ,simprocAttr])|skip
 have hu3:N1 w1.heap.size w3 u2 p:=⟨hu.1.ext hE3,hu.2⟩
 (refine W_at c100_ok ⟨_,rfl,?_⟩;simp (disch:=first|omega|assumption|rfl|(simp only[vcS]<;>omega)|fail) only[↓vcN,vcQ,simprocAttr])
 have hws:=hE.size
 (refine W_at c100_ok ⟨_,rfl,?_⟩;simp (disch:=first|omega|assumption|rfl|(simp only[vcS]<;>omega)|fail) only[↓vcN,vcQ,simprocAttr,Ret_returned])
 exact⟨hu3.base (by omega),hS3⟩
end Go.Proofs
