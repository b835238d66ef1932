/- Laws that the last text of this claim uses, part 5: written for it, merged by program. -/
import Derived.Test.YtmnogjgmkpjpoaaGreatR4
set_option linter.unusedSimpArgs false
set_option linter.unusedVariables false
set_option linter.constructorNameAsVariable false
namespace Go.Proofs
open Go.Vc
set_option maxRecDepth 10000
theorem rSize_ok (w:World)(r B:Nat)(v:Value)(bs:List Int)(e:Int)(h:RAt w r B v bs e)(hBw:B<w.heap.size)(hb:byt bs):
  Calls Tryz.prog 40 #[.pointer (some ⟨r,0,none⟩)] w (Ret fun u w'=>RTo w w' r B v bs e (szR bs) (fun x u _=>u=.int .u64 x) (.int .u64 0) u):=by
 refine calls_of_cfg c40_ok (Nat.le_of_ble_eq_true rfl) ?_
 simp only[argE_nil,argE_cons,Nat.zero_add]
 iterate 2 (refine W_at c40_ok ⟨_,rfl,?_⟩;simp (disch:=first|omega|assumption|rfl|(simp only[vcS]<;>omega)|fail) only[↓vcN,vcQ,simprocAttr])
 refine callV_ret (try_ok (ty:=75) c82_ok c123_ok (by kernel_rfl) rfl (by decide) w 83 #[] (by kernel_rfl) r B v bs e h hBw (szR bs) (fun x u _=>u=.int .u64 x)
  (fun he w1 hE=>?_) (fun a u w' hu=>by subst hu;rfl) (fun a u w' w'' p c _ _ _ hu=>hu)) ?_
 ·subst he
  rw[Array.append_empty]
  exact rsz_ok w1 r B v bs 0 (h.ext hE) hb
 ·intro u w1 hT
  (refine W_at c40_ok ⟨_,rfl,?_⟩;simp (disch:=first|omega|assumption|rfl|(simp only[vcS]<;>omega)|fail) only[↓vcN,vcQ,simprocAttr,Ret_returned])
  exact hT
def OwnN (m:Nat)(a:List Int)(u:Value)(w':World):Prop:=Own1 w' u a∧∀g,blk u g→m≤g
theorem OwnN.stable {m:Nat}{a:List Int}{u:Value}{w' w'':World}{p:Nat}{c:Array Value}(h:OwnN m a u w')(hp:w'.heap[p]?=some (.cells c 41 (0,0)))(hk:Keep (fun i=>i=p) w' w''):OwnN m a u w'':=by
 refine⟨h.1.keep hk ?_,h.2⟩
 rintro g hg rfl
 obtain⟨cur,hc⟩:=row_type h.1 hg
 rw[hp] at hc;cases hc
def rawR (n:Int)(bs:List Int):Except Int (List Int×List Int):=if n.toNat≤bs.length then .ok (bs.take n.toNat,bs.drop n.toNat) else .error 4
theorem Raw1_ok (w:World)(m r B b3:Nat)(v:Value)(bs:List Int)(e n:Int)(h:RAt w r B v bs e)(hn:w.heap[b3]?=some (.cells #[.int .i64 n] 3 (0,0)))(hl:bs.length≤1000000000)(hm:m≤w.heap.size):
  Calls Tryz.prog 122 #[.pointer (some ⟨r,0,none⟩),.pointer (some ⟨b3,0,none⟩)] w (REnd w r B e (toOk (rawR n bs) (OwnN m)) (toEr (rawR n bs))):=by
 refine calls_of_cfg c122_ok (Nat.le_of_ble_eq_true rfl) ?_
 simp only[argE_nil,argE_cons,Nat.reduceAdd,Nat.zero_add]
 (refine W_at c122_ok ⟨_,rfl,?_⟩;simp (disch:=first|omega|assumption|rfl|(simp only[vcS]<;>omega)|fail) only[↓vcN,vcQ,simprocAttr])
 have hmx:max n 0=((n.toNat:Nat):Int):=by omega
 (refine W_at c122_ok ⟨_,rfl,?_⟩;simp (disch:=first|omega|assumption|rfl|(simp only[vcS]<;>omega)|fail) only[↓vcN,vcQ,simprocAttr,hn,hmx])
 refine callR (take_ok w r B v bs e n.toNat h) (Keep.refl _ w) ?_ ?_
 ·intro rest φ hok u w1 v1 hk hφ hR
  by_cases hle:n.toNat≤bs.length
  ·rw[if_pos hle] at hok
   simp only[Option.some.injEq,Prod.mk.injEq] at hok
   obtain⟨rfl,rfl⟩:=hok
   have hr:rawR n bs=.ok (bs.take n.toNat,bs.drop n.toNat):=by rw[rawR,if_pos hle]
   rw[hr]
   refine callV_ret (clone_ok w1 u _ hφ (by rw[List.length_take];omega)) ?_
   rintro u2 w2 ⟨h1,h2,h3⟩
   (refine W_at c122_ok ⟨_,rfl,?_⟩;simp (disch:=first|omega|assumption|rfl|(simp only[vcS]<;>omega)|fail) only[↓vcN,vcQ,simprocAttr])
   exact⟨hk.ext h2,_,v1,rfl,⟨h1,fun g hg=>Nat.le_trans (Nat.le_trans hm hk.size) (h3 g hg)⟩,hR.ext h2⟩
  ·rw[if_neg hle] at hok;cases hok
 ·intro hok
  split at hok
  ·cases hok
  ·rename_i hle;rw[rawR,if_neg hle];exact⟨rfl,rfl⟩
theorem rRaw_ok (w:World)(r B:Nat)(v:Value)(bs:List Int)(e n:Int)(h:RAt w r B v bs e)(hBw:B<w.heap.size)(hl:bs.length≤1000000000):
  Calls Tryz.prog 81 #[.pointer (some ⟨r,0,none⟩),.int .i64 n] w (Ret fun u w'=>RTo w w' r B v bs e (rawR n bs) (OwnN w.heap.size) (.slice none 0 0) u):=by
 refine calls_of_cfg c81_ok (Nat.le_of_ble_eq_true rfl) ?_
 simp only[argE_nil,argE_cons,Nat.reduceAdd,Nat.zero_add]
 (refine W_at c81_ok ⟨_,rfl,?_⟩;simp (disch:=first|omega|assumption|rfl|(simp only[vcS]<;>omega)|fail) only[↓vcN,vcQ,simprocAttr])
 have hE0:Ext w (w.alloc (Obj.cells #[.int .i64 n] 3)):=by (repeat' first|exact Keep.refl _ _|assumption|refine Keep.drew ?_|refine Keep.alloc ?_ _|refine Keep.putN ?_ _ ?_|refine Keep.setCell ?_ _ ?_|refine Keep.setO ?_ _ ?_|exact fun _=>Or.inl rfl|exact fun _=>Or.inr rfl|exact fun _=>rfl|(intro hh;exfalso;((try simp only[vcS] at hh)<;>omega)))
 have h3:(w.alloc (Obj.cells #[.int .i64 n] 3)).heap[w.heap.size]?=some (.cells #[.int .i64 n] 3 (0,0)):=heap_new _ _ _ rfl
 generalize hm:w.heap.size=b3 at h3 hBw⊢
 generalize World.alloc _ _=w0 at hE0 h3⊢
 have hs0:=hE0.size
 (refine W_at c81_ok ⟨_,rfl,?_⟩;simp (disch:=first|omega|assumption|rfl|(simp only[vcS]<;>omega)|fail) only[↓vcN,vcQ,simprocAttr])
 refine callV_ret (try_ok (ty:=41) c84_ok c125_ok (by kernel_rfl) rfl (by decide) w0 122 #[.pointer (some ⟨b3,0,none⟩)] (by kernel_rfl) r B v bs e (h.ext hE0) (by omega) (rawR n bs) (OwnN b3)
  (fun he w1 hE=>?_) (fun a u w' hu=>one_row hu.1) (fun a u w' w'' p c _ hp hk hu=>hu.stable hp hk)) ?_
 ·subst he
  exact Raw1_ok w1 b3 r B b3 v bs 0 n ((h.ext hE0).ext hE) (hE.at h3 fun h=>h) hl (by have:=hE.size;omega)
 ·intro u w1 hT
  (refine W_at c81_ok ⟨_,rfl,?_⟩;simp (disch:=first|omega|assumption|rfl|(simp only[vcS]<;>omega)|fail) only[↓vcN,vcQ,simprocAttr,Ret_returned])
  exact⟨(hE0.mono fun _ h=>h.elim).trans hT.keep fun _ _ h=>h,hT.was,hT.ok,hT.er⟩
def bytR (most:Int)(bs:List Int):Except Int (List Int×List Int):=
 match szR bs with
 | .error n=>.error n
 | .ok (n,rest)=>if most<n then .error 2 else rawR n rest
theorem szR_num {bs:List Int}(hb:byt bs){n:Int}{rest:List Int}(h:szR bs=.ok (n,rest)):0≤n∧n≤33554432∧∃k,rest=bs.drop k:=by
 cases bs with
 |nil=>cases h
 |cons f t=>
  have hf:=hb f (by simp)
  have hbt:byt t:=fun x hx=>hb x (by simp [hx])
  simp only[szR] at h
  split at h
  ·cases h;exact⟨by omega,by omega,1,rfl⟩
  split at h
  ·cases h
  split at h
  ·cases h
  split at h
  ·cases h
  ·cases h
   have:=valF_lt (byt_take hbt (szK f))
   exact⟨this.1,by omega,szK f+1,rfl⟩
theorem Bytes1_ok (w:World)(m r B b3:Nat)(v:Value)(bs:List Int)(e n:Int)(h:RAt w r B v bs e)(hb:byt bs)(hn:w.heap[b3]?=some (.cells #[.int .i64 n] 3 (0,0)))(hl:bs.length≤1000000000)(hm:m≤w.heap.size):
  Calls Tryz.prog 85 #[.pointer (some ⟨r,0,none⟩),.pointer (some ⟨b3,0,none⟩)] w (REnd w r B e (toOk (bytR n bs) (OwnN m)) (toEr (bytR n bs))):=by
 refine calls_of_cfg c85_ok (Nat.le_of_ble_eq_true rfl) ?_
 simp only[argE_nil,argE_cons,Nat.reduceAdd,Nat.zero_add]
 iterate 2 (refine W_at c85_ok ⟨_,rfl,?_⟩;simp (disch:=first|omega|assumption|rfl|(simp only[vcS]<;>omega)|fail) only[↓vcN,vcQ,simprocAttr])
 refine callR (rsz_ok w r B v bs e h hb) (Keep.refl _ w) ?_ ?_
 ·intro rest φ hok u w1 v1 hk hφ hR
  cases hs:szR bs with
  |error k=>rw[hs] at hok;cases hok
  |ok p=>
   obtain⟨k,rest'⟩:=p
   rw[hs] at hok
   simp only[toOk,Option.some.injEq,Prod.mk.injEq] at hok
   obtain⟨rfl,rfl⟩:=hok
   subst hφ
   obtain⟨k0,k1,j,hj⟩:=szR_num hb hs
   have hw:IntKind.i64.wrap k=k:=wrap_i64 (by omega) (by omega)
   have hlr:rest'.length≤bs.length:=by rw[hj,List.length_drop];omega
   have hby:bytR n bs=if n<k then .error 2 else rawR k rest':=by simp only[bytR,hs]
   rw[hby]
   simp (disch:=first|omega|assumption|rfl|(simp only[vcS]<;>omega)|fail) only[↓vcN,vcQ,simprocAttr,hw]
   by_cases hlt:n<k
   ·rw[if_pos hlt]
    have hn1:=hk.at hn (by rintro rfl;have:=h.at';rw[hn] at this;cases this)
    iterate 3 (refine W_at c85_ok ⟨_,rfl,?_⟩;simp (disch:=first|omega|assumption|rfl|(simp only[vcS]<;>omega)|fail) only[↓vcN,vcQ,simprocAttr,hn1,hlt])
    exact⟨hk,rfl,v1,_,hR⟩
   ·rw[if_neg hlt]
    have hn1:=hk.at hn (by rintro rfl;have:=h.at';rw[hn] at this;cases this)
    have hkn:k=((k.toNat:Nat):Int):=by omega
    iterate 3 (refine W_at c85_ok ⟨_,rfl,?_⟩;simp (disch:=first|omega|assumption|rfl|(simp only[vcS]<;>omega)|fail) only[↓vcN,vcQ,simprocAttr,hn1,hlt])
    have htk:=take_ok w1 r B v1 rest' e k.toNat hR
    rw[←hkn] at htk
    refine callR htk hk ?_ ?_
    ·intro rest2 φ2 hok2 u2 w2 v2 hk2 hφ2 hR2
     by_cases hle:k.toNat≤rest'.length
     ·rw[if_pos hle] at hok2
      simp only[Option.some.injEq,Prod.mk.injEq] at hok2
      obtain⟨rfl,rfl⟩:=hok2
      have hr:rawR k rest'=.ok (rest'.take k.toNat,rest'.drop k.toNat):=by rw[rawR,if_pos hle]
      rw[hr]
      refine callV_ret (clone_ok w2 u2 _ hφ2 (by rw[List.length_take];omega)) ?_
      rintro u3 w3 ⟨h1,h2,h3⟩
      (refine W_at c85_ok ⟨_,rfl,?_⟩;simp (disch:=first|omega|assumption|rfl|(simp only[vcS]<;>omega)|fail) only[↓vcN,vcQ,simprocAttr])
      have hs1:=hk.size
      have hs2:=hk2.size
      exact⟨(hk.trans hk2 fun _ _ h=>h).ext h2,_,v2,rfl,⟨h1,fun g hg=>by have:=h3 g hg;omega⟩,hR2.ext h2⟩
     ·rw[if_neg hle] at hok2;cases hok2
    ·intro hok2
     split at hok2
     ·cases hok2
     ·rename_i hle;rw[rawR,if_neg hle];exact⟨rfl,rfl⟩
 ·intro hok
  cases hs:szR bs with
  |error k=>
   have hby:bytR n bs=.error k:=by simp only[bytR,hs]
   rw[hby];exact⟨rfl,rfl⟩
  |ok p=>rw[hs] at hok;cases hok
theorem rBytes_ok (w:World)(r B:Nat)(v:Value)(bs:List Int)(e n:Int)(h:RAt w r B v bs e)(hBw:B<w.heap.size)(hb:byt bs)(hl:bs.length≤1000000000):
  Calls Tryz.prog 41 #[.pointer (some ⟨r,0,none⟩),.int .i64 n] w (Ret fun u w'=>RTo w w' r B v bs e (bytR n bs) (OwnN w.heap.size) (.slice none 0 0) u):=by
 refine calls_of_cfg c41_ok (Nat.le_of_ble_eq_true rfl) ?_
 simp only[argE_nil,argE_cons,Nat.reduceAdd,Nat.zero_add]
 (refine W_at c41_ok ⟨_,rfl,?_⟩;simp (disch:=first|omega|assumption|rfl|(simp only[vcS]<;>omega)|fail) only[↓vcN,vcQ,simprocAttr])
 have hE0:Ext w (w.alloc (Obj.cells #[.int .i64 n] 3)):=by (repeat' first|exact Keep.refl _ _|assumption|refine Keep.drew ?_|refine Keep.alloc ?_ _|refine Keep.putN ?_ _ ?_|refine Keep.setCell ?_ _ ?_|refine Keep.setO ?_ _ ?_|exact fun _=>Or.inl rfl|exact fun _=>Or.inr rfl|exact fun _=>rfl|(intro hh;exfalso;((try simp only[vcS] at hh)<;>omega)))
 have h3:(w.alloc (Obj.cells #[.int .i64 n] 3)).heap[w.heap.size]?=some (.cells #[.int .i64 n] 3 (0,0)):=heap_new _ _ _ rfl
 generalize hm:w.heap.size=b3 at h3 hBw⊢
 generalize World.alloc _ _=w0 at hE0 h3⊢
 have hs0:=hE0.size
 (refine W_at c41_ok ⟨_,rfl,?_⟩;simp (disch:=first|omega|assumption|rfl|(simp only[vcS]<;>omega)|fail) only[↓vcN,vcQ,simprocAttr])
 refine callV_ret (try_ok (ty:=41) c84_ok c125_ok (by kernel_rfl) rfl (by decide) w0 85 #[.pointer (some ⟨b3,0,none⟩)] (by kernel_rfl) r B v bs e (h.ext hE0) (by omega) (bytR n bs) (OwnN b3)
  (fun he w1 hE=>?_) (fun a u w' hu=>one_row hu.1) (fun a u w' w'' p c _ hp hk hu=>hu.stable hp hk)) ?_
 ·subst he
  exact Bytes1_ok w1 b3 r B b3 v bs 0 n ((h.ext hE0).ext hE) hb (hE.at h3 fun h=>h) hl (by have:=hE.size;omega)
 ·intro u w1 hT
  (refine W_at c41_ok ⟨_,rfl,?_⟩;simp (disch:=first|omega|assumption|rfl|(simp only[vcS]<;>omega)|fail) only[↓vcN,vcQ,simprocAttr,Ret_returned])
  exact⟨(hE0.mono fun _ h=>h.elim).trans hT.keep fun _ _ h=>h,hT.was,hT.ok,hT.er⟩
theorem open_ok (w:World)(x:Value)(bs:List Int)(hx:Rd w x bs)(hl:bs.length≤1000000000):
  Calls Tryz.prog 38 #[x] w (Ret fun u w'=> ∃r B v,u=.pointer (some ⟨r,0,none⟩)∧RAt w' r B v bs 0∧Ext w w'∧w.heap.size≤r∧w.heap.size≤B∧B<w'.heap.size):=by
 refine calls_of_cfg c38_ok (Nat.le_of_ble_eq_true rfl) ?_
 simp only[argE_nil,argE_cons,Nat.zero_add]
 iterate 2 (refine W_at c38_ok ⟨_,rfl,?_⟩;simp (disch:=first|omega|assumption|rfl|(simp only[vcS]<;>omega)|fail) only[↓vcN,vcQ,simprocAttr])
 refine callV_ret (clone_ok w x bs hx hl) ?_
 rintro v w1 ⟨h1,h2,h3⟩
 have ho:=one_row h1
 have hcs:(Value.cells v).size=1:=by
  obtain⟨_,⟨rfl,h0⟩|⟨g,cap,cur,rfl,_⟩⟩:=h1<;>rfl
 have hcl:Value.cells v=#[v]:=by
  obtain⟨_,⟨rfl,h0⟩|⟨g,cap,cur,rfl,_⟩⟩:=h1<;>rfl
 have hz1:zc [(1,Value.int .i64 0)]=#[.int .i64 0]:=rfl
 simp (disch:=first|omega|assumption|rfl|(simp only[vcS]<;>omega)|fail) only[↓vcN,vcQ,simprocAttr,hcl,hz1]
 have hr:(w1.alloc (Obj.cells #[v,Value.int IntKind.i64 0] 130)).heap[w1.heap.size]?=some (.cells #[v,.int .i64 0] 130 (0,0)):=heap_new _ _ _ rfl
 have hE:Ext w1 (w1.alloc (Obj.cells #[v,Value.int IntKind.i64 0] 130)):=by (repeat' first|exact Keep.refl _ _|assumption|refine Keep.drew ?_|refine Keep.alloc ?_ _|refine Keep.putN ?_ _ ?_|refine Keep.setCell ?_ _ ?_|refine Keep.setO ?_ _ ?_|exact fun _=>Or.inl rfl|exact fun _=>Or.inr rfl|exact fun _=>rfl|(intro hh;exfalso;((try simp only[vcS] at hh)<;>omega)))
 have hsz:(w1.alloc (Obj.cells #[v,Value.int IntKind.i64 0] 130)).heap.size=w1.heap.size+1:=size_alloc _ _
 generalize World.alloc _ _=w2 at hr hE hsz⊢
 (refine W_at c38_ok ⟨_,rfl,?_⟩;simp (disch:=first|omega|assumption|rfl|(simp only[vcS]<;>omega)|fail) only[↓vcN,vcQ,simprocAttr,Ret_returned])
 have hws:=h2.size
 cases hb:v.ownBlock with
 |none=>
  refine⟨w1.heap.size,w1.heap.size,v,rfl,⟨hr,(h1.ext hE).rd,fun q n c hq=>?_⟩,h2.ext hE,hws,hws,by omega⟩
  subst hq
  obtain⟨_,⟨h5,_⟩|⟨g,cap,cur,h5,_⟩⟩:=h1
  ·cases h5
  ·cases h5;cases hb
 |some g=>
  have hg1:=h1.lt hb
  refine⟨w1.heap.size,g,v,rfl,⟨hr,(h1.ext hE).rd,fun q n c hq=>?_⟩,h2.ext hE,hws,h3 g hb,by omega⟩
  subst hq
  obtain⟨_,⟨h5,_⟩|⟨g',cap,cur,h5,_⟩⟩:=h1
  ·cases h5
  ·cases h5;cases hb;exact⟨rfl,by omega,by omega⟩
theorem err_ok (w:World)(r B:Nat)(v:Value)(bs:List Int)(e:Int)(h:RAt w r B v bs e):
  Calls Tryz.prog 42 #[.pointer (some ⟨r,0,none⟩)] w (Ret fun u w'=>u=.int .i64 e∧w'=w):=by
 refine calls_of_cfg c42_ok (Nat.le_of_ble_eq_true rfl) ?_
 simp only[argE_nil,argE_cons,Nat.zero_add]
 have hat:=h.at'
 iterate 3 (refine W_at c42_ok ⟨_,rfl,?_⟩;simp (disch:=first|omega|assumption|rfl|(simp only[vcS]<;>omega)|fail) only[↓vcN,vcQ,simprocAttr,hat,Ret_returned])
theorem left_ok (w:World)(r B:Nat)(v:Value)(bs:List Int)(e:Int)(h:RAt w r B v bs e):
  Calls Tryz.prog 101 #[.pointer (some ⟨r,0,none⟩)] w (Ret fun u w'=>u=.int .i64 bs.length∧w'=w):=by
 refine calls_of_cfg c101_ok (Nat.le_of_ble_eq_true rfl) ?_
 simp only[argE_nil,argE_cons,Nat.zero_add]
 have hat:=h.at'
 have hlen:=h.rd.len
 iterate 3 (refine W_at c101_ok ⟨_,rfl,?_⟩;simp (disch:=first|omega|assumption|rfl|(simp only[vcS]<;>omega)|fail) only[↓vcN,vcQ,simprocAttr,hat,hlen,Ret_returned])
theorem close_ok (w:World)(r B:Nat)(v:Value)(bs:List Int)(e:Int)(h:RAt w r B v bs e):
  Calls Tryz.prog 43 #[.pointer (some ⟨r,0,none⟩)] w (Ret fun u w'=>u=.int .i64 (if e=0∧0<bs.length then 3 else e)∧w'=w):=by
 refine calls_of_cfg c43_ok (Nat.le_of_ble_eq_true rfl) ?_
 simp only[argE_nil,argE_cons,Nat.zero_add]
 have hat:=h.at'
 have hlen:=h.rd.len
 (refine W_at c43_ok ⟨_,rfl,?_⟩;simp (disch:=first|omega|assumption|rfl|(simp only[vcS]<;>omega)|fail) only[↓vcN,vcQ,simprocAttr])
 by_cases he:e=0
 ·subst he
  by_cases hl:0< (bs.length:Int)
  ·have h3:(if (0:Int)=0∧0<bs.length then (3:Int) else 0)=3:=if_pos ⟨rfl,by omega⟩
   rw[h3]
   iterate 4 (refine W_at c43_ok ⟨_,rfl,?_⟩;simp (disch:=first|omega|assumption|rfl|(simp only[vcS]<;>omega)|fail) only[↓vcN,vcQ,simprocAttr,hat,hlen,hl,Ret_returned])
  ·have h3:(if (0:Int)=0∧0<bs.length then (3:Int) else 0)=0:=if_neg (by omega)
   rw[h3]
   iterate 4 (refine W_at c43_ok ⟨_,rfl,?_⟩;simp (disch:=first|omega|assumption|rfl|(simp only[vcS]<;>omega)|fail) only[↓vcN,vcQ,simprocAttr,hat,hlen,hl,Ret_returned])
 ·have h3:(if e=0∧0<bs.length then (3:Int) else e)=e:=if_neg (by omega)
  rw[h3]
  iterate 4 (refine W_at c43_ok ⟨_,rfl,?_⟩;simp (disch:=first|omega|assumption|rfl|(simp only[vcS]<;>omega)|fail) only[↓vcN,vcQ,simprocAttr,hat,he,Ret_returned])
end Go.Proofs
namespace Go.Proofs
open Go.Vc
set_option maxRecDepth 10000
theorem New.here {w:World}:New w (w.alloc (.cells [].toArray 5)) (.slice (some ⟨w.heap.size,0,none⟩) 0 0) []:=New.lit (bs:=[]) (by simp [maxLen])
theorem lowF_get:∀(n:Nat) (x:Nat) (i:Nat),i<n→(lowF n (x:Nat))[i]?=some ((x/256^i%256:Nat):Int)
 |0,_,_,h=>by omega
 |n+1,x,0,_=>by simp [lowF]
 |n+1,x,i+1,h=>by
  have e:((x:Nat):Int)/256=((x/256:Nat):Int):=by omega
  rw[lowF,List.getElem?_cons_succ,e,lowF_get n (x/256) i (by omega),Nat.div_div_eq_div_mul,Nat.pow_succ,Nat.mul_comm (256^i)]
theorem low_be8 (x i:Nat)(h:i<8):(lowF 8 (x:Nat))[7 - i]?=(be8 x)[i]?:=by
 rw[lowF_get 8 x (7 - i) (by omega),be8_get x i h]
theorem fill_z (n j:Nat)(hj:j≤63 - (n+8)%64):((n+1+j)%64=56)=(j=63 - (n+8)%64):=by
 apply propext
 omega
set_option maxHeartbeats 1600000 in
theorem fill_ok (w:World)(x:Value)(bs:List Int)(hx:Rd w x bs)(hl:bs.length≤100000000):
  Calls Tryz.prog 131 #[x,.int .i64 64,.int .i64 8,.bool false] w (Ret fun u w'=>New w w' u (allF bs)):=by
 refine calls_of_cfg c131_ok (Nat.le_of_ble_eq_true rfl) ?_
 simp only[argE_nil,argE_cons,Nat.reduceAdd,Nat.zero_add]
 have hlen:=hx.len
 iterate 2 (refine W_at c131_ok ⟨_,rfl,?_⟩;simp (disch:=first|omega|assumption|rfl|(simp only[vcS]<;>omega)|fail) only[↓vcN,vcQ,simprocAttr])
 refine appN New.here (hx.ext New.here.ext) (by simp;omega) fun v1 w1 h1 _ _=>?_
 rw[List.nil_append] at h1
 first|(simp (disch:=first|omega|assumption|rfl|(simp only[vcS]<;>omega)|fail) only[↓vcN,vcQ,simprocAttr])|skip
 (refine W_at c131_ok ⟨_,rfl,?_⟩;simp (disch:=first|omega|assumption|rfl|(simp only[vcS]<;>omega)|fail) only[↓vcN,vcQ,simprocAttr])
 refine appNL (news:=[128]) h1 (by simp;omega) fun v2 w2 h2 _ _=>?_
 first|(simp (disch:=first|omega|assumption|rfl|(simp only[vcS]<;>omega)|fail) only[↓vcN,vcQ,simprocAttr])|skip
 have hxe:∀{w'},Ext w w'→Rd w' x bs:=fun k=>hx.ext k
 have L1:∀(k j:Nat) (wj:World) (vj:Value),j+k=63 - (bs.length+8)%64→New w wj vj (bs++128::List.replicate j 0)→
   W Tryz.prog (Ret fun u w'=>New w w' u (allF bs)) 131 24 [(0,x),(1,.int .i64 64),(2,.int .i64 8),(3,.bool false),(9,vj)] wj:=by
  intro k
  induction k with
  |zero=>
   intro j wj vj hj hN
   have hll:=hN.own.rd.len
   have hL:(bs++128::List.replicate j (0:Int)).length=bs.length+1+j:=by simp;omega
   rw[hL] at hll
   have hm:Int.tmod ((bs.length+1+j:Nat):Int) 64=(((bs.length+1+j)%64:Nat):Int):=by rw[Int.tmod_eq_emod_of_nonneg (by omega)];omega
   have hz:=fill_z bs.length j (by omega)
   have he:(((bs.length+1+j)%64:Nat):Int)=56:=by
    have:(bs.length+1+j)%64=56:=by rw[hz];omega
    omega
   have u1:IntKind.i64.wrap 56=56:=by decide
   have hw1:IntKind.u64.wrap ((bs.length:Nat):Int)=(bs.length:Nat):=by rw[wrap_u64];omega
   have hw2:IntKind.u64.wrap (((bs.length:Nat):Int)*8)=((8*bs.length:Nat):Int):=by rw[wrap_u64];omega
   iterate 5 (refine W_at c131_ok ⟨_,rfl,?_⟩;simp (disch:=first|omega|assumption|rfl|(simp only[vcS]<;>omega)|fail) only[↓vcN,vcQ,simprocAttr,hll,hm,he,u1,hlen,hw1,hw2])
   have hj2:j=63 - (bs.length+8)%64:=by omega
   subst hj2
   have L2:∀(k i:Nat) (wi:World) (li:Value) (y:Nat) (l0:List Int),i+k=8→New w wi vj (bs++128::List.replicate (63 - (bs.length+8)%64) 0)→New w wi li l0→l0.length=i→l0++lowF k (y:Nat)=lowF 8 ((8*bs.length:Nat):Int)→(y:Int)<18446744073709551616→
     (∀g,blk vj g→¬blk li g)→
     W Tryz.prog (Ret fun u w'=>New w w' u (allF bs)) 131 17 [(2,.int .i64 8),(3,.bool false),(9,vj),(10,.int .u64 (y:Nat)),(11,li),(12,.int .i64 (i:Nat))] wi:=by
    intro k
    induction k with
    |zero=>
     intro i wi li y l0 hi hNv hNl hll0 hl0 hy hd
     have hno:¬((i:Nat):Int)<8:=by omega
     rw[lowF,List.append_nil] at hl0
     subst hl0
     iterate 3 (refine W_at c131_ok ⟨_,rfl,?_⟩;simp (disch:=first|omega|assumption|rfl|(simp only[vcS]<;>omega)|fail) only[↓vcN,vcQ,simprocAttr,hno])
     have hbe:(lowF 8 ((8*bs.length:Nat):Int)).length=8:=lowF_len _ _
     have L3:∀(k i:Nat) (wz:World) (vz:Value),i+k=8→New w wz vz (bs++128::(List.replicate (63 - (bs.length+8)%64) 0++(be8 (8*bs.length)).take i))→Own1 wz li (lowF 8 ((8*bs.length:Nat):Int))→(∀g,blk vz g→¬blk li g)→
       W Tryz.prog (Ret fun u w'=>New w w' u (allF bs)) 131 10 [(2,.int .i64 8),(3,.bool false),(9,vz),(11,li),(13,.int .i64 (i:Nat))] wz:=by
      intro k
      induction k with
      |zero=>
       intro i wz vz hi hNz hOl hdz
       obtain rfl:i=8:=by omega
       rw[List.take_of_length_le (by rw[be8_len];exact Nat.le_refl _)] at hNz
       iterate 4 (refine W_at c131_ok ⟨_,rfl,?_⟩;simp (disch:=first|omega|assumption|rfl|(simp only[vcS]<;>omega)|fail) only[↓vcN,vcQ,simprocAttr,Ret_returned])
       exact hNz
      |succ k ih3=>
       intro i wz vz hi hNz hOl hdz
       have hlt:((i:Nat):Int)<8:=by omega
       have hwi:IntKind.i64.wrap (((i:Nat):Int)+1)=((i+1:Nat):Int):=wrap_i64 (by omega) (by omega)
       have u2:IntKind.i64.wrap 7=7:=by decide
       have hw7:IntKind.i64.wrap (7 - ((i:Nat):Int))=((7 - i:Nat):Int):=by rw[wrap_i64 (by omega) (by omega)];omega
       have b7:0≤((7 - i:Nat):Int)∧((7 - i:Nat):Int)<8:=by omega
       obtain⟨bb,oo,cc,e,hc⟩:=hOl.rd.at (i:=7 - i) (by omega)
       have hgv:=low_be8 (8*bs.length) i (by omega)
       rw[List.getElem?_eq_getElem (by omega)] at hgv
       have hib:i< (be8 (8*bs.length)).length:=by rw[be8_len];omega
       rw[List.getElem?_eq_getElem hib] at hgv
       rw[Option.some.inj hgv] at hc
       rw[hbe] at e
       subst e
       iterate 5 (refine W_at c131_ok ⟨_,rfl,?_⟩;simp (disch:=first|omega|assumption|rfl|(simp only[vcS]<;>omega)|fail) only[↓vcN,vcQ,simprocAttr,hlt,u2,hw7,b7,Int.toNat_natCast,Nat.mul_one,hc])
       have hl8:((be8 (8*bs.length)).take i).length≤8:=by rw[List.length_take,be8_len];omega
       have hOo:=hOl
       refine appNL (news:=[(be8 (8*bs.length))[i]]) hNz (by simp only[List.length_append,List.length_cons,List.length_replicate,List.length_nil];omega) fun vy wy hNy hky hby=>?_
       first|(simp (disch:=first|omega|assumption|rfl|(simp only[vcS]<;>omega)|fail) only[↓vcN,vcQ,simprocAttr])|skip
       iterate 2 (refine W_at c131_ok ⟨_,rfl,?_⟩;simp (disch:=first|omega|assumption|rfl|(simp only[vcS]<;>omega)|fail) only[↓vcN,vcQ,simprocAttr,hwi])
       refine ih3 (i+1) wy vy (by omega) ?_ (hOo.keep hky fun g hg hb=>hdz g hb hg) fun g hb hg=>?_
       ·rw[List.append_assoc,List.cons_append,List.append_assoc] at hNy
        have e2:(be8 (8*bs.length)).take (i+1)=(be8 (8*bs.length)).take i++[(be8 (8*bs.length))[i]]:=by rw[List.take_add_one,List.getElem?_eq_getElem hib];rfl
        rw[e2]
        exact hNy
       ·rcases hby g hb with h|h
        ·exact hdz g h hg
        ·have:=hOo.lt hg;omega
     exact L3 8 0 wi vj (by omega) (by rw[List.take_zero,List.append_nil];exact hNv) hNl.own hd
    |succ k ih2=>
     intro i wi li y l0 hi hNv hNl hll0 hl0 hy hd
     have hlt:((i:Nat):Int)<8:=by omega
     have hwi:IntKind.i64.wrap (((i:Nat):Int)+1)=((i+1:Nat):Int):=wrap_i64 (by omega) (by omega)
     have hm:Int.tmod ((y:Nat):Int) 256=((y:Nat):Int)%256:=Int.tmod_eq_emod_of_nonneg (by omega)
     have hc:IntKind.u8.wrap (((y:Nat):Int)%256)=((y:Nat):Int)%256:=by rw[wrap_u8];omega
     have hdv:IntKind.u64.wrap (Int.tdiv ((y:Nat):Int) 256)=((y/256:Nat):Int):=by rw[Int.tdiv_eq_ediv_of_nonneg (by omega),wrap_u64];omega
     iterate 3 (refine W_at c131_ok ⟨_,rfl,?_⟩;simp (disch:=first|omega|assumption|rfl|(simp only[vcS]<;>omega)|fail) only[↓vcN,vcQ,simprocAttr,hlt,hm,hc])
     refine appNL (news:=[((y:Nat):Int)%256]) hNl (by simp;omega) fun ly wy hNy hky hby=>?_
     first|(simp (disch:=first|omega|assumption|rfl|(simp only[vcS]<;>omega)|fail) only[↓vcN,vcQ,simprocAttr])|skip
     iterate 3 (refine W_at c131_ok ⟨_,rfl,?_⟩;simp (disch:=first|omega|assumption|rfl|(simp only[vcS]<;>omega)|fail) only[↓vcN,vcQ,simprocAttr,hdv,hwi])
     refine ih2 (i+1) wy ly (y/256) _ (by omega) ⟨hNv.own.keep hky fun g hg hb=>hd g hg hb,hNy.ext,hNv.new⟩ hNy (by simp;omega) ?_ (by omega) fun g hg hb=>?_
     ·rw[←hl0,List.append_assoc]
      have e:((y:Nat):Int)/256=((y/256:Nat):Int):=by omega
      rw[lowF,e];rfl
     ·rcases hby g hb with h|h
      ·exact hd g hg h
      ·have:=hNv.own.lt hg;omega
   exact L2 8 0 wj _ (8*bs.length) [] (by omega) hN ⟨Own1.nil _,hN.ext,fun g hg=>by cases hg⟩ rfl rfl (by omega) fun g _ hb=>by cases hb
  |succ k ih=>
   intro j wj vj hj hN
   have hll:=hN.own.rd.len
   have hL:(bs++128::List.replicate j (0:Int)).length=bs.length+1+j:=by simp;omega
   rw[hL] at hll
   have hm:Int.tmod ((bs.length+1+j:Nat):Int) 64=(((bs.length+1+j)%64:Nat):Int):=by rw[Int.tmod_eq_emod_of_nonneg (by omega)];omega
   have hz:=fill_z bs.length j (by omega)
   have he:¬(((bs.length+1+j)%64:Nat):Int)=56:=by
    have:¬(bs.length+1+j)%64=56:=by rw[hz];omega
    omega
   have u1:IntKind.i64.wrap 56=56:=by decide
   iterate 3 (refine W_at c131_ok ⟨_,rfl,?_⟩;simp (disch:=first|omega|assumption|rfl|(simp only[vcS]<;>omega)|fail) only[↓vcN,vcQ,simprocAttr,hll,hm,he,u1])
   refine appNL (news:=[0]) hN (by simp;omega) fun vy wy hNy _ _=>?_
   first|(simp (disch:=first|omega|assumption|rfl|(simp only[vcS]<;>omega)|fail) only[↓vcN,vcQ,simprocAttr])|skip
   (refine W_at c131_ok ⟨_,rfl,?_⟩;simp (disch:=first|omega|assumption|rfl|(simp only[vcS]<;>omega)|fail) only[↓vcN,vcQ,simprocAttr])
   refine ih (j+1) wy vy (by omega) ?_
   rw[List.append_assoc,List.cons_append,←List.replicate_succ'] at hNy
   exact hNy
 exact L1 (63 - (bs.length+8)%64) 0 w2 v2 (by omega) h2
end Go.Proofs
namespace Go.Proofs
open Go.Vc
set_option maxRecDepth 10000
theorem U32_mulC (y:BitVec 32):binR .mul (U32 y) (.int .u32 256)=some (U32 (y*256#32)):=U32_mul y 256#32
def accF (blk:List Int)(t:Nat):Nat→BitVec 32
 |0=>0
 |i+1=>accF blk t i*256#32+b32 (blk.getD (4*t+i) 0)
theorem word_acc (a b c d:Int)(ha:0≤a∧a≤255)(hb:0≤b∧b≤255)(hc:0≤c∧c≤255)(hd:0≤d∧d≤255):(((0#32*256#32+b32 a)*256#32+b32 b)*256#32+b32 c)*256#32+b32 d=wordF a b c d:=by
 apply BitVec.eq_of_toNat_eq
 have e1:(b32 a).toNat=a.toNat:=by unfold b32;rw[BitVec.toNat_ofNat,Nat.mod_eq_of_lt (by omega)]
 have e2:(b32 b).toNat=b.toNat:=by unfold b32;rw[BitVec.toNat_ofNat,Nat.mod_eq_of_lt (by omega)]
 have e3:(b32 c).toNat=c.toNat:=by unfold b32;rw[BitVec.toNat_ofNat,Nat.mod_eq_of_lt (by omega)]
 have e4:(b32 d).toNat=d.toNat:=by unfold b32;rw[BitVec.toNat_ofNat,Nat.mod_eq_of_lt (by omega)]
 unfold wordF
 simp only[BitVec.toNat_or,BitVec.toNat_shiftLeft,BitVec.toNat_add,BitVec.toNat_mul,e1,e2,e3,e4,BitVec.toNat_ofNat]
 rw[Nat.mod_eq_of_lt (a:=a.toNat<<<24) (by rw[Nat.shiftLeft_eq];omega),Nat.mod_eq_of_lt (a:=b.toNat<<<16) (by rw[Nat.shiftLeft_eq];omega),Nat.mod_eq_of_lt (a:=c.toNat<<<8) (by rw[Nat.shiftLeft_eq];omega)]
 have s1:a.toNat<<<24|||b.toNat<<<16=a.toNat<<<24+b.toNat<<<16:=(Nat.shiftLeft_add_eq_or_of_lt (by rw[Nat.shiftLeft_eq];omega) _).symm
 have s2:(a.toNat<<<24+b.toNat<<<16)|||c.toNat<<<8=a.toNat<<<24+b.toNat<<<16+c.toNat<<<8:=by
  have e:a.toNat<<<24+b.toNat<<<16=(a.toNat*256+b.toNat)<<<16:=by simp only[Nat.shiftLeft_eq];omega
  rw[e]
  exact(Nat.shiftLeft_add_eq_or_of_lt (by rw[Nat.shiftLeft_eq];omega) _).symm
 have s3:(a.toNat<<<24+b.toNat<<<16+c.toNat<<<8)|||d.toNat=a.toNat<<<24+b.toNat<<<16+c.toNat<<<8+d.toNat:=by
  have e:a.toNat<<<24+b.toNat<<<16+c.toNat<<<8=(a.toNat*65536+b.toNat*256+c.toNat)<<<8:=by simp only[Nat.shiftLeft_eq];omega
  rw[e]
  exact(Nat.shiftLeft_add_eq_or_of_lt (by omega) _).symm
 rw[s1,s2,s3]
 simp only[Nat.shiftLeft_eq]
 omega
theorem acc4 (blk:List Int)(t:Nat)(h:∀i,i<4→0≤blk.getD (4*t+i) 0∧blk.getD (4*t+i) 0≤255):accF blk t 4=wordF (blk.getD (4*t) 0) (blk.getD (4*t+1) 0) (blk.getD (4*t+2) 0) (blk.getD (4*t+3) 0):=
 word_acc _ _ _ _ (h 0 (by omega)) (h 1 (by omega)) (h 2 (by omega)) (h 3 (by omega))
def arrP (ws:List (BitVec 32))(t:Nat)(x:BitVec 32):Array Value:=(arrW ws t).setIfInBounds t (U32 x)
theorem arrP_0 (ws:List (BitVec 32))(t:Nat)(hl:ws.length=64)(ht:t<64):arrP ws t 0=arrW ws t:=by
 unfold arrP arrW
 rw[List.setIfInBounds_toArray]
 congr 1
 have hlt:((ws.take t).map U32).length=t:=by simp [hl];omega
 rw[show 64 - t=(64 - (t+1))+1 by omega,List.replicate_succ,List.set_append_right _ _ (by omega),hlt,Nat.sub_self,List.set_cons_zero]
 rfl
theorem arrP_at (ws:List (BitVec 32))(t:Nat)(x:BitVec 32)(hl:ws.length=64)(ht:t<64):(arrP ws t x)[t]?=some (U32 x):=by
 unfold arrP
 rw[Array.getElem?_setIfInBounds_self_of_lt]
 rw[arrW_size ws t hl (by omega)];exact ht
theorem arrP_set (ws:List (BitVec 32))(t:Nat)(x y:BitVec 32):(arrP ws t x).setIfInBounds t (U32 y)=arrP ws t y:=by
 unfold arrP
 rw[Array.setIfInBounds_setIfInBounds]
theorem arrP_size (ws:List (BitVec 32))(t:Nat)(x:BitVec 32)(hl:ws.length=64)(ht:t<64):(arrP ws t x).size=64:=by
 unfold arrP;rw[Array.size_setIfInBounds,arrW_size ws t hl (by omega)]
theorem arrP_done (ws:List (BitVec 32))(t:Nat)(x:BitVec 32)(hl:ws.length=64)(ht:t<64)(hx:ws[t]?=some x):arrP ws t x=arrW ws (t+1):=arrW_set ws t x hl ht hx
def outP (s:S8)(i:Nat):List Int:=(outF s).take i++List.replicate (32 - i) 0
theorem outF_at (s:S8)(i:Nat)(h:i<32):(outF s)[i]?=some (((((s.list.getD (i/4) 0)>>>(24 - 8*(i%4))).toNat%256:Nat)):Int):=by
 obtain⟨a,b,hb,rfl⟩:∃a b,b<4∧i=4*a+b:=⟨i/4,i%4,by omega,by omega⟩
 have e1:(4*a+b)/4=a:=by omega
 have e2:(4*a+b)%4=b:=by omega
 have ha:a<8:=by omega
 rw[e1,e2]
 clear e1 e2 h
 match a,ha with
 |0,_=>match b,hb with
  |0,_=>rfl
  |1,_=>rfl
  |2,_=>rfl
  |3,_=>rfl
 |1,_=>match b,hb with
  |0,_=>rfl
  |1,_=>rfl
  |2,_=>rfl
  |3,_=>rfl
 |2,_=>match b,hb with
  |0,_=>rfl
  |1,_=>rfl
  |2,_=>rfl
  |3,_=>rfl
 |3,_=>match b,hb with
  |0,_=>rfl
  |1,_=>rfl
  |2,_=>rfl
  |3,_=>rfl
 |4,_=>match b,hb with
  |0,_=>rfl
  |1,_=>rfl
  |2,_=>rfl
  |3,_=>rfl
 |5,_=>match b,hb with
  |0,_=>rfl
  |1,_=>rfl
  |2,_=>rfl
  |3,_=>rfl
 |6,_=>match b,hb with
  |0,_=>rfl
  |1,_=>rfl
  |2,_=>rfl
  |3,_=>rfl
 |7,_=>match b,hb with
  |0,_=>rfl
  |1,_=>rfl
  |2,_=>rfl
  |3,_=>rfl
theorem outP_len (s:S8)(i:Nat)(h:i≤32):(outP s i).length=32:=by
 unfold outP;rw[List.length_append,List.length_take,outF_len,List.length_replicate];omega
theorem outP_set (s:S8)(i:Nat)(h:i<32):(outP s i).set i (((((s.list.getD (i/4) 0)>>>(24 - 8*(i%4))).toNat%256:Nat)):Int)=outP s (i+1):=by
 unfold outP
 have hlt:((outF s).take i).length=i:=by rw[List.length_take,outF_len];omega
 rw[show 32 - i=(32 - (i+1))+1 by omega,List.replicate_succ,List.set_append_right _ _ (by omega),hlt,Nat.sub_self,List.set_cons_zero,List.take_add_one,outF_at s i h]
 simp
theorem outP_32 (s:S8):outP s 32=outF s:=by
 unfold outP;rw[List.take_of_length_le (by rw[outF_len];omega)];simp
theorem wcs8_size (s:S8):(wcs s.list).size=8:=wcs_size _
theorem wcs8_bld (a b c d e f g h:BitVec 32):(#[U32 a]++(#[U32 b]++(#[U32 c]++(#[U32 d]++(#[U32 e]++(#[U32 f]++#[U32 g,U32 h]))))):Array Value)=wcs (S8.list ⟨a,b,c,d,e,f,g,h⟩):=by
 apply Array.ext'
 simp [wcs,S8.list]
set_option maxHeartbeats 3200000 in
theorem rsum_ok (w:World)(x:Value)(bs:List Int)(hx:Rd w x bs)(hbs:byt bs)(hl:bs.length≤100000000):
  Calls Tryz.prog 109 #[x] w (Ret fun u w'=>u=.agg (bv (shaF bs)).toArray∧Ext w w'):=by
 refine calls_of_cfg c109_ok (Nat.le_of_ble_eq_true rfl) ?_
 simp only[argE_nil,argE_cons,Nat.zero_add]
 (refine W_at c109_ok ⟨_,rfl,?_⟩;simp (disch:=first|omega|assumption|rfl|(simp only[vcS]<;>omega)|fail) only[↓vcN,vcQ,simprocAttr])
 have hE0:Ext w (w.alloc (.cells (zc [(32,.int .u8 0)]) 22)):=(Keep.refl _ w).alloc _
 have hp2:(w.alloc (.cells (zc [(32,.int .u8 0)]) 22)).heap[w.heap.size]?=some (.cells (bv (List.replicate 32 0)).toArray 22 (0,0)):=heap_new _ _ _ rfl
 generalize World.alloc _ _=w1 at hE0 hp2⊢
 generalize hp2e:w.heap.size=p2 at hp2⊢
 (refine W_at c109_ok ⟨_,rfl,?_⟩;simp (disch:=first|omega|assumption|rfl|(simp only[vcS]<;>omega)|fail) only[↓vcN,vcQ,simprocAttr])
 have e64:(#[Value.int .u32 1116352408]++(#[Value.int .u32 1899447441]++(#[Value.int .u32 3049323471]++(#[Value.int .u32 3921009573]++(#[Value.int .u32 961987163]++(#[Value.int .u32 1508970993]++(#[Value.int .u32 2453635748]++(#[Value.int .u32 2870763221]++(#[Value.int .u32 3624381080]++(#[Value.int .u32 310598401]++(#[Value.int .u32 607225278]++(#[Value.int .u32 1426881987]++(#[Value.int .u32 1925078388]++(#[Value.int .u32 2162078206]++(#[Value.int .u32 2614888103]++(#[Value.int .u32 3248222580]++(#[Value.int .u32 3835390401]++(#[Value.int .u32 4022224774]++(#[Value.int .u32 264347078]++(#[Value.int .u32 604807628]++(#[Value.int .u32 770255983]++(#[Value.int .u32 1249150122]++(#[Value.int .u32 1555081692]++(#[Value.int .u32 1996064986]++(#[Value.int .u32 2554220882]++(#[Value.int .u32 2821834349]++(#[Value.int .u32 2952996808]++(#[Value.int .u32 3210313671]++(#[Value.int .u32 3336571891]++(#[Value.int .u32 3584528711]++(#[Value.int .u32 113926993]++(#[Value.int .u32 338241895]++(#[Value.int .u32 666307205]++(#[Value.int .u32 773529912]++(#[Value.int .u32 1294757372]++(#[Value.int .u32 1396182291]++(#[Value.int .u32 1695183700]++(#[Value.int .u32 1986661051]++(#[Value.int .u32 2177026350]++(#[Value.int .u32 2456956037]++(#[Value.int .u32 2730485921]++(#[Value.int .u32 2820302411]++(#[Value.int .u32 3259730800]++(#[Value.int .u32 3345764771]++(#[Value.int .u32 3516065817]++(#[Value.int .u32 3600352804]++(#[Value.int .u32 4094571909]++(#[Value.int .u32 275423344]++(#[Value.int .u32 430227734]++(#[Value.int .u32 506948616]++(#[Value.int .u32 659060556]++(#[Value.int .u32 883997877]++(#[Value.int .u32 958139571]++(#[Value.int .u32 1322822218]++(#[Value.int .u32 1537002063]++(#[Value.int .u32 1747873779]++(#[Value.int .u32 1955562222]++(#[Value.int .u32 2024104815]++(#[Value.int .u32 2227730452]++(#[Value.int .u32 2361852424]++(#[Value.int .u32 2428436474]++(#[Value.int .u32 2756734187]++(#[Value.int .u32 3204031479,Value.int .u32 3329325298])))))))))))))))))))))))))))))))))))))))))))))))))))))))))))))):Array Value)=wcs kL:=by kernel_rfl
 rw[e64]
 clear e64
 have s64:(wcs kL).size=64:=by rw[wcs_size,kL_len]
 have z64:(zc [(64,Value.int .u32 0)]).size=64:=by simp [zc,runs]
 have hE1:Ext w1 ((w1.alloc (.cells (zc [(64,.int .u32 0)]) 123)).putN w1.heap.size 0 (wcs kL)):=((Keep.refl _ w1).alloc _).putN _ (by intro hh;exfalso;omega)
 have hp3:((w1.alloc (.cells (zc [(64,.int .u32 0)]) 123)).putN w1.heap.size 0 (wcs kL)).heap[w1.heap.size]?=some (.cells (wcs kL) 123 (0,0)):=by
  rw[heap_putN_eq (heap_new _ _ _ rfl),splice_all (by rw[s64,z64])]
 first|refine⟨s64,wcs_flat _,?_⟩|skip
 have hp2l:=lt_of_heap hp2
 generalize World.putN _ _ _ _=w2 at hE1 hp3⊢
 generalize w1.heap.size=p3 at hp3 hp2l⊢
 have hp22:=hE1.at hp2 (fun h=>h)
 (refine W_at c109_ok ⟨_,rfl,?_⟩;simp (disch:=first|omega|assumption|rfl|(simp only[vcS]<;>omega)|fail) only[↓vcN,vcQ,simprocAttr])
 have e8:(#[Value.int .u32 1779033703]++(#[Value.int .u32 3144134277]++(#[Value.int .u32 1013904242]++(#[Value.int .u32 2773480762]++(#[Value.int .u32 1359893119]++(#[Value.int .u32 2600822924]++(#[Value.int .u32 528734635,Value.int .u32 1541459225])))))):Array Value)=wcs iv.list:=by kernel_rfl
 rw[e8]
 clear e8
 have s8:(wcs iv.list).size=8:=wcs_size _
 have hE2:Ext w2 ((w2.alloc (.cells (zc [(8,.int .u32 0)]) 73)).putN w2.heap.size 0 (wcs iv.list)):=((Keep.refl _ w2).alloc _).putN _ (by intro hh;exfalso;omega)
 have hp4:((w2.alloc (.cells (zc [(8,.int .u32 0)]) 73)).putN w2.heap.size 0 (wcs iv.list)).heap[w2.heap.size]?=some (.cells (wcs iv.list) 73 (0,0)):=by
  rw[heap_putN_eq (heap_new _ _ _ rfl),splice_all (by rfl)]
 first|refine⟨s8,wcs_flat _,?_⟩|skip
 have hp3l:=lt_of_heap hp3
 generalize World.putN _ _ _ _=w3 at hE2 hp4⊢
 generalize w2.heap.size=p4 at hp4 hp3l⊢
 have hEE:=(hE0.ext hE1).ext hE2
 (refine W_at c109_ok ⟨_,rfl,?_⟩;simp (disch:=first|omega|assumption|rfl|(simp only[vcS]<;>omega)|fail) only[↓vcN,vcQ,simprocAttr])
 refine callV_ret (fill_ok w3 x bs (hx.ext hEE) hl) ?_
 intro mv w4 hN
 have hp24:=(hE2.ext hN.ext).at hp22 (fun h=>h)
 have hp34:=(hE2.ext hN.ext).at hp3 (fun h=>h)
 have hp44:=hN.ext.at hp4 (fun h=>h)
 have hEw4:=hEE.ext hN.ext
 have hmb:byt (allF bs):=byt_app hbs (padF_byt _)
 obtain⟨nb,hnb⟩:=allF_len bs
 have hpl:=padF_len bs.length
 have hall:(allF bs).length≤200000000:=by unfold allF;rw[List.length_append];omega
 have hm4:=hN.own
 have hmnew:=hN.new
 have hp4l3:=lt_of_heap hp4
 have hsha:shaF bs=outF (runN (nb+1) iv (allF bs)):=by unfold shaF;rw[hnb,Nat.mul_div_cancel_left _ (by omega)]
 rw[hsha]
 generalize allF bs=mm at hm4 hmb hnb hall⊢
 first|(simp (disch:=first|omega|assumption|rfl|(simp only[vcS]<;>omega)|fail) only[↓vcN,vcQ,simprocAttr])|skip
 (refine W_at c109_ok ⟨_,rfl,?_⟩;simp (disch:=first|omega|assumption|rfl|(simp only[vcS]<;>omega)|fail) only[↓vcN,vcQ,simprocAttr])
 have hp2w:w.heap.size≤p2:=by omega
 have fin:∀(wj:World) (st:S8) (tl:Env),wj.heap[p4]?=some (.cells (wcs st.list) 73 (0,0))→wj.heap[p2]?=some (.cells (bv (List.replicate 32 0)).toArray 22 (0,0))→Ext w wj→st=runN (nb+1) iv mm→
   W Tryz.prog (Ret fun u w'=>u=.agg (bv (outF (runN (nb+1) iv mm))).toArray∧Ext w w') 109 9 ((2,.pointer (some ⟨p2,0,none⟩))::(3,.pointer (some ⟨p3,0,none⟩))::(4,.pointer (some ⟨p4,0,none⟩))::tl) wj:=by
  intro wj st tl h4 h2 hE hst
  (refine W_at c109_ok ⟨_,rfl,?_⟩;simp (disch:=first|omega|assumption|rfl|(simp only[vcS]<;>omega)|fail) only[↓vcN,vcQ,simprocAttr])
  have hEa:Ext wj (wj.alloc (.cells (zc [(32,.int .u8 0)]) 22)):=(Keep.refl _ wj).alloc _
  have h18:(wj.alloc (.cells (zc [(32,.int .u8 0)]) 22)).heap[wj.heap.size]?=some (.cells (bv (outP st 0)).toArray 22 (0,0)):=heap_new _ _ _ rfl
  have h4l:=lt_of_heap h4
  have h2l:=lt_of_heap h2
  have hwl:=hE.size
  generalize World.alloc _ _=wa at hEa h18⊢
  generalize wj.heap.size=p18 at h18 h4l h2l hwl⊢
  have h4a:=hEa.at h4 (fun h=>h)
  have h2a:=hEa.at h2 (fun h=>h)
  (refine W_at c109_ok ⟨_,rfl,?_⟩;simp (disch:=first|omega|assumption|rfl|(simp only[vcS]<;>omega)|fail) only[↓vcN,vcQ,simprocAttr])
  have LE:∀(k i:Nat) (wz:World),i+k=32→wz.heap[p18]?=some (.cells (bv (outP st i)).toArray 22 (0,0))→wz.heap[p4]?=some (.cells (wcs st.list) 73 (0,0))→wz.heap[p2]?=some (.cells (bv (List.replicate 32 0)).toArray 22 (0,0))→Ext w wz→
    W Tryz.prog (Ret fun u w'=>u=.agg (bv (outF (runN (nb+1) iv mm))).toArray∧Ext w w') 109 7 [(2,.pointer (some ⟨p2,0,none⟩)),(4,.pointer (some ⟨p4,0,none⟩)),(18,.pointer (some ⟨p18,0,none⟩)),(19,.int .i64 (i:Nat))] wz:=by
   intro k
   induction k with
   |zero=>
    intro i wz hi h18 h4 h2 hEz
    obtain rfl:i=32:=by omega
    rw[outP_32] at h18
    have hr32:rdO (some (.cells (bv (outF st)).toArray 22 (0,0))) 0 32=some (bv (outF st)).toArray:=rdO_all _ _ _ _ (by rw[bva_size,outF_len])
    have s32:(bv (outF st)).toArray.size=32:=by rw[bva_size,outF_len]
    have hok:okO (some (.cells (bv (List.replicate 32 0)).toArray 22 (0,0))) 0 32=True:=by simp only[okO,bva_size,List.length_replicate];simp
    (refine W_at c109_ok ?_;refine⟨_,rfl,?_⟩;simp (disch:=first|omega|assumption|rfl|(simp only[vcS]<;>omega)|fail) only[↓vcA,vcB,↓reduceIte,Nat.reduceEqDiff,Int.reduceLT,Option.bind_some,vcM])
    (refine W_at c109_ok ?_;refine⟨_,rfl,?_⟩;simp (disch:=first|omega|assumption|rfl|(simp only[vcS]<;>omega)|fail) only[↓vcA,vcB,↓reduceIte,Nat.reduceEqDiff])
    (refine W_at c109_ok ?_;refine⟨_,rfl,?_⟩;simp (disch:=first|omega|assumption|rfl|(simp only[vcS]<;>omega)|fail) only[↓ptV_l,↓vcA,vcB,↓reduceIte,Nat.reduceEqDiff,Option.bind_some,Option.map_some,vcM,h18,h2,hr32,s32,hok])
    have k2:Keep (fun y=>y=p2) wz (wz.putN p2 0 (bv (outF st)).toArray):=(Keep.refl _ wz).putN _ fun _=>rfl
    have h2':(wz.putN p2 0 (bv (outF st)).toArray).heap[p2]?=some (.cells (bv (outF st)).toArray 22 (0,0)):=by
     rw[heap_putN_eq h2,splice_all (by rw[bva_size,bva_size,outF_len];rfl)]
    refine⟨bv_flat _,?_⟩
    have hEk:Ext w (wz.putN p2 0 (bv (outF st)).toArray):=hEz.trans k2 fun x hx e=>by omega
    generalize World.putN _ _ _ _=wk at k2 h2' hEk⊢
    (refine W_at c109_ok ?_;refine⟨_,rfl,?_⟩;simp (disch:=first|omega|assumption|rfl|(simp only[vcS]<;>omega)|fail) only[↓vcA,vcB,↓reduceIte,Option.bind_some,Option.map_some,vcM,Ret_returned,h2',hr32])
    exact⟨by rw[←hst],hEk⟩
   |succ k ih=>
    intro i wz hi h18 h4 h2 hEz
    have hlt:((i:Nat):Int)<32:=by omega
    have b1:0≤((i:Nat):Int)∧((i:Nat):Int)<32:=by omega
    have hwi:IntKind.i64.wrap (((i:Nat):Int)+1)=((i+1:Nat):Int):=wrap_i64 (by omega) (by omega)
    have hq:Int.tdiv ((i:Nat):Int) 4=((i/4:Nat):Int):=by rw[Int.tdiv_eq_ediv_of_nonneg (by omega)];omega
    have hq2:IntKind.i64.wrap ((i/4:Nat):Int)=((i/4:Nat):Int):=wrap_i64 (by omega) (by omega)
    have hm:Int.tmod ((i:Nat):Int) 4=((i%4:Nat):Int):=by rw[Int.tmod_eq_emod_of_nonneg (by omega)];omega
    have hw8:IntKind.i64.wrap (8*((i%4:Nat):Int))=((8*(i%4):Nat):Int):=by rw[wrap_i64 (by omega) (by omega)];omega
    have hws:IntKind.i64.wrap (24 - ((8*(i%4):Nat):Int))=((24 - 8*(i%4):Nat):Int):=by rw[wrap_i64 (by omega) (by omega)];omega
    have hwu:IntKind.u64.wrap ((24 - 8*(i%4):Nat):Int)=((24 - 8*(i%4):Nat):Int):=by rw[wrap_u64];omega
    have bq:0≤((i/4:Nat):Int)∧((i/4:Nat):Int)<8:=by omega
    have hel:=wcs8_at st (i/4) (by omega)
    have hsh:=U32_shr (st.list.getD (i/4) 0) .u64 (24 - 8*(i%4)) (by omega)
    obtain⟨a1,c1,e1⟩:=poke (((((st.list.getD (i/4) 0)>>>(24 - 8*(i%4))).toNat%256:Nat)):Int) h18 (i:=i) (by rw[outP_len _ _ (by omega)];omega)
    rw[outP_set st i (by omega)] at c1
    (refine W_at c109_ok ?_;refine⟨_,rfl,?_⟩;simp (disch:=first|omega|assumption|rfl|(simp only[vcS]<;>omega)|fail) only[↓vcA,vcB,↓reduceIte,Nat.reduceEqDiff,Option.bind_some,hlt])
    (refine W_at c109_ok ?_;refine⟨_,rfl,?_⟩;simp (disch:=first|omega|assumption|rfl|(simp only[vcS]<;>omega)|fail) only[↓vcA,vcB,↓reduceIte,Nat.reduceEqDiff])
    (refine W_at c109_ok ?_;refine⟨_,rfl,?_⟩;simp (disch:=first|omega|assumption|rfl|(simp only[vcS]<;>omega)|fail) only[↓ptV_l,↓vcA,vcB,↓reduceIte,Nat.reduceEqDiff,Int.reduceEq,Option.bind_some,vcM,h4,hq,hq2,hm,hw8,hws,hwu,bq,b1,Int.toNat_natCast,Nat.mul_one,hel,hsh,cvi8])
    refine⟨a1,?_⟩
    have h4k:=e1.at h4 (by omega)
    have h2k:=e1.at h2 (by omega)
    have hEk:=hEz.trans e1 fun x hx e=>by omega
    generalize World.setCell _ _ _=wk at c1 h4k h2k hEk⊢
    (refine W_at c109_ok ?_;refine⟨_,rfl,?_⟩;simp (disch:=first|omega|assumption|rfl|(simp only[vcS]<;>omega)|fail) only[↓vcA,vcB,↓reduceIte,Nat.reduceEqDiff,Option.bind_some,hwi])
    (refine W_at c109_ok ?_;refine⟨_,rfl,?_⟩;simp (disch:=first|omega|assumption|rfl|(simp only[vcS]<;>omega)|fail) only[vcB])
    exact ih (i+1) wk (by omega) c1 h4k h2k hEk
  exact LE 32 0 wa (by omega) h18 h4a h2a (hE.ext hEa)
 have L:∀(k j:Nat) (wj:World),j+k=nb+1→wj.heap[p4]?=some (.cells (wcs (runN j iv mm).list) 73 (0,0))→wj.heap[p2]?=some (.cells (bv (List.replicate 32 0)).toArray 22 (0,0))→wj.heap[p3]?=some (.cells (wcs kL) 123 (0,0))→Own1 wj mv mm→Ext w wj→
   W Tryz.prog (Ret fun u w'=>u=.agg (bv (outF (runN (nb+1) iv mm))).toArray∧Ext w w') 109 48 [(2,.pointer (some ⟨p2,0,none⟩)),(3,.pointer (some ⟨p3,0,none⟩)),(4,.pointer (some ⟨p4,0,none⟩)),(5,mv),(6,.int .i64 ((64*j:Nat):Int))] wj:=by
  intro k
  induction k with
  |zero=>
   intro j wj hj h4 h2 h3 hO hE
   obtain rfl:j=nb+1:=by omega
   have hlm:=hO.rd.len
   have hno:¬((64*(nb+1):Nat):Int)< (mm.length:Nat):=by omega
   iterate 2 (refine W_at c109_ok ⟨_,rfl,?_⟩;simp (disch:=first|omega|assumption|rfl|(simp only[vcS]<;>omega)|fail) only[↓vcN,vcQ,simprocAttr,hlm,hno])
   exact fin wj _ _ h4 h2 hE rfl
  |succ k ih=>
   intro j wj hj h4 h2 h3 hO hE
   have hlm:=hO.rd.len
   have hyes:((64*j:Nat):Int)< (mm.length:Nat):=by omega
   have hstep:=runN_step mm j
   have hblen:((mm.drop (64*j)).take 64).length=64:=by rw[List.length_take,List.length_drop];omega
   have hbat:∀o,o<64→((mm.drop (64*j)).take 64).getD o 0=mm.getD (64*j+o) 0:=fun o ho=>by
    simp only[List.getD,List.getElem?_take_of_lt ho,List.getElem?_drop]
   have hbb:byt ((mm.drop (64*j)).take 64):=byt_take (byt_drop hmb _) _
   generalize (mm.drop (64*j)).take 64=blk at hstep hblen hbat hbb
   have hws:=wsF_len blk
   have hcomp:compF (runN j iv mm) blk=(runN j iv mm).add (rndN 64 (runN j iv mm) kL (wsF blk)):=rfl
   generalize hwsd:wsF blk=ws at hws hcomp
   rw[hcomp] at hstep
   generalize runN j iv mm=st at hstep h4
   have hw64:IntKind.i64.wrap (((64*j:Nat):Int)+64)=((64*(j+1):Nat):Int):=by rw[wrap_i64 (by omega) (by omega)];omega
   iterate 3 (refine W_at c109_ok ⟨_,rfl,?_⟩;simp (disch:=first|omega|assumption|rfl|(simp only[vcS]<;>omega)|fail) only[↓vcN,vcQ,simprocAttr,hlm,hyes])
   have hEa:Ext wj (wj.alloc (.cells (zc [(64,.int .u32 0)]) 123)):=(Keep.refl _ wj).alloc _
   have h7:(wj.alloc (.cells (zc [(64,.int .u32 0)]) 123)).heap[wj.heap.size]?=some (.cells (arrW ws 0) 123 (0,0)):=by rw[arrW_0];exact heap_new _ _ _ rfl
   have h4l:=lt_of_heap h4
   have h3l:=lt_of_heap h3
   have h2l:=lt_of_heap h2
   have hml:∀g,Go.Proofs.blk mv g→g<wj.heap.size:=fun g hg=>hO.lt hg
   generalize World.alloc _ _=wa at hEa h7⊢
   generalize hp7e:wj.heap.size=p7 at h7 h4l h3l h2l hml⊢
   have hEwa:=hE.ext hEa
   have restB:∀(wz:World) (tl:Env),wz.heap[p7]?=some (.cells (wcs ws) 123 (0,0))→Ext wj wz→W Tryz.prog (Ret fun u w'=>u=.agg (bv (outF (runN (nb+1) iv mm))).toArray∧Ext w w') 109 26 ((2,.pointer (some ⟨p2,0,none⟩))::(3,.pointer (some ⟨p3,0,none⟩))::(4,.pointer (some ⟨p4,0,none⟩))::(5,mv)::(6,.int .i64 ((64*j:Nat):Int))::(7,.pointer (some ⟨p7,0,none⟩))::tl) wz:=by
    intro wz tl h7 hEz
    have hwz:=hE.ext hEz
    have h4z:=hEz.at h4 (fun h=>h)
    have h2z:=hEz.at h2 (fun h=>h)
    have h3z:=hEz.at h3 (fun h=>h)
    have hOz:=hO.ext hEz
    have s8:(wcs st.list).size=8:=wcs_size _
    have hr8:rdO (some (.cells (wcs st.list) 73 (0,0))) 0 8=some (wcs st.list):=rdO_all _ _ _ _ s8
    (refine W_at c109_ok ⟨_,rfl,?_⟩;simp (disch:=first|omega|assumption|rfl|(simp only[vcS]<;>omega)|fail) only[↓vcN,vcQ,simprocAttr,h4z,hr8,s8])
    have h13:((wz.alloc (.cells (zc [(8,.int .u32 0)]) 73)).putN wz.heap.size 0 (wcs st.list)).heap[wz.heap.size]?=some (.cells (wcs st.list) 73 (0,0)):=by
     rw[heap_putN_eq (heap_new _ _ _ rfl),splice_all (by rfl)]
    have hEb:Ext wz ((wz.alloc (.cells (zc [(8,.int .u32 0)]) 73)).putN wz.heap.size 0 (wcs st.list)):=((Keep.refl _ wz).alloc _).putN _ (by intro hh;exfalso;omega)
    first|refine⟨wcs_flat _,?_⟩|skip
    have h7l:=lt_of_heap h7
    generalize World.putN _ _ _ _=wb at h13 hEb⊢
    have hp13e:wz.heap.size≤wz.heap.size:=Nat.le_refl _
    generalize hp13:wz.heap.size=p13 at h13 h7l hp13e⊢
    have h7b:=hEb.at h7 (fun h=>h)
    have hjb:=hEz.ext hEb
    (refine W_at c109_ok ⟨_,rfl,?_⟩;simp (disch:=first|omega|assumption|rfl|(simp only[vcS]<;>omega)|fail) only[↓vcN,vcQ,simprocAttr])
    have LC:∀(k t:Nat) (wc:World),t+k=64→wc.heap[p13]?=some (.cells (wcs (rndN t st kL ws).list) 73 (0,0))→wc.heap[p7]?=some (.cells (wcs ws) 123 (0,0))→Ext wj wc→W Tryz.prog (Ret fun u w'=>u=.agg (bv (outF (runN (nb+1) iv mm))).toArray∧Ext w w') 109 24 [(2,.pointer (some ⟨p2,0,none⟩)),(3,.pointer (some ⟨p3,0,none⟩)),(4,.pointer (some ⟨p4,0,none⟩)),(5,mv),(6,.int .i64 ((64*j:Nat):Int)),(7,.pointer (some ⟨p7,0,none⟩)),(13,.pointer (some ⟨p13,0,none⟩)),(14,.int .i64 (t:Nat))] wc:=by
     intro k
     induction k with
     |zero=>
      intro t wc ht h13 h7 hEc
      obtain rfl:t=64:=by omega
      iterate 3 (refine W_at c109_ok ⟨_,rfl,?_⟩;simp (disch:=first|omega|assumption|rfl|(simp only[vcS]<;>omega)|fail) only[↓vcN,vcQ,simprocAttr])
      generalize rndN 64 st kL ws=v at hstep h13
      have h4c:=hEc.at h4 (fun h=>h)
      rw[show wcs st.list=addA st v [] 0 from rfl] at h4c
      have LD:∀(k i:Nat) (wd:World),i+k=8→wd.heap[p4]?=some (.cells (addA st v [] i) 73 (0,0))→wd.heap[p13]?=some (.cells (wcs v.list) 73 (0,0))→Keep (fun y=>y=p4) wj wd→W Tryz.prog (Ret fun u w'=>u=.agg (bv (outF (runN (nb+1) iv mm))).toArray∧Ext w w') 109 16 [(2,.pointer (some ⟨p2,0,none⟩)),(3,.pointer (some ⟨p3,0,none⟩)),(4,.pointer (some ⟨p4,0,none⟩)),(5,mv),(6,.int .i64 ((64*j:Nat):Int)),(13,.pointer (some ⟨p13,0,none⟩)),(17,.int .i64 (i:Nat))] wd:=by
       intro k
       induction k with
       |zero=>
        intro i wd hi h4d h13d hK
        obtain rfl:i=8:=by omega
        rw[addA_8,List.append_nil] at h4d
        iterate 4 (refine W_at c109_ok ⟨_,rfl,?_⟩;simp (disch:=first|omega|assumption|rfl|(simp only[vcS]<;>omega)|fail) only[↓vcN,vcQ,simprocAttr,hw64])
        refine ih (j+1) wd (by omega) (by rw[hstep];exact h4d) (hK.at h2 (by omega)) (hK.at h3 (by omega)) (hO.keep hK fun g hg e=>?_) (hE.trans hK fun i hi e=>by omega)
        subst e
        obtain⟨c,hc⟩:=row_type hO hg
        rw[h4] at hc;cases hc
       |succ k ihD=>
        intro i wd hi h4d h13d hK
        have hlt:((i:Nat):Int)<8:=by omega
        have b1:0≤((i:Nat):Int)∧((i:Nat):Int)<8:=by omega
        have hwi:IntKind.i64.wrap (((i:Nat):Int)+1)=((i+1:Nat):Int):=wrap_i64 (by omega) (by omega)
        have e1:=addA_at st v [] i (by omega)
        have e2:=wcs8_at v i (by omega)
        have e3:=addA_set st v [] i (by omega)
        have hsz:=addA_size st v [] i (by omega)
        iterate 3 (refine W_at c109_ok ⟨_,rfl,?_⟩;simp (disch:=first|omega|assumption|rfl|(simp only[vcS]<;>omega)|fail) only[↓vcN,vcQ,simprocAttr,hlt,h4d,h13d,b1,Int.toNat_natCast,Nat.mul_one,e1,e2,U32_add])
        have h4e:wd.drew.heap[p4]?=some (.cells (addA st v [] i) 73 (0,0)):=h4d
        have h13e:wd.drew.heap[p13]?=some (.cells (wcs v.list) 73 (0,0)):=h13d
        have hKe:=hK.drew
        generalize wd.drew=we at h4e h13e hKe⊢
        refine⟨rfl,wr1_of h4e (by rw[hsz];omega),?_⟩
        have h4f:(we.setCell ⟨p4,i,none⟩ (U32 (st.list.getD i 0+v.list.getD i 0))).heap[p4]?=some (.cells (addA st v [] (i+1)) 73 (0,0)):=by rw[heap_setCell_eq h4e,e3]
        have kf:Keep (fun x=>x=p4) we (we.setCell ⟨p4,i,none⟩ (U32 (st.list.getD i 0+v.list.getD i 0))):=(Keep.refl _ we).setCell _ fun _=>rfl
        have h13f:=kf.at h13e (by omega)
        generalize World.setCell _ _ _=wf at h4f kf h13f⊢
        iterate 2 (refine W_at c109_ok ⟨_,rfl,?_⟩;simp (disch:=first|omega|assumption|rfl|(simp only[vcS]<;>omega)|fail) only[↓vcN,vcQ,simprocAttr,hwi])
        exact ihD (i+1) wf (by omega) h4f h13f (hKe.trans kf fun _ _ h=>h)
      exact LD 8 0 wc (by omega) h4c h13 (hEc.mono fun _ h=>h.elim)
     |succ k ihC=>
      intro t wc ht h13 h7 hEc
      have hlt:((t:Nat):Int)<64:=by omega
      have b1:0≤((t:Nat):Int)∧((t:Nat):Int)<64:=by omega
      have hwi:IntKind.i64.wrap (((t:Nat):Int)+1)=((t+1:Nat):Int):=wrap_i64 (by omega) (by omega)
      have hkl64:=kL_len
      have hrs:=rndN_snoc t st kL ws (by omega) (by omega)
      have hwsi:(wcs ws)[t]?=some (U32 (ws[t]'(by omega))):=by simp [wcs,List.getElem?_eq_getElem (show t<ws.length by omega)]
      have hki:(wcs kL)[t]?=some (U32 (kL[t]'(by omega))):=by simp [wcs,List.getElem?_eq_getElem (show t<kL.length by omega)]
      have h3c:=hEc.at h3 (fun h=>h)
      generalize ws[t]'(by omega)=xi at hrs hwsi
      generalize kL[t]'(by omega)=ki at hrs hki
      generalize rndN t st kL ws=s at hrs h13
      have v0:(wcs s.list)[0]?=some (U32 s.a):=rfl
      have v1:(wcs s.list)[1]?=some (U32 s.b):=rfl
      have v2:(wcs s.list)[2]?=some (U32 s.c):=rfl
      have v3:(wcs s.list)[3]?=some (U32 s.d):=rfl
      have v4:(wcs s.list)[4]?=some (U32 s.e):=rfl
      have v5:(wcs s.list)[5]?=some (U32 s.f):=rfl
      have v6:(wcs s.list)[6]?=some (U32 s.g):=rfl
      have v7:(wcs s.list)[7]?=some (U32 s.h):=rfl
      iterate 2 (refine W_at c109_ok ⟨_,rfl,?_⟩;simp (disch:=first|omega|assumption|rfl|(simp only[vcS]<;>omega)|fail) only[↓vcN,vcQ,simprocAttr,hlt])
      (refine W_at c109_ok ⟨_,rfl,?_⟩;simp (disch:=first|omega|assumption|rfl|(simp only[vcS]<;>omega)|fail) only[↓vcX,ptS2_eq,vcQ,simprocAttr,h13,h7,h3c,v4,v5,v6,v7,b1,Int.toNat_natCast,Nat.mul_one,hki,hwsi,U32_and,U32_xor,U32_not])
      have hEd:Ext wc wc.drew:=(Keep.refl _ wc).drew
      have h13d:=hEd.at h13 (fun h=>h)
      have h7d:=hEd.at h7 (fun h=>h)
      have h3d:=hEd.at h3c (fun h=>h)
      have hEjd:=hEc.ext hEd
      generalize wc.drew=wd at h13d h7d h3d hEjd⊢
      clear hEd
      refine callV_ret (rrot_ok wd s.e 26 6 (by decide) (by decide) (by decide)) ?_
      rintro _ wq ⟨rfl,hw⟩
      obtain rfl:wd=wq:=hw.symm
      simp (disch:=first|omega|assumption|rfl|(simp only[vcS]<;>omega)|fail) only[↓vcY,ptS1_eq,vcQ,simprocAttr,h13d,h7d,h3d,v4,v5,v6,v7,hki,hwsi]
      refine callV_ret (rrot_ok wd s.e 21 11 (by decide) (by decide) (by decide)) ?_
      rintro _ wq ⟨rfl,hw⟩
      obtain rfl:wd=wq:=hw.symm
      simp (disch:=first|omega|assumption|rfl|(simp only[vcS]<;>omega)|fail) only[↓vcX,ptS2_eq,vcQ,simprocAttr,h13d,h7d,h3d,v4,v5,v6,v7,hki,hwsi,U32_xor]
      refine callV_ret (rrot_ok wd s.e 7 25 (by decide) (by decide) (by decide)) ?_
      rintro _ wq ⟨rfl,hw⟩
      obtain rfl:wd=wq:=hw.symm
      simp (disch:=first|omega|assumption|rfl|(simp only[vcS]<;>omega)|fail) only[↓vcY,ptS1_eq,vcQ,simprocAttr,h13d,h7d,h3d,v4,v5,v6,v7,hki,hwsi,U32_xor,U32_add]
      first|(simp (disch:=first|omega|assumption|rfl|(simp only[vcS]<;>omega)|fail) only[↓vcY,ptS1_eq,vcQ,simprocAttr,h13d,h7d,h3d,v4,v5,v6,v7,hki,hwsi,U32_xor,U32_add])|skip
      have et:t1F s ki xi=s.h+(rotF 6 s.e^^^rotF 11 s.e^^^rotF 25 s.e)+(s.e&&& s.f^^^~~~s.e&&& s.g)+ki+xi:=rfl
      rw[←et]
      have eu:t2F s=(rotF 2 s.a^^^rotF 13 s.a^^^rotF 22 s.a)+(s.a&&& s.b^^^s.a&&& s.c^^^s.b&&& s.c):=rfl
      (refine W_at c109_ok ⟨_,rfl,?_⟩;simp (disch:=first|omega|assumption|rfl|(simp only[vcS]<;>omega)|fail) only[↓vcX,ptS2_eq,vcQ,simprocAttr,h13d,v0,v1,v2,U32_and,U32_xor])
      have hEd2:Ext wd wd.drew:=(Keep.refl _ wd).drew
      have h13e:=hEd2.at h13d (fun h=>h)
      have h7e:=hEd2.at h7d (fun h=>h)
      have hEje:=hEjd.ext hEd2
      generalize wd.drew=we at h13e h7e hEje⊢
      clear hEd2
      refine callV_ret (rrot_ok we s.a 30 2 (by decide) (by decide) (by decide)) ?_
      rintro _ wq ⟨rfl,hw⟩
      obtain rfl:we=wq:=hw.symm
      simp (disch:=first|omega|assumption|rfl|(simp only[vcS]<;>omega)|fail) only[↓vcY,ptS1_eq,vcQ,simprocAttr,h13e,v0,v1,v2]
      refine callV_ret (rrot_ok we s.a 19 13 (by decide) (by decide) (by decide)) ?_
      rintro _ wq ⟨rfl,hw⟩
      obtain rfl:we=wq:=hw.symm
      simp (disch:=first|omega|assumption|rfl|(simp only[vcS]<;>omega)|fail) only[↓vcX,ptS2_eq,vcQ,simprocAttr,h13e,v0,v1,v2,U32_xor]
      refine callV_ret (rrot_ok we s.a 10 22 (by decide) (by decide) (by decide)) ?_
      rintro _ wq ⟨rfl,hw⟩
      obtain rfl:we=wq:=hw.symm
      simp (disch:=first|omega|assumption|rfl|(simp only[vcS]<;>omega)|fail) only[↓vcY,ptS1_eq,vcQ,simprocAttr,h13e,v0,v1,v2,U32_xor,U32_add]
      rw[←eu]
      unfold rnd at hrs
      generalize t1F s ki xi=tt at hrs⊢
      generalize t2F s=uu at hrs⊢
      (refine W_at c109_ok ⟨_,rfl,?_⟩;simp (disch:=first|omega|assumption|rfl|(simp only[vcS]<;>omega)|fail) only[↓vcN,vcQ,simprocAttr,h13e,v0,v1,v2,v3,v4,v5,v6,U32_add,U32_cells])
      have e9:(#[U32 (tt+uu)]++(#[U32 s.a]++(#[U32 s.b]++(#[U32 s.c]++(#[U32 (s.d+tt)]++(#[U32 s.e]++#[U32 s.f,U32 s.g]))))):Array Value)=wcs (rndN (t+1) st kL ws).list:=by rw[hrs];exact wcs8_bld _ _ _ _ _ _ _ _
      rw[e9]
      have hsw:(wcs s.list).size=8:=wcs_size _
      refine⟨wcs8_size _,wcs_flat _,by rw[hsw];exact Nat.le_refl _,?_⟩
      have h13f:(we.putN p13 0 (wcs (rndN (t+1) st kL ws).list)).heap[p13]?=some (.cells (wcs (rndN (t+1) st kL ws).list) 73 (0,0)):=by
       rw[heap_putN_eq h13e,splice_all (by rw[wcs8_size,wcs8_size])]
      have kf:Keep (fun x=>x=p13) we (we.putN p13 0 (wcs (rndN (t+1) st kL ws).list)):=(Keep.refl _ we).putN _ fun _=>rfl
      generalize World.putN _ _ _ _=wf at h13f kf⊢
      have h7f:=kf.at h7e (by omega)
      iterate 2 (refine W_at c109_ok ⟨_,rfl,?_⟩;simp (disch:=first|omega|assumption|rfl|(simp only[vcS]<;>omega)|fail) only[↓vcN,vcQ,simprocAttr,hwi])
      exact ihC (t+1) wf (by omega) h13f h7f (hEje.trans kf fun i hi e=>by omega)
    exact LC 64 0 wb (by omega) h13 h7b hjb
   have LB:∀(k t:Nat) (wz:World),t+k=64→16≤t→wz.heap[p7]?=some (.cells (arrW ws t) 123 (0,0))→Ext wj wz→W Tryz.prog (Ret fun u w'=>u=.agg (bv (outF (runN (nb+1) iv mm))).toArray∧Ext w w') 109 33 [(2,.pointer (some ⟨p2,0,none⟩)),(3,.pointer (some ⟨p3,0,none⟩)),(4,.pointer (some ⟨p4,0,none⟩)),(5,mv),(6,.int .i64 ((64*j:Nat):Int)),(7,.pointer (some ⟨p7,0,none⟩)),(10,.int .i64 (t:Nat))] wz:=by
    intro k
    induction k with
    |zero=>
     intro t wz ht h16 h7 hEz
     obtain rfl:t=64:=by omega
     rw[arrW_all ws hws] at h7
     iterate 2 (refine W_at c109_ok ⟨_,rfl,?_⟩;simp (disch:=first|omega|assumption|rfl|(simp only[vcS]<;>omega)|fail) only[↓vcN,vcQ,simprocAttr])
     exact restB wz _ h7 hEz
    |succ k ihB=>
     intro t wz ht h16 h7 hEz
     have hlt:((t:Nat):Int)<64:=by omega
     have b1:0≤((t:Nat):Int)∧((t:Nat):Int)<64:=by omega
     have hwi:IntKind.i64.wrap (((t:Nat):Int)+1)=((t+1:Nat):Int):=wrap_i64 (by omega) (by omega)
     have hy:=ws_rec blk t h16 (by omega)
     rw[hwsd] at hy
     have hnx:nxtW (ws.take t)=sg1 (ws.getD (t - 2) 0)+ws.getD (t - 7) 0+sg0 (ws.getD (t - 15) 0)+ws.getD (t - 16) 0:=by
      have hlt:(ws.take t).length=t:=by rw[List.length_take];omega
      have hg:∀k,k<t→(ws.take t).getD k 0=ws.getD k 0:=fun k hk=>by simp [List.getD,List.getElem?_take_of_lt hk]
      unfold nxtW
      rw[hlt,hg _ (by omega),hg _ (by omega),hg _ (by omega),hg _ (by omega)]
      ac_rfl
     rw[hnx] at hy
     have s15:IntKind.i64.wrap (((t:Nat):Int) - 15)=((t - 15:Nat):Int):=by rw[wrap_i64 (by omega) (by omega)];omega
     have s2:IntKind.i64.wrap (((t:Nat):Int) - 2)=((t - 2:Nat):Int):=by rw[wrap_i64 (by omega) (by omega)];omega
     have s16:IntKind.i64.wrap (((t:Nat):Int) - 16)=((t - 16:Nat):Int):=by rw[wrap_i64 (by omega) (by omega)];omega
     have s7:IntKind.i64.wrap (((t:Nat):Int) - 7)=((t - 7:Nat):Int):=by rw[wrap_i64 (by omega) (by omega)];omega
     have i15:0≤((t - 15:Nat):Int)∧((t - 15:Nat):Int)<64:=by omega
     have i2:0≤((t - 2:Nat):Int)∧((t - 2:Nat):Int)<64:=by omega
     have i16:0≤((t - 16:Nat):Int)∧((t - 16:Nat):Int)<64:=by omega
     have i7:0≤((t - 7:Nat):Int)∧((t - 7:Nat):Int)<64:=by omega
     have a15:=arrW_at ws t (t - 15) hws (by omega) (by omega)
     have a2:=arrW_at ws t (t - 2) hws (by omega) (by omega)
     have a16:=arrW_at ws t (t - 16) hws (by omega) (by omega)
     have a7:=arrW_at ws t (t - 7) hws (by omega) (by omega)
     have hsz:=arrW_size ws t hws (by omega)
     generalize ws.getD (t - 15) 0=x15 at hy a15
     generalize ws.getD (t - 2) 0=x2 at hy a2
     generalize ws.getD (t - 16) 0=x16 at hy a16
     generalize ws.getD (t - 7) 0=x7 at hy a7
     iterate 2 (refine W_at c109_ok ⟨_,rfl,?_⟩;simp (disch:=first|omega|assumption|rfl|(simp only[vcS]<;>omega)|fail) only[↓vcN,vcQ,simprocAttr,hlt])
     (refine W_at c109_ok ⟨_,rfl,?_⟩;simp (disch:=first|omega|assumption|rfl|(simp only[vcS]<;>omega)|fail) only[↓vcX,ptS2_eq,vcQ,simprocAttr,h7,s15,i15,Int.toNat_natCast,Nat.mul_one,a15,U32_shr3])
     have hEd:Ext wj wz.drew:=hEz.drew
     have h7d:wz.drew.heap[p7]?=some (.cells (arrW ws t) 123 (0,0)):=h7
     generalize wz.drew=wd at hEd h7d⊢
     refine callV_ret (rrot_ok wd x15 25 7 (by decide) (by decide) (by decide)) ?_
     rintro _ wq ⟨rfl,hw⟩
     obtain rfl:wd=wq:=hw.symm
     simp (disch:=first|omega|assumption|rfl|(simp only[vcS]<;>omega)|fail) only[↓vcY,ptS1_eq,vcQ,simprocAttr,h7d,a15]
     refine callV_ret (rrot_ok wd x15 14 18 (by decide) (by decide) (by decide)) ?_
     rintro _ wq ⟨rfl,hw⟩
     obtain rfl:wd=wq:=hw.symm
     simp (disch:=first|omega|assumption|rfl|(simp only[vcS]<;>omega)|fail) only[↓vcX,ptS2_eq,vcQ,simprocAttr,h7d,a15,U32_xor]
     first|(simp (disch:=first|omega|assumption|rfl|(simp only[vcS]<;>omega)|fail) only[↓vcX,ptS2_eq,vcQ,simprocAttr,h7d,a15,U32_xor])|skip
     have e0:sg0 x15=rotF 7 x15^^^rotF 18 x15^^^x15>>>3:=rfl
     rw[←e0]
     (refine W_at c109_ok ⟨_,rfl,?_⟩;simp (disch:=first|omega|assumption|rfl|(simp only[vcS]<;>omega)|fail) only[↓vcX,ptS2_eq,vcQ,simprocAttr,h7d,s2,i2,Int.toNat_natCast,Nat.mul_one,a2,U32_shr10])
     have hEe:Ext wj wd.drew:=hEd.drew
     have h7e:wd.drew.heap[p7]?=some (.cells (arrW ws t) 123 (0,0)):=h7d
     generalize wd.drew=we at hEe h7e⊢
     refine callV_ret (rrot_ok we x2 15 17 (by decide) (by decide) (by decide)) ?_
     rintro _ wq ⟨rfl,hw⟩
     obtain rfl:we=wq:=hw.symm
     simp (disch:=first|omega|assumption|rfl|(simp only[vcS]<;>omega)|fail) only[↓vcY,ptS1_eq,vcQ,simprocAttr,h7e,a2]
     refine callV_ret (rrot_ok we x2 13 19 (by decide) (by decide) (by decide)) ?_
     rintro _ wq ⟨rfl,hw⟩
     obtain rfl:we=wq:=hw.symm
     simp (disch:=first|omega|assumption|rfl|(simp only[vcS]<;>omega)|fail) only[↓vcX,ptS2_eq,vcQ,simprocAttr,h7e,a2,U32_xor]
     first|(simp (disch:=first|omega|assumption|rfl|(simp only[vcS]<;>omega)|fail) only[↓vcX,ptS2_eq,vcQ,simprocAttr,h7e,a2,U32_xor])|skip
     have e1:sg1 x2=rotF 17 x2^^^rotF 19 x2^^^x2>>>10:=rfl
     rw[←e1]
     (refine W_at c109_ok ⟨_,rfl,?_⟩;simp (disch:=first|omega|assumption|rfl|(simp only[vcS]<;>omega)|fail) only[↓vcN,vcQ,simprocAttr,h7e,s7,s16,i7,i16,b1,Int.toNat_natCast,Nat.mul_one,a7,a16,U32_add])
     have hEf:Ext wj we.drew:=hEe.drew
     have h7f:we.drew.heap[p7]?=some (.cells (arrW ws t) 123 (0,0)):=h7e
     generalize we.drew=wf at hEf h7f⊢
     refine⟨rfl,wr1_of h7f (by rw[hsz];omega),?_⟩
     have h7g:(wf.setCell ⟨p7,t,none⟩ (U32 (sg1 x2+x7+sg0 x15+x16))).heap[p7]?=some (.cells (arrW ws (t+1)) 123 (0,0)):=by rw[heap_setCell_eq h7f,arrW_set ws t _ hws (by omega) hy]
     have hEg:Ext wj (wf.setCell ⟨p7,t,none⟩ (U32 (sg1 x2+x7+sg0 x15+x16))):=hEf.trans ((Keep.refl _ wf).setCell (S:=fun x=>x=p7) _ fun _=>rfl) fun x hx e=>by omega
     generalize World.setCell _ _ _=wg at h7g hEg⊢
     iterate 2 (refine W_at c109_ok ⟨_,rfl,?_⟩;simp (disch:=first|omega|assumption|rfl|(simp only[vcS]<;>omega)|fail) only[↓vcN,vcQ,simprocAttr,hwi])
     exact ihB (t+1) wg (by omega) (by omega) h7g hEg
   have LA:∀(k t:Nat) (wz:World),t+k=16→wz.heap[p7]?=some (.cells (arrW ws t) 123 (0,0))→Ext wj wz→W Tryz.prog (Ret fun u w'=>u=.agg (bv (outF (runN (nb+1) iv mm))).toArray∧Ext w w') 109 44 [(2,.pointer (some ⟨p2,0,none⟩)),(3,.pointer (some ⟨p3,0,none⟩)),(4,.pointer (some ⟨p4,0,none⟩)),(5,mv),(6,.int .i64 ((64*j:Nat):Int)),(7,.pointer (some ⟨p7,0,none⟩)),(8,.int .i64 (t:Nat))] wz:=by
    intro k
    induction k with
    |zero=>
     intro t wz ht h7 hEz
     obtain rfl:t=16:=by omega
     iterate 3 (refine W_at c109_ok ⟨_,rfl,?_⟩;simp (disch:=first|omega|assumption|rfl|(simp only[vcS]<;>omega)|fail) only[↓vcN,vcQ,simprocAttr])
     exact LB 48 16 wz (by omega) (by omega) h7 hEz
    |succ k ihA=>
     intro t wz ht h7 hEz
     have hlt:((t:Nat):Int)<16:=by omega
     have b1:0≤((t:Nat):Int)∧((t:Nat):Int)<64:=by omega
     have hwt:IntKind.i64.wrap (((t:Nat):Int)+1)=((t+1:Nat):Int):=wrap_i64 (by omega) (by omega)
     have hw4:IntKind.i64.wrap (4*((t:Nat):Int))=((4*t:Nat):Int):=by rw[wrap_i64 (by omega) (by omega)];omega
     have hwa4:IntKind.i64.wrap (((64*j:Nat):Int)+((4*t:Nat):Int))=((64*j+4*t:Nat):Int):=by rw[wrap_i64 (by omega) (by omega)];omega
     have hdone:ws[t]?=some (accF blk t 4):=by
      have h:=ws_16 blk t (by omega)
      rw[hwsd] at h
      rw[h,acc4 blk t fun i hi=>?_]
      have hio:4*t+i<blk.length:=by omega
      have e2:blk.getD (4*t+i) 0=blk[4*t+i]:=by simp [List.getD,List.getElem?_eq_getElem hio]
      have:=hbb _ (List.getElem_mem hio)
      rw[e2];omega
     have LI:∀(m i:Nat) (wz:World),i+m=4→wz.heap[p7]?=some (.cells (arrP ws t (accF blk t i)) 123 (0,0))→Ext wj wz→W Tryz.prog (Ret fun u w'=>u=.agg (bv (outF (runN (nb+1) iv mm))).toArray∧Ext w w') 109 41 [(2,.pointer (some ⟨p2,0,none⟩)),(3,.pointer (some ⟨p3,0,none⟩)),(4,.pointer (some ⟨p4,0,none⟩)),(5,mv),(6,.int .i64 ((64*j:Nat):Int)),(7,.pointer (some ⟨p7,0,none⟩)),(8,.int .i64 (t:Nat)),(9,.int .i64 (i:Nat))] wz:=by
      intro m
      induction m with
      |zero=>
       intro i wz hi h7 hEz
       obtain rfl:i=4:=by omega
       rw[arrP_done ws t _ hws (by omega) hdone] at h7
       iterate 4 (refine W_at c109_ok ⟨_,rfl,?_⟩;simp (disch:=first|omega|assumption|rfl|(simp only[vcS]<;>omega)|fail) only[↓vcN,vcQ,simprocAttr,hwt])
       exact ihA (t+1) wz (by omega) h7 hEz
      |succ m ihI=>
       intro i wz hi h7 hEz
       have hlt4:((i:Nat):Int)<4:=by omega
       have hwi:IntKind.i64.wrap (((i:Nat):Int)+1)=((i+1:Nat):Int):=wrap_i64 (by omega) (by omega)
       have hwb:IntKind.i64.wrap (((64*j+4*t:Nat):Int)+((i:Nat):Int))=((64*j+4*t+i:Nat):Int):=by rw[wrap_i64 (by omega) (by omega)];omega
       obtain⟨bb,oo,cc,ex,hc,hrng⟩:=rd_byte (hO.ext hEz).rd hmb (i:=64*j+4*t+i) (by omega)
       rw[show 64*j+4*t+i=64*j+(4*t+i) by omega,←hbat (4*t+i) (by omega)] at hc hrng
       have bi:0≤((64*j+(4*t+i):Nat):Int)∧((64*j+(4*t+i):Nat):Int)< (mm.length:Nat):=by omega
       have hv:=b32_of hrng
       have hat:=arrP_at ws t (accF blk t i) hws (by omega)
       have hacc:accF blk t i*256#32+b32 (blk.getD (4*t+i) 0)=accF blk t (i+1):=rfl
       have hsz:=arrP_size ws t (accF blk t i) hws (by omega)
       rw[show 64*j+4*t+i=64*j+(4*t+i) by omega] at hwb
       subst ex
       iterate 3 (refine W_at c109_ok ⟨_,rfl,?_⟩;simp (disch:=first|omega|assumption|rfl|(simp only[vcS]<;>omega)|fail) only[↓vcN,vcQ,simprocAttr,hlt4,h7,b1,hw4,hwa4,hwb,bi,Int.toNat_natCast,Nat.mul_one,hat,U32_mulC,hc,hv,U32_add])
       have hEd:Ext wj wz.drew:=hEz.drew
       have h7d:wz.drew.heap[p7]?=some (.cells (arrP ws t (accF blk t i)) 123 (0,0)):=h7
       generalize wz.drew=wd at hEd h7d⊢
       refine⟨rfl,wr1_of h7d (by rw[hsz];omega),?_⟩
       rw[hacc]
       have h7g:(wd.setCell ⟨p7,t,none⟩ (U32 (accF blk t (i+1)))).heap[p7]?=some (.cells (arrP ws t (accF blk t (i+1))) 123 (0,0)):=by rw[heap_setCell_eq h7d,arrP_set]
       have hEg:Ext wj (wd.setCell ⟨p7,t,none⟩ (U32 (accF blk t (i+1)))):=hEd.trans ((Keep.refl _ wd).setCell (S:=fun x=>x=p7) _ fun _=>rfl) fun x hx e=>by omega
       generalize World.setCell _ _ _=wg at h7g hEg⊢
       iterate 2 (refine W_at c109_ok ⟨_,rfl,?_⟩;simp (disch:=first|omega|assumption|rfl|(simp only[vcS]<;>omega)|fail) only[↓vcN,vcQ,simprocAttr,hwi])
       exact ihI (i+1) wg (by omega) h7g hEg
     iterate 3 (refine W_at c109_ok ⟨_,rfl,?_⟩;simp (disch:=first|omega|assumption|rfl|(simp only[vcS]<;>omega)|fail) only[↓vcN,vcQ,simprocAttr,hlt])
     exact LI 4 0 wz (by omega) (by rw[show accF blk t 0=0 from rfl,arrP_0 ws t hws (by omega)];exact h7) hEz
   (refine W_at c109_ok ⟨_,rfl,?_⟩;simp (disch:=first|omega|assumption|rfl|(simp only[vcS]<;>omega)|fail) only[↓vcN,vcQ,simprocAttr])
   exact LA 16 0 wa (by omega) h7 hEa
 exact L (nb+1) 0 w4 (by omega) hp44 hp24 hp34 hm4 hEw4
end Go.Proofs
namespace Go.Proofs
open Go.Vc
set_option maxRecDepth 10000
set_option maxHeartbeats 800000 in
theorem rdouble_ok (w:World)(x:Value)(bs:List Int)(hx:Rd w x bs)(hb:byt bs)(hl:bs.length≤100000000):
  Calls Tryz.prog 63 #[x] w (Ret fun u w'=>u=.agg (bv (dblF bs)).toArray∧Ext w w'):=by
 refine calls_of_cfg c63_ok (Nat.le_of_ble_eq_true rfl) ?_
 simp only[argE_nil,argE_cons,Nat.zero_add]
 (refine W_at c63_ok ⟨_,rfl,?_⟩;simp (disch:=first|omega|assumption|rfl|(simp only[vcS]<;>omega)|fail) only[↓vcN,vcQ,simprocAttr])
 have hE0:Ext w (w.alloc (.cells (zc [(32,.int .u8 0)]) 22)):=(Keep.refl _ w).alloc _
 have hp2:(w.alloc (.cells (zc [(32,.int .u8 0)]) 22)).heap[w.heap.size]?=some (.cells (bv (List.replicate 32 0)).toArray 22 (0,0)):=heap_new _ _ _ rfl
 generalize World.alloc _ _=w1 at hE0 hp2⊢
 generalize hp2e:w.heap.size=p2 at hp2⊢
 (refine W_at c63_ok ⟨_,rfl,?_⟩;simp (disch:=first|omega|assumption|rfl|(simp only[vcS]<;>omega)|fail) only[↓vcN,vcQ,simprocAttr])
 refine callV_ret (rsum_ok w1 x bs (hx.ext hE0) hb hl) ?_
 rintro _ w2 ⟨rfl,hE2⟩
 have s32:(bv (shaF bs)).toArray.size=32:=by rw[bva_size,shaF_len]
 have hp22:=hE2.at hp2 (fun h=>h)
 simp (disch:=first|omega|assumption|rfl|(simp only[vcS]<;>omega)|fail) only[↓vcN,vcQ,simprocAttr,s32]
 have hE3:Ext w2 ((w2.alloc (.cells (zc [(32,.int .u8 0)]) 22)).putN w2.heap.size 0 (bv (shaF bs)).toArray):=((Keep.refl _ w2).alloc _).putN _ (by intro hh;exfalso;omega)
 have hp3:((w2.alloc (.cells (zc [(32,.int .u8 0)]) 22)).putN w2.heap.size 0 (bv (shaF bs)).toArray).heap[w2.heap.size]?=some (.cells (bv (shaF bs)).toArray 22 (0,0)):=by
  rw[heap_putN_eq (heap_new _ _ _ rfl),z32,splice_all (by rw[bva_size,bva_size,shaF_len];rfl)]
 refine⟨bv_flat _,?_⟩
 have hp2l:=lt_of_heap hp22
 generalize World.putN _ _ _ _=w3 at hE3 hp3⊢
 generalize w2.heap.size=p3 at hp3 hp2l⊢
 have hrd:=arr_rd hp3 (by rw[shaF_len];decide)
 rw[shaF_len] at hrd
 have hp23:=hE3.at hp22 (fun h=>h)
 (refine W_at c63_ok ⟨_,rfl,?_⟩;simp (disch:=first|omega|assumption|rfl|(simp only[vcS]<;>omega)|fail) only[↓vcN,vcQ,simprocAttr,Nat.sub_zero])
 refine callV_ret (rsum_ok w3 _ (shaF bs) hrd (shaF_byt bs) (by rw[shaF_len];omega)) ?_
 rintro _ w4 ⟨rfl,hE4⟩
 have s322:(bv (shaF (shaF bs))).toArray.size=32:=by rw[bva_size,shaF_len]
 have hp24:=hE4.at hp23 (fun h=>h)
 have hok:okO (some (.cells (bv (List.replicate 32 0)).toArray 22 (0,0))) 0 32=True:=by simp only[okO,bva_size,List.length_replicate];simp
 simp (disch:=first|omega|assumption|rfl|(simp only[vcS]<;>omega)|fail) only[↓vcA,vcB,vcM,s322,hp24,hok]
 have k5:Keep (fun y=>y=p2) w4 (w4.putN p2 0 (bv (shaF (shaF bs))).toArray):=(Keep.refl _ w4).putN _ fun _=>rfl
 have hp25:(w4.putN p2 0 (bv (shaF (shaF bs))).toArray).heap[p2]?=some (.cells (bv (shaF (shaF bs))).toArray 22 (0,0)):=by
  rw[heap_putN_eq hp24,splice_all (by rw[bva_size,bva_size,shaF_len];rfl)]
 refine⟨bv_flat _,?_⟩
 generalize World.putN _ _ _ _=w5 at k5 hp25⊢
 have hr32:rdO (some (.cells (bv (shaF (shaF bs))).toArray 22 (0,0))) 0 32=some (bv (shaF (shaF bs))).toArray:=rdO_all _ _ _ _ s322
 (refine W_at c63_ok ?_;refine⟨_,rfl,?_⟩;simp (disch:=first|omega|assumption|rfl|(simp only[vcS]<;>omega)|fail) only[↓vcA,vcB,↓reduceIte,Option.bind_some,Option.map_some,vcM,Ret_returned,hp25,hr32])
 exact⟨rfl,(((hE0.ext hE2).ext hE3).ext hE4).trans k5 fun i hi e=>by omega⟩
end Go.Proofs
namespace Go.Proofs
open Go.Vc
set_option maxRecDepth 10000
theorem num_enc (k:Nat)(x:Int)(rest:List Int)(h0:0≤x)(h1:x<256^k):numR k (lowF k x++rest)=.ok (x,rest):=by
 have hl:=lowF_len k x
 unfold numR
 rw[if_pos (by rw[List.length_append];omega),List.take_left' hl,List.drop_left' hl,valF_lowF k x h0 h1]
theorem sz_enc (n:Int)(rest:List Int)(h0:0≤n)(h1:n<65536):szR (sizeF n++rest)=.ok (n,rest):=by
 unfold sizeF
 by_cases a1:n<253
 ·rw[if_pos a1]
  simp only[List.cons_append,List.nil_append,szR,if_pos a1]
 rw[if_neg a1,if_pos h1]
 have hl:=lowF_len 2 n
 have ht:((lowF 2 n++rest).take 2)=lowF 2 n:=List.take_left' hl
 have hd:((lowF 2 n++rest).drop 2)=rest:=List.drop_left' hl
 have hlen:¬(lowF 2 n++rest).length<2:=by rw[List.length_append];omega
 have hw:wideF n=2:=by unfold wideF;rw[if_neg a1,if_pos h1]
 have hk:szK 253=2:=rfl
 have hv:valF (lowF 2 n)=n:=valF_lowF 2 n h0 (by omega)
 have hn:¬(253:Int)<253:=by decide
 simp only[List.cons_append,szR,if_neg hn,hk,if_neg hlen,ht,hd,hv,hw,ne_eq]
 rw[if_neg (by decide),if_neg (by omega)]
theorem raw_enc (b rest:List Int):rawR b.length (b++rest)=.ok (b,rest):=by
 unfold rawR
 rw[Int.toNat_natCast,if_pos (by rw[List.length_append];omega),List.take_left' rfl,List.drop_left' rfl]
theorem byt_enc (m:Int)(b rest:List Int)(h:b.length<65536)(hm:(b.length:Int)≤m):bytR m (sizeF b.length++b++rest)=.ok (b,rest):=by
 unfold bytR
 rw[List.append_assoc,sz_enc _ _ (by omega) (by omega)]
 simp only
 rw[if_neg (by omega),raw_enc]
def RS (m:Nat)(w:World)(r:Nat)(bs:List Int):Prop:=r<m∧m≤w.heap.size∧∃B v,RAt w r B v bs 0∧B<m∧byt bs∧bs.length≤1000000
theorem RS.keep {S:Nat→Prop}{m:Nat}{w w':World}{r:Nat}{bs:List Int}(h:RS m w r bs)(k:Keep S w w')(hS:∀g,S g→m≤g):RS m w' r bs:=by
 obtain⟨h0,hm,B,v,h1,h2,h3⟩:=h
 exact⟨h0,Nat.le_trans hm k.size,B,v,h1.keep k (fun hs=>by have:=hS _ hs;omega) (fun hb hs=>by have:=hS _ hs;omega),h2,h3⟩
theorem RS.ext {m:Nat}{w w':World}{r:Nat}{bs:List Int}(h:RS m w r bs)(k:Ext w w'):RS m w' r bs:=h.keep k fun _ h=>h.elim
structure Stp (m:Nat)(w w':World)(r:Nat)(rest:List Int):Prop where
 keep:Keep (fun i=>i=r) w w'
 rs:RS m w' r rest
theorem byt_rest {a b:List Int}(h:byt (a++b)):byt b:=fun x hx=>h x (List.mem_append.2 (.inr hx))
theorem RTo.stp {α:Type}{w w':World}{r B:Nat}{v:Value}{bs rest:List Int}{x:Except Int (α×List Int)}{φ:α→Value→World→Prop}{z u:Value}{a:α}(h:RTo w w' r B v bs 0 x φ z u)(hx:x=.ok (a,rest)){m:Nat}(hr:r<m)(hm:m≤w.heap.size)(hB:B<m)(hb:byt rest)(hl:rest.length≤1000000):φ a u w'∧Stp m w w' r rest:=by
 obtain⟨h1,v',h2⟩:=h.ok rfl a rest hx
 exact⟨h1,h.keep,hr,Nat.le_trans hm h.keep.size,B,v',h2,hB,hb,hl⟩
theorem s8_ok (m:Nat)(w:World)(r:Nat)(x:Int)(rest:List Int)(hx:0≤x∧x≤255)(h:RS m w r (lowF 1 x++rest)):
  Calls Tryz.prog 92 #[.pointer (some ⟨r,0,none⟩)] w (Ret fun u w'=>u=.int .u8 x∧Stp m w w' r rest):=by
 obtain⟨h5,h6,B,v,h1,h2,h3,h4⟩:=h
 refine(ru8_ok w r B v _ 0 h1 (by omega) h3).mono ?_
 rintro en w' ⟨u,rfl,hT⟩
 exact⟨u,rfl,hT.stp (num_enc 1 x rest hx.1 (by omega)) h5 h6 h2 (byt_rest h3) (by rw[List.length_append] at h4;omega)⟩
theorem s32_ok (m:Nat)(w:World)(r:Nat)(x:Int)(rest:List Int)(hx:0≤x∧x≤4294967295)(h:RS m w r (lowF 4 x++rest)):
  Calls Tryz.prog 80 #[.pointer (some ⟨r,0,none⟩)] w (Ret fun u w'=>u=.int .u32 x∧Stp m w w' r rest):=by
 obtain⟨h5,h6,B,v,h1,h2,h3,h4⟩:=h
 refine(ru32_ok w r B v _ 0 h1 (by omega) h3).mono ?_
 rintro en w' ⟨u,rfl,hT⟩
 exact⟨u,rfl,hT.stp (num_enc 4 x rest hx.1 (by omega)) h5 h6 h2 (byt_rest h3) (by rw[List.length_append] at h4;omega)⟩
theorem s64_ok (m:Nat)(w:World)(r:Nat)(x:Int)(rest:List Int)(hx:0≤x∧x≤18446744073709551615)(h:RS m w r (lowF 8 x++rest)):
  Calls Tryz.prog 128 #[.pointer (some ⟨r,0,none⟩)] w (Ret fun u w'=>u=.int .u64 x∧Stp m w w' r rest):=by
 obtain⟨h5,h6,B,v,h1,h2,h3,h4⟩:=h
 refine(ru64_ok w r B v _ 0 h1 (by omega) h3).mono ?_
 rintro en w' ⟨u,rfl,hT⟩
 exact⟨u,rfl,hT.stp (num_enc 8 x rest hx.1 (by omega)) h5 h6 h2 (byt_rest h3) (by rw[List.length_append] at h4;omega)⟩
theorem sSize_ok (m:Nat)(w:World)(r:Nat)(x:Int)(rest:List Int)(hx:0≤x∧x<65536)(h:RS m w r (sizeF x++rest)):
  Calls Tryz.prog 40 #[.pointer (some ⟨r,0,none⟩)] w (Ret fun u w'=>u=.int .u64 x∧Stp m w w' r rest):=by
 obtain⟨h5,h6,B,v,h1,h2,h3,h4⟩:=h
 refine(rSize_ok w r B v _ 0 h1 (by omega) h3).mono ?_
 rintro en w' ⟨u,rfl,hT⟩
 exact⟨u,rfl,hT.stp (sz_enc x rest hx.1 hx.2) h5 h6 h2 (byt_rest h3) (by rw[List.length_append] at h4;omega)⟩
theorem sRaw_ok (m:Nat)(w:World)(r:Nat)(p rest:List Int)(h:RS m w r (p++rest)):
  Calls Tryz.prog 81 #[.pointer (some ⟨r,0,none⟩),.int .i64 p.length] w (Ret fun u w'=>OwnN w.heap.size p u w'∧Stp m w w' r rest):=by
 obtain⟨h5,h6,B,v,h1,h2,h3,h4⟩:=h
 refine(rRaw_ok w r B v _ 0 _ h1 (by omega) (by omega)).mono ?_
 rintro en w' ⟨u,rfl,hT⟩
 exact⟨u,rfl,hT.stp (raw_enc p rest) h5 h6 h2 (byt_rest h3) (by rw[List.length_append] at h4;omega)⟩
theorem sBytes_ok (m:Nat)(w:World)(r:Nat)(mx:Int)(p rest:List Int)(hp:p.length<65536)(hm:(p.length:Int)≤mx)(h:RS m w r (sizeF p.length++p++rest)):
  Calls Tryz.prog 41 #[.pointer (some ⟨r,0,none⟩),.int .i64 mx] w (Ret fun u w'=>OwnN w.heap.size p u w'∧Stp m w w' r rest):=by
 obtain⟨h5,h6,B,v,h1,h2,h3,h4⟩:=h
 refine(rBytes_ok w r B v _ 0 mx h1 (by omega) h3 (by omega)).mono ?_
 rintro en w' ⟨u,rfl,hT⟩
 exact⟨u,rfl,hT.stp (byt_enc mx p rest hp hm) h5 h6 h2 (byt_rest h3) (by rw[List.length_append] at h4;omega)⟩
theorem sErr_ok (m:Nat)(w:World)(r:Nat)(bs:List Int)(h:RS m w r bs):
  Calls Tryz.prog 42 #[.pointer (some ⟨r,0,none⟩)] w (Ret fun u w'=>u=.int .i64 0∧w'=w):=by
 obtain⟨h5,h6,B,v,h1,h2,h3,h4⟩:=h
 exact err_ok w r B v bs 0 h1
theorem sClose_ok (m:Nat)(w:World)(r:Nat)(h:RS m w r []):
  Calls Tryz.prog 43 #[.pointer (some ⟨r,0,none⟩)] w (Ret fun u w'=>u=.int .i64 0∧w'=w):=by
 obtain⟨h5,h6,B,v,h1,h2,h3,h4⟩:=h
 exact close_ok w r B v [] 0 h1
theorem sLeft_ok (m:Nat)(w:World)(r:Nat)(h:RS m w r []):
  Calls Tryz.prog 101 #[.pointer (some ⟨r,0,none⟩)] w (Ret fun u w'=>u=.int .i64 0∧w'=w):=by
 obtain⟨h5,h6,B,v,h1,h2,h3,h4⟩:=h
 exact left_ok w r B v [] 0 h1
theorem sOpen_ok (w:World)(x:Value)(bs:List Int)(hx:Rd w x bs)(hb:byt bs)(hl:bs.length≤1000000):
  Calls Tryz.prog 38 #[x] w (Ret fun u w'=> ∃r,u=.pointer (some ⟨r,0,none⟩)∧RS w'.heap.size w' r bs∧Ext w w'∧w.heap.size≤r):=by
 refine(open_ok w x bs hx (by omega)).mono ?_
 rintro en w' ⟨u,rfl,r,B,v,rfl,h1,h2,h3,h4,h5⟩
 exact⟨_,rfl,r,rfl,⟨h1.lt,Nat.le_refl _,B,v,h1,h5,hb,hl⟩,h2,h3⟩
theorem encH_byt {h:HdV}(ho:h.Ok):byt (encH h):=by
 unfold encH
 exact byt_app (byt_app (byt_app (byt_app (byt_app (lowF_byt _ _) ho.prev) ho.merkle) (lowF_byt _ _)) (lowF_byt _ _)) (lowF_byt _ _)
theorem hid_ok (w:World)(h:HdV)(ho:h.Ok):Calls Tryz.prog 8 #[.agg (hC h)] w (Ret fun u w'=>u=.agg (bv (dblF (encH h))).toArray∧Ext w w'):=by
 refine calls_of_cfg c8_ok (Nat.le_of_ble_eq_true rfl) ?_
 simp only[argE_nil,argE_cons,Nat.zero_add]
 have hcs:=hC_size ho
 have hcf:=hC_flat h
 have hcx:(Value.agg (hC h)).cells=hC h:=rfl
 (refine W_at c8_ok ⟨_,rfl,?_⟩;simp (disch:=first|omega|assumption|rfl|(simp only[vcS]<;>omega)|fail) only[↓vcN,vcQ,simprocAttr,hcx])
 have hE1:Ext w (w.alloc (.cells (hC h) 26)):=(Keep.refl _ w).alloc _
 have c1:(w.alloc (.cells (hC h) 26)).heap[w.heap.size]?=some (.cells (hC h) 26 (0,0)):=heap_new _ _ _ rfl
 have s1:(w.alloc (.cells (hC h) 26)).heap.size=w.heap.size+1:=size_alloc _ _
 generalize World.alloc w _=w1 at hE1 c1 s1⊢
 have hE2:Ext w1 (w1.alloc (.cells (zc [(32,.int .u8 0)]) 23)):=(Keep.refl _ w1).alloc _
 have c2:(w1.alloc (.cells (zc [(32,.int .u8 0)]) 23)).heap[w.heap.size+1]?=some (.cells (zc [(32,.int .u8 0)]) 23 (0,0)):=heap_new _ _ _ s1.symm
 generalize World.alloc w1 _=w2 at hE2 c2⊢
 have c12:=hE2.at c1 (fun h=>h)
 have hE:=hE1.ext hE2
 have r68:rdO (some (.cells (hC h) 26 (0,0))) 0 68=some (hC h):=rdO_all _ _ _ _ hcs
 have l2:w.heap.size≤w.heap.size+1:=by omega
 generalize w.heap.size+1=p2 at c2 l2⊢
 (refine W_at c8_ok ⟨_,rfl,?_⟩;simp (disch:=first|omega|assumption|rfl|(simp only[vcS]<;>omega)|fail) only[↓vcX,ptS2_eq,vcQ,simprocAttr,c12,r68])
 refine callV_ret (encodeHeader_ok w2 h ho) ?_
 intro u w3 hu
 simp (disch:=first|omega|assumption|rfl|(simp only[vcS]<;>omega)|fail) only[↓vcY,ptS1_eq,vcQ,simprocAttr]
 refine callV_ret (double_ok w3 u _ hu.own.rd (encH_byt ho) (by rw[encH_len ho];omega)) ?_
 rintro _ w4 ⟨rfl,hE4⟩
 have c24:=hE4.at (hu.ext.at c2 (fun h=>h)) (fun h=>h)
 have hzz:(zc [(32,Value.int .u8 0)]).size=32:=rfl
 have s32:(bv (dblF (encH h))).toArray.size=32:=by rw[bva_size,dblF_len]
 have o32:okO (some (.cells (zc [(32,.int .u8 0)]) 23 (0,0))) 0 32=True:=by simp only[okO,hzz];simp
 first|(simp (disch:=first|omega|assumption|rfl|(simp only[vcS]<;>omega)|fail) only[↓vcX,ptS2_eq,vcQ,simprocAttr,c24,s32,o32])|skip
 refine⟨bv_flat _,?_⟩
 have d9:(w4.putN p2 0 (bv (dblF (encH h))).toArray).heap[p2]?=some (.cells (bv (dblF (encH h))).toArray 23 (0,0)):=by
  rw[heap_putN_eq c24,splice_all (by rw[s32];rfl)]
 have hr32:rdO (some (.cells (bv (dblF (encH h))).toArray 23 (0,0))) 0 32=some (bv (dblF (encH h))).toArray:=rdO_all _ _ _ _ s32
 (refine W_at c8_ok ⟨_,rfl,?_⟩;simp (disch:=first|omega|assumption|rfl|(simp only[vcS]<;>omega)|fail) only[↓vcN,vcQ,simprocAttr,d9,hr32,Ret_returned])
 exact((hE.ext hu.ext).ext hE4).trans ((Keep.refl (fun g=>g=p2) w4).putN _ fun _=>rfl) fun g hg e=>by omega
theorem rhid_ok (w:World)(h:HdV)(ho:h.Ok):Calls Tryz.prog 24 #[.agg (hC h)] w (Ret fun u w'=>u=.agg (bv (dblF (encH h))).toArray∧Ext w w'):=by
 refine calls_of_cfg c24_ok (Nat.le_of_ble_eq_true rfl) ?_
 simp only[argE_nil,argE_cons,Nat.zero_add]
 have hcs:=hC_size ho
 have hcf:=hC_flat h
 have hcx:(Value.agg (hC h)).cells=hC h:=rfl
 (refine W_at c24_ok ⟨_,rfl,?_⟩;simp (disch:=first|omega|assumption|rfl|(simp only[vcS]<;>omega)|fail) only[↓vcN,vcQ,simprocAttr,hcx])
 have hE1:Ext w (w.alloc (.cells (hC h) 26)):=(Keep.refl _ w).alloc _
 have c1:(w.alloc (.cells (hC h) 26)).heap[w.heap.size]?=some (.cells (hC h) 26 (0,0)):=heap_new _ _ _ rfl
 have s1:(w.alloc (.cells (hC h) 26)).heap.size=w.heap.size+1:=size_alloc _ _
 generalize World.alloc w _=w1 at hE1 c1 s1⊢
 have hE2:Ext w1 (w1.alloc (.cells (zc [(32,.int .u8 0)]) 22)):=(Keep.refl _ w1).alloc _
 have c2:(w1.alloc (.cells (zc [(32,.int .u8 0)]) 22)).heap[w.heap.size+1]?=some (.cells (zc [(32,.int .u8 0)]) 22 (0,0)):=heap_new _ _ _ s1.symm
 generalize World.alloc w1 _=w2 at hE2 c2⊢
 have c12:=hE2.at c1 (fun h=>h)
 have hE:=hE1.ext hE2
 have r68:rdO (some (.cells (hC h) 26 (0,0))) 0 68=some (hC h):=rdO_all _ _ _ _ hcs
 have l2:w.heap.size≤w.heap.size+1:=by omega
 generalize w.heap.size+1=p2 at c2 l2⊢
 (refine W_at c24_ok ⟨_,rfl,?_⟩;simp (disch:=first|omega|assumption|rfl|(simp only[vcS]<;>omega)|fail) only[↓vcX,ptS2_eq,vcQ,simprocAttr,c12,r68])
 refine callV_ret (rencodeHeader_ok w2 h ho) ?_
 intro u w3 hu
 simp (disch:=first|omega|assumption|rfl|(simp only[vcS]<;>omega)|fail) only[↓vcY,ptS1_eq,vcQ,simprocAttr]
 refine callV_ret (rdouble_ok w3 u _ hu.own.rd (encH_byt ho) (by rw[encH_len ho];omega)) ?_
 rintro _ w4 ⟨rfl,hE4⟩
 have c24:=hE4.at (hu.ext.at c2 (fun h=>h)) (fun h=>h)
 have hzz:(zc [(32,Value.int .u8 0)]).size=32:=rfl
 have s32:(bv (dblF (encH h))).toArray.size=32:=by rw[bva_size,dblF_len]
 have o32:okO (some (.cells (zc [(32,.int .u8 0)]) 22 (0,0))) 0 32=True:=by simp only[okO,hzz];simp
 first|(simp (disch:=first|omega|assumption|rfl|(simp only[vcS]<;>omega)|fail) only[↓vcX,ptS2_eq,vcQ,simprocAttr,c24,s32,o32])|skip
 refine⟨bv_flat _,?_⟩
 have d9:(w4.putN p2 0 (bv (dblF (encH h))).toArray).heap[p2]?=some (.cells (bv (dblF (encH h))).toArray 22 (0,0)):=by
  rw[heap_putN_eq c24,splice_all (by rw[s32];rfl)]
 have hr32:rdO (some (.cells (bv (dblF (encH h))).toArray 22 (0,0))) 0 32=some (bv (dblF (encH h))).toArray:=rdO_all _ _ _ _ s32
 (refine W_at c24_ok ⟨_,rfl,?_⟩;simp (disch:=first|omega|assumption|rfl|(simp only[vcS]<;>omega)|fail) only[↓vcN,vcQ,simprocAttr,d9,hr32,Ret_returned])
 exact((hE.ext hu.ext).ext hE4).trans ((Keep.refl (fun g=>g=p2) w4).putN _ fun _=>rfl) fun g hg e=>by omega
end Go.Proofs
namespace Go.Proofs
open Go.Vc
set_option maxRecDepth 10000
theorem spliceA_nil (a:Array Value)(o:Nat):spliceA a o #[]=a:=by
 apply Array.ext'
 simp [spliceA]
theorem cpy_in {w:World}{b o n cap:Nat}{x:Value}{bs:List Int}{cur:Array Value}{t:TypeId}{K:Value→World→Prop}(hb:w.heap[b]?=some (.cells cur t (0,0)))(ho:o+n≤cur.size)(hx:Rd w x bs)(hl:bs.length≤n)
  (hk:∀w',w'.heap[b]?=some (.cells (spliceA cur o (bv bs).toArray) t (0,0))→Keep (fun k=>k=b) w w'→K (.int .i64 (bs.length:Nat)) w'):cpyV 1 (.slice (some ⟨b,o,none⟩) n cap) x w K:=by
 obtain⟨⟨q,c,rfl,hc⟩,hm,hr⟩:=hx
 have hmin:Nat.min bs.length n=bs.length:=Nat.min_eq_left hl
 unfold cpyV
 simp only[hmin,hr,getV_some,Nat.mul_one]
 refine⟨bv_flat bs,fun h0=>?_,fun h0=>⟨b,o,rfl,okN_of hb (by omega),hk _ (heap_putN_eq hb) ((Keep.refl _ w).putN _ fun _=>rfl)⟩⟩
 have:bs=[]:=List.eq_nil_of_length_eq_zero h0
 subst this
 refine hk w ?_ (Keep.refl _ w)
 rw[hb]
 have e:(bv []).toArray=(#[]:Array Value):=rfl
 rw[e,spliceA_nil]
structure HdV.Len (h:HdV):Prop where
 p:h.prev.length=32
 m:h.merkle.length=32
theorem hC_sz {h:HdV}(ho:h.Len):(hC h).size=68:=by simp [hC,bv_len,ho.p,ho.m]
theorem hC_spl1 {h:HdV}(ho:h.Len){p:List Int}(hp:p.length=32):spliceA (hC h) 1 (bv p).toArray=hC {h with prev:=p}:=by
 apply Array.ext'
 simp [spliceA,hC,List.take_append,bv_len,ho.p,ho.m,hp]
theorem hC_spl33 {h:HdV}(ho:h.Len){p:List Int}(hp:p.length=32):spliceA (hC h) 33 (bv p).toArray=hC {h with merkle:=p}:=by
 apply Array.ext'
 simp [spliceA,hC,List.drop_append,bv_len,ho.p,ho.m,hp]
theorem hC_set65 {h:HdV}(ho:h.Len)(n:Int):(hC h).setIfInBounds 65 (.int .u32 n)=hC {h with time:=n}:=by
 simp [hC,List.set_append_right,bv_len,ho.p,ho.m]
theorem hC_set66 {h:HdV}(ho:h.Len)(n:Int):(hC h).setIfInBounds 66 (.int .u32 n)=hC {h with bits:=n}:=by
 simp [hC,List.set_append_right,bv_len,ho.p,ho.m]
theorem hC_set67 {h:HdV}(ho:h.Len)(n:Int):(hC h).setIfInBounds 67 (.int .u32 n)=hC {h with nonce:=n}:=by
 simp [hC,List.set_append_right,bv_len,ho.p,ho.m]
def Z32:List Int:=List.replicate 32 0
def hZ (v:Int):HdV:=⟨v,Z32,Z32,0,0,0⟩
theorem hZ_len (v:Int):(hZ v).Len:=⟨rfl,rfl⟩
theorem wrap_i32_back {v:Int}(h: -2147483648≤v∧v≤2147483647):IntKind.i32.wrap (v%4294967296)=v:=by
 have e:v%4294967296%2^IntKind.i32.bits=v%2^IntKind.i32.bits:=by
  show v%4294967296%4294967296=v%4294967296
  omega
 have e2:IntKind.i32.wrap (v%4294967296)=IntKind.i32.wrap v:=by simp only[IntKind.wrap,e]
 rw[e2,wrap_i32 h.1 h.2]
set_option maxHeartbeats 400000 in
theorem header_ok (m:Nat)(w:World)(r:Nat)(h:HdV)(rest:List Int)(ho:h.Ok)(hR:RS m w r (encH h++rest)):
  Calls Tryz.prog 39 #[.pointer (some ⟨r,0,none⟩)] w (Ret fun u w'=>u=.agg (hC h)∧Stp m w w' r rest):=by
 refine calls_of_cfg c39_ok (Nat.le_of_ble_eq_true rfl) ?_
 simp only[argE_nil,argE_cons,Nat.zero_add]
 unfold encH at hR
 simp only[List.append_assoc] at hR
 have hv:=ho.ver
 have hvb:=wrap_i32_back hv
 (refine W_at c39_ok ⟨_,rfl,?_⟩;simp (disch:=first|omega|assumption|rfl|(simp only[vcS]<;>omega)|fail) only[↓vcN,vcQ,simprocAttr])
 have hE1:Ext w (w.alloc (.cells (zc [(1,.int .i32 0),(64,.int .u8 0),(3,.int .u32 0)]) 26)):=(Keep.refl _ w).alloc _
 have c1:(w.alloc (.cells (zc [(1,.int .i32 0),(64,.int .u8 0),(3,.int .u32 0)]) 26)).heap[w.heap.size]?=some (.cells (zc [(1,.int .i32 0),(64,.int .u8 0),(3,.int .u32 0)]) 26 (0,0)):=heap_new _ _ _ rfl
 have l1:w.heap.size≤w.heap.size:=Nat.le_refl _
 have hrlt:=hR.1
 have hmle:=hR.2.1
 generalize World.alloc _ _=w1 at hE1 c1⊢
 generalize hp2:w.heap.size=p2 at c1 l1⊢
 have c1lt:=lt_of_heap c1
 (refine W_at c39_ok ⟨_,rfl,?_⟩;simp (disch:=first|omega|assumption|rfl|(simp only[vcS]<;>omega)|fail) only[↓vcN,vcQ,simprocAttr])
 refine callV_ret (s32_ok m w1 r (h.ver%4294967296) _ (by omega) (hR.ext hE1)) ?_
 rintro _ w2 ⟨rfl,hS2⟩
 have c2:=hS2.keep.at c1 (by omega)
 have hc3:(#[Value.int .i32 h.ver]:Array Value)++zc [(64,.int .u8 0),(3,.int .u32 0)]=hC (hZ h.ver):=by kernel_rfl
 first|(simp (disch:=first|omega|assumption|rfl|(simp only[vcS]<;>omega)|fail) only[↓vcN,vcQ,simprocAttr,hvb,hc3])|skip
 refine⟨hC_sz (hZ_len _),hC_flat _,(by decide),?_⟩
 have hz0:=hC_sz (hZ_len h.ver)
 have hE3:Ext w2 ((w2.alloc (.cells (zc [(1,.int .i32 0),(64,.int .u8 0),(3,.int .u32 0)]) 26)).putN w2.heap.size 0 (hC (hZ h.ver))):=((Keep.refl _ w2).alloc _).putN _ (by intro hh;exfalso;omega)
 have c3:((w2.alloc (.cells (zc [(1,.int .i32 0),(64,.int .u8 0),(3,.int .u32 0)]) 26)).putN w2.heap.size 0 (hC (hZ h.ver))).heap[w2.heap.size]?=some (.cells (hC (hZ h.ver)) 26 (0,0)):=by
  rw[heap_putN_eq (heap_new _ _ _ rfl),splice_all (by rw[hz0];rfl)]
 have c23:=hE3.at c2 (fun h=>h)
 have hS3:=hS2.rs.ext hE3
 have hws:=hS2.keep.size
 have hp3:w1.heap.size≤w2.heap.size:=hws
 have hK3:Keep (fun i=>i=r) w ((w2.alloc (.cells (zc [(1,.int .i32 0),(64,.int .u8 0),(3,.int .u32 0)]) 26)).putN w2.heap.size 0 (hC (hZ h.ver))):=((hE1.mono fun _ h=>h.elim).trans hS2.keep fun _ _ h=>h).ext hE3
 generalize World.putN _ _ _ _=w3 at hE3 c3 c23 hS3 hK3⊢
 clear c2 hE3 hS2 c1
 generalize hp3e:w2.heap.size=p3 at c3 hp3⊢
 have hpr:p3≠r:=by omega
 have hp32:p3≠p2:=by omega
 have hS3d:=hS3.ext ((Keep.refl _ w3).drew)
 have c3d:=((Keep.refl (fun _=>False) w3).drew).at c3 (fun h=>h)
 have hK3d:=hK3.ext ((Keep.refl _ w3).drew)
 have c23d:=((Keep.refl (fun _=>False) w3).drew).at c23 (fun h=>h)
 (refine W_at c39_ok ⟨_,rfl,?_⟩;simp (disch:=first|omega|assumption|rfl|(simp only[vcS]<;>omega)|fail) only[↓vcN,vcQ,simprocAttr])
 clear c3 hS3 hK3 c23
 generalize w3.drew=w4 at hS3d c3d hK3d c23d⊢
 refine callV_ret (by have:=sRaw_ok m w4 r h.prev _ hS3d;rw[ho.plen] at this;exact this) ?_
 rintro u5 w5 ⟨hO5,hS5⟩
 first|(simp (disch:=first|omega|assumption|rfl|(simp only[vcS]<;>omega)|fail) only[↓vcN,vcQ,simprocAttr])|skip
 have c35:=hS5.keep.at c3d hpr
 have c25:=hS5.keep.at c23d (by omega)
 refine cpy_in c35 (by rw[hz0];omega) hO5.1.rd (by rw[ho.plen];omega) fun w6 c36 k6=>?_
 rw[hC_spl1 (hZ_len _) ho.plen] at c36
 change w6.heap[p3]?=some (.cells (hC ⟨h.ver,h.prev,Z32,0,0,0⟩) 26 (0,0)) at c36
 have hl6:HdV.Len ⟨h.ver,h.prev,Z32,0,0,0⟩:=⟨ho.plen,rfl⟩
 have hS6:=hS5.rs.keep k6 fun g hg=>by omega
 have c26:=k6.at c25 (by omega)
 have hK6:=(hK3d.trans hS5.keep fun _ _ h=>h).trans k6 fun i hi e=>by omega
 clear c35 c25 hS5 hO5 k6 hK3d c23d hS3d c3d
 first|(simp (disch:=first|omega|assumption|rfl|(simp only[vcS]<;>omega)|fail) only[↓vcN,vcQ,simprocAttr])|skip
 have hS6d:=hS6.ext ((Keep.refl _ w6).drew)
 have c36d:=((Keep.refl (fun _=>False) w6).drew).at c36 (fun h=>h)
 have hK6d:=hK6.ext ((Keep.refl _ w6).drew)
 have c26d:=((Keep.refl (fun _=>False) w6).drew).at c26 (fun h=>h)
 (refine W_at c39_ok ⟨_,rfl,?_⟩;simp (disch:=first|omega|assumption|rfl|(simp only[vcS]<;>omega)|fail) only[↓vcN,vcQ,simprocAttr])
 clear c36 hS6 hK6 c26
 generalize w6.drew=w7 at hS6d c36d hK6d c26d⊢
 refine callV_ret (by have:=sRaw_ok m w7 r h.merkle _ hS6d;rw[ho.mlen] at this;exact this) ?_
 rintro u8 w8 ⟨hO8,hS8⟩
 first|(simp (disch:=first|omega|assumption|rfl|(simp only[vcS]<;>omega)|fail) only[↓vcN,vcQ,simprocAttr])|skip
 have c38:=hS8.keep.at c36d hpr
 have c28:=hS8.keep.at c26d (by omega)
 refine cpy_in c38 (by rw[hC_sz hl6];omega) hO8.1.rd (by rw[ho.mlen];omega) fun w9 c39 k9=>?_
 rw[hC_spl33 hl6 ho.mlen] at c39
 change w9.heap[p3]?=some (.cells (hC ⟨h.ver,h.prev,h.merkle,0,0,0⟩) 26 (0,0)) at c39
 have hl9:HdV.Len ⟨h.ver,h.prev,h.merkle,0,0,0⟩:=⟨ho.plen,ho.mlen⟩
 have hS9:=hS8.rs.keep k9 fun g hg=>by omega
 have c29:=k9.at c28 (by omega)
 have hK9:=(hK6d.trans hS8.keep fun _ _ h=>h).trans k9 fun i hi e=>by omega
 clear c38 c28 hS8 hO8 k9 hK6d c26d hS6d c36d
 first|(simp (disch:=first|omega|assumption|rfl|(simp only[vcS]<;>omega)|fail) only[↓vcN,vcQ,simprocAttr])|skip
 (refine W_at c39_ok ⟨_,rfl,?_⟩;simp (disch:=first|omega|assumption|rfl|(simp only[vcS]<;>omega)|fail) only[↓vcN,vcQ,simprocAttr])
 refine callV_ret (s32_ok m w9 r h.time _ ho.time hS9) ?_
 rintro _ wa ⟨rfl,hSa⟩
 have c3a:=hSa.keep.at c39 hpr
 have c2a:=hSa.keep.at c29 (by omega)
 have oa:=wr1_of (o:=65) c3a (by rw[hC_sz hl9];omega)
 have ka:Keep (fun i=>i=p3) wa (wa.setCell ⟨p3,65,none⟩ (.int .u32 h.time)):=(Keep.refl _ wa).setCell _ fun _=>rfl
 have c3b:(wa.setCell ⟨p3,65,none⟩ (.int .u32 h.time)).heap[p3]?=some (.cells (hC ⟨h.ver,h.prev,h.merkle,h.time,0,0⟩) 26 (0,0)):=by
  rw[heap_setCell_eq c3a,hC_set65 hl9]
 first|(simp (disch:=first|omega|assumption|rfl|(simp only[vcS]<;>omega)|fail) only[↓vcN,vcQ,simprocAttr,oa])|skip
 have hSb:=hSa.rs.keep ka fun g hg=>by omega
 have c2b:=ka.at c2a (by omega)
 have hKb:=(hK9.trans hSa.keep fun _ _ h=>h).trans ka fun i hi e=>by omega
 generalize World.setCell _ _ _=wb at hSb c2b hKb c3b⊢
 clear ka oa c3a c2a hSa hK9 c39 c29 hS9
 have hlb:HdV.Len ⟨h.ver,h.prev,h.merkle,h.time,0,0⟩:=⟨ho.plen,ho.mlen⟩
 (refine W_at c39_ok ⟨_,rfl,?_⟩;simp (disch:=first|omega|assumption|rfl|(simp only[vcS]<;>omega)|fail) only[↓vcN,vcQ,simprocAttr])
 refine callV_ret (s32_ok m wb r h.bits _ ho.bits hSb) ?_
 rintro _ wc ⟨rfl,hSc⟩
 have c3c:=hSc.keep.at c3b hpr
 have c2c:=hSc.keep.at c2b (by omega)
 have oc:=wr1_of (o:=66) c3c (by rw[hC_sz hlb];omega)
 have kc:Keep (fun i=>i=p3) wc (wc.setCell ⟨p3,66,none⟩ (.int .u32 h.bits)):=(Keep.refl _ wc).setCell _ fun _=>rfl
 have c3d:(wc.setCell ⟨p3,66,none⟩ (.int .u32 h.bits)).heap[p3]?=some (.cells (hC ⟨h.ver,h.prev,h.merkle,h.time,h.bits,0⟩) 26 (0,0)):=by
  rw[heap_setCell_eq c3c,hC_set66 hlb]
 first|(simp (disch:=first|omega|assumption|rfl|(simp only[vcS]<;>omega)|fail) only[↓vcN,vcQ,simprocAttr,oc])|skip
 have hSd:=hSc.rs.keep kc fun g hg=>by omega
 have c2d:=kc.at c2c (by omega)
 have hKd:=(hKb.trans hSc.keep fun _ _ h=>h).trans kc fun i hi e=>by omega
 generalize World.setCell _ _ _=wd at hSd c2d hKd c3d⊢
 clear kc oc c3c c2c hSc hKb c3b c2b hSb
 have hld:HdV.Len ⟨h.ver,h.prev,h.merkle,h.time,h.bits,0⟩:=⟨ho.plen,ho.mlen⟩
 (refine W_at c39_ok ⟨_,rfl,?_⟩;simp (disch:=first|omega|assumption|rfl|(simp only[vcS]<;>omega)|fail) only[↓vcN,vcQ,simprocAttr])
 refine callV_ret (s32_ok m wd r h.nonce _ ho.nonce hSd) ?_
 rintro _ we ⟨rfl,hSe⟩
 have c3e:=hSe.keep.at c3d hpr
 have c2e:=hSe.keep.at c2d (by omega)
 have oe:=wr1_of (o:=67) c3e (by rw[hC_sz hld];omega)
 have ke:Keep (fun i=>i=p3) we (we.setCell ⟨p3,67,none⟩ (.int .u32 h.nonce)):=(Keep.refl _ we).setCell _ fun _=>rfl
 have c3f:(we.setCell ⟨p3,67,none⟩ (.int .u32 h.nonce)).heap[p3]?=some (.cells (hC ⟨h.ver,h.prev,h.merkle,h.time,h.bits,h.nonce⟩) 26 (0,0)):=by
  rw[heap_setCell_eq c3e,hC_set67 hld]
 first|(simp (disch:=first|omega|assumption|rfl|(simp only[vcS]<;>omega)|fail) only[↓vcN,vcQ,simprocAttr,oe])|skip
 have hSf:=hSe.rs.keep ke fun g hg=>by omega
 have c2f:=ke.at c2e (by omega)
 have hKf:=(hKd.trans hSe.keep fun _ _ h=>h).trans ke fun i hi e=>by omega
 generalize World.setCell _ _ _=wf at hSf c2f hKf c3f⊢
 clear ke oe c3e c2e hSe hKd c3d c2d hSd
 change wf.heap[p3]?=some (.cells (hC h) 26 (0,0)) at c3f
 have hcs:=hC_size ho
 have hcf:=hC_flat h
 have r68:rdO (some (.cells (hC h) 26 (0,0))) 0 68=some (hC h):=rdO_all _ _ _ _ hcs
 have oz:okO (some (.cells (zc [(1,.int .i32 0),(64,.int .u8 0),(3,.int .u32 0)]) 26 (0,0))) 0 68=True:=by
  have e:(zc [(1,.int .i32 0),(64,.int .u8 0),(3,.int .u32 0)]).size=68:=rfl
  simp only[okO,e];simp
 (refine W_at c39_ok ⟨_,rfl,?_⟩;simp (disch:=first|omega|assumption|rfl|(simp only[vcS]<;>omega)|fail) only[↓vcN,vcQ,simprocAttr,c3f,c2f,r68,hcs,oz])
 refine⟨hcf,?_⟩
 have kg:Keep (fun g=>g=p2) wf (wf.putN p2 0 (hC h)):=(Keep.refl _ wf).putN _ fun _=>rfl
 have d9:(wf.putN p2 0 (hC h)).heap[p2]?=some (.cells (hC h) 26 (0,0)):=by
  rw[heap_putN_eq c2f,splice_all (by rw[hcs];rfl)]
 (refine W_at c39_ok ⟨_,rfl,?_⟩;simp (disch:=first|omega|assumption|rfl|(simp only[vcS]<;>omega)|fail) only[↓vcN,vcQ,simprocAttr,d9,r68,Ret_returned])
 exact⟨hKf.trans kg fun i hi e=>by omega,hSf.keep kg fun g hg=>by omega⟩
end Go.Proofs
namespace Go.Proofs
open Go.Vc
set_option maxRecDepth 10000
def lexF:List Int→List Int→Int
 |a::l,b::m=>if a=b then lexF l m else if a<b then -1 else 1
 |_,_=>0
theorem u8c {x:Int}(h:0≤x∧x≤255):(((UInt8.ofNat x.toNat).toNat:Nat):Int)=x:=by
 rw[UInt8.toNat_ofNat']
 omega
theorem bo_get {bs:List Int}{i:Nat}(h:i<bs.length):(⟨(Lib.bytesOf bs).toArray⟩:ByteArray)[i]! =UInt8.ofNat bs[i].toNat:=by
 have h1:i< (⟨(Lib.bytesOf bs).toArray⟩:ByteArray).size:=by simpa [ByteArray.size,Lib.bytesOf] using h
 rw[getElem!_pos _ i h1]
 show (Lib.bytesOf bs).toArray[i]=_
 simp [Lib.bytesOf]
theorem cmp_lex (a b:List Int)(ha:byt a)(hb:byt b)(hl:a.length=b.length):Extern.BytealgCompare.cmp ⟨(Lib.bytesOf a).toArray⟩ ⟨(Lib.bytesOf b).toArray⟩=lexF a b:=by
 have sa:(⟨(Lib.bytesOf a).toArray⟩:ByteArray).size=a.length:=by simp [ByteArray.size,Lib.bytesOf]
 have sb:(⟨(Lib.bytesOf b).toArray⟩:ByteArray).size=b.length:=by simp [ByteArray.size,Lib.bytesOf]
 have gen:∀(l m:List Int) (p q:List Int),a=p++l→b=q++m→p.length=q.length→l.length=m.length→
   (match (List.range' p.length l.length).find? fun i=>(⟨(Lib.bytesOf a).toArray⟩:ByteArray)[i]! !=(⟨(Lib.bytesOf b).toArray⟩:ByteArray)[i]! with
    |some i=>if (⟨(Lib.bytesOf a).toArray⟩:ByteArray)[i]! < (⟨(Lib.bytesOf b).toArray⟩:ByteArray)[i]! then (-1:Int) else 1
    |none=>0)=lexF l m:=by
  intro l
  induction l with
  |nil=>
   intro m p q _ _ _ hlm
   have:m=[]:=List.eq_nil_of_length_eq_zero hlm.symm
   subst this
   rfl
  |cons x l ih=>
   intro m p q h1 h2 h3 h4
   cases m with
   |nil=>cases h4
   |cons y m=>
    have ga:(⟨(Lib.bytesOf a).toArray⟩:ByteArray)[p.length]! =UInt8.ofNat x.toNat:=by
     rw[bo_get (by rw[h1];simp)]
     simp [h1]
    have gb:(⟨(Lib.bytesOf b).toArray⟩:ByteArray)[p.length]! =UInt8.ofNat y.toNat:=by
     rw[bo_get (by rw[h2];simp;omega)]
     simp [h2,h3]
    have bx:=ha x (by rw[h1];simp)
    have by':=hb y (by rw[h2];simp)
    have hx:=u8c bx
    have hy:=u8c by'
    rw[List.length_cons,List.range'_succ,List.find?_cons,ga,gb]
    by_cases hxy:x=y
    ·subst hxy
     have e0:(UInt8.ofNat x.toNat !=UInt8.ofNat x.toNat)=false:=by simp
     rw[e0]
     simp only[lexF,if_true]
     have:=ih m (p++[x]) (q++[x]) (by rw[h1];simp) (by rw[h2];simp) (by simp [h3]) (by simpa using h4)
     rw[List.length_append] at this
     exact this
    ·have hne:UInt8.ofNat x.toNat≠UInt8.ofNat y.toNat:=fun e=>hxy (by rw[←hx,←hy,e])
     have e0:(UInt8.ofNat x.toNat !=UInt8.ofNat y.toNat)=true:=by simpa using hne
     rw[e0]
     simp only[lexF,if_neg hxy,ga,gb]
     have e1:(UInt8.ofNat x.toNat<UInt8.ofNat y.toNat)↔x<y:=by
      rw[UInt8.lt_iff_toNat_lt];omega
     by_cases hlt:x<y
     ·rw[if_pos hlt,if_pos (e1.2 hlt)]
     ·rw[if_neg hlt,if_neg (fun h=>hlt (e1.1 h))]
 have g:=gen a b [] [] rfl rfl rfl hl
 unfold Extern.BytealgCompare.cmp
 rw[sa,sb,hl,Nat.min_self]
 rw[List.length_nil,←List.range_eq_range',hl] at g
 cases hq:(List.range b.length).find? fun i=>(⟨(Lib.bytesOf a).toArray⟩:ByteArray)[i]! !=(⟨(Lib.bytesOf b).toArray⟩:ByteArray)[i]! with
 |some i=>rw[hq] at g;exact g
 |none=>rw[hq] at g;simpa using g
theorem rd_bytesOf {P:Program}{w:World}{v:Value}{bs:List Int}(h:Rd w v bs):(Extern.Bytes.bytesOf v).run P w=.ok ⟨(Lib.bytesOf bs).toArray⟩ w:=by
 by_cases h0:bs=[]
 ·subst h0
  obtain⟨⟨q,c,rfl,_⟩,_,_⟩:=h
  cases q with
  |none=>rfl
  |some a=>rfl
 ·have hpos:0<bs.length:=List.length_pos_iff.2 h0
  obtain⟨b,o,c,rfl,_⟩:=h.at hpos
  have hl:=Lib.run_loadBytesX (P:=P) w bs ⟨b,o,none⟩ .empty (fun j x hj=>by
   obtain⟨hjl,hjx⟩:=List.getElem?_eq_some_iff.1 hj
   obtain⟨b',o',c',e,hc⟩:=h.at hjl
   cases e
   have e:(⟨b,o,none⟩:Addr).add j=⟨b,o+j,none⟩:=by unfold Addr.add;split<;>simp_all
   rw[e,←hjx]
   unfold World.cell?
   cases hw:w.heap[b]? with
   |none=>rw[hw] at hc;cases hc
   |some x=>
    rw[hw] at hc
    cases x with
    |cells d t fr=>rw[cellO_some] at hc;exact hc
    |_=>cases hc)
  show (Extern.Bytes.loadBytes ⟨b,o,none⟩ bs.length .empty).run P w=_
  rw[hl]
  congr 1
  apply ByteArray.ext
  simp
theorem compare_run {P:Program}{f:FuncId}{fn:Func}(hf:P.funcs[f]?=some fn)(hname:(fn.name== "runtime.NumGoroutine")=false)(hb:fn.body.isNone=true)(hn:Extern.findNext fn=none)(he:Extern.find fn=some Extern.BytealgCompare.compare)
  (w:World) (x y:Value) (a b:List Int) (hx:Rd w x a) (hy:Rd w y b) (ha:byt a) (hby:byt b) (hl:a.length=b.length):
  (callFunc f [x,y].toArray).run P w=.ok (.value (.int .i64 (lexF a b))) w:=by
 rw[run_callFunc_extern hf hname hb hn he]
 have e:Extern.BytealgCompare.compare [x,y].toArray=(do pure (goInt (Extern.BytealgCompare.cmp (←Extern.Bytes.bytesOf x) (←Extern.Bytes.bytesOf y)))):=rfl
 rw[e]
 simp only[Sem.run_bind,Sem.run_pure,Result.andThen,rd_bytesOf hx,rd_bytesOf hy,cmp_lex a b ha hby hl]
 rfl
theorem compare_ok (w:World)(x y:Value)(a b:List Int)(hx:Rd w x a)(hy:Rd w y b)(ha:byt a)(hby:byt b)(hl:a.length=b.length):
  Calls Tryz.prog 112 #[x,y] w (Ret fun u w'=>u=.int .i64 (lexF a b)∧w'=w):=by
 refine calls_of_cfg c112_ok (Nat.le_of_ble_eq_true rfl) ?_
 simp only[argE_nil,argE_cons,Nat.reduceAdd,Nat.zero_add]
 iterate 2 (refine W_at c112_ok ⟨_,rfl,?_⟩;simp (disch:=first|omega|assumption|rfl|(simp only[vcS]<;>omega)|fail) only[↓vcN,vcQ,simprocAttr])
 refine⟨_,_,compare_run Tryz.func133 (by kernel_rfl) (by kernel_rfl) (by kernel_rfl) (by kernel_rfl) _ _ _ _ _ hx hy ha hby hl,?_⟩
 first|(simp (disch:=first|omega|assumption|rfl|(simp only[vcS]<;>omega)|fail) only[↓vcN,vcQ,simprocAttr])|skip
 (refine W_at c112_ok ⟨_,rfl,?_⟩;simp (disch:=first|omega|assumption|rfl|(simp only[vcS]<;>omega)|fail) only[↓vcN,vcQ,simprocAttr,Ret_returned])
theorem bva_get {bs:List Int}{i:Nat}(h:i<bs.length):(bv bs).toArray[i]?=some (.int .u8 bs[i]):=by rw[List.getElem?_toArray];exact bv_get h
theorem box32_rd {w:World}{g:Nat}{a:List Int}{T:TypeId}(ha:a.length=32)(hg:w.heap[g]?=some (.cells (bv a).toArray T (0,0))):Rd w (.slice (some ⟨g,0,none⟩) 32 32) a:=by
 refine⟨⟨_,32,by rw[ha],by omega⟩,by rw[ha];decide,?_⟩
 simp only[rdS]
 rw[if_neg (by omega),rdN_heap,hg,rdO_all _ _ _ _ (by rw[bva_size,ha])]
theorem Compare_ok (w:World)(a b:List Int)(ha:a.length=32)(hb:b.length=32)(ba:byt a)(bb:byt b):
  Calls Tryz.prog 66 #[.agg (bv a).toArray,.agg (bv b).toArray] w (Ret fun u w'=>u=.int .i64 (lexF a b)∧Ext w w'):=by
 refine calls_of_cfg c66_ok (Nat.le_of_ble_eq_true rfl) ?_
 simp only[argE_nil,argE_cons,Nat.reduceAdd,Nat.zero_add]
 have fa:=bv_flat a
 have fb:=bv_flat b
 have sa:(bv a).toArray.size=32:=by rw[bva_size,ha]
 have sb:(bv b).toArray.size=32:=by rw[bva_size,hb]
 (refine W_at c66_ok ⟨_,rfl,?_⟩;simp (disch:=first|omega|assumption|rfl|(simp only[vcS]<;>omega)|fail) only[↓vcN,vcQ,simprocAttr])
 have hE1:Ext w (w.alloc (.cells (bv a).toArray 112)):=(Keep.refl _ w).alloc _
 have c1:(w.alloc (.cells (bv a).toArray 112)).heap[w.heap.size]?=some (.cells (bv a).toArray 112 (0,0)):=heap_new _ _ _ rfl
 have s1:(w.alloc (.cells (bv a).toArray 112)).heap.size=w.heap.size+1:=size_alloc _ _
 generalize World.alloc w _=w1 at hE1 c1 s1⊢
 have hE2:Ext w1 (w1.alloc (.cells (bv b).toArray 112)):=(Keep.refl _ w1).alloc _
 have c2:(w1.alloc (.cells (bv b).toArray 112)).heap[w.heap.size+1]?=some (.cells (bv b).toArray 112 (0,0)):=heap_new _ _ _ s1.symm
 generalize World.alloc w1 _=w2 at hE2 c2⊢
 have c12:=hE2.at c1 (fun h=>h)
 have hE:=hE1.ext hE2
 have hEd:Ext w2 w2.drew:=(Keep.refl _ w2).drew
 have rA:=(box32_rd ha c12).ext hEd
 have rB:=(box32_rd hb c2).ext hEd
 (refine W_at c66_ok ⟨_,rfl,?_⟩;simp (disch:=first|omega|assumption|rfl|(simp only[vcS]<;>omega)|fail) only[↓vcN,vcQ,simprocAttr])
 refine callV_ret (compare_ok w2.drew _ _ a b rA rB ba bb (by rw[ha,hb])) ?_
 rintro _ w3 ⟨rfl,rfl⟩
 first|(simp (disch:=first|omega|assumption|rfl|(simp only[vcS]<;>omega)|fail) only[↓vcN,vcQ,simprocAttr])|skip
 (refine W_at c66_ok ⟨_,rfl,?_⟩;simp (disch:=first|omega|assumption|rfl|(simp only[vcS]<;>omega)|fail) only[↓vcN,vcQ,simprocAttr,Ret_returned])
 exact hE.ext hEd
def ltF (a b:List Int):Bool:=decide (lexF a b<0)
theorem lexF_at {a b:List Int}{i:Nat}(ha:i<a.length)(hb:i<b.length):lexF (a.drop i) (b.drop i)=if a[i]=b[i] then lexF (a.drop (i+1)) (b.drop (i+1)) else if a[i]<b[i] then -1 else 1:=by
 rw[List.drop_eq_getElem_cons ha,List.drop_eq_getElem_cons hb,lexF]
theorem less_ok (w:World)(a b:List Int)(ha:a.length=32)(hb:b.length=32):
  Calls Tryz.prog 25 #[.agg (bv a).toArray,.agg (bv b).toArray] w (Ret fun u w'=>u=.bool (ltF a b)∧Ext w w'):=by
 refine calls_of_cfg c25_ok (Nat.le_of_ble_eq_true rfl) ?_
 simp only[argE_nil,argE_cons,Nat.reduceAdd,Nat.zero_add]
 have fa:=bv_flat a
 have fb:=bv_flat b
 have sa:(bv a).toArray.size=32:=by rw[bva_size,ha]
 have sb:(bv b).toArray.size=32:=by rw[bva_size,hb]
 (refine W_at c25_ok ⟨_,rfl,?_⟩;simp (disch:=first|omega|assumption|rfl|(simp only[vcS]<;>omega)|fail) only[↓vcN,vcQ,simprocAttr])
 have hE1:Ext w (w.alloc (.cells (bv a).toArray 22)):=(Keep.refl _ w).alloc _
 have c1:(w.alloc (.cells (bv a).toArray 22)).heap[w.heap.size]?=some (.cells (bv a).toArray 22 (0,0)):=heap_new _ _ _ rfl
 have s1:(w.alloc (.cells (bv a).toArray 22)).heap.size=w.heap.size+1:=size_alloc _ _
 generalize World.alloc w _=w1 at hE1 c1 s1⊢
 have hE2:Ext w1 (w1.alloc (.cells (bv b).toArray 22)):=(Keep.refl _ w1).alloc _
 have c2:(w1.alloc (.cells (bv b).toArray 22)).heap[w.heap.size+1]?=some (.cells (bv b).toArray 22 (0,0)):=heap_new _ _ _ s1.symm
 generalize World.alloc w1 _=w2 at hE2 c2⊢
 have c12:=hE2.at c1 (fun h=>h)
 have hE:=hE1.ext hE2
 clear hE1 hE2 c1 s1
 generalize w.heap.size=p2 at*
 (refine W_at c25_ok ⟨_,rfl,?_⟩;simp (disch:=first|omega|assumption|rfl|(simp only[vcS]<;>omega)|fail) only[↓vcN,vcQ,simprocAttr])
 have L:∀(k i:Nat) (w2:World) (tl:Env),k+i=32→w2.heap[p2]?=some (.cells (bv a).toArray 22 (0,0))→w2.heap[p2+1]?=some (.cells (bv b).toArray 22 (0,0))→Ext w w2→lexF a b=lexF (a.drop i) (b.drop i)→
   W Tryz.prog (Ret fun u w'=>u=.bool (ltF a b)∧Ext w w') 25 10 ((2,.pointer (some ⟨p2,0,none⟩))::(3,.pointer (some ⟨p2+1,0,none⟩))::(5,.int .i64 (i:Nat))::tl) w2:=by
  intro k
  induction k with
  |zero=>
   intro i w2 tl hi c12 c2 hE hf
   obtain rfl:i=32:=by omega
   rw[List.drop_eq_nil_of_le (by omega),List.drop_eq_nil_of_le (by omega)] at hf
   have hlt:ltF a b=false:=by unfold ltF;rw[hf];rfl
   have hil:¬(((32:Nat):Int)<32):=by omega
   rw[hlt]
   iterate 4 (refine W_at c25_ok ⟨_,rfl,?_⟩;simp (disch:=first|omega|assumption|rfl|(simp only[vcS]<;>omega)|fail) only[↓vcN,vcQ,simprocAttr,Ret_returned])
   exact hE
  |succ k ih=>
   intro i w2 tl hi c12 c2 hE hf
   have hil:((i:Nat):Int)<32:=by omega
   have hi2:0≤((i:Nat):Int)∧((i:Nat):Int)<32:=by omega
   have hwi:IntKind.i64.wrap ((i:Int)+1)=((i+1:Nat):Int):=wrap_i64 (by omega) (by omega)
   have ia:i<a.length:=by omega
   have ib:i<b.length:=by omega
   rw[lexF_at ia ib] at hf
   have q1:=bva_get ia
   have q2:=bva_get ib
   have hx:cellO (some (.cells (bv a).toArray 22 (0,0))) i=some (.int .u8 a[i]):=by rw[cellO_some];exact q1
   have hy:cellO (some (.cells (bv b).toArray 22 (0,0))) i=some (.int .u8 b[i]):=by rw[cellO_some];exact q2
   generalize a[i]=x at*
   generalize b[i]=y at*
   iterate 2 (refine W_at c25_ok ⟨_,rfl,?_⟩;simp (disch:=first|omega|assumption|rfl|(simp only[vcS]<;>omega)|fail) only[↓vcN,vcQ,simprocAttr,hil])
   by_cases hxy:x=y
   ·subst hxy
    rw[if_pos rfl] at hf
    have hxx:¬(x≠x):=fun h=>h rfl
    iterate 4 (refine W_at c25_ok ⟨_,rfl,?_⟩;simp (disch:=first|omega|assumption|rfl|(simp only[vcS]<;>omega)|fail) only[↓vcN,vcQ,simprocAttr,hi2,c12,c2,hx,hy,Int.toNat_natCast,Nat.mul_one,hwi])
    have hEd:Ext w2 w2.drew:=(Keep.refl _ w2).drew
    exact ih (i+1) _ _ (by omega) (hEd.at c12 fun h=>h) (hEd.at c2 fun h=>h) (hE.ext hEd) hf
   ·rw[if_neg hxy] at hf
    iterate 4 (refine W_at c25_ok ⟨_,rfl,?_⟩;simp (disch:=first|omega|assumption|rfl|(simp only[vcS]<;>omega)|fail) only[↓vcN,vcQ,simprocAttr,hi2,c12,c2,hx,hy,Int.toNat_natCast,Nat.mul_one,hxy,Ret_returned])
    have hlt:ltF a b=decide (x<y):=by
     unfold ltF;rw[hf]
     by_cases h:x<y
     ·rw[if_pos h,decide_eq_true h];rfl
     ·rw[if_neg h,decide_eq_false h];rfl
    rw[hlt]
    exact⟨rfl,(hE.ext (Keep.refl _ w2).drew).ext (Keep.refl _ _).drew⟩
 exact L 32 0 w2 _ (by omega) c12 c2 hE rfl
end Go.Proofs
namespace Go.Proofs
open Go.Vc
set_option maxRecDepth 10000
def xpL (e m:Int):Nat→Nat→List Int→Option (List Int)
 |0,_,l=>some l
 |k+1,i,l=>if 0≤32 - e+i∧32 - e+i<32 then xpL e m k (i+1) (l.set (32 - e+i).toNat (m/256^(2 - i)%256))
  else if 32 - e+i<0∧m/256^(2 - i)%256≠0 then none else xpL e m k (i+1) l
def xpF (x:Int):Option (List Int):=if 8388608≤x%16777216 then none else xpL (x/16777216) (x%16777216) 3 0 Z32
def xpR:Option (List Int)→Value
 |some l=>.tuple #[.agg (bv l).toArray,.bool true]
 |none=>.tuple #[.agg (bv Z32).toArray,.bool false]
theorem and_low {x:Int}(hx:0≤x∧x≤4294967295):IntKind.u32.wrap ((BitVec.ofInt IntKind.u32.bits x&&& BitVec.ofInt IntKind.u32.bits 16777215).toNat:Nat)=x%16777216:=by
 obtain⟨n,rfl⟩:=Int.eq_ofNat_of_zero_le hx.1
 have e1:(BitVec.ofInt IntKind.u32.bits (n:Int))=BitVec.ofNat 32 n:=by
  show BitVec.ofInt 32 (n:Int)=_
  exact BitVec.ofInt_natCast 32 n
 have e2:(BitVec.ofInt IntKind.u32.bits 16777215)=BitVec.ofNat 32 16777215:=rfl
 rw[e1,e2]
 have e3:(BitVec.ofNat 32 n&&& BitVec.ofNat 32 16777215).toNat=n%16777216:=by
  rw[BitVec.toNat_and,BitVec.toNat_ofNat,BitVec.toNat_ofNat]
  have h1:n%2^32=n:=by omega
  have h2:16777215%2^32=2^24 - 1:=by decide
  rw[h1,h2,Nat.and_two_pow_sub_one_eq_mod]
 have e4:((BitVec.ofNat 32 n&&& BitVec.ofNat 32 16777215).toNat:Int)=((n%16777216:Nat):Int):=by exact_mod_cast e3
 have e5:IntKind.u32.wrap ((BitVec.ofNat 32 n&&& BitVec.ofNat 32 16777215).toNat:Nat)=IntKind.u32.wrap ((n%16777216:Nat):Int):=by rw[←e4]
 refine e5.trans ?_
 rw[wrap_u32]
 omega
theorem shr_24 {x:Int}(hx:0≤x∧x≤4294967295):IntKind.i64.wrap (x.fdiv (2^Nat.min 24 IntKind.u32.bits))=x/16777216:=by
 have e:(2:Int)^Nat.min 24 IntKind.u32.bits=16777216:=by decide
 rw[e,Int.fdiv_eq_ediv_of_nonneg _ (by omega)]
 exact wrap_i64 (by omega) (by omega)
theorem shr_c {m:Int}{i:Nat}(hm:0≤m)(hi:i<3):IntKind.u8.wrap (m.fdiv (2^Nat.min (IntKind.i64.wrap (16 - IntKind.i64.wrap (8*(i:Int)))).toNat IntKind.u32.bits))=m/256^(2 - i)%256:=by
 have e:(2:Int)^Nat.min (IntKind.i64.wrap (16 - IntKind.i64.wrap (8*(i:Int)))).toNat IntKind.u32.bits=256^(2 - i):=by
  have:i=0∨i=1∨i=2:=by omega
  rcases this with rfl|rfl|rfl<;>decide
 rw[e,Int.fdiv_eq_ediv_of_nonneg _ (by have:i=0∨i=1∨i=2:=by omega
                                       rcases this with rfl|rfl|rfl<;>decide),wrap_u8]
theorem xpL_len {e m:Int}:∀{k i:Nat} {l r:List Int},xpL e m k i l=some r→r.length=l.length
 |0,i,l,r,h=>by cases h;rfl
 |k+1,i,l,r,h=>by
  rw[xpL] at h
  split at h
  ·rw[xpL_len h,List.length_set]
  ·split at h
   ·cases h
   ·exact xpL_len h
theorem xpL_byt {e m:Int}:∀{k i:Nat} {l r:List Int},byt l→xpL e m k i l=some r→byt r
 |0,i,l,r,hl,h=>by cases h;exact hl
 |k+1,i,l,r,hl,h=>by
  rw[xpL] at h
  split at h
  ·refine xpL_byt (fun x hx=>?_) h
   rcases List.mem_or_eq_of_mem_set hx with hx|rfl
   ·exact hl x hx
   ·omega
  ·split at h
   ·cases h
   ·exact xpL_byt hl h
theorem Z32_byt:byt Z32:=fun x hx=>by
 have:=List.eq_of_mem_replicate hx
 omega
set_option maxHeartbeats 1600000 in
theorem expand_ok (w:World)(x:Int)(hx:0≤x∧x≤4294967295):
  Calls Tryz.prog 110 #[.int .u32 x] w (Ret fun u w'=>u=xpR (xpF x)∧Ext w w'):=by
 refine calls_of_cfg c110_ok (Nat.le_of_ble_eq_true rfl) ?_
 simp only[argE_nil,argE_cons,Nat.zero_add]
 have hz:zc [(32,Value.int .u8 0)]=(bv Z32).toArray:=rfl
 (refine W_at c110_ok ⟨_,rfl,?_⟩;simp (disch:=first|omega|assumption|rfl|(simp only[vcS]<;>omega)|fail) only[↓vcN,vcQ,simprocAttr,hz])
 have hE1:Ext w (w.alloc (.cells (bv Z32).toArray 112)):=(Keep.refl _ w).alloc _
 have c1:(w.alloc (.cells (bv Z32).toArray 112)).heap[w.heap.size]?=some (.cells (bv Z32).toArray 112 (0,0)):=heap_new _ _ _ rfl
 have s1:(w.alloc (.cells (bv Z32).toArray 112)).heap.size=w.heap.size+1:=size_alloc _ _
 generalize World.alloc w _=w1 at hE1 c1 s1⊢
 (refine W_at c110_ok ⟨_,rfl,?_⟩;simp (disch:=first|omega|assumption|rfl|(simp only[vcS]<;>omega)|fail) only[↓vcN,vcQ,simprocAttr,hz])
 have hE2:Ext w1 (w1.alloc (.cells (bv Z32).toArray 112)):=(Keep.refl _ w1).alloc _
 have c2:(w1.alloc (.cells (bv Z32).toArray 112)).heap[w1.heap.size]?=some (.cells (bv Z32).toArray 112 (0,0)):=heap_new _ _ _ rfl
 generalize World.alloc w1 _=w2 at hE2 c2⊢
 have c12:=hE2.at c1 (fun h=>h)
 have hE:=hE1.ext hE2
 clear hE1 hE2 c1
 rw[s1] at c2⊢
 generalize hp2:w.heap.size=p2 at*
 generalize hp4:p2+1=p4 at*
 (refine W_at c110_ok ⟨_,rfl,?_⟩;simp (disch:=first|omega|assumption|rfl|(simp only[vcS]<;>omega)|fail) only[↓vcN,vcQ,simprocAttr])
 have he:=shr_24 hx
 have hm:=and_low hx
 rw[he,hm]
 have hxp:xpF x=if 8388608≤x%16777216 then none else xpL (x/16777216) (x%16777216) 3 0 Z32:=rfl
 rw[hxp]
 clear hxp he hm
 have b1:0≤x/16777216∧x/16777216≤255:=by omega
 have b2:0≤x%16777216∧x%16777216<16777216:=by omega
 clear hx
 generalize x/16777216=e at*
 generalize x%16777216=m at*
 have zl:(bv Z32).toArray.size=32:=rfl
 have fz:=bv_flat Z32
 have hp24:p2≠p4:=by omega
 have rz:rdO (some (.cells (bv Z32).toArray 112 (0,0))) 0 32=some (bv Z32).toArray:=rdO_all _ _ _ _ zl
 have oz:okO (some (.cells (bv Z32).toArray 112 (0,0))) 0 32=True:=by simp only[okO,zl];simp
 have fin:∀(w3:World) (l:List Int),l.length=32→w3.heap[p2]?=some (.cells (bv Z32).toArray 112 (0,0))→Ext w w3→
   Ext w (w3.putN p2 0 (bv l).toArray)∧(w3.putN p2 0 (bv l).toArray).heap[p2]?=some (.cells (bv l).toArray 112 (0,0)):=fun w3 l hl h2 hE=>
  ⟨hE.trans ((Keep.refl (fun g=>g=p2) w3).putN _ fun _=>rfl) fun g hg e=>by omega,by rw[heap_putN_eq h2,splice_all (by rw[zl,bva_size,hl])]⟩
 by_cases hg:8388608≤m
 ·rw[if_pos hg]
  iterate 3 (refine W_at c110_ok ⟨_,rfl,?_⟩;simp (disch:=first|omega|assumption|rfl|(simp only[vcS]<;>omega)|fail) only[↓vcN,vcQ,simprocAttr,hg,c2,c12,rz,zl,oz])
  refine⟨fz,?_⟩
  obtain⟨f1,f2⟩:=fin w2 Z32 rfl c12 hE
  (refine W_at c110_ok ⟨_,rfl,?_⟩;simp (disch:=first|omega|assumption|rfl|(simp only[vcS]<;>omega)|fail) only[↓vcN,vcQ,simprocAttr,f2,rz,Ret_returned])
  exact⟨rfl,f1⟩
 rw[if_neg hg]
 iterate 3 (refine W_at c110_ok ⟨_,rfl,?_⟩;simp (disch:=first|omega|assumption|rfl|(simp only[vcS]<;>omega)|fail) only[↓vcN,vcQ,simprocAttr,hg])
 generalize hX:xpL e m 3 0 Z32=X
 have L:∀(k i:Nat) (l:List Int) (wj:World) (tl:Env),k+i=3→l.length=32→wj.heap[p2]?=some (.cells (bv Z32).toArray 112 (0,0))→wj.heap[p4]?=some (.cells (bv l).toArray 112 (0,0))→Ext w wj→X=xpL e m k i l→
   W Tryz.prog (Ret fun u w'=>u=xpR X∧Ext w w') 110 16 ((2,.pointer (some ⟨p2,0,none⟩))::(4,.pointer (some ⟨p4,0,none⟩))::(5,.int .i64 e)::(6,.int .u32 m)::(18,.int .i64 (i:Nat))::tl) wj:=by
  intro k
  induction k with
  |zero=>
   intro i l wj tl hi hl h2 h4 hE hf
   obtain rfl:i=3:=by omega
   have hil:¬(((3:Nat):Int)<3):=by omega
   have sl:(bv l).toArray.size=32:=by rw[bva_size,hl]
   have rl:rdO (some (.cells (bv l).toArray 112 (0,0))) 0 32=some (bv l).toArray:=rdO_all _ _ _ _ sl
   rw[hf,xpL]
   iterate 3 (refine W_at c110_ok ⟨_,rfl,?_⟩;simp (disch:=first|omega|assumption|rfl|(simp only[vcS]<;>omega)|fail) only[↓vcN,vcQ,simprocAttr,h4,h2,rl,sl,oz])
   refine⟨bv_flat l,?_⟩
   obtain⟨f1,f2⟩:=fin wj l hl h2 hE
   (refine W_at c110_ok ⟨_,rfl,?_⟩;simp (disch:=first|omega|assumption|rfl|(simp only[vcS]<;>omega)|fail) only[↓vcN,vcQ,simprocAttr,f2,rl,Ret_returned])
   exact⟨rfl,f1⟩
  |succ k ih=>
   intro i l wj tl hi hl h2 h4 hE hf
   have hi3:i<3:=by omega
   have hil:((i:Nat):Int)<3:=by omega
   have hwi:IntKind.i64.wrap ((i:Int)+1)=((i+1:Nat):Int):=wrap_i64 (by omega) (by omega)
   have hc:=shr_c b2.1 hi3
   have hwa:IntKind.i64.wrap (IntKind.i64.wrap (32 - e)+(i:Int))=32 - e+i:=by rw[wrap_i64 (x:=32 - e) (by omega) (by omega)];exact wrap_i64 (by omega) (by omega)
   have hnn:0≤IntKind.i64.wrap (16 - IntKind.i64.wrap (8*(i:Int))):=by
    have:i=0∨i=1∨i=2:=by omega
    rcases this with rfl|rfl|rfl<;>decide
   rw[xpL] at hf
   iterate 5 (refine W_at c110_ok ⟨_,rfl,?_⟩;simp (disch:=first|omega|assumption|rfl|(simp only[vcS]<;>omega)|fail) only[↓vcN,vcQ,simprocAttr,hil,hwa,hnn,hc])
   generalize m/256^(2 - i)%256=c at*
   by_cases hin:0≤32 - e+i
   ·by_cases hin2:32 - e+i<32
    ·rw[if_pos ⟨hin,hin2⟩] at hf
     have c3:0≤32 - e+i∧32 - e+i<32:=⟨hin,hin2⟩
     have h4w:wr1 wj p4 (32 - e+i).toNat:=wr1_of h4 (by rw[bva_size,hl];omega)
     have kk:Keep (fun g=>g=p4) wj (wj.setCell ⟨p4,(32 - e+i).toNat,none⟩ (.int .u8 c)):=(Keep.refl _ wj).setCell _ fun _=>rfl
     have h42:(wj.setCell ⟨p4,(32 - e+i).toNat,none⟩ (.int .u8 c)).heap[p4]?=some (.cells (bv (l.set (32 - e+i).toNat c)).toArray 112 (0,0)):=by rw[heap_setCell_eq h4,bva_set]
     iterate 5 (refine W_at c110_ok ⟨_,rfl,?_⟩;simp (disch:=first|omega|assumption|rfl|(simp only[vcS]<;>omega)|fail) only[↓vcN,vcQ,simprocAttr,hin,hin2,c3,Nat.mul_one,h4w,hwi])
     exact ih (i+1) _ _ _ (by omega) (by rw[List.length_set,hl]) (kk.at h2 (by omega)) h42 (hE.trans kk fun g hg e=>by omega) hf
    ·rw[if_neg (fun h=>hin2 h.2),if_neg (fun h=>by omega)] at hf
     have hlt0:¬(32 - e+i<0):=by omega
     iterate 6 (refine W_at c110_ok ⟨_,rfl,?_⟩;simp (disch:=first|omega|assumption|rfl|(simp only[vcS]<;>omega)|fail) only[↓vcN,vcQ,simprocAttr,hin,hin2,hlt0,hwi])
     exact ih (i+1) _ _ _ (by omega) hl h2 h4 hE hf
   ·have hlt0:32 - e+i<0:=by omega
    rw[if_neg (fun h=>hin h.1)] at hf
    by_cases hc0:c=0
    ·subst hc0
     rw[if_neg (fun h=>h.2 rfl)] at hf
     iterate 6 (refine W_at c110_ok ⟨_,rfl,?_⟩;simp (disch:=first|omega|assumption|rfl|(simp only[vcS]<;>omega)|fail) only[↓vcN,vcQ,simprocAttr,hin,hlt0,hwi])
     exact ih (i+1) _ _ _ (by omega) hl h2 h4 hE hf
    ·rw[if_pos ⟨hlt0,hc0⟩] at hf
     rw[hf]
     iterate 4 (refine W_at c110_ok ⟨_,rfl,?_⟩;simp (disch:=first|omega|assumption|rfl|(simp only[vcS]<;>omega)|fail) only[↓vcN,vcQ,simprocAttr,hin,hlt0,hc0])
     have hz2:zc [(32,Value.int .u8 0)]=(bv Z32).toArray:=rfl
     (refine W_at c110_ok ⟨_,rfl,?_⟩;simp (disch:=first|omega|assumption|rfl|(simp only[vcS]<;>omega)|fail) only[↓vcN,vcQ,simprocAttr,hz2,h2,zl,oz])
     refine⟨fz,?_⟩
     obtain⟨f1,f2⟩:=fin wj Z32 rfl h2 hE
     (refine W_at c110_ok ⟨_,rfl,?_⟩;simp (disch:=first|omega|assumption|rfl|(simp only[vcS]<;>omega)|fail) only[↓vcN,vcQ,simprocAttr,f2,rz,Ret_returned])
     exact⟨rfl,f1⟩
 exact L 3 0 Z32 w2 _ rfl rfl c12 c2 hE hX.symm
end Go.Proofs
namespace Go.Proofs
open Go.Vc
set_option maxRecDepth 10000
theorem conf_u8:∀(bs:List Int),conf (List.replicate bs.length (.i .u8)) (bv bs)=true
 |[]=>rfl
 |b::bs=>by
  have:=conf_u8 bs
  simp only[bv,List.length_cons,List.replicate_succ,List.map_cons,conf,SK.ok,decide_true,Bool.true_and] at this⊢
  exact this
theorem conf32 {D:List Int}(h:D.length=32):conf (skR [(32,.i .u8)]) (bv D).toArray.toList=true:=by
 have:=conf_u8 D
 rw[h] at this
 simpa [skR] using this
theorem eqc32 (D E:List Int):eqc (bv D).toArray.toList (bv E).toArray.toList=decide (D=E):=by
 simp only[eqc,bv_inj]
def limV:List Int:=127::255::255::List.replicate 29 0
theorem limV_byt:byt limV:=by
 intro x hx
 simp only[limV,List.mem_cons] at hx
 rcases hx with rfl|rfl|rfl|hx
 ·omega
 ·omega
 ·omega
 ·have:=List.eq_of_mem_replicate hx;omega
def tgF (x:Int):Option (List Int):=match xpF x with
 |none=>none
 |some l=>if l=Z32∨ltF limV l=true then none else some l
def rtL (e:Int):Nat→Nat→Int→List Int→Option (List Int)
 |0,_,_,l=>some l
 |j+1,k,m,l=>if m%256≠0∧31 - (e - 3) - k<0 then none else rtL e j (k+1) (m/256) (if 0≤31 - (e - 3) - k then l.set (31 - (e - 3) - k).toNat (m%256) else l)
def shF:Nat→Int→Int→Int×Int
 |0,e,m=>(e,m)
 |k+1,e,m=>if e<3 then shF k (e+1) (m/256) else (e,m)
theorem shF_ge:∀{k:Nat} {e m:Int},3≤e→shF k e m=(e,m)
 |0,e,m,_=>rfl
 |k+1,e,m,h=>by rw[shF,if_neg (by omega)]
theorem two_ways {e m:Int}(he:0≤e∧e≤255)(hm:0≤m∧m<8388608):rtL (shF 3 e m).1 3 0 (shF 3 e m).2 Z32=xpL e m 3 0 Z32:=by
 have k0:(256:Int)^(2 - 0)=65536:=by decide
 have k1:(256:Int)^(2 - (0+1))=256:=by decide
 have k2:(256:Int)^(2 - (0+1+1))=1:=by decide
 have d1:m/256/256=m/65536:=by omega
 by_cases e3:3≤e
 ·rw[shF_ge e3]
  simp only[rtL,xpL,k0,k1,k2,d1,Int.ediv_one]
  generalize m/65536%256=b0
  generalize m/256%256=b1
  generalize m%256=b2
  have a0:31 - (e - 3) - ((0:Nat):Int)=34 - e:=by omega
  have a1:31 - (e - 3) - ((0+1:Nat):Int)=33 - e:=by omega
  have a2:31 - (e - 3) - ((0+1+1:Nat):Int)=32 - e:=by omega
  have p0:32 - e+((0:Nat):Int)=32 - e:=by omega
  have p1:32 - e+((0+1:Nat):Int)=33 - e:=by omega
  have p2:32 - e+((0+1+1:Nat):Int)=34 - e:=by omega
  rw[a0,a1,a2,p0,p1,p2]
  by_cases e4:e≤32
  ·simp only[if_pos (show 0≤34 - e by omega),if_pos (show 0≤33 - e by omega),if_pos (show 0≤32 - e by omega),if_pos (show 0≤34 - e∧34 - e<32 by omega),if_pos (show 0≤33 - e∧33 - e<32 by omega),if_pos (show 0≤32 - e∧32 - e<32 by omega),
    if_neg (show¬(b2≠0∧34 - e<0) by omega),if_neg (show¬(b1≠0∧33 - e<0) by omega),if_neg (show¬(b0≠0∧32 - e<0) by omega)]
   rw[List.set_comm (i:=(34 - e).toNat) (j:=(33 - e).toNat) _ _ (by omega),List.set_comm (i:=(34 - e).toNat) (j:=(32 - e).toNat) _ _ (by omega),List.set_comm (i:=(33 - e).toNat) (j:=(32 - e).toNat) _ _ (by omega)]
  ·by_cases e5:e=33
   ·subst e5
    by_cases h0:b0=0
    ·subst h0
     simp
     rw[List.set_comm _ _ (by decide)]
    ·simp [h0]
   ·by_cases e6:e=34
    ·subst e6
     by_cases h0:b0=0
     ·subst h0
      by_cases h1:b1=0
      ·subst h1;simp
      ·simp [h1]
     ·by_cases h1:b1=0
      ·subst h1;simp [h0]
      ·simp [h0,h1]
    ·have n0:34 - e<0:=by omega
     have n1:33 - e<0:=by omega
     have n2:32 - e<0:=by omega
     have q0:¬0≤34 - e:=by omega
     have q1:¬0≤33 - e:=by omega
     have q2:¬0≤32 - e:=by omega
     simp only[n0,n1,n2,q0,q1,q2,false_and,and_true,true_and,if_false]
     by_cases h0:b0=0
     ·by_cases h1:b1=0
      ·by_cases h2:b2=0
       ·simp [h0,h1,h2]
       ·simp [h0,h1,h2]
      ·by_cases h2:b2=0
       ·simp [h0,h1,h2]
       ·simp [h0,h1,h2]
     ·by_cases h1:b1=0
      ·by_cases h2:b2=0
       ·simp [h0,h1,h2]
       ·simp [h0,h2]
      ·by_cases h2:b2=0
       ·simp [h0,h1,h2]
       ·simp [h0,h2]
 ·have:e=0∨e=1∨e=2:=by omega
  rcases this with rfl|rfl|rfl
  ·have s:shF 3 0 m=(3,0):=by
    have:m/256/256/256=0:=by omega
    simp [shF,this]
   rw[s]
   simp [rtL,xpL]
   rfl
  ·have s:shF 3 1 m=(3,m/65536):=by simp [shF,d1]
   have z:m/65536/256=0:=by omega
   rw[s]
   simp [rtL,xpL,z]
   rfl
  ·have s:shF 3 2 m=(3,m/256):=by simp [shF]
   have z:m/65536/256=0:=by omega
   rw[s]
   simp [rtL,xpL,z,d1]
   generalize m/256%256=b1
   generalize m/65536%256=b0
   rfl
def tgR (k:Value):Option (List Int)→Value
 |some l=>.tuple #[.agg (bv l).toArray,.int .i64 0]
 |none=>.tuple #[.agg (bv Z32).toArray,k]
theorem limit_x:xpF 545259519=some limV:=by kernel_rfl
theorem limit_ok (w:World):Calls Tryz.prog 111 #[] w (Ret fun u w'=>u=.agg (bv limV).toArray∧Ext w w'):=by
 refine calls_of_cfg c111_ok (Nat.le_of_ble_eq_true rfl) ?_
 simp only[argE_nil]
 have hz:zc [(32,Value.int .u8 0)]=(bv Z32).toArray:=rfl
 have fz:=bv_flat limV
 have zl:(bv Z32).toArray.size=32:=rfl
 have zm:(bv limV).toArray.size=32:=rfl
 have oz:okO (some (.cells (bv Z32).toArray 112 (0,0))) 0 32=True:=by simp only[okO,zl];simp
 have rz:rdO (some (.cells (bv limV).toArray 112 (0,0))) 0 32=some (bv limV).toArray:=rdO_all _ _ _ _ zm
 (refine W_at c111_ok ⟨_,rfl,?_⟩;simp (disch:=first|omega|assumption|rfl|(simp only[vcS]<;>omega)|fail) only[↓vcN,vcQ,simprocAttr,hz])
 have hE1:Ext w (w.alloc (.cells (bv Z32).toArray 112)):=(Keep.refl _ w).alloc _
 have c1:(w.alloc (.cells (bv Z32).toArray 112)).heap[w.heap.size]?=some (.cells (bv Z32).toArray 112 (0,0)):=heap_new _ _ _ rfl
 generalize World.alloc w _=w1 at hE1 c1⊢
 generalize hp0:w.heap.size=p0 at*
 (refine W_at c111_ok ⟨_,rfl,?_⟩;simp (disch:=first|omega|assumption|rfl|(simp only[vcS]<;>omega)|fail) only[↓vcN,vcQ,simprocAttr])
 refine callV_ret (expand_ok w1 545259519 (by omega)) ?_
 rintro _ w2 ⟨rfl,hE2⟩
 rw[limit_x,xpR]
 have c2:=hE2.at c1 (fun h=>h)
 first|(simp (disch:=first|omega|assumption|rfl|(simp only[vcS]<;>omega)|fail) only[↓vcN,vcQ,simprocAttr,hz,zm,oz])|skip
 refine⟨fz,?_⟩
 have hE3:Ext w2 ((w2.alloc (.cells (bv Z32).toArray 112)).putN w2.heap.size 0 (bv limV).toArray):=((Keep.refl _ w2).alloc _).putN _ (by intro hh;exfalso;omega)
 have c3:((w2.alloc (.cells (bv Z32).toArray 112)).putN w2.heap.size 0 (bv limV).toArray).heap[w2.heap.size]?=some (.cells (bv limV).toArray 112 (0,0)):=by
  rw[heap_putN_eq (heap_new _ _ _ rfl),splice_all (by rw[zm];rfl)]
 have c23:=hE3.at c2 (fun h=>h)
 generalize World.putN _ _ _ _=w3 at hE3 c3 c23⊢
 generalize w2.heap.size=p1 at*
 (refine W_at c111_ok ⟨_,rfl,?_⟩;simp (disch:=first|omega|assumption|rfl|(simp only[vcS]<;>omega)|fail) only[↓vcN,vcQ,simprocAttr,c3,c23,rz,zm,oz])
 refine⟨fz,?_⟩
 have d9:(w3.putN p0 0 (bv limV).toArray).heap[p0]?=some (.cells (bv limV).toArray 112 (0,0)):=by
  rw[heap_putN_eq c23,splice_all (by rw[zm];rfl)]
 (refine W_at c111_ok ⟨_,rfl,?_⟩;simp (disch:=first|omega|assumption|rfl|(simp only[vcS]<;>omega)|fail) only[↓vcN,vcQ,simprocAttr,d9,rz,Ret_returned])
 exact((hE1.ext hE2).ext hE3).trans ((Keep.refl (fun g=>g=p0) w3).putN _ fun _=>rfl) fun g hg e=>by omega
theorem rlimit_ok (w:World):Calls Tryz.prog 62 #[] w (Ret fun u w'=>u=.agg (bv limV).toArray∧Ext w w'):=by
 refine calls_of_cfg c62_ok (Nat.le_of_ble_eq_true rfl) ?_
 simp only[argE_nil]
 have hz:zc [(32,Value.int .u8 0)]=(bv Z32).toArray:=rfl
 have fz:=bv_flat limV
 have zl:(bv Z32).toArray.size=32:=rfl
 have zm:(bv limV).toArray.size=32:=rfl
 have oz:okO (some (.cells (bv Z32).toArray 22 (0,0))) 0 32=True:=by simp only[okO,zl];simp
 have rz:rdO (some (.cells (bv limV).toArray 22 (0,0))) 0 32=some (bv limV).toArray:=rdO_all _ _ _ _ zm
 (refine W_at c62_ok ⟨_,rfl,?_⟩;simp (disch:=first|omega|assumption|rfl|(simp only[vcS]<;>omega)|fail) only[↓vcN,vcQ,simprocAttr,hz])
 have hE1:Ext w (w.alloc (.cells (bv Z32).toArray 22)):=(Keep.refl _ w).alloc _
 have c1:(w.alloc (.cells (bv Z32).toArray 22)).heap[w.heap.size]?=some (.cells (bv Z32).toArray 22 (0,0)):=heap_new _ _ _ rfl
 generalize World.alloc w _=w1 at hE1 c1⊢
 generalize hp0:w.heap.size=p0 at*
 have hb:(#[Value.int .u8 127]++(#[Value.int .u8 255]++(#[Value.int .u8 255]++zc [(29,Value.int .u8 0)])))=(bv limV).toArray:=rfl
 (refine W_at c62_ok ⟨_,rfl,?_⟩;simp (disch:=first|omega|assumption|rfl|(simp only[vcS]<;>omega)|fail) only[↓vcN,vcQ,simprocAttr,c1,zm,oz,hb])
 refine⟨fz,?_⟩
 have d9:(w1.putN p0 0 (bv limV).toArray).heap[p0]?=some (.cells (bv limV).toArray 22 (0,0)):=by
  rw[heap_putN_eq c1,splice_all (by rw[zm];rfl)]
 (refine W_at c62_ok ⟨_,rfl,?_⟩;simp (disch:=first|omega|assumption|rfl|(simp only[vcS]<;>omega)|fail) only[↓vcN,vcQ,simprocAttr,d9,rz,Ret_returned])
 exact hE1.trans ((Keep.refl (fun g=>g=p0) w1).putN _ fun _=>rfl) fun g hg e=>by omega
end Go.Proofs
