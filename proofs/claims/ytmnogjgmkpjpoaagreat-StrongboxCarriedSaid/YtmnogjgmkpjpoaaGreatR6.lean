/- Laws that the last text of this claim uses, part 6: written for it, merged by program. -/
import Derived.Test.YtmnogjgmkpjpoaaGreatR5
set_option linter.unusedSimpArgs false
set_option linter.unusedVariables false
set_option linter.constructorNameAsVariable false
namespace Go.Proofs
open Go.Vc
set_option maxRecDepth 10000
set_option maxHeartbeats 800000 in
theorem id_ok (w:World)(iv ov:Value)(t:TxV)(hT:TxR w iv ov t)(h3:t.Sm3):
  Calls Tryz.prog 27 #[.agg (txC t iv ov)] w (Ret fun u w'=>u=.agg (bv (dblF (encW t (false&&witB t)))).toArray∧Ext w w'):=by
 refine calls_of_cfg c27_ok (Nat.le_of_ble_eq_true rfl) ?_
 simp only[argE_nil,argE_cons,Nat.zero_add]
 have hfx:=txC_flat2 hT
 have hcx:(Value.agg (txC t iv ov)).cells=txC t iv ov:=rfl
 have hzx:=txC_sz t iv ov
 (refine W_at c27_ok ⟨_,rfl,?_⟩;simp (disch:=first|omega|assumption|rfl|(simp only[vcS]<;>omega)|fail) only[↓vcN,vcQ,simprocAttr,hcx])
 have hE1:Ext w (w.alloc (.cells (txC t iv ov) 33)):=(Keep.refl _ w).alloc _
 have c1:(w.alloc (.cells (txC t iv ov) 33)).heap[w.heap.size]?=some (.cells (txC t iv ov) 33 (0,0)):=heap_new _ _ _ rfl
 have s1:(w.alloc (.cells (txC t iv ov) 33)).heap.size=w.heap.size+1:=size_alloc _ _
 generalize World.alloc w _=w1 at hE1 c1 s1⊢
 have hE2:Ext w1 (w1.alloc (.cells (zc [(32,.int .u8 0)]) 23)):=(Keep.refl _ w1).alloc _
 have c2:(w1.alloc (.cells (zc [(32,.int .u8 0)]) 23)).heap[w.heap.size+1]?=some (.cells (zc [(32,.int .u8 0)]) 23 (0,0)):=heap_new _ _ _ s1.symm
 generalize World.alloc w1 _=w2 at hE2 c2⊢
 have c12:=hE2.at c1 (fun h=>h)
 have hE:=hE1.ext hE2
 have r4:rdO (some (.cells (txC t iv ov) 33 (0,0))) 0 4=some (txC t iv ov):=rdO_all _ _ _ _ rfl
 have l2:w.heap.size≤w.heap.size+1:=by omega
 generalize w.heap.size+1=p2 at c2 l2⊢
 (refine W_at c27_ok ⟨_,rfl,?_⟩;simp (disch:=first|omega|assumption|rfl|(simp only[vcS]<;>omega)|fail) only[↓vcX,ptS2_eq,vcQ,simprocAttr,c12,r4])
 refine callV_ret (encodeW_ok w2 iv ov t false (hT.ext hE) h3) ?_
 intro u w3 hu
 simp (disch:=first|omega|assumption|rfl|(simp only[vcS]<;>omega)|fail) only[↓vcY,ptS1_eq,vcQ,simprocAttr]
 have hl:=encW_len h3 (false&&witB t)
 have hb:=encW_byt h3.ok (false&&witB t)
 generalize encW t (false&&witB t)=B at*
 refine callV_ret (double_ok w3 u _ hu.own.rd hb (by omega)) ?_
 rintro _ w4 ⟨rfl,hE4⟩
 have c24:=hE4.at (hu.ext.at c2 (fun h=>h)) (fun h=>h)
 have hzz:(zc [(32,Value.int .u8 0)]).size=32:=rfl
 have s32:(bv (dblF B)).toArray.size=32:=by rw[bva_size,dblF_len]
 have o32:okO (some (.cells (zc [(32,.int .u8 0)]) 23 (0,0))) 0 32=True:=by simp only[okO,hzz];simp
 first|(simp (disch:=first|omega|assumption|rfl|(simp only[vcS]<;>omega)|fail) only[↓vcX,ptS2_eq,vcQ,simprocAttr,c24,s32,o32])|skip
 refine⟨bv_flat _,?_⟩
 have d9:(w4.putN p2 0 (bv (dblF B)).toArray).heap[p2]?=some (.cells (bv (dblF B)).toArray 23 (0,0)):=by
  rw[heap_putN_eq c24,splice_all (by rw[s32];rfl)]
 have hr32:rdO (some (.cells (bv (dblF B)).toArray 23 (0,0))) 0 32=some (bv (dblF B)).toArray:=rdO_all _ _ _ _ s32
 (refine W_at c27_ok ⟨_,rfl,?_⟩;simp (disch:=first|omega|assumption|rfl|(simp only[vcS]<;>omega)|fail) only[↓vcN,vcQ,simprocAttr,d9,hr32,Ret_returned])
 exact((hE.ext hu.ext).ext hE4).trans ((Keep.refl (fun g=>g=p2) w4).putN _ fun _=>rfl) fun g hg e=>by omega
set_option maxHeartbeats 800000 in
theorem wid_ok (w:World)(iv ov:Value)(t:TxV)(hT:TxR w iv ov t)(h3:t.Sm3):
  Calls Tryz.prog 57 #[.agg (txC t iv ov)] w (Ret fun u w'=>u=.agg (bv (dblF (encW t (true&&witB t)))).toArray∧Ext w w'):=by
 refine calls_of_cfg c57_ok (Nat.le_of_ble_eq_true rfl) ?_
 simp only[argE_nil,argE_cons,Nat.zero_add]
 have hfx:=txC_flat2 hT
 have hcx:(Value.agg (txC t iv ov)).cells=txC t iv ov:=rfl
 have hzx:=txC_sz t iv ov
 (refine W_at c57_ok ⟨_,rfl,?_⟩;simp (disch:=first|omega|assumption|rfl|(simp only[vcS]<;>omega)|fail) only[↓vcN,vcQ,simprocAttr,hcx])
 have hE1:Ext w (w.alloc (.cells (txC t iv ov) 33)):=(Keep.refl _ w).alloc _
 have c1:(w.alloc (.cells (txC t iv ov) 33)).heap[w.heap.size]?=some (.cells (txC t iv ov) 33 (0,0)):=heap_new _ _ _ rfl
 have s1:(w.alloc (.cells (txC t iv ov) 33)).heap.size=w.heap.size+1:=size_alloc _ _
 generalize World.alloc w _=w1 at hE1 c1 s1⊢
 have hE2:Ext w1 (w1.alloc (.cells (zc [(32,.int .u8 0)]) 23)):=(Keep.refl _ w1).alloc _
 have c2:(w1.alloc (.cells (zc [(32,.int .u8 0)]) 23)).heap[w.heap.size+1]?=some (.cells (zc [(32,.int .u8 0)]) 23 (0,0)):=heap_new _ _ _ s1.symm
 generalize World.alloc w1 _=w2 at hE2 c2⊢
 have c12:=hE2.at c1 (fun h=>h)
 have hE:=hE1.ext hE2
 have r4:rdO (some (.cells (txC t iv ov) 33 (0,0))) 0 4=some (txC t iv ov):=rdO_all _ _ _ _ rfl
 have l2:w.heap.size≤w.heap.size+1:=by omega
 generalize w.heap.size+1=p2 at c2 l2⊢
 (refine W_at c57_ok ⟨_,rfl,?_⟩;simp (disch:=first|omega|assumption|rfl|(simp only[vcS]<;>omega)|fail) only[↓vcX,ptS2_eq,vcQ,simprocAttr,c12,r4])
 refine callV_ret (encodeW_ok w2 iv ov t true (hT.ext hE) h3) ?_
 intro u w3 hu
 simp (disch:=first|omega|assumption|rfl|(simp only[vcS]<;>omega)|fail) only[↓vcY,ptS1_eq,vcQ,simprocAttr]
 have hl:=encW_len h3 (true&&witB t)
 have hb:=encW_byt h3.ok (true&&witB t)
 generalize encW t (true&&witB t)=B at*
 refine callV_ret (double_ok w3 u _ hu.own.rd hb (by omega)) ?_
 rintro _ w4 ⟨rfl,hE4⟩
 have c24:=hE4.at (hu.ext.at c2 (fun h=>h)) (fun h=>h)
 have hzz:(zc [(32,Value.int .u8 0)]).size=32:=rfl
 have s32:(bv (dblF B)).toArray.size=32:=by rw[bva_size,dblF_len]
 have o32:okO (some (.cells (zc [(32,.int .u8 0)]) 23 (0,0))) 0 32=True:=by simp only[okO,hzz];simp
 first|(simp (disch:=first|omega|assumption|rfl|(simp only[vcS]<;>omega)|fail) only[↓vcX,ptS2_eq,vcQ,simprocAttr,c24,s32,o32])|skip
 refine⟨bv_flat _,?_⟩
 have d9:(w4.putN p2 0 (bv (dblF B)).toArray).heap[p2]?=some (.cells (bv (dblF B)).toArray 23 (0,0)):=by
  rw[heap_putN_eq c24,splice_all (by rw[s32];rfl)]
 have hr32:rdO (some (.cells (bv (dblF B)).toArray 23 (0,0))) 0 32=some (bv (dblF B)).toArray:=rdO_all _ _ _ _ s32
 (refine W_at c57_ok ⟨_,rfl,?_⟩;simp (disch:=first|omega|assumption|rfl|(simp only[vcS]<;>omega)|fail) only[↓vcN,vcQ,simprocAttr,d9,hr32,Ret_returned])
 exact((hE.ext hu.ext).ext hE4).trans ((Keep.refl (fun g=>g=p2) w4).putN _ fun _=>rfl) fun g hg e=>by omega
set_option maxHeartbeats 800000 in
theorem rid_ok (w:World)(iv ov:Value)(t:TxV)(hT:TxR w iv ov t)(h3:t.Sm3):
  Calls Tryz.prog 32 #[.agg (txC t iv ov)] w (Ret fun u w'=>u=.agg (bv (dblF (encW t (false&&witB t)))).toArray∧Ext w w'):=by
 refine calls_of_cfg c32_ok (Nat.le_of_ble_eq_true rfl) ?_
 simp only[argE_nil,argE_cons,Nat.zero_add]
 have hfx:=txC_flat2 hT
 have hcx:(Value.agg (txC t iv ov)).cells=txC t iv ov:=rfl
 have hzx:=txC_sz t iv ov
 (refine W_at c32_ok ⟨_,rfl,?_⟩;simp (disch:=first|omega|assumption|rfl|(simp only[vcS]<;>omega)|fail) only[↓vcN,vcQ,simprocAttr,hcx])
 have hE1:Ext w (w.alloc (.cells (txC t iv ov) 33)):=(Keep.refl _ w).alloc _
 have c1:(w.alloc (.cells (txC t iv ov) 33)).heap[w.heap.size]?=some (.cells (txC t iv ov) 33 (0,0)):=heap_new _ _ _ rfl
 have s1:(w.alloc (.cells (txC t iv ov) 33)).heap.size=w.heap.size+1:=size_alloc _ _
 generalize World.alloc w _=w1 at hE1 c1 s1⊢
 have hE2:Ext w1 (w1.alloc (.cells (zc [(32,.int .u8 0)]) 22)):=(Keep.refl _ w1).alloc _
 have c2:(w1.alloc (.cells (zc [(32,.int .u8 0)]) 22)).heap[w.heap.size+1]?=some (.cells (zc [(32,.int .u8 0)]) 22 (0,0)):=heap_new _ _ _ s1.symm
 generalize World.alloc w1 _=w2 at hE2 c2⊢
 have c12:=hE2.at c1 (fun h=>h)
 have hE:=hE1.ext hE2
 have r4:rdO (some (.cells (txC t iv ov) 33 (0,0))) 0 4=some (txC t iv ov):=rdO_all _ _ _ _ rfl
 have l2:w.heap.size≤w.heap.size+1:=by omega
 generalize w.heap.size+1=p2 at c2 l2⊢
 (refine W_at c32_ok ⟨_,rfl,?_⟩;simp (disch:=first|omega|assumption|rfl|(simp only[vcS]<;>omega)|fail) only[↓vcX,ptS2_eq,vcQ,simprocAttr,c12,r4])
 refine callV_ret (rencodeW_ok w2 iv ov t false (hT.ext hE) h3) ?_
 intro u w3 hu
 simp (disch:=first|omega|assumption|rfl|(simp only[vcS]<;>omega)|fail) only[↓vcY,ptS1_eq,vcQ,simprocAttr]
 have hl:=encW_len h3 (false&&witB t)
 have hb:=encW_byt h3.ok (false&&witB t)
 generalize encW t (false&&witB t)=B at*
 refine callV_ret (rdouble_ok w3 u _ hu.own.rd hb (by omega)) ?_
 rintro _ w4 ⟨rfl,hE4⟩
 have c24:=hE4.at (hu.ext.at c2 (fun h=>h)) (fun h=>h)
 have hzz:(zc [(32,Value.int .u8 0)]).size=32:=rfl
 have s32:(bv (dblF B)).toArray.size=32:=by rw[bva_size,dblF_len]
 have o32:okO (some (.cells (zc [(32,.int .u8 0)]) 22 (0,0))) 0 32=True:=by simp only[okO,hzz];simp
 first|(simp (disch:=first|omega|assumption|rfl|(simp only[vcS]<;>omega)|fail) only[↓vcX,ptS2_eq,vcQ,simprocAttr,c24,s32,o32])|skip
 refine⟨bv_flat _,?_⟩
 have d9:(w4.putN p2 0 (bv (dblF B)).toArray).heap[p2]?=some (.cells (bv (dblF B)).toArray 22 (0,0)):=by
  rw[heap_putN_eq c24,splice_all (by rw[s32];rfl)]
 have hr32:rdO (some (.cells (bv (dblF B)).toArray 22 (0,0))) 0 32=some (bv (dblF B)).toArray:=rdO_all _ _ _ _ s32
 (refine W_at c32_ok ⟨_,rfl,?_⟩;simp (disch:=first|omega|assumption|rfl|(simp only[vcS]<;>omega)|fail) only[↓vcN,vcQ,simprocAttr,d9,hr32,Ret_returned])
 exact((hE.ext hu.ext).ext hE4).trans ((Keep.refl (fun g=>g=p2) w4).putN _ fun _=>rfl) fun g hg e=>by omega
def opC (p:List Int)(i:Int):Array Value:=(bv p++[Value.int .u32 i]).toArray
theorem opC_size {p:List Int}(hp:p.length=32)(i:Int):(opC p i).size=33:=by simp [opC,bv_len,hp]
theorem opC_flat (p:List Int)(i:Int):flat (opC p i):=by
 intro v hv
 simp only[opC,List.mem_append,List.mem_singleton] at hv
 rcases hv with hv|rfl
 ·exact bv_flat p v (by simpa using hv)
 ·rfl
theorem conf33 {p:List Int}(hp:p.length=32)(i:Int):conf (skR [(32,.i .u8),(1,.i .u32)]) (opC p i).toList=true:=by
 have e:skR [(32,.i .u8),(1,.i .u32)]=List.replicate p.length (.i .u8)++[.i .u32]:=by rw[hp];simp [skR]
 rw[e]
 show conf (List.replicate p.length (.i .u8)++[.i .u32]) (bv p++[.int .u32 i])=true
 clear e hp
 induction p with
 |nil=>rfl
 |cons b p ih=>
  simp only[bv,List.length_cons,List.replicate_succ,List.map_cons,List.cons_append,conf,SK.ok,decide_true,Bool.true_and] at ih⊢
  exact ih
theorem opC_inj {p q:List Int}{i j:Int}(h:p.length=q.length):opC p i=opC q j↔p=q∧i=j:=by
 constructor
 ·intro e
  have e2:bv p++[Value.int .u32 i]=bv q++[Value.int .u32 j]:=by simpa [opC] using e
  obtain⟨a,b⟩:=List.append_inj e2 (by rw[bv_len,bv_len,h])
  exact⟨bv_inj.1 a,by simpa using b⟩
 ·rintro⟨rfl,rfl⟩;rfl
theorem eqc33 {p q:List Int}(i j:Int)(h:p.length=q.length):eqc (opC p i).toList (opC q j).toList=decide (p=q∧i=j):=by
 have:=opC_inj (i:=i) (j:=j) h
 unfold eqc
 refine decide_eq_decide.2 (Iff.trans ⟨fun e=>Array.ext' e,fun e=>by rw[e]⟩ this)
theorem iC_op {x:TxI}(hx:x.prev.length=32){sv wv:Value}{T:TypeId}{m:Nat×Nat}{cs:Array Value}{o:Nat}(h:rdO (some (.cells cs T m)) o 36=some (iC x sv wv)):rdO (some (.cells cs T m)) o 33=some (opC x.prev x.idx):=by
 simp only[rdO] at h⊢
 split at h
 ·rename_i hle
  rw[if_pos (by omega)]
  have h2:=Option.some.inj h
  congr 1
  have e:cs.extract o (o+33)=(cs.extract o (o+36)).extract 0 33:=by
   rw[Array.extract_extract]
   congr 1
   omega
  rw[e,h2]
  apply Array.ext'
  simp [iC,opC,List.take_append,bv_len,hx]
  exact List.take_of_length_le (by rw[bv_len,hx];omega)
 ·cases h
def empB (x:TxI):Bool:=decide (x.prev=Z32∧x.idx=4294967295)
def coinB (t:TxV):Bool:=match t.ins with
 |[x]=>empB x
 |_=>false
theorem coinB_no {t:TxV}(h:t.ins.length≠1):coinB t=false:=by
 unfold coinB
 split
 ·rename_i x e;rw[e] at h;exact absurd rfl h
 ·rfl
theorem coinB_one {t:TxV}{x:TxI}(h:t.ins=[x]):coinB t=empB x:=by
 unfold coinB
 rw[h]
theorem empty_ok (w:World):Calls Tryz.prog 52 #[] w (Ret fun u w'=>u=.agg (opC Z32 4294967295)∧Ext w w'):=by
 refine calls_of_cfg c52_ok (Nat.le_of_ble_eq_true rfl) ?_
 simp only[argE_nil]
 have hz:zc [(32,Value.int .u8 0),(1,.int .u32 0)]=opC Z32 0:=by kernel_rfl
 have hb:zc [(32,Value.int .u8 0)]++(#[Value.int .u32 4294967295]++#[])=opC Z32 4294967295:=by kernel_rfl
 have hb2:zc [(32,Value.int .u8 0)]++#[Value.int .u32 4294967295]=opC Z32 4294967295:=by kernel_rfl
 have s0:(opC Z32 0).size=33:=opC_size rfl 0
 have s1:(opC Z32 4294967295).size=33:=opC_size rfl _
 have f1:=opC_flat Z32 4294967295
 have oz:okO (some (.cells (opC Z32 0) 58 (0,0))) 0 33=True:=by simp only[okO,s0];simp
 have rz:rdO (some (.cells (opC Z32 4294967295) 58 (0,0))) 0 33=some (opC Z32 4294967295):=rdO_all _ _ _ _ s1
 (refine W_at c52_ok ⟨_,rfl,?_⟩;simp (disch:=first|omega|assumption|rfl|(simp only[vcS]<;>omega)|fail) only[↓vcN,vcQ,simprocAttr,hz])
 have hE1:Ext w (w.alloc (.cells (opC Z32 0) 58)):=(Keep.refl _ w).alloc _
 have c1:(w.alloc (.cells (opC Z32 0) 58)).heap[w.heap.size]?=some (.cells (opC Z32 0) 58 (0,0)):=heap_new _ _ _ rfl
 generalize World.alloc w _=w1 at hE1 c1⊢
 generalize hp0:w.heap.size=p0 at*
 (refine W_at c52_ok ⟨_,rfl,?_⟩;simp (disch:=first|omega|assumption|rfl|(simp only[vcS]<;>omega)|fail) only[↓vcN,vcQ,simprocAttr,c1,hb2,s1,oz])
 refine⟨f1,?_⟩
 have d9:(w1.putN p0 0 (opC Z32 4294967295)).heap[p0]?=some (.cells (opC Z32 4294967295) 58 (0,0)):=by
  rw[heap_putN_eq c1,splice_all (by rw[s1,s0])]
 (refine W_at c52_ok ⟨_,rfl,?_⟩;simp (disch:=first|omega|assumption|rfl|(simp only[vcS]<;>omega)|fail) only[↓vcN,vcQ,simprocAttr,d9,rz,Ret_returned])
 exact hE1.trans ((Keep.refl (fun g=>g=p0) w1).putN _ fun _=>rfl) fun g hg e=>by omega
set_option maxHeartbeats 800000 in
theorem coinbase_ok (w:World)(iv ov:Value)(t:TxV)(hT:TxR w iv ov t)(ht:t.Ok)(hl:t.ins.length≤1000000):
  Calls Tryz.prog 17 #[.agg (txC t iv ov)] w (Ret fun u w'=>u=.bool (coinB t)∧Ext w w'):=by
 refine calls_of_cfg c17_ok (Nat.le_of_ble_eq_true rfl) ?_
 simp only[argE_nil,argE_cons,Nat.zero_add]
 have hfx:=txC_flat2 hT
 have hcx:(Value.agg (txC t iv ov)).cells=txC t iv ov:=rfl
 have hzx:=txC_sz t iv ov
 have t1:(txC t iv ov)[1]?=some iv:=rfl
 (refine W_at c17_ok ⟨_,rfl,?_⟩;simp (disch:=first|omega|assumption|rfl|(simp only[vcS]<;>omega)|fail) only[↓vcN,vcQ,simprocAttr,hcx])
 have hE1:Ext w (w.alloc (.cells (txC t iv ov) 33)):=(Keep.refl _ w).alloc _
 have c1:(w.alloc (.cells (txC t iv ov) 33)).heap[w.heap.size]?=some (.cells (txC t iv ov) 33 (0,0)):=heap_new _ _ _ rfl
 generalize World.alloc w _=w1 at hE1 c1⊢
 generalize w.heap.size=p1 at*
 have hlen:=hT.ins.len
 by_cases h1:t.ins.length=1
 ·have h1i:((t.ins.length:Nat):Int)=1:=by omega
  obtain⟨x0,hx0⟩:=List.length_eq_one_iff.1 h1
  rw[coinB_one hx0]
  have hx00:t.ins[0]'(by omega)=x0:=by simp only[hx0,List.getElem_cons_zero]
  have hT1:=hT.ext hE1
  have hEd:Ext w1 w1.drew:=(Keep.refl _ w1).drew
  obtain⟨b,o,c,cs,ev,hrd,hcs,sv,wv,ecs,hsvW,hwvW⟩:=hT1.ins.at (i:=0) (by omega)
  have hok:=ht.ins _ (List.getElem_mem (show 0<t.ins.length by omega))
  rw[hx00] at ecs hsvW hwvW hok
  generalize x0=x at*
  subst ecs
  have t1':(txC t iv ov)[1]?=some (.slice (some ⟨b,o,none⟩) t.ins.length c):=by rw[←ev];rfl
  have hlen':lenR (.slice (some ⟨b,o,none⟩) t.ins.length c)=some (.int .i64 (t.ins.length:Nat)):=rfl
  have e0:o+0*36=o:=by omega
  rw[e0] at hrd
  have rdop:∀w',Ext w1 w'→rdO w'.heap[b]? o 33=some (opC x.prev x.idx):=fun w' k=>by
   have h:=rdO_ext' k hrd
   cases hg:w'.heap[b]? with
   |none=>rw[hg] at h;cases h
   |some ob=>
    rw[hg] at h
    cases ob with
    |cells d T fr=>exact iC_op hok.len h
    |_=>cases h
  have r1:=rdop w1 (Keep.refl _ _)
  have r1d:=rdop w1.drew hEd
  have c1d:=hEd.at c1 (fun h=>h)
  have bb:(0:Int)≤0∧(0:Int)< (t.ins.length:Nat):=by omega
  have hdd:decide ((t.ins.length:Nat)=(1:Int))=true:=decide_eq_true h1i
  have q1:=conf33 hok.len x.idx
  have q2:=conf33 (p:=Z32) rfl 4294967295
  have q3:=eqc33 (p:=x.prev) (q:=Z32) x.idx 4294967295 (by rw[hok.len];rfl)
  (refine W_at c17_ok ⟨_,rfl,?_⟩;simp (disch:=first|omega|assumption|rfl|(simp only[vcS]<;>omega)|fail) only[↓vcX,ptS2_eq,vcQ,simprocAttr,c1,t1',hlen',h1i,bb,r1,Int.toNat_zero])
  refine callV_ret (empty_ok w1.drew) ?_
  rintro _ w2 ⟨rfl,hE2⟩
  have r12:=rdop w2 (hEd.ext hE2)
  have c12:=hE2.at c1d (fun h=>h)
  have he:empB x=decide (x.prev=Z32∧x.idx=4294967295):=rfl
  rw[he]
  generalize decide (x.prev=Z32∧x.idx=4294967295)=B at*
  simp (disch:=first|omega|assumption|rfl|(simp only[vcS]<;>omega)|fail) only[↓vcY,ptS1_eq,vcQ,simprocAttr,r12,c12,t1',q1,q2,q3,Bool.false_xor]
  first|((refine W_at c17_ok ⟨_,rfl,?_⟩;simp (disch:=first|omega|assumption|rfl|(simp only[vcS]<;>omega)|fail) only[↓vcN,vcQ,simprocAttr,Ret_returned]))|skip
  exact(hE1.ext hEd).ext hE2
 ·have h1i:¬(((t.ins.length:Nat):Int)=1):=by omega
  rw[coinB_no h1]
  have hEd:Ext w1 w1.drew:=(Keep.refl _ w1).drew
  iterate 2 (refine W_at c17_ok ⟨_,rfl,?_⟩;simp (disch:=first|omega|assumption|rfl|(simp only[vcS]<;>omega)|fail) only[↓vcN,vcQ,simprocAttr,c1,t1,hlen,h1i,Ret_returned])
  exact hE1.ext hEd
set_option maxHeartbeats 800000 in
theorem rempty_ok (w:World)(p:List Int)(i:Int)(hp:p.length=32):
  Calls Tryz.prog 67 #[.agg (opC p i)] w (Ret fun u w'=>u=.bool (decide (p=Z32∧i=4294967295))∧Ext w w'):=by
 refine calls_of_cfg c67_ok (Nat.le_of_ble_eq_true rfl) ?_
 simp only[argE_nil,argE_cons,Nat.zero_add]
 have f:=opC_flat p i
 have s:=opC_size hp i
 have hcx:(Value.agg (opC p i)).cells=opC p i:=rfl
 have hz:zc [(32,Value.int .u8 0)]=(bv Z32).toArray:=rfl
 (refine W_at c67_ok ⟨_,rfl,?_⟩;simp (disch:=first|omega|assumption|rfl|(simp only[vcS]<;>omega)|fail) only[↓vcN,vcQ,simprocAttr,hcx])
 have hE1:Ext w (w.alloc (.cells (opC p i) 58)):=(Keep.refl _ w).alloc _
 have c1:(w.alloc (.cells (opC p i) 58)).heap[w.heap.size]?=some (.cells (opC p i) 58 (0,0)):=heap_new _ _ _ rfl
 generalize World.alloc w _=w1 at hE1 c1⊢
 generalize w.heap.size=p1 at*
 have r32:rdO (some (.cells (opC p i) 58 (0,0))) 0 32=some (bv p).toArray:=by
  rw[rdO_some _ _ _ _ _ (by rw[s];omega)]
  congr 1
  apply Array.ext'
  simp [opC,bv_len,hp]
 have g32:(opC p i)[32]?=some (.int .u32 i):=by simp [opC,bv_len,hp]
 have q1:=conf32 hp
 have q2:=conf32 (D:=Z32) rfl
 have q3:=eqc32 p Z32
 by_cases h1:p=Z32
 ·rw[decide_eq_true h1] at q3
  have e:decide (p=Z32∧i=4294967295)=decide (i=4294967295):=by
   by_cases h2:i=4294967295
   ·rw[decide_eq_true h2,decide_eq_true ⟨h1,h2⟩]
   ·rw[decide_eq_false h2,decide_eq_false (fun h=>h2 h.2)]
  rw[e]
  iterate 2 (refine W_at c67_ok ⟨_,rfl,?_⟩;simp (disch:=first|omega|assumption|rfl|(simp only[vcS]<;>omega)|fail) only[↓vcN,vcQ,simprocAttr,c1,r32,hz,q1,q2,q3,Bool.false_xor,g32,Ret_returned])
  exact hE1
 ·rw[decide_eq_false h1] at q3
  have e:decide (p=Z32∧i=4294967295)=false:=decide_eq_false fun h=>h1 h.1
  rw[e]
  iterate 2 (refine W_at c67_ok ⟨_,rfl,?_⟩;simp (disch:=first|omega|assumption|rfl|(simp only[vcS]<;>omega)|fail) only[↓vcN,vcQ,simprocAttr,c1,r32,hz,q1,q2,q3,Bool.false_xor,Ret_returned])
  exact hE1
set_option maxHeartbeats 800000 in
theorem rcoinbase_ok (w:World)(iv ov:Value)(t:TxV)(hT:TxR w iv ov t)(ht:t.Ok)(hl:t.ins.length≤1000000):
  Calls Tryz.prog 28 #[.agg (txC t iv ov)] w (Ret fun u w'=>u=.bool (coinB t)∧Ext w w'):=by
 refine calls_of_cfg c28_ok (Nat.le_of_ble_eq_true rfl) ?_
 simp only[argE_nil,argE_cons,Nat.zero_add]
 have hfx:=txC_flat2 hT
 have hcx:(Value.agg (txC t iv ov)).cells=txC t iv ov:=rfl
 have hzx:=txC_sz t iv ov
 have t1:(txC t iv ov)[1]?=some iv:=rfl
 (refine W_at c28_ok ⟨_,rfl,?_⟩;simp (disch:=first|omega|assumption|rfl|(simp only[vcS]<;>omega)|fail) only[↓vcN,vcQ,simprocAttr,hcx])
 have hE1:Ext w (w.alloc (.cells (txC t iv ov) 33)):=(Keep.refl _ w).alloc _
 have c1:(w.alloc (.cells (txC t iv ov) 33)).heap[w.heap.size]?=some (.cells (txC t iv ov) 33 (0,0)):=heap_new _ _ _ rfl
 generalize World.alloc w _=w1 at hE1 c1⊢
 generalize w.heap.size=p1 at*
 have hlen:=hT.ins.len
 by_cases h1:t.ins.length=1
 ·have h1i:((t.ins.length:Nat):Int)=1:=by omega
  obtain⟨x0,hx0⟩:=List.length_eq_one_iff.1 h1
  rw[coinB_one hx0]
  have hx00:t.ins[0]'(by omega)=x0:=by simp only[hx0,List.getElem_cons_zero]
  have hT1:=hT.ext hE1
  obtain⟨b,o,c,cs,ev,hrd,hcs,sv,wv,ecs,hsvW,hwvW⟩:=hT1.ins.at (i:=0) (by omega)
  have hok:=ht.ins _ (List.getElem_mem (show 0<t.ins.length by omega))
  rw[hx00] at ecs hsvW hwvW hok
  generalize x0=x at*
  subst ecs
  have t1':(txC t iv ov)[1]?=some (.slice (some ⟨b,o,none⟩) t.ins.length c):=by rw[←ev];rfl
  have hlen':lenR (.slice (some ⟨b,o,none⟩) t.ins.length c)=some (.int .i64 (t.ins.length:Nat)):=rfl
  have e0:o+0*36=o:=by omega
  rw[e0] at hrd
  have r1:rdO w1.heap[b]? o 33=some (opC x.prev x.idx):=by
   cases hg:w1.heap[b]? with
   |none=>rw[hg] at hrd;cases hrd
   |some ob=>
    rw[hg] at hrd
    cases ob with
    |cells d T fr=>exact iC_op hok.len hrd
    |_=>cases hrd
  have bb:(0:Int)≤0∧(0:Int)< (t.ins.length:Nat):=by omega
  (refine W_at c28_ok ⟨_,rfl,?_⟩;simp (disch:=first|omega|assumption|rfl|(simp only[vcS]<;>omega)|fail) only[↓vcN,vcQ,simprocAttr,c1,t1',hlen',h1i,bb,r1,Int.toNat_zero])
  refine callV_ret (rempty_ok w1 x.prev x.idx hok.len) ?_
  rintro _ w2 ⟨rfl,hE2⟩
  have he:empB x=decide (x.prev=Z32∧x.idx=4294967295):=rfl
  rw[he]
  first|(simp (disch:=first|omega|assumption|rfl|(simp only[vcS]<;>omega)|fail) only[↓vcN,vcQ,simprocAttr])|skip
  (refine W_at c28_ok ⟨_,rfl,?_⟩;simp (disch:=first|omega|assumption|rfl|(simp only[vcS]<;>omega)|fail) only[↓vcN,vcQ,simprocAttr,Ret_returned])
  exact hE1.ext hE2
 ·have h1i:¬(((t.ins.length:Nat):Int)=1):=by omega
  rw[coinB_no h1]
  iterate 2 (refine W_at c28_ok ⟨_,rfl,?_⟩;simp (disch:=first|omega|assumption|rfl|(simp only[vcS]<;>omega)|fail) only[↓vcN,vcQ,simprocAttr,c1,t1,hlen,h1i,Ret_returned])
  exact hE1
end Go.Proofs
namespace Go.Proofs
open Go.Vc
set_option maxRecDepth 10000
abbrev KV:=Value×Value
noncomputable def idxG (k:Value):List KV→Option Nat
 |[]=>none
 |p::l=>@ite _ (k=p.1) (Classical.propDecidable _) (some 0) ((idxG k l).map (· +1))
noncomputable def getG (k:Value)(l:List KV):Option Value:=(idxG k l).bind fun i=>(l[i]?).map (·.2)
noncomputable def putG (k v:Value)(l:List KV):List KV:=match idxG k l with
 |some i=>l.set i (k,v)
 |none=>l++[(k,v)]
structure EsG (lay:List SK)(g:Bool)(es:Array MapEntry)(c:Nat)(l:List KV):Prop where
 eq:es.toList.map (fun e=>(e.key,e.val))=l
 lt:∀e∈es.toList,e.born<c
 ne:es.toList.Pairwise fun a b=>a.born≠b.born
 ok:∀p∈l,kOK lay g p.1=true
def MG (lay:List SK)(g:Bool)(w:World)(r:Nat)(l:List KV):Prop:=∃es c,w.heap[r]?=some (.map es c)∧EsG lay g es c l
section
variable {lay:List SK} {g:Bool} {w w':World} {r:Nat} {l:List KV} {k v:Value}
theorem MG.keep {S:Nat→Prop}(h:MG lay g w r l)(k:Keep S w w')(hr:¬S r):MG lay g w' r l:=by
 obtain⟨es,c,h1,h2⟩:=h;exact⟨es,c,k.at h1 hr,h2⟩
theorem MG.ext (h:MG lay g w r l)(k:Ext w w'):MG lay g w' r l:=h.keep k fun h=>h
theorem MG.empty (w:World):MG lay g (w.alloc (.map #[] 0)) w.heap.size []:=⟨#[],0,heap_new _ _ _ rfl,rfl,fun e he=>(by cases he),List.Pairwise.nil,fun p hp=>(by cases hp)⟩
theorem MG.lt (h:MG lay g w r l):r<w.heap.size:=by obtain⟨es,c,h1,_⟩:=h;exact lt_of_heap h1
theorem EsG.mapE {es:Array MapEntry}{c:Nat}(h1:w.heap[r]?=some (.map es c))(h2:EsG lay g es c l):mapE lay g w r=some (es,c):=by
 unfold Vc.mapE
 rw[h1]
 have hall:es.toList.all (fun e=>kOK lay g e.key)=true:=by
  rw[List.all_eq_true]
  intro e he
  have h3:(e.key,e.val)∈es.toList.map (fun e=>(e.key,e.val)):=List.mem_map_of_mem he
  rw[h2.eq] at h3
  exact h2.ok _ h3
 simp only[hall,if_true]
theorem fnd_g {k:Value}:∀{l:List KV} {es:List MapEntry} (j:Nat),es.map (fun e=>(e.key,e.val))=l→
  fnd k es j=match idxG k l with
   |some i=>(l[i]?).map fun p=>(j+i,p.2)
   |none=>none
 |[],es,j,h=>by simp at h;subst h;simp [fnd,idxG]
 |p::l,[],j,h=>by simp at h
 |p::l,m::es,j,h=>by
  simp only[List.map_cons,List.cons.injEq] at h
  obtain⟨h1,h3⟩:=h
  have ih:=fnd_g (k:=k) (j+1) h3
  have e1:m.key=p.1:=congrArg Prod.fst h1
  have e2:m.val=p.2:=congrArg Prod.snd h1
  simp only[fnd,idxG]
  rw[e1]
  by_cases hk:k=p.1
  ·rw[if_pos hk,if_pos hk];simp [e2]
  ·rw[if_neg hk,ih,if_neg hk]
   cases hq:idxG k l with
   |none=>simp
   |some i=>simp [Nat.add_assoc,Nat.add_comm 1 i]
theorem idxG_lt {k:Value}:∀{l:List KV} {i:Nat},idxG k l=some i→∃p,l[i]?=some p∧p.1=k
 |[],i,h=>by simp [idxG] at h
 |p::l,i,h=>by
  simp only[idxG] at h
  split at h
  ·rename_i hk;simp at h;subst h;exact⟨p,by simp,hk.symm⟩
  ·cases hq:idxG k l with
   |none=>simp [hq] at h
   |some j=>simp [hq] at h;subst h;obtain⟨p',h1,h2⟩:=idxG_lt hq;exact⟨p',by simpa using h1,h2⟩
theorem idxG_mem {k:Value}:∀{l:List KV},(∃p∈l,p.1=k)→∃i,idxG k l=some i
 |[],h=>by obtain⟨p,hp,_⟩:=h;cases hp
 |q::l,h=>by
  simp only[idxG]
  by_cases hk:k=q.1
  ·exact⟨0,by rw[if_pos hk]⟩
  ·obtain⟨p,hp,e⟩:=h
   rcases List.mem_cons.1 hp with rfl|hp
   ·exact absurd e.symm hk
   ·obtain⟨i,hi⟩:=idxG_mem ⟨p,hp,e⟩
    exact⟨i+1,by rw[if_neg hk,hi];rfl⟩
theorem getG_mem (h:getG k l=some v):(k,v)∈l:=by
 unfold getG at h
 cases hq:idxG k l with
 |none=>rw[hq] at h;cases h
 |some i=>
  obtain⟨p,h1,h2⟩:=idxG_lt hq
  rw[hq] at h
  simp only[Option.bind_some,h1,Option.map_some,Option.some.injEq] at h
  have:=List.mem_of_getElem? h1
  rw[←h2,←h];exact this
theorem getG_some (h:∃p∈l,p.1=k):∃v,getG k l=some v:=by
 obtain⟨i,hi⟩:=idxG_mem h
 obtain⟨p,h1,_⟩:=idxG_lt hi
 exact⟨p.2,by unfold getG;rw[hi];simp [h1]⟩
theorem MG.lkp (h:MG lay g w r l)(z:Value)(hk:kOK lay g k=true)(ok:Bool):
  lkpR lay g z ok w (.map (some r)) k=some (match getG k l with|some v=>packL ok v true|none=>packL ok z false):=by
 obtain⟨es,c,h1,h2⟩:=h
 unfold lkpR
 rw[if_pos hk]
 simp only[EsG.mapE h1 h2,Option.map_some]
 rw[fnd_g 0 h2.eq]
 unfold getG
 cases hq:idxG k l with
 |none=>rfl
 |some i=>obtain⟨p,h3,_⟩:=idxG_lt hq;simp [h3]
theorem MG.put {K:World→Prop}(h:MG lay g w r l)(hk:kOK lay g k=true)(hK:∀w',MG lay g w' r (putG k v l)→Keep (fun i=>i=r) w w'→K w'):
  mapUV lay g (.map (some r)) k v w K:=by
 obtain⟨es,c,h1,h2⟩:=h
 refine⟨hk,?_⟩
 rw[EsG.mapE h1 h2,getV_some]
 have hlt:=lt_of_heap h1
 have hlen:es.toList.length=l.length:=by simpa using congrArg List.length h2.eq
 refine hK _ ?_ ((Keep.refl _ w).setO _ fun _=>rfl)
 unfold putE
 rw[fnd_g 0 h2.eq]
 unfold putG
 cases hq:idxG k l with
 |none=>
  refine⟨_,_,heap_setO_eq _ _ _ hlt,by simp [h2.eq],fun e he=>?_,?_,fun p hp=>?_⟩
  ·rw[Array.toList_push] at he
   rcases List.mem_append.1 he with he|he
   ·exact Nat.lt_succ_of_lt (h2.lt e he)
   ·rw[List.mem_singleton.1 he];exact Nat.lt_succ_self _
  ·rw[Array.toList_push,List.pairwise_append]
   exact⟨h2.ne,List.pairwise_singleton _ _,fun a ha b hb=>by rw[List.mem_singleton.1 hb];exact Nat.ne_of_lt (h2.lt a ha)⟩
  ·rcases List.mem_append.1 hp with hp|hp
   ·exact h2.ok p hp
   ·rw[List.mem_singleton.1 hp];exact hk
 |some i=>
  obtain⟨p,h3,h4⟩:=idxG_lt hq
  simp only[h3,Option.map_some,Nat.zero_add]
  have hil:i<l.length:=(List.getElem?_eq_some_iff.1 h3).1
  have hie:i<es.size:=by rw[←Array.length_toList];omega
  have hbo:(es.modify i fun e=>{e with key:=k,val:=v}).toList.map (·.born)=es.toList.map (·.born):=by
   apply List.ext_getElem?
   intro j
   simp only[List.getElem?_map,Array.toList_modify,List.getElem?_modify]
   by_cases hij:i=j
   ·subst hij;simp [hie]
   ·simp only[hij,if_false];cases es.toList[j]?<;>simp
  refine⟨_,_,heap_setO_eq _ _ _ hlt,?_,fun e he=>?_,?_,fun q hq'=>?_⟩
  ·apply List.ext_getElem?
   intro j
   have h5:=congrArg (fun x=>x[j]?) h2.eq
   simp only[List.getElem?_map,Array.toList_modify,List.getElem?_modify,List.getElem?_set] at h5⊢
   by_cases hij:i=j
   ·subst hij;simp [hil,hie]
   ·simp only[hij,if_false]
    rw[←h5]
    cases es.toList[j]?<;>simp
  ·have:e.born∈es.toList.map (·.born):=by rw[←hbo];exact List.mem_map_of_mem he
   obtain⟨e',he',e2⟩:=List.mem_map.1 this
   rw[←e2];exact h2.lt e' he'
  ·have:=List.pairwise_map.2 h2.ne
   rw[←hbo] at this
   exact List.pairwise_map.1 this
  ·rcases List.mem_or_eq_of_mem_set hq' with hq'|rfl
   ·exact h2.ok q hq'
   ·exact hk
end
end Go.Proofs
namespace Go.Proofs
open Go.Vc
set_option maxRecDepth 10000
def okB (v:Int):Bool:=decide (0≤v)&&decide (v≤2100000000000000)
theorem okB_iff {v:Int}:okB v=true↔0≤v∧v≤2100000000000000:=by simp [okB]
theorem okB_not {v:Int}:okB v=false↔ ¬(0≤v∧v≤2100000000000000):=by rw[←okB_iff];simp
theorem Valid_ok (w:World)(v:Int):Calls Tryz.prog 104 #[.int .i64 v] w (Ret fun u w'=>u=.bool (okB v)∧w'=w):=by
 refine calls_of_cfg c104_ok (Nat.le_of_ble_eq_true rfl) ?_
 simp only[argE_nil,argE_cons,Nat.zero_add]
 (refine W_at c104_ok ⟨_,rfl,?_⟩;simp (disch:=first|omega|assumption|rfl|(simp only[vcS]<;>omega)|fail) only[↓vcN,vcQ,simprocAttr])
 by_cases h1:0≤v
 ·by_cases h2:v≤2100000000000000
  ·have e:okB v=true:=okB_iff.2 ⟨h1,h2⟩
   rw[e]
   iterate 2 (refine W_at c104_ok ⟨_,rfl,?_⟩;simp (disch:=first|omega|assumption|rfl|(simp only[vcS]<;>omega)|fail) only[↓vcN,vcQ,simprocAttr,h1,h2,Ret_returned])
  ·have e:okB v=false:=okB_not.2 fun h=>h2 h.2
   rw[e]
   iterate 2 (refine W_at c104_ok ⟨_,rfl,?_⟩;simp (disch:=first|omega|assumption|rfl|(simp only[vcS]<;>omega)|fail) only[↓vcN,vcQ,simprocAttr,h1,h2,Ret_returned])
 ·have e:okB v=false:=okB_not.2 fun h=>h1 h.1
  rw[e]
  iterate 2 (refine W_at c104_ok ⟨_,rfl,?_⟩;simp (disch:=first|omega|assumption|rfl|(simp only[vcS]<;>omega)|fail) only[↓vcN,vcQ,simprocAttr,h1,Ret_returned])
def lv (bs:List Int):List Value:=bs.map (.int .i64)
structure RI (w:World)(v:Value)(bs:List Int):Prop where
 is:∃q c,v=.slice q bs.length c∧bs.length≤c
 mx:bs.length≤maxLen
 rd:rdS w 1 v=some (lv bs).toArray
theorem RI.len {w:World}{v:Value}{bs:List Int}(h:RI w v bs):lenR v=some (.int .i64 bs.length):=by
 obtain⟨⟨q,c,rfl,_⟩,_,_⟩:=h;rfl
theorem RI.at {w:World}{v:Value}{bs:List Int}(h:RI w v bs){i:Nat}(hi:i<bs.length):
  ∃b o c,v=.slice (some ⟨b,o,none⟩) bs.length c∧cellO w.heap[b]? (o+i)=some (.int .i64 bs[i]):=by
 obtain⟨⟨q,c,rfl,_⟩,hm,hr⟩:=h
 simp only[rdS] at hr
 rw[if_neg (by omega)] at hr
 split at hr
 ·rename_i b o
  refine⟨b,o,c,rfl,?_⟩
  rw[rdN_heap] at hr
  cases hb:w.heap[b]? with
  |none=>rw[hb] at hr;cases hr
  |some x=>
   rw[hb] at hr
   cases x with
   |cells d t fr=>
    simp only[rdO] at hr
    split at hr
    ·rename_i hle
     simp only[Option.some.injEq] at hr
     rw[cellO_some]
     have h1:(d.extract o (o+bs.length*1))[i]?=some (.int .i64 bs[i]):=by rw[hr];simp [lv,hi]
     rw[Array.getElem?_extract] at h1
     split at h1
     ·exact h1
     ·cases h1
    ·cases hr
   |_=>cases hr
 ·cases hr
def addF:Int→List Int→Option Int
 |s,[]=>some s
 |s,v::l=>if okB v&&okB (s+v) then addF (s+v) l else none
def addR:Option Int→Value
 |some s=>.tuple #[.int .i64 s,.int .i64 0]
 |none=>.tuple #[.int .i64 0,.int .i64 6]
theorem add_step {s:Int}{l:List Int}{i:Nat}(h:i<l.length):addF s (l.drop i)=if okB l[i]&&okB (s+l[i]) then addF (s+l[i]) (l.drop (i+1)) else none:=by
 rw[List.drop_eq_getElem_cons h,addF]
theorem Add_ok (w:World)(v:Value)(l:List Int)(h:RI w v l)(hl:l.length≤1000000):Calls Tryz.prog 51 #[v] w (Ret fun u w'=>u=addR (addF 0 l)∧w'=w):=by
 refine calls_of_cfg c51_ok (Nat.le_of_ble_eq_true rfl) ?_
 simp only[argE_nil,argE_cons,Nat.zero_add]
 iterate 2 (refine W_at c51_ok ⟨_,rfl,?_⟩;simp (disch:=first|omega|assumption|rfl|(simp only[vcS]<;>omega)|fail) only[↓vcN,vcQ,simprocAttr])
 have hlen:=h.len
 (refine W_at c51_ok ⟨_,rfl,?_⟩;simp (disch:=first|omega|assumption|rfl|(simp only[vcS]<;>omega)|fail) only[↓vcN,vcQ,simprocAttr,hlen])
 have L:∀(k i:Nat) (s:Int) (tl:Env),k+i=l.length→okB s=true→addF 0 l=addF s (l.drop i)→
   W Tryz.prog (Ret fun u w'=>u=addR (addF 0 l)∧w'=w) 51 12 ((4,.int .i64 s)::(7,v)::(8,.int .i64 l.length)::(9,.int .i64 i)::tl) w:=by
  intro k
  induction k with
  |zero=>
   intro i s tl hi hs hf
   have hil:¬((i:Int)< (l.length:Int)):=by omega
   rw[hf,List.drop_eq_nil_of_le (by omega),addF,addR]
   iterate 4 (refine W_at c51_ok ⟨_,rfl,?_⟩;simp (disch:=first|omega|assumption|rfl|(simp only[vcS]<;>omega)|fail) only[↓vcN,vcQ,simprocAttr,hil,Ret_returned])
  |succ k ih=>
   intro i s tl hi hs hf
   have hil:(i:Int)< (l.length:Int):=by omega
   have hi2:0≤(i:Int)∧(i:Int)< (l.length:Int):=by omega
   have hwi:IntKind.i64.wrap ((i:Int)+1)=((i+1:Nat):Int):=wrap_i64 (by omega) (by omega)
   obtain⟨b,o,c,rfl,hcell⟩:=h.at (i:=i) (by omega)
   have hst:=add_step (s:=s) (l:=l) (i:=i) (by omega)
   rw[hst] at hf
   clear hst
   iterate 3 (refine W_at c51_ok ⟨_,rfl,?_⟩;simp (disch:=first|omega|assumption|rfl|(simp only[vcS]<;>omega)|fail) only[↓vcN,vcQ,simprocAttr,hil,hi2,hcell,Int.toNat_natCast,Nat.mul_one])
   generalize l[i]=x at*
   (refine W_at c51_ok ⟨_,rfl,?_⟩;simp (disch:=first|omega|assumption|rfl|(simp only[vcS]<;>omega)|fail) only[↓vcX,ptS2_eq,vcQ,simprocAttr])
   refine callV_ret (Valid_ok w x) ?_
   rintro _ wq ⟨rfl,hw⟩
   obtain rfl:w=wq:=hw.symm
   cases hx:okB x with
   |false=>
    rw[hx] at hf
    rw[show addF 0 l=none from hf,addR]
    simp (disch:=first|omega|assumption|rfl|(simp only[vcS]<;>omega)|fail) only[↓vcY,ptS1_eq,vcQ,simprocAttr]
    iterate 3 (refine W_at c51_ok ⟨_,rfl,?_⟩;simp (disch:=first|omega|assumption|rfl|(simp only[vcS]<;>omega)|fail) only[↓vcN,vcQ,simprocAttr,Ret_returned])
   |true=>
    have h1:=okB_iff.1 hx
    have h2:=okB_iff.1 hs
    have hws:IntKind.i64.wrap (s+x)=s+x:=wrap_i64 (by omega) (by omega)
    simp (disch:=first|omega|assumption|rfl|(simp only[vcS]<;>omega)|fail) only[↓vcY,ptS1_eq,vcQ,simprocAttr,hws]
    refine callV_ret (Valid_ok w (s+x)) ?_
    rintro _ wq ⟨rfl,hw⟩
    obtain rfl:w=wq:=hw.symm
    cases hy:okB (s+x) with
    |false=>
     rw[hx,hy] at hf
     rw[show addF 0 l=none from hf,addR]
     simp (disch:=first|omega|assumption|rfl|(simp only[vcS]<;>omega)|fail) only[↓vcX,ptS2_eq,vcQ,simprocAttr]
     iterate 3 (refine W_at c51_ok ⟨_,rfl,?_⟩;simp (disch:=first|omega|assumption|rfl|(simp only[vcS]<;>omega)|fail) only[↓vcN,vcQ,simprocAttr,Ret_returned])
    |true=>
     rw[hx,hy] at hf
     simp (disch:=first|omega|assumption|rfl|(simp only[vcS]<;>omega)|fail) only[↓vcX,ptS2_eq,vcQ,simprocAttr]
     iterate 4 (refine W_at c51_ok ⟨_,rfl,?_⟩;simp (disch:=first|omega|assumption|rfl|(simp only[vcS]<;>omega)|fail) only[↓vcN,vcQ,simprocAttr,hws,hwi])
     exact ih (i+1) (s+x) _ (by omega) hy hf
 exact L l.length 0 0 _ (by omega) rfl rfl
theorem rValid_ok (w:World)(v:Int):Calls Tryz.prog 72 #[.int .i64 v] w (Ret fun u w'=>u=.bool (okB v)∧w'=w):=by
 refine calls_of_cfg c72_ok (Nat.le_of_ble_eq_true rfl) ?_
 simp only[argE_nil,argE_cons,Nat.zero_add]
 (refine W_at c72_ok ⟨_,rfl,?_⟩;simp (disch:=first|omega|assumption|rfl|(simp only[vcS]<;>omega)|fail) only[↓vcN,vcQ,simprocAttr])
 by_cases h1:0≤v
 ·by_cases h2:v≤2100000000000000
  ·have e:okB v=true:=okB_iff.2 ⟨h1,h2⟩
   rw[e]
   iterate 2 (refine W_at c72_ok ⟨_,rfl,?_⟩;simp (disch:=first|omega|assumption|rfl|(simp only[vcS]<;>omega)|fail) only[↓vcN,vcQ,simprocAttr,h1,h2,Ret_returned])
  ·have e:okB v=false:=okB_not.2 fun h=>h2 h.2
   rw[e]
   iterate 2 (refine W_at c72_ok ⟨_,rfl,?_⟩;simp (disch:=first|omega|assumption|rfl|(simp only[vcS]<;>omega)|fail) only[↓vcN,vcQ,simprocAttr,h1,h2,Ret_returned])
 ·have e:okB v=false:=okB_not.2 fun h=>h1 h.1
  rw[e]
  iterate 2 (refine W_at c72_ok ⟨_,rfl,?_⟩;simp (disch:=first|omega|assumption|rfl|(simp only[vcS]<;>omega)|fail) only[↓vcN,vcQ,simprocAttr,h1,Ret_returned])
end Go.Proofs
namespace Go.Proofs
open Go.Vc
set_option maxRecDepth 10000
def placeF2 (x:TxI):List Int×Int:=(x.prev,x.idx)
def dupF {α:Type}[DecidableEq α]:List α→List α→Bool
 |_,[]=>false
 |seen,x::l=>decide (x∈seen)||dupF (seen++[x]) l
def chkT (t:TxV):Int:=
 if t.ins.length=0∨t.outs.length=0 then 3
 else if addF 0 (t.outs.map (·.val))=none then 6
 else if dupF [] (t.ins.map placeF2) then 18
 else if coinB t then (match t.ins with
  |x::_=>if x.script.length<2∨100<x.script.length then 3 else 0
  |[]=>0)
 else if t.ins.any empB then 7 else 0
abbrev layO:List SK:=skR [(32,.i .u8),(1,.i .u32)]
def entsO (L:List TxI):List KV:=L.map fun x=>(.agg (opC x.prev x.idx),.bool true)
theorem kokO {p:List Int}(hp:p.length=32)(i:Int):kOK layO true (.agg (opC p i))=true:=by
 have:=conf33 hp i
 simpa [kOK] using this
theorem getO_in {L:List TxI}(hL:∀x∈L,x.prev.length=32){p:List Int}{i:Int}(hp:p.length=32):getG (.agg (opC p i)) (entsO L)=if (p,i)∈L.map placeF2 then some (.bool true) else none:=by
 by_cases h:(p,i)∈L.map placeF2
 ·rw[if_pos h]
  obtain⟨x,hx,he⟩:=List.mem_map.1 h
  have e1:x.prev=p:=congrArg Prod.fst he
  have e2:x.idx=i:=congrArg Prod.snd he
  obtain⟨v,hv⟩:=getG_some (l:=entsO L) (k:=.agg (opC p i)) ⟨_,List.mem_map.2 ⟨x,hx,rfl⟩,by rw[e1,e2]⟩
  rw[hv]
  obtain⟨y,_,hy⟩:=List.mem_map.1 (getG_mem hv)
  have:=congrArg Prod.snd hy
  exact congrArg some this.symm
 ·rw[if_neg h]
  cases hg:getG (.agg (opC p i)) (entsO L) with
  |none=>rfl
  |some v=>
   exfalso
   obtain⟨y,hy,he⟩:=List.mem_map.1 (getG_mem hg)
   have e1:opC y.prev y.idx=opC p i:=by
    have:=congrArg Prod.fst he
    injection this
   obtain⟨a,b⟩:=(opC_inj (by rw[hL y hy,hp])).1 e1
   exact h (List.mem_map.2 ⟨y,hy,by unfold placeF2;rw[a,b]⟩)
theorem lkO {w:World}{r:Nat}{L:List TxI}(h:MG layO true w r (entsO L))(hL:∀x∈L,x.prev.length=32){p:List Int}{i:Int}(hp:p.length=32):
  lkpR (skR [(32,.i .u8),(1,.i .u32)]) true (.bool false) false w (.map (some r)) (.agg (opC p i))=some (.bool (decide ((p,i)∈L.map placeF2))):=by
 rw[h.lkp (.bool false) (kokO hp i) false,getO_in hL hp]
 by_cases hm:(p,i)∈L.map placeF2
 ·rw[if_pos hm,decide_eq_true hm];rfl
 ·rw[if_neg hm,decide_eq_false hm];rfl
theorem putG_new {k v:Value}{l:List KV}(h:getG k l=none):putG k v l=l++[(k,v)]:=by
 unfold putG
 cases hq:idxG k l with
 |none=>rfl
 |some i=>
  exfalso
  obtain⟨p,h1,_⟩:=idxG_lt hq
  unfold getG at h
  rw[hq] at h
  simp [h1] at h
theorem dupF_at {α:Type}[DecidableEq α]{l:List α}{i:Nat}(hi:i<l.length):dupF (l.take i) (l.drop i)=(decide (l[i]∈l.take i)||dupF (l.take (i+1)) (l.drop (i+1))):=by
 rw[List.drop_eq_getElem_cons hi,dupF,List.take_add_one,List.getElem?_eq_getElem hi];rfl
def IntsO (m:Nat)(w:World)(v:Value)(l:List Int):Prop:=OwnO w m 2 1 v (l.map fun n=>(#[Value.int .i64 n]:Array Value))
theorem IntsO.ri {m:Nat}{w:World}{v:Value}{l:List Int}(h:IntsO m w v l):RI w v l:=by
 obtain⟨q,c,e,hc⟩:=h.is
 rw[List.length_map] at e hc
 have hm:=h.mx
 rw[List.length_map] at hm
 refine⟨⟨q,c,e,hc⟩,hm,?_⟩
 have:=h.rd
 have e2:(l.map fun n=>(#[Value.int .i64 n]:Array Value)).flatMap Array.toList=lv l:=by
  clear this hm hc e h
  induction l with
  |nil=>rfl
  |cons x l ih=>simp only[List.map_cons,List.flatMap_cons,ih];rfl
 rw[e2] at this
 exact this
theorem IntsO.app {m:Nat}{w:World}{v:Value}{l:List Int}{x:Int}{K:Value→World→Prop}(h:IntsO m w v l)(hl:l.length≤100000)(hm:m≤w.heap.size)
  (hk:∀v' w',IntsO m w' v' (l++[x])→Keep (blk v) w w'→(∀g,blk v' g→blk v g∨w.heap.size≤g)→K v' w'):
  appV 2 1 8 [.int .i64 0] v (.slice (some ⟨w.heap.size,0,none⟩) 1 1) (w.alloc (.cells #[.int .i64 x] 2)) K:=by
 have hEA:Ext w (w.alloc (.cells #[.int .i64 x] 2)):=(Keep.refl _ w).alloc _
 have hOA:OwnO (w.alloc (.cells #[.int .i64 x] 2)) m 2 1 v _:=OwnO.ext h hEA
 have hrA:rdS (w.alloc (.cells #[.int .i64 x] 2)) 1 (.slice (some ⟨w.heap.size,0,none⟩) 1 1)=some (([#[.int .i64 x]]:List (Array Value)).flatMap Array.toList).toArray:=by
  simp only[rdS,rdN_heap]
  rw[if_neg (by decide),heap_new w _ _ rfl]
  rfl
 refine appO4 (ids2:=[#[.int .i64 x]]) hOA hrA rfl (by simp) (by intro k hk;rw[List.mem_singleton.1 hk,flat_1];rfl) (by rw[List.length_map];omega) (by rw[List.length_map];omega) rfl (Nat.le_trans hm hEA.size) (by decide) fun v' w' k1 k2 k3=>?_
 refine hk v' w' ?_ ((hEA.mono fun _ h=>h.elim).trans k2 fun _ _ h=>h) fun g hg=>?_
 ·unfold IntsO
  rw[List.map_append];exact k1
 ·rcases k3 g hg with h|h
  ·exact .inl h
  ·exact .inr (by rw[size_alloc] at h;omega)
end Go.Proofs
namespace Go.Proofs
open Go.Vc
set_option maxRecDepth 10000
set_option maxHeartbeats 3200000 in
theorem tcheck_ok (w:World)(iv ov:Value)(t:TxV)(hT:TxR w iv ov t)(h3:t.Sm3):
  Calls Tryz.prog 16 #[.agg (txC t iv ov)] w (Ret fun u w'=>u=.int .i64 (chkT t)∧Ext w w'):=by
 refine calls_of_cfg c16_ok (Nat.le_of_ble_eq_true rfl) ?_
 simp only[argE_nil,argE_cons,Nat.zero_add]
 have ht:=h3.ok
 have hnI:=h3.few.ins
 have hnO:=h3.few.outs
 have hfx:=txC_flat2 hT
 have hcx:(Value.agg (txC t iv ov)).cells=txC t iv ov:=rfl
 have hzx:=txC_sz t iv ov
 have t1:(txC t iv ov)[1]?=some iv:=rfl
 have t2:(txC t iv ov)[2]?=some ov:=rfl
 have r4:rdO (some (.cells (txC t iv ov) 33 (0,0))) 0 4=some (txC t iv ov):=rdO_all _ _ _ _ rfl
 (refine W_at c16_ok ⟨_,rfl,?_⟩;simp (disch:=first|omega|assumption|rfl|(simp only[vcS]<;>omega)|fail) only[↓vcN,vcQ,simprocAttr,hcx])
 have hE1:Ext w (w.alloc (.cells (txC t iv ov) 33)):=(Keep.refl _ w).alloc _
 have c1:(w.alloc (.cells (txC t iv ov) 33)).heap[w.heap.size]?=some (.cells (txC t iv ov) 33 (0,0)):=heap_new _ _ _ rfl
 generalize World.alloc w _=w1 at hE1 c1⊢
 have hs1:=hE1.size
 have hp1e:w.heap.size<w1.heap.size:=lt_of_heap c1
 generalize w.heap.size=p1 at*
 have hT1:=hT.ext hE1
 have hlI:=hT.ins.len
 have hlO:=hT.outs.len
 have hch:chkT t=if t.ins.length=0∨t.outs.length=0 then 3
   else if addF 0 (t.outs.map (·.val))=none then 6
   else if dupF [] (t.ins.map placeF2) then 18
   else if coinB t then (match t.ins with
    |x::_=>if x.script.length<2∨100<x.script.length then 3 else 0
    |[]=>0)
   else if t.ins.any empB then 7 else 0:=rfl
 by_cases hI0:t.ins.length=0
 ·have hi:((t.ins.length:Nat):Int)=0:=by omega
  rw[hch,if_pos (.inl hI0)]
  iterate 4 (refine W_at c16_ok ⟨_,rfl,?_⟩;simp (disch:=first|omega|assumption|rfl|(simp only[vcS]<;>omega)|fail) only[↓vcN,vcQ,simprocAttr,c1,t1,hlI,hi,Ret_returned])
  exact hE1
 have hi:¬(((t.ins.length:Nat):Int)=0):=by omega
 by_cases hO0:t.outs.length=0
 ·have ho:((t.outs.length:Nat):Int)=0:=by omega
  rw[hch,if_pos (.inr hO0)]
  iterate 4 (refine W_at c16_ok ⟨_,rfl,?_⟩;simp (disch:=first|omega|assumption|rfl|(simp only[vcS]<;>omega)|fail) only[↓vcN,vcQ,simprocAttr,c1,t1,t2,hlI,hlO,hi,ho,Ret_returned])
  exact hE1
 have ho:¬(((t.outs.length:Nat):Int)=0):=by omega
 rw[if_neg (fun h=>h.elim hI0 hO0)] at hch
 iterate 3 (refine W_at c16_ok ⟨_,rfl,?_⟩;simp (disch:=first|omega|assumption|rfl|(simp only[vcS]<;>omega)|fail) only[↓vcN,vcQ,simprocAttr,c1,t1,t2,hlI,hlO,hi,ho,r4])
 refine callV_ret (encodeW_ok w1 iv ov t false hT1 h3) ?_
 intro u w2 hu
 have hul:=hu.own.rd.len
 have hbl:=encW_len h3 (false&&witB t)
 have hgt:¬((100000:Int)< ((encW t (false&&witB t)).length:Nat)):=by omega
 have hE2:=hE1.ext hu.ext
 have c12:=hu.ext.at c1 (fun h=>h)
 have hT2:=hT1.ext hu.ext
 have l2:w1.heap.size≤w2.heap.size:=hu.ext.size
 generalize encW t (false&&witB t)=EB at*
 first|(simp (disch:=first|omega|assumption|rfl|(simp only[vcS]<;>omega)|fail) only[↓vcN,vcQ,simprocAttr,hul,hgt])|skip
 clear hu hul hgt hbl c1 hT1 hfx hE1 hs1
 iterate 3 (refine W_at c16_ok ⟨_,rfl,?_⟩;simp (disch:=first|omega|assumption|rfl|(simp only[vcS]<;>omega)|fail) only[↓vcN,vcQ,simprocAttr,c12,t2,hlO])
 have good:∀(wj:World) (tl:Env),chkT t=0→Ext w wj→W Tryz.prog (Ret fun u w'=>u=.int .i64 (chkT t)∧Ext w w') 16 2 tl wj:=by
  intro wj tl h0 hE
  rw[h0]
  iterate 2 (refine W_at c16_ok ⟨_,rfl,?_⟩;simp (disch:=first|omega|assumption|rfl|(simp only[vcS]<;>omega)|fail) only[↓vcN,vcQ,simprocAttr,Ret_returned])
  exact hE
 have behind:∀(wj:World) (rm:Nat) (tl:Env),dupF [] (t.ins.map placeF2)=false→addF 0 (t.outs.map (·.val))≠none→Ext w wj→wj.heap[p1]?=some (.cells (txC t iv ov) 33 (0,0))→TxR wj iv ov t→MG layO true wj rm (entsO t.ins)→
   W Tryz.prog (Ret fun u w'=>u=.int .i64 (chkT t)∧Ext w w') 16 13 ((1,.pointer (some ⟨p1,0,none⟩))::(8,.map (some rm))::tl) wj:=by
  intro wj rm tl hd ha hE c1 hTj hM
  rw[if_neg ha,hd,if_neg (by decide)] at hch
  (refine W_at c16_ok ⟨_,rfl,?_⟩;simp (disch:=first|omega|assumption|rfl|(simp only[vcS]<;>omega)|fail) only[↓vcN,vcQ,simprocAttr,c1,r4])
  refine callV_ret (coinbase_ok wj iv ov t hTj ht (by omega)) ?_
  rintro _ wk ⟨rfl,hEk⟩
  have hE':=hE.ext hEk
  have c1k:=hEk.at c1 (fun h=>h)
  first|(simp (disch:=first|omega|assumption|rfl|(simp only[vcS]<;>omega)|fail) only[↓vcN,vcQ,simprocAttr])|skip
  cases hcb:coinB t with
  |true=>
   rw[hcb,if_pos rfl] at hch
   have hone:t.ins.length=1:=by
    by_cases h:t.ins.length=1
    ·exact h
    ·rw[coinB_no h] at hcb;cases hcb
   obtain⟨x0,hx0⟩:=List.length_eq_one_iff.1 hone
   have hx00:t.ins[0]'(by omega)=x0:=by simp only[hx0,List.getElem_cons_zero]
   rw[hx0] at hch
   simp only at hch
   obtain⟨b,o,c,cs,ev,hrd,hcs,sv,wv,ecs,hsvW,hwvW⟩:=(hTj.ext hEk).ins.at (i:=0) (by omega)
   have hok:=ht.ins _ (List.getElem_mem (show 0<t.ins.length by omega))
   rw[hx00] at ecs hsvW hwvW hok
   subst ecs
   have t1':(txC t iv ov)[1]?=some (.slice (some ⟨b,o,none⟩) t.ins.length c):=by rw[←ev];rfl
   have c33:=rdO_cell hrd (j:=33) (by omega)
   rw[iC_33 hok.len sv wv,Nat.zero_mul,Nat.add_zero] at c33
   have hsl:=hsvW.len
   have bb:(0:Int)≤0∧(0:Int)< (t.ins.length:Nat):=by omega
   iterate 2 (refine W_at c16_ok ⟨_,rfl,?_⟩;simp (disch:=first|omega|assumption|rfl|(simp only[vcS]<;>omega)|fail) only[↓vcN,vcQ,simprocAttr,c1k,t1',bb,c33,hsl,Int.toNat_zero])
   by_cases hs2:x0.script.length<2
   ·rw[if_pos (.inl hs2)] at hch
    have hs2i:((x0.script.length:Nat):Int)<2:=by omega
    rw[hch]
    iterate 4 (refine W_at c16_ok ⟨_,rfl,?_⟩;simp (disch:=first|omega|assumption|rfl|(simp only[vcS]<;>omega)|fail) only[↓vcN,vcQ,simprocAttr,hs2i,Ret_returned])
    exact hE'
   ·have hs2i:¬(((x0.script.length:Nat):Int)<2):=by omega
    by_cases hs3:100<x0.script.length
    ·rw[if_pos (.inr hs3)] at hch
     have hs3i:(100:Int)< (x0.script.length:Nat):=by omega
     rw[hch]
     iterate 4 (refine W_at c16_ok ⟨_,rfl,?_⟩;simp (disch:=first|omega|assumption|rfl|(simp only[vcS]<;>omega)|fail) only[↓vcN,vcQ,simprocAttr,hs2i,hs3i,Ret_returned])
     exact hE'
    ·rw[if_neg (fun h=>h.elim hs2 hs3)] at hch
     have hs3i:¬((100:Int)< (x0.script.length:Nat)):=by omega
     iterate 2 (refine W_at c16_ok ⟨_,rfl,?_⟩;simp (disch:=first|omega|assumption|rfl|(simp only[vcS]<;>omega)|fail) only[↓vcN,vcQ,simprocAttr,hs2i,hs3i])
     exact good _ _ hch hE'
  |false=>
   rw[hcb,if_neg (by decide)] at hch
   iterate 2 (refine W_at c16_ok ⟨_,rfl,?_⟩;simp (disch:=first|omega|assumption|rfl|(simp only[vcS]<;>omega)|fail) only[↓vcN,vcQ,simprocAttr])
   refine callV_ret (empty_ok wk) ?_
   rintro _ wl ⟨rfl,hEl⟩
   have hMl:=(hM.ext hEk).ext hEl
   have hE2:=hE'.ext hEl
   have hmem:((Z32,(4294967295:Int))∈t.ins.map placeF2)↔t.ins.any empB=true:=by
    rw[List.any_eq_true,List.mem_map]
    constructor
    ·rintro⟨x,hx,he⟩
     exact⟨x,hx,decide_eq_true ⟨congrArg Prod.fst he,congrArg Prod.snd he⟩⟩
    ·rintro⟨x,hx,he⟩
     have:=of_decide_eq_true he
     exact⟨x,hx,by unfold placeF2;rw[this.1,this.2]⟩
   have hlk:=lkO hMl (fun x hx=>(ht.ins x hx).len) (p:=Z32) (i:=4294967295) rfl
   have hz:zvR false [(1,Value.bool false)]=.bool false:=rfl
   cases hem:t.ins.any empB with
   |true=>
    rw[decide_eq_true (hmem.2 hem)] at hlk
    rw[hem,if_pos rfl] at hch
    rw[hch]
    simp (disch:=first|omega|assumption|rfl|(simp only[vcS]<;>omega)|fail) only[↓vcN,vcQ,simprocAttr,hz,hlk]
    iterate 3 (refine W_at c16_ok ⟨_,rfl,?_⟩;simp (disch:=first|omega|assumption|rfl|(simp only[vcS]<;>omega)|fail) only[↓vcN,vcQ,simprocAttr,Ret_returned])
    exact hE2
   |false=>
    rw[decide_eq_false (fun h=>by rw[hmem.1 h] at hem;cases hem)] at hlk
    rw[hem,if_neg (by decide)] at hch
    simp (disch:=first|omega|assumption|rfl|(simp only[vcS]<;>omega)|fail) only[↓vcN,vcQ,simprocAttr,hz,hlk]
    (refine W_at c16_ok ⟨_,rfl,?_⟩;simp (disch:=first|omega|assumption|rfl|(simp only[vcS]<;>omega)|fail) only[↓vcN,vcQ,simprocAttr])
    exact good _ _ hch hE2
 have ins:∀(wj:World) (tl:Env),addF 0 (t.outs.map (·.val))≠none→Ext w wj→wj.heap[p1]?=some (.cells (txC t iv ov) 33 (0,0))→TxR wj iv ov t→
   W Tryz.prog (Ret fun u w'=>u=.int .i64 (chkT t)∧Ext w w') 16 25 ((1,.pointer (some ⟨p1,0,none⟩))::tl) wj:=by
  intro wj tl ha hE c1 hTj
  rw[if_neg ha] at hch
  (refine W_at c16_ok ⟨_,rfl,?_⟩;simp (disch:=first|omega|assumption|rfl|(simp only[vcS]<;>omega)|fail) only[↓vcN,vcQ,simprocAttr])
  have hM:=MG.empty (lay:=layO) (g:=true) wj
  have hEm:Ext wj (wj.alloc (.map #[] 0)):=(Keep.refl _ wj).alloc _
  have c1m:=hEm.at c1 (fun h=>h)
  have hTm:=hTj.ext hEm
  have lm:p1<wj.heap.size:=lt_of_heap c1
  have hws:w.heap.size≤wj.heap.size:=hE.size
  generalize World.alloc _ _=wm at hM hEm c1m hTm⊢
  have hEj:=hE.ext hEm
  generalize hrm:wj.heap.size=rm at*
  clear hE c1 hTj
  have lwm:rm<wm.heap.size:=hM.lt
  (refine W_at c16_ok ⟨_,rfl,?_⟩;simp (disch:=first|omega|assumption|rfl|(simp only[vcS]<;>omega)|fail) only[↓vcN,vcQ,simprocAttr,c1m,t1,hlI])
  have L:∀(k i:Nat) (wk:World) (tl:Env),k+i=t.ins.length→Ext w wk→Keep (fun g=>g=rm) wm wk→MG layO true wk rm (entsO (t.ins.take i))→dupF [] (t.ins.map placeF2)=dupF ((t.ins.map placeF2).take i) ((t.ins.map placeF2).drop i)→
    W Tryz.prog (Ret fun u w'=>u=.int .i64 (chkT t)∧Ext w w') 16 23 ((1,.pointer (some ⟨p1,0,none⟩))::(8,.map (some rm))::(49,iv)::(50,.int .i64 (t.ins.length:Nat))::(51,.int .i64 (i:Nat))::tl) wk:=by
   intro k
   induction k with
   |zero=>
    intro i wk tl hi hE hK hM hd
    obtain rfl:i=t.ins.length:=by omega
    have hno:¬((t.ins.length:Nat):Int)< (t.ins.length:Nat):=by omega
    rw[List.take_length] at hM
    rw[List.drop_eq_nil_of_le (by rw[List.length_map];omega)] at hd
    iterate 2 (refine W_at c16_ok ⟨_,rfl,?_⟩;simp (disch:=first|omega|assumption|rfl|(simp only[vcS]<;>omega)|fail) only[↓vcN,vcQ,simprocAttr,hno])
    exact behind wk rm _ hd ha hE (hK.at c1m (by omega)) (hT.ext hE) hM
   |succ k ih=>
    intro i wk tl hi hE hK hM hd
    have hil:i<t.ins.length:=by omega
    have hlt:((i:Nat):Int)< (t.ins.length:Nat):=by omega
    have b1:0≤((i:Nat):Int)∧((i:Nat):Int)< (t.ins.length:Nat):=by omega
    have hwi:IntKind.i64.wrap (((i:Nat):Int)+1)=((i+1:Nat):Int):=wrap_i64 (by omega) (by omega)
    have hTk:TxR wk iv ov t:=hT.ext hE
    obtain⟨b,o,c,cs,ev,hr,hcs,sv,wv,ecs,hsvW,hwvW⟩:=hTk.ins.at hil
    have hok:=ht.ins _ (List.getElem_mem hil)
    rw[dupF_at (by rw[List.length_map];exact hil),List.getElem_map] at hd
    have hmt:(t.ins.map placeF2).take i=(t.ins.take i).map placeF2:=List.map_take.symm
    have hlk:=lkO hM (fun x hx=>(ht.ins x (List.mem_of_mem_take hx)).len) (p:=(t.ins[i]).prev) (i:=(t.ins[i]).idx) hok.len
    have hpl:placeF2 t.ins[i]=((t.ins[i]).prev,(t.ins[i]).idx):=rfl
    rw[←hpl,←hmt] at hlk
    rw[hpl] at hd hlk
    have hen:entsO (t.ins.take (i+1))=entsO (t.ins.take i)++[(.agg (opC (t.ins[i]).prev (t.ins[i]).idx),.bool true)]:=by
     unfold entsO
     rw[List.take_add_one,List.getElem?_eq_getElem hil,List.map_append];rfl
    have hgt:=getO_in (L:=t.ins.take i) (fun x hx=>(ht.ins x (List.mem_of_mem_take hx)).len) (p:=(t.ins[i]).prev) (i:=(t.ins[i]).idx) hok.len
    rw[←hpl,←hmt,hpl] at hgt
    generalize t.ins[i]=y at*
    subst ecs
    have hpl:=hok.len
    have s36:=iC_size hpl sv wv
    rw[ev]
    iterate 3 (refine W_at c16_ok ⟨_,rfl,?_⟩;simp (disch:=first|omega|assumption|rfl|(simp only[vcS]<;>omega)|fail) only[↓vcN,vcQ,simprocAttr,hlt,b1,Int.toNat_natCast,hr,s36])
    refine⟨iC_flat hsvW.one hwvW.one,by decide,?_⟩
    have hEb:Ext wk ((wk.alloc (.cells (zc [(32,.int .u8 0),(1,.int .u32 0),(1,.slice none 0 0),(1,.int .u32 0),(1,.slice none 0 0)]) 61)).putN wk.heap.size 0 (iC y sv wv)):=((Keep.refl _ wk).alloc _).putN _ (by intro hh;exfalso;omega)
    have h9:((wk.alloc (.cells (zc [(32,.int .u8 0),(1,.int .u32 0),(1,.slice none 0 0),(1,.int .u32 0),(1,.slice none 0 0)]) 61)).putN wk.heap.size 0 (iC y sv wv)).heap[wk.heap.size]?=some (.cells (iC y sv wv) 61 (0,0)):=by
     rw[heap_putN_eq (heap_new _ _ _ rfl),splice_all (by rw[s36];rfl)]
    generalize World.putN _ _ _ _=wa at hEb h9⊢
    have hMa:=hM.ext hEb
    have lrm:=hM.lt
    have hlka:=lkO hMa (fun x hx=>(ht.ins x (List.mem_of_mem_take hx)).len) (p:=y.prev) (i:=y.idx) hok.len
    rw[←hmt] at hlka
    clear hlk
    generalize hp9:wk.heap.size=p9 at h9⊢
    have hz:zvR false [(1,Value.bool false)]=.bool false:=rfl
    have r33:rdO (some (.cells (iC y sv wv) 61 (0,0))) 0 33=some (opC y.prev y.idx):=iC_op hpl (rdO_all _ _ _ _ s36)
    have hEa:=hE.ext hEb
    by_cases hin:(y.prev,y.idx)∈(t.ins.map placeF2).take i
    ·rw[decide_eq_true hin] at hlka
     have hd1:dupF [] (t.ins.map placeF2)=true:=by rw[hd];simp [hin]
     rw[hd1,if_pos rfl] at hch
     rw[hch]
     iterate 4 (refine W_at c16_ok ⟨_,rfl,?_⟩;simp (disch:=first|omega|assumption|rfl|(simp only[vcS]<;>omega)|fail) only[↓vcN,vcQ,simprocAttr,h9,r33,hz,hlka,Ret_returned])
     exact hEa
    ·rw[decide_eq_false hin] at hlka
     have hd1:dupF [] (t.ins.map placeF2)=dupF ((t.ins.map placeF2).take (i+1)) ((t.ins.map placeF2).drop (i+1)):=by rw[hd];simp [hin]
     rw[if_neg hin] at hgt
     iterate 3 (refine W_at c16_ok ⟨_,rfl,?_⟩;simp (disch:=first|omega|assumption|rfl|(simp only[vcS]<;>omega)|fail) only[↓vcN,vcQ,simprocAttr,h9,r33,hz,hlka])
     refine MG.put hMa (kokO hpl y.idx) fun wb hMb hKb=>?_
     rw[putG_new hgt,←hen] at hMb
     first|(simp (disch:=first|omega|assumption|rfl|(simp only[vcS]<;>omega)|fail) only[↓vcN,vcQ,simprocAttr])|skip
     iterate 2 (refine W_at c16_ok ⟨_,rfl,?_⟩;simp (disch:=first|omega|assumption|rfl|(simp only[vcS]<;>omega)|fail) only[↓vcN,vcQ,simprocAttr,hwi])
     rw[←ev]
     exact ih (i+1) wb _ (by omega) (hEa.trans hKb fun g hg e=>by omega) ((hK.ext hEb).trans hKb fun _ _ h=>h) hMb hd1
  exact L t.ins.length 0 wm _ (by omega) hEj (Keep.refl _ wm) hM rfl
 have hE2':=hE2
 have hno0:OwnO w2 w2.heap.size 2 1 (.slice none 0 0) []:=OwnO.nil _ _ _ _
 have LV:∀(k i:Nat) (wk:World) (vv:Value) (tl:Env),k+i=t.outs.length→Ext w wk→Ext w2 wk→IntsO w2.heap.size wk vv ((t.outs.map (·.val)).take i)→
   W Tryz.prog (Ret fun u w'=>u=.int .i64 (chkT t)∧Ext w w') 16 36 ((1,.pointer (some ⟨p1,0,none⟩))::(3,vv)::(27,ov)::(28,.int .i64 (t.outs.length:Nat))::(29,.int .i64 (i:Nat))::tl) wk:=by
  intro k
  induction k with
  |zero=>
   intro i wk vv tl hi hE hE2 hV
   obtain rfl:i=t.outs.length:=by omega
   have hno:¬((t.outs.length:Nat):Int)< (t.outs.length:Nat):=by omega
   rw[List.take_of_length_le (by rw[List.length_map];omega)] at hV
   iterate 3 (refine W_at c16_ok ⟨_,rfl,?_⟩;simp (disch:=first|omega|assumption|rfl|(simp only[vcS]<;>omega)|fail) only[↓vcN,vcQ,simprocAttr,hno])
   refine callV_ret (Add_ok wk vv _ hV.ri (by rw[List.length_map];omega)) ?_
   rintro _ wl ⟨rfl,hwl⟩
   obtain rfl:wl=wk:=hwl
   cases ha:addF 0 (t.outs.map (·.val)) with
   |none=>
    rw[if_pos ha] at hch
    rw[addR,hch]
    first|(simp (disch:=first|omega|assumption|rfl|(simp only[vcS]<;>omega)|fail) only[↓vcN,vcQ,simprocAttr])|skip
    iterate 4 (refine W_at c16_ok ⟨_,rfl,?_⟩;simp (disch:=first|omega|assumption|rfl|(simp only[vcS]<;>omega)|fail) only[↓vcN,vcQ,simprocAttr,Ret_returned])
    exact hE
   |some s=>
    rw[addR]
    first|(simp (disch:=first|omega|assumption|rfl|(simp only[vcS]<;>omega)|fail) only[↓vcN,vcQ,simprocAttr])|skip
    iterate 2 (refine W_at c16_ok ⟨_,rfl,?_⟩;simp (disch:=first|omega|assumption|rfl|(simp only[vcS]<;>omega)|fail) only[↓vcN,vcQ,simprocAttr])
    exact ins wl _ (by rw[ha];exact fun h=>by cases h) hE (hE2.at c12 fun h=>h) (hT.ext hE)
  |succ k ih=>
   intro i wk vv tl hi hE hE2 hV
   have hil:i<t.outs.length:=by omega
   have hlt:((i:Nat):Int)< (t.outs.length:Nat):=by omega
   have b1:0≤((i:Nat):Int)∧((i:Nat):Int)< (t.outs.length:Nat):=by omega
   have hwi:IntKind.i64.wrap (((i:Nat):Int)+1)=((i+1:Nat):Int):=wrap_i64 (by omega) (by omega)
   obtain⟨b,o,c,cs,ev,hr,hcs,sv,ecs,hsvW⟩:=(hT.ext hE).outs.at hil
   have htk:(t.outs.map (·.val)).take (i+1)=(t.outs.map (·.val)).take i++[t.outs[i].val]:=by
    rw[List.take_add_one,List.getElem?_map,List.getElem?_eq_getElem hil];rfl
   generalize t.outs[i]=y at*
   subst ecs
   have c0:(oC y sv)[0]?=some (.int .i64 y.val):=rfl
   have s2:(oC y sv).size=2:=rfl
   rw[ev]
   iterate 3 (refine W_at c16_ok ⟨_,rfl,?_⟩;simp (disch:=first|omega|assumption|rfl|(simp only[vcS]<;>omega)|fail) only[↓vcN,vcQ,simprocAttr,hlt,b1,Int.toNat_natCast,hr,s2])
   refine⟨oC_flat hsvW.one,?_⟩
   have hEb:Ext wk ((wk.alloc (.cells (zc [(1,.int .i64 0),(1,.slice none 0 0)]) 63)).putN wk.heap.size 0 (oC y sv)):=((Keep.refl _ wk).alloc _).putN _ (by intro hh;exfalso;omega)
   have h9:((wk.alloc (.cells (zc [(1,.int .i64 0),(1,.slice none 0 0)]) 63)).putN wk.heap.size 0 (oC y sv)).heap[wk.heap.size]?=some (.cells (oC y sv) 63 (0,0)):=by
    rw[heap_putN_eq (heap_new _ _ _ rfl),splice_all (by rfl)]
   generalize World.putN _ _ _ _=wa at hEb h9⊢
   generalize wk.heap.size=p9 at h9⊢
   have hVa:IntsO w2.heap.size wa vv _:=OwnO.ext hV hEb
   have l2a:=(hE2.ext hEb).size
   have hcz:(Value.int .i64 y.val).cells=#[.int .i64 y.val]:=rfl
   (refine W_at c16_ok ⟨_,rfl,?_⟩;simp (disch:=first|omega|assumption|rfl|(simp only[vcS]<;>omega)|fail) only[↓vcN,vcQ,simprocAttr,h9,c0])
   refine IntsO.app hVa (by rw[List.length_take];omega) l2a fun v' wb hVb hKb hb=>?_
   rw[←htk] at hVb
   have hEw:w.heap.size≤w2.heap.size:=(hE2'.size)
   have hEx:=(hE.ext hEb).trans hKb fun g hg hb=>by have:=(OwnO.blk hVa hb).1;omega
   have hEx2:=(hE2.ext hEb).trans hKb fun g hg hb=>by have:=(OwnO.blk hVa hb).1;omega
   first|(simp (disch:=first|omega|assumption|rfl|(simp only[vcS]<;>omega)|fail) only[↓vcN,vcQ,simprocAttr])|skip
   iterate 2 (refine W_at c16_ok ⟨_,rfl,?_⟩;simp (disch:=first|omega|assumption|rfl|(simp only[vcS]<;>omega)|fail) only[↓vcN,vcQ,simprocAttr,hwi])
   rw[←ev]
   exact ih (i+1) wb v' _ (by omega) hEx hEx2 hVb
 exact LV t.outs.length 0 w2 _ _ (by omega) hE2 (Keep.refl _ _) hno0
end Go.Proofs
namespace Go.Proofs
open Go.Vc
set_option maxRecDepth 10000
set_option maxHeartbeats 3200000 in
theorem rtcheck_ok (w:World)(iv ov:Value)(t:TxV)(hT:TxR w iv ov t)(h3:t.Sm3):
  Calls Tryz.prog 31 #[.agg (txC t iv ov)] w (Ret fun u w'=>u=.int .i64 (chkT t)∧Ext w w'):=by
 refine calls_of_cfg c31_ok (Nat.le_of_ble_eq_true rfl) ?_
 simp only[argE_nil,argE_cons,Nat.zero_add]
 have ht:=h3.ok
 have hnI:=h3.few.ins
 have hnO:=h3.few.outs
 have hfx:=txC_flat2 hT
 have hcx:(Value.agg (txC t iv ov)).cells=txC t iv ov:=rfl
 have hzx:=txC_sz t iv ov
 have t1:(txC t iv ov)[1]?=some iv:=rfl
 have t2:(txC t iv ov)[2]?=some ov:=rfl
 have r4:rdO (some (.cells (txC t iv ov) 33 (0,0))) 0 4=some (txC t iv ov):=rdO_all _ _ _ _ rfl
 (refine W_at c31_ok ⟨_,rfl,?_⟩;simp (disch:=first|omega|assumption|rfl|(simp only[vcS]<;>omega)|fail) only[↓vcN,vcQ,simprocAttr,hcx])
 have hE1:Ext w (w.alloc (.cells (txC t iv ov) 33)):=(Keep.refl _ w).alloc _
 have c1:(w.alloc (.cells (txC t iv ov) 33)).heap[w.heap.size]?=some (.cells (txC t iv ov) 33 (0,0)):=heap_new _ _ _ rfl
 generalize World.alloc w _=w1 at hE1 c1⊢
 generalize w.heap.size=p1 at*
 have hT1:=hT.ext hE1
 have hlI:=hT.ins.len
 have hlO:=hT.outs.len
 have hch:chkT t=if t.ins.length=0∨t.outs.length=0 then 3
   else if addF 0 (t.outs.map (·.val))=none then 6
   else if dupF [] (t.ins.map placeF2) then 18
   else if coinB t then (match t.ins with
    |x::_=>if x.script.length<2∨100<x.script.length then 3 else 0
    |[]=>0)
   else if t.ins.any empB then 7 else 0:=rfl
 by_cases hI0:t.ins.length=0
 ·have hi:((t.ins.length:Nat):Int)=0:=by omega
  rw[hch,if_pos (.inl hI0)]
  iterate 4 (refine W_at c31_ok ⟨_,rfl,?_⟩;simp (disch:=first|omega|assumption|rfl|(simp only[vcS]<;>omega)|fail) only[↓vcN,vcQ,simprocAttr,c1,t1,hlI,hi,Ret_returned])
  exact hE1
 have hi:¬(((t.ins.length:Nat):Int)=0):=by omega
 by_cases hO0:t.outs.length=0
 ·have ho:((t.outs.length:Nat):Int)=0:=by omega
  rw[hch,if_pos (.inr hO0)]
  iterate 4 (refine W_at c31_ok ⟨_,rfl,?_⟩;simp (disch:=first|omega|assumption|rfl|(simp only[vcS]<;>omega)|fail) only[↓vcN,vcQ,simprocAttr,c1,t1,t2,hlI,hlO,hi,ho,Ret_returned])
  exact hE1
 have ho:¬(((t.outs.length:Nat):Int)=0):=by omega
 rw[if_neg (fun h=>h.elim hI0 hO0)] at hch
 iterate 3 (refine W_at c31_ok ⟨_,rfl,?_⟩;simp (disch:=first|omega|assumption|rfl|(simp only[vcS]<;>omega)|fail) only[↓vcN,vcQ,simprocAttr,c1,t1,t2,hlI,hlO,hi,ho,r4])
 refine callV_ret (rencodeW_ok w1 iv ov t false hT1 h3) ?_
 intro u w2 hu
 have hul:=hu.own.rd.len
 have hbl:=encW_len h3 (false&&witB t)
 have hgt:¬((100000:Int)< ((encW t (false&&witB t)).length:Nat)):=by omega
 have hE2:=hE1.ext hu.ext
 have c12:=hu.ext.at c1 (fun h=>h)
 generalize encW t (false&&witB t)=EB at*
 first|(simp (disch:=first|omega|assumption|rfl|(simp only[vcS]<;>omega)|fail) only[↓vcN,vcQ,simprocAttr,hul,hgt])|skip
 clear hu hul hgt hbl c1 hT1 hfx hE1
 iterate 3 (refine W_at c31_ok ⟨_,rfl,?_⟩;simp (disch:=first|omega|assumption|rfl|(simp only[vcS]<;>omega)|fail) only[↓vcN,vcQ,simprocAttr])
 have good:∀(wj:World) (tl:Env),chkT t=0→Ext w wj→W Tryz.prog (Ret fun u w'=>u=.int .i64 (chkT t)∧Ext w w') 31 2 tl wj:=by
  intro wj tl h0 hE
  rw[h0]
  iterate 2 (refine W_at c31_ok ⟨_,rfl,?_⟩;simp (disch:=first|omega|assumption|rfl|(simp only[vcS]<;>omega)|fail) only[↓vcN,vcQ,simprocAttr,Ret_returned])
  exact hE
 have behind:∀(wj:World) (tl:Env),dupF [] (t.ins.map placeF2)=false→addF 0 (t.outs.map (·.val))≠none→Ext w wj→wj.heap[p1]?=some (.cells (txC t iv ov) 33 (0,0))→
   W Tryz.prog (Ret fun u w'=>u=.int .i64 (chkT t)∧Ext w w') 31 14 ((1,.pointer (some ⟨p1,0,none⟩))::(5,.bool (t.ins.any empB))::tl) wj:=by
  intro wj tl hd ha hE c1
  have hTj:=hT.ext hE
  rw[if_neg ha,hd,if_neg (by decide)] at hch
  (refine W_at c31_ok ⟨_,rfl,?_⟩;simp (disch:=first|omega|assumption|rfl|(simp only[vcS]<;>omega)|fail) only[↓vcN,vcQ,simprocAttr,c1,r4])
  refine callV_ret (rcoinbase_ok wj iv ov t hTj ht (by omega)) ?_
  rintro _ wk ⟨rfl,hEk⟩
  have hE':=hE.ext hEk
  have c1k:=hEk.at c1 (fun h=>h)
  first|(simp (disch:=first|omega|assumption|rfl|(simp only[vcS]<;>omega)|fail) only[↓vcN,vcQ,simprocAttr])|skip
  cases hcb:coinB t with
  |true=>
   rw[hcb,if_pos rfl] at hch
   have hone:t.ins.length=1:=by
    by_cases h:t.ins.length=1
    ·exact h
    ·rw[coinB_no h] at hcb;cases hcb
   obtain⟨x0,hx0⟩:=List.length_eq_one_iff.1 hone
   have hx00:t.ins[0]'(by omega)=x0:=by simp only[hx0,List.getElem_cons_zero]
   rw[hx0] at hch
   simp only at hch
   obtain⟨b,o,c,cs,ev,hrd,hcs,sv,wv,ecs,hsvW,hwvW⟩:=(hTj.ext hEk).ins.at (i:=0) (by omega)
   have hok:=ht.ins _ (List.getElem_mem (show 0<t.ins.length by omega))
   rw[hx00] at ecs hsvW hwvW hok
   subst ecs
   have t1':(txC t iv ov)[1]?=some (.slice (some ⟨b,o,none⟩) t.ins.length c):=by rw[←ev];rfl
   have c33:=rdO_cell hrd (j:=33) (by omega)
   rw[iC_33 hok.len sv wv,Nat.zero_mul,Nat.add_zero] at c33
   have hsl:=hsvW.len
   have bb:(0:Int)≤0∧(0:Int)< (t.ins.length:Nat):=by omega
   (refine W_at c31_ok ⟨_,rfl,?_⟩;simp (disch:=first|omega|assumption|rfl|(simp only[vcS]<;>omega)|fail) only[↓vcN,vcQ,simprocAttr])
   by_cases hs2:x0.script.length<2
   ·rw[if_pos (.inl hs2)] at hch
    have hs2i:((x0.script.length:Nat):Int)<2:=by omega
    rw[hch]
    iterate 4 (refine W_at c31_ok ⟨_,rfl,?_⟩;simp (disch:=first|omega|assumption|rfl|(simp only[vcS]<;>omega)|fail) only[↓vcN,vcQ,simprocAttr,c1k,t1',bb,c33,hsl,hs2i,Int.toNat_zero,Ret_returned])
    exact hE'
   ·have hs2i:¬(((x0.script.length:Nat):Int)<2):=by omega
    by_cases hs3:100<x0.script.length
    ·rw[if_pos (.inr hs3)] at hch
     have hs3i:(100:Int)< (x0.script.length:Nat):=by omega
     rw[hch]
     iterate 4 (refine W_at c31_ok ⟨_,rfl,?_⟩;simp (disch:=first|omega|assumption|rfl|(simp only[vcS]<;>omega)|fail) only[↓vcN,vcQ,simprocAttr,c1k,t1',bb,c33,hsl,hs2i,hs3i,Int.toNat_zero,Ret_returned])
     exact hE'
    ·rw[if_neg (fun h=>h.elim hs2 hs3)] at hch
     have hs3i:¬((100:Int)< (x0.script.length:Nat)):=by omega
     rw[hch]
     iterate 4 (refine W_at c31_ok ⟨_,rfl,?_⟩;simp (disch:=first|omega|assumption|rfl|(simp only[vcS]<;>omega)|fail) only[↓vcN,vcQ,simprocAttr,c1k,t1',bb,c33,hsl,hs2i,hs3i,Int.toNat_zero,Ret_returned])
     exact hE'
  |false=>
   rw[hcb,if_neg (by decide)] at hch
   iterate 2 (refine W_at c31_ok ⟨_,rfl,?_⟩;simp (disch:=first|omega|assumption|rfl|(simp only[vcS]<;>omega)|fail) only[↓vcN,vcQ,simprocAttr])
   cases hem:t.ins.any empB with
   |true=>
    rw[hem,if_pos rfl] at hch
    rw[hch]
    iterate 3 (refine W_at c31_ok ⟨_,rfl,?_⟩;simp (disch:=first|omega|assumption|rfl|(simp only[vcS]<;>omega)|fail) only[↓vcN,vcQ,simprocAttr,Ret_returned])
    exact hE'
   |false=>
    rw[hem,if_neg (by decide)] at hch
    (refine W_at c31_ok ⟨_,rfl,?_⟩;simp (disch:=first|omega|assumption|rfl|(simp only[vcS]<;>omega)|fail) only[↓vcN,vcQ,simprocAttr])
    exact good _ _ hch hE'
 have LI:∀(k i:Nat) (wj:World) (tl:Env),k+i=t.ins.length→addF 0 (t.outs.map (·.val))≠none→Ext w wj→wj.heap[p1]?=some (.cells (txC t iv ov) 33 (0,0))→dupF [] (t.ins.map placeF2)=dupF ((t.ins.map placeF2).take i) ((t.ins.map placeF2).drop i)→
   W Tryz.prog (Ret fun u w'=>u=.int .i64 (chkT t)∧Ext w w') 31 28 ((1,.pointer (some ⟨p1,0,none⟩))::(5,.bool ((t.ins.take i).any empB))::(6,.int .i64 (i:Nat))::tl) wj:=by
  intro k
  induction k with
  |zero=>
   intro i wj tl hi ha hE c1 hd
   obtain rfl:i=t.ins.length:=by omega
   have hno:¬((t.ins.length:Nat):Int)< (t.ins.length:Nat):=by omega
   rw[List.drop_eq_nil_of_le (by rw[List.length_map];omega)] at hd
   rw[List.take_length]
   iterate 2 (refine W_at c31_ok ⟨_,rfl,?_⟩;simp (disch:=first|omega|assumption|rfl|(simp only[vcS]<;>omega)|fail) only[↓vcN,vcQ,simprocAttr,c1,t1,hlI,hno])
   exact behind wj _ hd ha hE c1
  |succ k ih=>
   intro i wj tl hi ha hE c1 hd
   have hil:i<t.ins.length:=by omega
   have hlt:((i:Nat):Int)< (t.ins.length:Nat):=by omega
   have b1:0≤((i:Nat):Int)∧((i:Nat):Int)< (t.ins.length:Nat):=by omega
   have hwi:IntKind.i64.wrap (((i:Nat):Int)+1)=((i+1:Nat):Int):=wrap_i64 (by omega) (by omega)
   rw[dupF_at (by rw[List.length_map];exact hil),List.getElem_map] at hd
   have hany:(t.ins.take (i+1)).any empB=((t.ins.take i).any empB||empB t.ins[i]):=by
    rw[List.take_add_one,List.getElem?_eq_getElem hil,List.any_append];simp
   have pl:∀j,j<t.ins.length→∀w',Ext wj w'→∃b o c,iv=.slice (some ⟨b,o,none⟩) t.ins.length c∧∀h:j<t.ins.length,rdO w'.heap[b]? (o+j*36) 33=some (opC (t.ins[j]).prev (t.ins[j]).idx):=fun j hj w' hw'=>by
    obtain⟨b,o,c,cs,ev,hr,hcs,sv,wv,ecs,hsvW,hwvW⟩:=(hT.ext (hE.ext hw')).ins.at hj
    refine⟨b,o,c,ev,fun h=>?_⟩
    subst ecs
    cases hg:w'.heap[b]? with
    |none=>rw[hg] at hr;cases hr
    |some ob=>
     rw[hg] at hr
     cases ob with
     |cells d T fr=>exact iC_op (ht.ins _ (List.getElem_mem hj)).len hr
     |_=>cases hr
   have hpL:∀j (h:j<t.ins.length),(t.ins[j]).prev.length=32:=fun j h=>(ht.ins _ (List.getElem_mem h)).len
   iterate 3 (refine W_at c31_ok ⟨_,rfl,?_⟩;simp (disch:=first|omega|assumption|rfl|(simp only[vcS]<;>omega)|fail) only[↓vcN,vcQ,simprocAttr,c1,t1,hlI,hlt])
   have next:∀(wk:World) (tl:Env),Ext wj wk→¬placeF2 t.ins[i]∈(t.ins.map placeF2).take i→
     W Tryz.prog (Ret fun u w'=>u=.int .i64 (chkT t)∧Ext w w') 31 17 ((1,.pointer (some ⟨p1,0,none⟩))::(5,.bool ((t.ins.take i).any empB))::(6,.int .i64 (i:Nat))::tl) wk:=by
    intro wk tl hEk hno
    have hd1:dupF [] (t.ins.map placeF2)=dupF ((t.ins.map placeF2).take (i+1)) ((t.ins.map placeF2).drop (i+1)):=by rw[hd];simp [hno]
    have c1k:=hEk.at c1 (fun h=>h)
    obtain⟨b,o,c,ev,hr0⟩:=pl i hil wk hEk
    have hr:=hr0 hil
    have t1':(txC t iv ov)[1]?=some (.slice (some ⟨b,o,none⟩) t.ins.length c):=by rw[←ev];rfl
    have hEw:=hE.ext hEk
    cases hem:(t.ins.take i).any empB with
    |true=>
     rw[hem,Bool.true_or] at hany
     iterate 3 (refine W_at c31_ok ⟨_,rfl,?_⟩;simp (disch:=first|omega|assumption|rfl|(simp only[vcS]<;>omega)|fail) only[↓vcN,vcQ,simprocAttr,hwi])
     have:=ih (i+1) wk [] (by omega) ha hEw c1k hd1
     rw[hany] at this
     exact this
    |false=>
     rw[hem,Bool.false_or] at hany
     (refine W_at c31_ok ⟨_,rfl,?_⟩;simp (disch:=first|omega|assumption|rfl|(simp only[vcS]<;>omega)|fail) only[↓vcN,vcQ,simprocAttr,c1k,t1',b1,Int.toNat_natCast,hr])
     refine callV_ret (rempty_ok wk _ _ (hpL i hil)) ?_
     rintro _ wl ⟨rfl,hEl⟩
     first|(simp (disch:=first|omega|assumption|rfl|(simp only[vcS]<;>omega)|fail) only[↓vcN,vcQ,simprocAttr])|skip
     iterate 2 (refine W_at c31_ok ⟨_,rfl,?_⟩;simp (disch:=first|omega|assumption|rfl|(simp only[vcS]<;>omega)|fail) only[↓vcN,vcQ,simprocAttr,hwi])
     have:=ih (i+1) wl [] (by omega) ha (hEw.ext hEl) (hEl.at c1k fun h=>h) hd1
     rw[hany] at this
     exact this
   have LK:∀(m j:Nat) (wk:World) (tl:Env),m+j=i→Ext wj wk→(placeF2 t.ins[i]∈(t.ins.map placeF2).take i↔placeF2 t.ins[i]∈((t.ins.map placeF2).take i).drop j)→
     W Tryz.prog (Ret fun u w'=>u=.int .i64 (chkT t)∧Ext w w') 31 25 ((1,.pointer (some ⟨p1,0,none⟩))::(5,.bool ((t.ins.take i).any empB))::(6,.int .i64 (i:Nat))::(7,.int .i64 (j:Nat))::tl) wk:=by
    intro m
    induction m with
    |zero=>
     intro j wk tl hj hEk hm
     obtain rfl:j=i:=by omega
     have hno:¬((j:Nat):Int)< (j:Nat):=by omega
     rw[List.drop_eq_nil_of_le (by rw[List.length_take];omega)] at hm
     iterate 2 (refine W_at c31_ok ⟨_,rfl,?_⟩;simp (disch:=first|omega|assumption|rfl|(simp only[vcS]<;>omega)|fail) only[↓vcN,vcQ,simprocAttr,hno])
     exact next wk _ hEk fun h=>by have:=hm.1 h;cases this
    |succ m ihm=>
     intro j wk tl hj hEk hm
     have hjl:j<t.ins.length:=by omega
     have hlt2:((j:Nat):Int)< (i:Nat):=by omega
     have b2:0≤((j:Nat):Int)∧((j:Nat):Int)< (t.ins.length:Nat):=by omega
     have hwj:IntKind.i64.wrap (((j:Nat):Int)+1)=((j+1:Nat):Int):=wrap_i64 (by omega) (by omega)
     have hgl:((t.ins.map placeF2).take i)[j]'(by rw[List.length_take,List.length_map];omega)=placeF2 t.ins[j]:=by simp
     rw[List.drop_eq_getElem_cons (by rw[List.length_take,List.length_map];omega),hgl,List.mem_cons] at hm
     have hEd:Ext wk wk.drew:=(Keep.refl _ wk).drew
     obtain⟨b,o,c,ev,hri0⟩:=pl i hil wk hEk
     have hri:=hri0 hil
     obtain⟨b',o',c',ev',hrj0⟩:=pl j hjl wk hEk
     have hrj:=hrj0 hjl
     rw[ev] at ev'
     cases ev'
     have hrid:=rdO_ext' hEd hri
     have hrjd:=rdO_ext' hEd hrj
     have c1k:=hEk.at c1 (fun h=>h)
     have c1d:=hEd.at c1k (fun h=>h)
     have t1':(txC t iv ov)[1]?=some (.slice (some ⟨b,o,none⟩) t.ins.length c):=by rw[←ev];rfl
     have q1:=conf33 (hpL i hil) (t.ins[i]).idx
     have q2:=conf33 (hpL j hjl) (t.ins[j]).idx
     have q3:=eqc33 (p:=(t.ins[i]).prev) (q:=(t.ins[j]).prev) (t.ins[i]).idx (t.ins[j]).idx (by rw[hpL i hil,hpL j hjl])
     by_cases he:(t.ins[i]).prev=(t.ins[j]).prev∧(t.ins[i]).idx=(t.ins[j]).idx
     ·have hin:placeF2 t.ins[i]∈(t.ins.map placeF2).take i:=hm.2 (.inl (by unfold placeF2;rw[he.1,he.2]))
      have hd1:dupF [] (t.ins.map placeF2)=true:=by rw[hd];simp [hin]
      rw[if_neg ha,hd1,if_pos rfl] at hch
      rw[decide_eq_true he] at q3
      rw[hch]
      iterate 6 (refine W_at c31_ok ⟨_,rfl,?_⟩;simp (disch:=first|omega|assumption|rfl|(simp only[vcS]<;>omega)|fail) only[↓vcN,vcQ,simprocAttr,hlt2,c1k,t1',b1,b2,Int.toNat_natCast,hri,hrj,q1,q2,q3,Bool.false_xor,Ret_returned])
      exact(hE.ext hEk).ext hEd
     ·rw[decide_eq_false he] at q3
      have hne:¬placeF2 t.ins[i]=placeF2 t.ins[j]:=fun h=>he ⟨congrArg Prod.fst h,congrArg Prod.snd h⟩
      iterate 6 (refine W_at c31_ok ⟨_,rfl,?_⟩;simp (disch:=first|omega|assumption|rfl|(simp only[vcS]<;>omega)|fail) only[↓vcN,vcQ,simprocAttr,hlt2,c1k,t1',b1,b2,Int.toNat_natCast,hri,hrj,q1,q2,q3,Bool.false_xor,hwj])
      exact ihm (j+1) wk.drew _ (by omega) (hEk.ext hEd) ⟨fun h=>(hm.1 h).elim (fun e=>absurd e hne) id,fun h=>hm.2 (.inr h)⟩
   exact LK i 0 wj _ (by omega) (Keep.refl _ _) (by rw[List.drop_zero])
 have LV:∀(k i:Nat) (s:Int) (wk:World) (tl:Env),k+i=t.outs.length→okB s=true→Ext w wk→wk.heap[p1]?=some (.cells (txC t iv ov) 33 (0,0))→addF 0 (t.outs.map (·.val))=addF s ((t.outs.map (·.val)).drop i)→
   W Tryz.prog (Ret fun u w'=>u=.int .i64 (chkT t)∧Ext w w') 31 39 ((1,.pointer (some ⟨p1,0,none⟩))::(3,.int .i64 s)::(4,.int .i64 (i:Nat))::tl) wk:=by
  intro k
  induction k with
  |zero=>
   intro i s wk tl hi hs hE c1 hf
   obtain rfl:i=t.outs.length:=by omega
   have hno:¬((t.outs.length:Nat):Int)< (t.outs.length:Nat):=by omega
   rw[List.drop_eq_nil_of_le (by rw[List.length_map];omega),addF] at hf
   iterate 4 (refine W_at c31_ok ⟨_,rfl,?_⟩;simp (disch:=first|omega|assumption|rfl|(simp only[vcS]<;>omega)|fail) only[↓vcN,vcQ,simprocAttr,c1,t2,hlO,hno])
   exact LI t.ins.length 0 wk _ (by omega) (by rw[hf];exact fun h=>by cases h) hE c1 rfl
  |succ k ih=>
   intro i s wk tl hi hs hE c1 hf
   have hil:i<t.outs.length:=by omega
   have hlt:((i:Nat):Int)< (t.outs.length:Nat):=by omega
   have b1:0≤((i:Nat):Int)∧((i:Nat):Int)< (t.outs.length:Nat):=by omega
   have hwi:IntKind.i64.wrap (((i:Nat):Int)+1)=((i+1:Nat):Int):=wrap_i64 (by omega) (by omega)
   obtain⟨b,o,c,cs,ev,hr,hcs,sv,ecs,hsvW⟩:=(hT.ext hE).outs.at hil
   rw[add_step (by rw[List.length_map];exact hil),List.getElem_map] at hf
   have ih':=ih (i+1)
   have hov:=(ht.outs _ (List.getElem_mem hil)).val
   generalize t.outs[i]=y at*
   subst ecs
   have c0:=rdO_cell hr (j:=0) (by omega)
   have x0:(oC y sv)[0]?=some (.int .i64 y.val):=rfl
   rw[x0,Nat.add_zero] at c0
   have t2':(txC t iv ov)[2]?=some (.slice (some ⟨b,o,none⟩) t.outs.length c):=by rw[←ev];rfl
   have hlO':lenR (.slice (some ⟨b,o,none⟩) t.outs.length c)=some (.int .i64 (t.outs.length:Nat)):=rfl
   have h2:=okB_iff.1 hs
   iterate 3 (refine W_at c31_ok ⟨_,rfl,?_⟩;simp (disch:=first|omega|assumption|rfl|(simp only[vcS]<;>omega)|fail) only[↓vcN,vcQ,simprocAttr,c1,t2',hlO',hlt,b1,Int.toNat_natCast,c0])
   refine callV_ret (rValid_ok wk y.val) ?_
   rintro _ wl ⟨rfl,hwl⟩
   obtain rfl:wl=wk:=hwl
   cases hx:okB y.val with
   |false=>
    rw[hx,Bool.false_and,if_neg (by decide)] at hf
    rw[if_pos hf] at hch
    rw[hch]
    simp (disch:=first|omega|assumption|rfl|(simp only[vcS]<;>omega)|fail) only[↓vcN,vcQ,simprocAttr]
    iterate 3 (refine W_at c31_ok ⟨_,rfl,?_⟩;simp (disch:=first|omega|assumption|rfl|(simp only[vcS]<;>omega)|fail) only[↓vcN,vcQ,simprocAttr,Ret_returned])
    exact hE
   |true=>
    have h1:=okB_iff.1 hx
    have hws:IntKind.i64.wrap (s+y.val)=s+y.val:=wrap_i64 (by omega) (by omega)
    simp (disch:=first|omega|assumption|rfl|(simp only[vcS]<;>omega)|fail) only[↓vcN,vcQ,simprocAttr,c1,t2',b1,Int.toNat_natCast,c0,hws]
    refine callV_ret (rValid_ok wl (s+y.val)) ?_
    rintro _ wm ⟨rfl,hwm⟩
    obtain rfl:wm=wl:=hwm
    cases hy:okB (s+y.val) with
    |false=>
     rw[hx,hy,Bool.true_and,if_neg (by decide)] at hf
     rw[if_pos hf] at hch
     rw[hch]
     simp (disch:=first|omega|assumption|rfl|(simp only[vcS]<;>omega)|fail) only[↓vcN,vcQ,simprocAttr]
     iterate 3 (refine W_at c31_ok ⟨_,rfl,?_⟩;simp (disch:=first|omega|assumption|rfl|(simp only[vcS]<;>omega)|fail) only[↓vcN,vcQ,simprocAttr,Ret_returned])
     exact hE
    |true=>
     rw[hx,hy,Bool.true_and,if_pos rfl] at hf
     simp (disch:=first|omega|assumption|rfl|(simp only[vcS]<;>omega)|fail) only[↓vcN,vcQ,simprocAttr]
     iterate 4 (refine W_at c31_ok ⟨_,rfl,?_⟩;simp (disch:=first|omega|assumption|rfl|(simp only[vcS]<;>omega)|fail) only[↓vcN,vcQ,simprocAttr,c1,t2',b1,Int.toNat_natCast,c0,hws,hwi])
     exact ih' (s+y.val) wm _ (by omega) hy hE c1 hf
 exact LV t.outs.length 0 0 w2 _ (by omega) (by decide) hE2 c12 rfl
end Go.Proofs
namespace Go.Proofs
open Go.Vc
set_option maxRecDepth 10000
def TxAt (w:World)(c:Array Value)(t:TxV):Prop:=∃iv ov,c=txC t iv ov∧TxR w iv ov t
abbrev TxsR (w:World)(v:Value)(ts:List TxV):Prop:=ListR TxAt 4 w v ts
theorem TxAt.ext {w w':World}{c:Array Value}{t:TxV}(h:TxAt w c t)(k:Ext w w'):TxAt w' c t:=by
 obtain⟨iv,ov,h1,h2⟩:=h
 exact⟨iv,ov,h1,h2.ext k⟩
theorem TxsR.ext {w w':World}{v:Value}{ts:List TxV}(h:TxsR w v ts)(k:Ext w w'):TxsR w' v ts:=ListR.ext h k fun _ _ h=>h.ext k
def encT (t:TxV):List Int:=encW t (witB t)
theorem encT_eq (t:TxV):encW t (true&&witB t)=encT t:=by rw[Bool.true_and];rfl
def encB (h:HdV)(ts:List TxV):List Int:=encH h++sizeF ts.length++ts.flatMap fun t=>txtF (encT t)
theorem encT_len {t:TxV}(h:t.Sm3):(encT t).length≤3000:=encW_len h _
theorem encT_byt {t:TxV}(h:t.Ok):byt (encT t):=encW_byt h _
structure BOk (h:HdV)(ts:List TxV):Prop where
 ho:h.Ok
 txs:∀t∈ts,t.Sm3
 n:ts.length≤6
theorem flatB_len {ts:List TxV}(h:∀t∈ts,t.Sm3):(ts.flatMap fun t=>txtF (encT t)).length≤3009*ts.length:=by
 induction ts with
 |nil=>simp
 |cons x l ih=>
  have a:=encT_len (h x (by simp))
  have b:=(sizeF_len (n:=((encT x).length:Int))).2
  have c:=ih (fun y hy=>h y (by simp [hy]))
  have d:(txtF (encT x)).length≤3009:=by simp only[txtF,List.length_append];omega
  rw[List.flatMap_cons,List.length_append,List.length_cons,Nat.mul_add]
  omega
theorem encB_len {h:HdV}{ts:List TxV}(hb:BOk h ts):(encB h ts).length≤20000:=by
 have a:=flatB_len hb.txs
 have b:=(sizeF_len (n:=(ts.length:Int))).2
 have c:=encH_len hb.ho
 have d:=hb.n
 simp only[encB,List.length_append]
 omega
theorem encB_byt {h:HdV}{ts:List TxV}(hb:BOk h ts):byt (encB h ts):=
 byt_app (byt_app (encH_byt hb.ho) (sizeF_byt2 (by omega))) (flat_byt2 fun t ht=>txtF_byt (encT_byt (hb.txs t ht).ok))
theorem New.stable {wk wl:World}{p:Nat}{u v:Value}{bs bs0:List Int}(hu:New wk wl u bs)(hW:WAt wk p v bs0):∀w',Keep (WS p v) wl w'→Rd w' u bs:=fun w' k=>
 hu.own.rd.keep k fun q n c e hs=>by
  have h1:=hu.new q.block (by rw[e];rfl)
  rcases hs with h|h
  ·have:=lt_of_heap hW.at'
   omega
  ·obtain⟨c',hc'⟩:=row_type hW.own h
   have:=lt_of_heap hc'
   omega
set_option maxHeartbeats 1600000 in
theorem bencode_ok (w:World)(h:HdV)(v:Value)(ts:List TxV)(hT:TxsR w v ts)(hb:BOk h ts):
  Calls Tryz.prog 12 #[.agg (bC h v)] w (Ret fun u w'=>New w w' u (encB h ts)):=by
 refine calls_of_cfg c12_ok (Nat.le_of_ble_eq_true rfl) ?_
 simp only[argE_nil,argE_cons,Nat.zero_add]
 have ho:=hb.ho
 have hn:=hb.n
 have hbs:=bC_size ho v
 have hbf:=bC_flat h (u:=v) hT.one
 have hbx:(Value.agg (bC h v)).cells=bC h v:=rfl
 have b68:=bC_68 ho v
 (refine W_at c12_ok ⟨_,rfl,?_⟩;simp (disch:=first|omega|assumption|rfl|(simp only[vcS]<;>omega)|fail) only[↓vcN,vcQ,simprocAttr,hbx])
 have hE0:Ext w (w.alloc (.cells (bC h v) 29)):=(Keep.refl _ w).alloc _
 have hp1:(w.alloc (.cells (bC h v) 29)).heap[w.heap.size]?=some (.cells (bC h v) 29 (0,0)):=heap_new _ _ _ rfl
 generalize World.alloc _ _=w1 at hE0 hp1⊢
 generalize hp1e:w.heap.size=p1 at hp1⊢
 have hw1:=hE0.size
 have hT1:=hT.ext hE0
 (refine W_at c12_ok ⟨_,rfl,?_⟩;simp (disch:=first|omega|assumption|rfl|(simp only[vcS]<;>omega)|fail) only[↓vcN,vcQ,simprocAttr])
 have hW:=new_writer w1
 have hp12:=hW.ext.at hp1 (fun h=>h)
 generalize World.alloc _ _=w2 at hW hp12⊢
 generalize hp5e:w1.heap.size=p5 at hW⊢
 have rh:=bC_head ho v 29 (0,0)
 (refine W_at c12_ok ⟨_,rfl,?_⟩;simp (disch:=first|omega|assumption|rfl|(simp only[vcS]<;>omega)|fail) only[↓vcN,vcQ,simprocAttr,hp12,rh])
 refine callV_ret (encodeHeader_ok w2 h ho) ?_
 intro u3 w3 hu3
 have hW3:=hW.grow hu3.ext
 first|(simp (disch:=first|omega|assumption|rfl|(simp only[vcS]<;>omega)|fail) only[↓vcN,vcQ,simprocAttr])|skip
 refine callV_ret (raw_ok w3 p5 _ [] u3 (encH h) hW3.at' hu3.own.rd (by rw[encH_len ho];simp)) ?_
 intro _ w4 hTo
 obtain⟨v4,hW4⟩:=hW3.go hTo
 rw[List.nil_append] at hW4
 first|(simp (disch:=first|omega|assumption|rfl|(simp only[vcS]<;>omega)|fail) only[↓vcN,vcQ,simprocAttr])|skip
 have hp14:=hW4.ext.at hp1 (fun h=>h)
 have hlT:=hT.len
 have huT:IntKind.u64.wrap ((ts.length:Nat):Int)=(ts.length:Nat):=by rw[wrap_u64];omega
 (refine W_at c12_ok ⟨_,rfl,?_⟩;simp (disch:=first|omega|assumption|rfl|(simp only[vcS]<;>omega)|fail) only[↓vcN,vcQ,simprocAttr,hp14,b68,hlT,huT])
 refine callV_ret (size_ok w4 p5 v4 _ (ts.length:Nat) hW4.at' (by rw[encH_len ho];omega) (by omega)) ?_
 intro _ w5 hTo
 obtain⟨v5,hW5⟩:=hW4.go hTo
 first|(simp (disch:=first|omega|assumption|rfl|(simp only[vcS]<;>omega)|fail) only[↓vcN,vcQ,simprocAttr])|skip
 have hp15:=hW5.ext.at hp1 (fun h=>h)
 (refine W_at c12_ok ⟨_,rfl,?_⟩;simp (disch:=first|omega|assumption|rfl|(simp only[vcS]<;>omega)|fail) only[↓vcN,vcQ,simprocAttr,hp15,b68,hlT])
 have hsz:=(sizeF_len (n:=(ts.length:Int))).2
 have hlh:=encH_len ho
 have L:∀(k i:Nat) (wj:World) (vj:Value) (tl:Env),i+k=ts.length→WMid w1 wj p5 vj (encH h++sizeF (ts.length:Nat)++(ts.take i).flatMap fun t=>txtF (encT t))→
   W Tryz.prog (Ret fun u w'=>New w w' u (encB h ts)) 12 8 ((3,.pointer (some ⟨p5,0,none⟩))::(16,v)::(17,.int .i64 (ts.length:Nat))::(18,.int .i64 (i:Nat))::tl) wj:=by
  intro k
  induction k with
  |zero=>
   intro i wj vj tl hi hWj
   obtain rfl:i=ts.length:=by omega
   rw[List.take_length] at hWj
   have hno:¬((ts.length:Nat):Int)< (ts.length:Nat):=by omega
   have hfl:=flatB_len hb.txs
   iterate 3 (refine W_at c12_ok ⟨_,rfl,?_⟩;simp (disch:=first|omega|assumption|rfl|(simp only[vcS]<;>omega)|fail) only[↓vcN,vcQ,simprocAttr,hno])
   refine callV_ret (out_ok wj p5 vj _ hWj.at' (by simp only[List.length_append];omega)) ?_
   rintro u wl ⟨g1,g2,g3⟩
   first|(simp (disch:=first|omega|assumption|rfl|(simp only[vcS]<;>omega)|fail) only[↓vcN,vcQ,simprocAttr])|skip
   (refine W_at c12_ok ⟨_,rfl,?_⟩;simp (disch:=first|omega|assumption|rfl|(simp only[vcS]<;>omega)|fail) only[↓vcN,vcQ,simprocAttr,Ret_returned])
   refine⟨?_,(hE0.ext hWj.ext).ext g2,fun g hg=>?_⟩
   ·unfold encB;exact g1
   ·have:=g3 g hg
    have:=(hE0.ext hWj.ext).size
    omega
  |succ k ih=>
   intro i wj vj tl hi hWj
   have hil:i<ts.length:=by omega
   have hlt:((i:Nat):Int)< (ts.length:Nat):=by omega
   have b1:0≤((i:Nat):Int)∧((i:Nat):Int)< (ts.length:Nat):=by omega
   have hwi:IntKind.i64.wrap (((i:Nat):Int)+1)=((i+1:Nat):Int):=wrap_i64 (by omega) (by omega)
   obtain⟨b,o,c,cs,ev,hr,hcs,iv,ov,ecs,hR⟩:=(hT1.ext hWj.ext).at hil
   have h3:=hb.txs _ (List.getElem_mem hil)
   have htk:=take_flat (fun t=>txtF (encT t)) hil
   have hbi:=flatB_len (ts:=ts.take i) fun t ht=>hb.txs t (List.mem_of_mem_take ht)
   have hbl:(ts.take i).length≤6:=by rw[List.length_take];omega
   generalize ts[i]=t at*
   subst ecs
   have s4:=txC_sz t iv ov
   rw[ev]
   iterate 3 (refine W_at c12_ok ⟨_,rfl,?_⟩;simp (disch:=first|omega|assumption|rfl|(simp only[vcS]<;>omega)|fail) only[↓vcN,vcQ,simprocAttr,hlt,b1,Int.toNat_natCast,hr,s4])
   refine⟨txC_flat2 hR,by decide,?_⟩
   have hEb:Ext wj ((wj.alloc (.cells (zc [(1,.int .i32 0),(2,.slice none 0 0),(1,.int .u32 0)]) 33)).putN wj.heap.size 0 (txC t iv ov)):=((Keep.refl _ wj).alloc _).putN _ (by intro hh;exfalso;omega)
   have h9:((wj.alloc (.cells (zc [(1,.int .i32 0),(2,.slice none 0 0),(1,.int .u32 0)]) 33)).putN wj.heap.size 0 (txC t iv ov)).heap[wj.heap.size]?=some (.cells (txC t iv ov) 33 (0,0)):=by
    rw[heap_putN_eq (heap_new _ _ _ rfl),splice_all (by rw[s4];rfl)]
   generalize World.putN _ _ _ _=wa at hEb h9⊢
   generalize wj.heap.size=p9 at h9⊢
   have hWa:=hWj.grow hEb
   have r4:rdO (some (.cells (txC t iv ov) 33 (0,0))) 0 4=some (txC t iv ov):=rdO_all _ _ _ _ s4
   (refine W_at c12_ok ⟨_,rfl,?_⟩;simp (disch:=first|omega|assumption|rfl|(simp only[vcS]<;>omega)|fail) only[↓vcN,vcQ,simprocAttr,h9,r4])
   refine callV_ret (encodeW_ok wa iv ov t true (hR.ext hEb) h3) ?_
   intro u wb hu
   rw[encT_eq] at hu
   have hWb:=hWa.grow hu.ext
   have hl3:=encT_len h3
   first|(simp (disch:=first|omega|assumption|rfl|(simp only[vcS]<;>omega)|fail) only[↓vcN,vcQ,simprocAttr])|skip
   refine callV_ret (bytes_ok wb p5 vj _ u (encT t) hWb.at' hu.own.rd (hu.stable hWa.at') (by simp only[List.length_append];omega)) ?_
   intro _ wc hTo
   obtain⟨vc,hWc⟩:=hWb.go hTo
   first|(simp (disch:=first|omega|assumption|rfl|(simp only[vcS]<;>omega)|fail) only[↓vcN,vcQ,simprocAttr])|skip
   iterate 2 (refine W_at c12_ok ⟨_,rfl,?_⟩;simp (disch:=first|omega|assumption|rfl|(simp only[vcS]<;>omega)|fail) only[↓vcN,vcQ,simprocAttr,hwi])
   rw[←ev]
   refine ih (i+1) wc vc _ (by omega) ?_
   rw[htk,show txtF (encT t)=sizeF (encT t).length++encT t from rfl]
   simpa only[List.append_assoc] using hWc
 exact L ts.length 0 w5 v5 _ (by omega) (by rw[List.take_zero];simpa using hW5)
set_option maxHeartbeats 1600000 in
theorem rbencode_ok (w:World)(h:HdV)(v:Value)(ts:List TxV)(hT:TxsR w v ts)(hb:BOk h ts):
  Calls Tryz.prog 29 #[.agg (bC h v)] w (Ret fun u w'=>New w w' u (encB h ts)):=by
 refine calls_of_cfg c29_ok (Nat.le_of_ble_eq_true rfl) ?_
 simp only[argE_nil,argE_cons,Nat.zero_add]
 have ho:=hb.ho
 have hn:=hb.n
 have hbs:=bC_size ho v
 have hbf:=bC_flat h (u:=v) hT.one
 have hbx:(Value.agg (bC h v)).cells=bC h v:=rfl
 have b68:=bC_68 ho v
 (refine W_at c29_ok ⟨_,rfl,?_⟩;simp (disch:=first|omega|assumption|rfl|(simp only[vcS]<;>omega)|fail) only[↓vcN,vcQ,simprocAttr,hbx])
 have hE0:Ext w (w.alloc (.cells (bC h v) 29)):=(Keep.refl _ w).alloc _
 have hp1:(w.alloc (.cells (bC h v) 29)).heap[w.heap.size]?=some (.cells (bC h v) 29 (0,0)):=heap_new _ _ _ rfl
 generalize World.alloc _ _=w1 at hE0 hp1⊢
 generalize hp1e:w.heap.size=p1 at hp1⊢
 have hT1:=hT.ext hE0
 have rh:=bC_head ho v 29 (0,0)
 have hlT:=hT.len
 have huT:IntKind.u64.wrap ((ts.length:Nat):Int)=(ts.length:Nat):=by rw[wrap_u64];omega
 have hEd:Ext w1 w1.drew:=(Keep.refl _ w1).drew
 have hp1d:=hEd.at hp1 (fun h=>h)
 have hsz:=(sizeF_len (n:=(ts.length:Int))).2
 have hlh:=encH_len ho
 (refine W_at c29_ok ⟨_,rfl,?_⟩;simp (disch:=first|omega|assumption|rfl|(simp only[vcS]<;>omega)|fail) only[↓vcX,ptS2_eq,vcQ,simprocAttr,hp1,rh,b68,hlT,huT])
 refine callV_ret (rencodeHeader_ok w1.drew h ho) ?_
 intro u3 w3 hN3
 have hN3:=hN3.pre hEd
 have hp13:=hN3.ext.at hp1 (fun h=>h)
 simp (disch:=first|omega|assumption|rfl|(simp only[vcS]<;>omega)|fail) only[↓vcY,ptS1_eq,vcQ,simprocAttr,hp13,b68]
 refine callV_ret (rsize_ok w3 (ts.length:Nat) (by omega)) ?_
 intro u4 w4 hN4
 simp (disch:=first|omega|assumption|rfl|(simp only[vcS]<;>omega)|fail) only[↓vcX,ptS2_eq,vcQ,simprocAttr]
 refine appN (hN3.keep hN4.ext) hN4.own.rd (by omega) fun v5 w5 hN5 _ _=>?_
 first|(simp (disch:=first|omega|assumption|rfl|(simp only[vcS]<;>omega)|fail) only[↓vcY,ptS1_eq,vcQ,simprocAttr])|skip
 first|((refine W_at c29_ok ⟨_,rfl,?_⟩;simp (disch:=first|omega|assumption|rfl|(simp only[vcS]<;>omega)|fail) only[↓vcN,vcQ,simprocAttr]))|skip
 have L:∀(k i:Nat) (wj:World) (vj:Value) (tl:Env),k+i=ts.length→New w1 wj vj (encH h++sizeF (ts.length:Nat)++(ts.take i).flatMap fun t=>txtF (encT t))→
   W Tryz.prog (Ret fun u w'=>New w w' u (encB h ts)) 29 7 ((1,.pointer (some ⟨p1,0,none⟩))::(3,vj)::(4,.int .i64 (i:Nat))::tl) wj:=by
  intro k
  induction k with
  |zero=>
   intro i wj vj tl hi hN
   obtain rfl:i=ts.length:=by omega
   rw[List.take_length] at hN
   have hno:¬((ts.length:Nat):Int)< (ts.length:Nat):=by omega
   have hp1j:=hN.ext.at hp1 (fun h=>h)
   iterate 4 (refine W_at c29_ok ⟨_,rfl,?_⟩;simp (disch:=first|omega|assumption|rfl|(simp only[vcS]<;>omega)|fail) only[↓vcN,vcQ,simprocAttr,hp1j,b68,hlT,hno,Ret_returned])
   exact hN.pre hE0
  |succ k ih=>
   intro i wj vj tl hi hN
   have hil:i<ts.length:=by omega
   have hlt:((i:Nat):Int)< (ts.length:Nat):=by omega
   have b1:0≤((i:Nat):Int)∧((i:Nat):Int)< (ts.length:Nat):=by omega
   have hwi:IntKind.i64.wrap (((i:Nat):Int)+1)=((i+1:Nat):Int):=wrap_i64 (by omega) (by omega)
   obtain⟨b,o,c,cs,ev,hr,hcs,iv,ov,ecs,hR⟩:=(hT1.ext hN.ext).at hil
   have h3:=hb.txs _ (List.getElem_mem hil)
   have htk:=take_flat (fun t=>txtF (encT t)) hil
   have hbi:=flatB_len (ts:=ts.take i) fun t ht=>hb.txs t (List.mem_of_mem_take ht)
   have hbl:(ts.take i).length≤6:=by rw[List.length_take];omega
   generalize ts[i]=t at*
   subst ecs
   have hp1j:=hN.ext.at hp1 (fun h=>h)
   have b68':(bC h v)[68]?=some (.slice (some ⟨b,o,none⟩) ts.length c):=by rw[←ev];exact b68
   have hlT':lenR (.slice (some ⟨b,o,none⟩) ts.length c)=some (.int .i64 (ts.length:Nat)):=rfl
   have hl3:=encT_len h3
   have hs3:=(sizeF_len (n:=((encT t).length:Int))).2
   iterate 3 (refine W_at c29_ok ⟨_,rfl,?_⟩;simp (disch:=first|omega|assumption|rfl|(simp only[vcS]<;>omega)|fail) only[↓vcN,vcQ,simprocAttr,hp1j,b68',hlT',hlt,b1,Int.toNat_natCast,hr])
   refine callV_ret (rencodeW_ok wj iv ov t true hR h3) ?_
   intro u wa hu
   rw[encT_eq] at hu
   first|(simp (disch:=first|omega|assumption|rfl|(simp only[vcS]<;>omega)|fail) only[↓vcN,vcQ,simprocAttr])|skip
   refine callV_ret (text_ok wa u (encT t) hu.own.rd (by omega)) ?_
   intro u2 wb hu2
   first|(simp (disch:=first|omega|assumption|rfl|(simp only[vcS]<;>omega)|fail) only[↓vcN,vcQ,simprocAttr])|skip
   refine appN ((hN.keep hu.ext).keep hu2.ext) hu2.own.rd (by simp only[List.length_append];omega) fun vc wc hNc _ _=>?_
   first|(simp (disch:=first|omega|assumption|rfl|(simp only[vcS]<;>omega)|fail) only[↓vcN,vcQ,simprocAttr])|skip
   iterate 2 (refine W_at c29_ok ⟨_,rfl,?_⟩;simp (disch:=first|omega|assumption|rfl|(simp only[vcS]<;>omega)|fail) only[↓vcN,vcQ,simprocAttr,hwi])
   refine ih (i+1) wc vc _ (by omega) ?_
   rw[htk,show txtF (encT t)=sizeF (encT t).length++encT t from rfl]
   simpa only[List.append_assoc] using hNc
 exact L ts.length 0 w5 v5 _ (by omega) (by rw[List.take_zero];simpa using hN5)
end Go.Proofs
namespace Go.Proofs
open Go.Vc
set_option maxRecDepth 10000
def upF:List (List Int)→List (List Int)
 |a::b::l=>dblF (a++b)::upF l
 |[a]=>[dblF (a++a)]
 |[]=>[]
theorem upF_len:∀(l:List (List Int)),(upF l).length=(l.length+1)/2
 |a::b::l=>by
  simp only[upF,List.length_cons,upF_len l];omega
 |[a]=>by simp [upF]
 |[]=>by simp [upF]
theorem upF_mem:∀{l:List (List Int)} {x:List Int},x∈upF l→x.length=32∧byt x
 |a::b::l,x,h=>by
  rw[upF] at h
  rcases List.mem_cons.1 h with rfl|h
  ·exact⟨dblF_len _,dblF_byt _⟩
  ·exact upF_mem h
 |[a],x,h=>by
  rw[upF] at h
  rw[List.mem_singleton.1 h]
  exact⟨dblF_len _,dblF_byt _⟩
 |[],x,h=>by cases h
def merkF:Nat→List (List Int)→List Int
 |0,_=>Z32
 |k+1,l=>match l with
  |[]=>Z32
  |[a]=>a
  |_=>merkF k (upF l)
theorem merkF_one (k:Nat)(a:List Int):merkF (k+1) [a]=a:=rfl
theorem merkF_two {k:Nat}{l:List (List Int)}(h:2≤l.length):merkF (k+1) l=merkF k (upF l):=by
 match l,h with
 |a::b::l,_=>rfl
theorem merkF_len {l:List (List Int)}(hl:∀H∈l,H.length=32∧byt H):∀{k:Nat},(merkF k l).length=32:=by
 intro k
 induction k generalizing l with
 |zero=>rfl
 |succ k ih=>
  match l with
  |[]=>rfl
  |[a]=>exact(hl a (by simp)).1
  |a::b::l=>
   rw[merkF_two (by simp)]
   exact ih fun H hH=>upF_mem hH
def HAt (_:World)(c:Array Value)(H:List Int):Prop:=c=(bv H).toArray
abbrev HsR (w:World)(v:Value)(hs:List (List Int)):Prop:=ListR HAt 32 w v hs
theorem HsR.ext {w w':World}{v:Value}{hs:List (List Int)}(h:HsR w v hs)(k:Ext w w'):HsR w' v hs:=ListR.ext h k fun _ _ h=>h
def HsOk (hs:List (List Int)):Prop:=∀H∈hs,H.length=32∧byt H
abbrev HsO (T m:Nat)(w:World)(v:Value)(hs:List (List Int)):Prop:=OwnO w m T 32 v (hs.map fun H=>(bv H).toArray)
theorem HsO.rd {T m:Nat}{w:World}{v:Value}{hs:List (List Int)}(h:HsO T m w v hs)(ho:HsOk hs):HsR w v hs:=by
 obtain⟨q,c,e,hc⟩:=h.is
 rw[List.length_map] at e hc
 have hm:=h.mx
 rw[List.length_map] at hm
 refine⟨hs.map fun H=>(bv H).toArray,List.length_map _,fun c hc=>?_,OwnO.rd h,⟨q,c,e,hc⟩,hm,fun i a b=>?_⟩
 ·obtain⟨H,hH,rfl⟩:=List.mem_map.1 hc
  rw[bva_size,(ho H hH).1]
 ·simp only[List.getElem_map];rfl
theorem HsR.at {w:World}{v:Value}{hs:List (List Int)}(h:HsR w v hs){i:Nat}(hi:i<hs.length):∃b o c,v=.slice (some ⟨b,o,none⟩) hs.length c∧rdO w.heap[b]? (o+i*32) 32=some (bv hs[i]).toArray:=by
 obtain⟨b,o,c,cs,e,h1,h2,h3⟩:=ListR.at h hi
 refine⟨b,o,c,e,?_⟩
 rw[h1]
 exact congrArg some h3
theorem HsO.app {T m:Nat}{w:World}{v:Value}{hs:List (List Int)}{D:List Int}{K:Value→World→Prop}(h:HsO T m w v hs)(hD:D.length=32)(hl:hs.length≤100000)(hm:m≤w.heap.size)
  (hk:∀v' w',HsO T m w' v' (hs++[D])→Keep (blk v) w w'→(∀g,blk v' g→blk v g∨w.heap.size≤g)→K v' w'):
  appV T 32 32 (runs [(32,Value.int .u8 0)]) v (.slice (some ⟨w.heap.size,0,none⟩) 1 1) (w.alloc (.cells (bv D).toArray T)) K:=by
 have hEA:Ext w (w.alloc (.cells (bv D).toArray T)):=(Keep.refl _ w).alloc _
 have hOA:OwnO (w.alloc (.cells (bv D).toArray T)) m T 32 v _:=OwnO.ext h hEA
 have hs32:(bv D).toArray.size=32:=by rw[bva_size,hD]
 have hrA:rdS (w.alloc (.cells (bv D).toArray T)) 32 (.slice (some ⟨w.heap.size,0,none⟩) 1 1)=some (([(bv D).toArray]:List (Array Value)).flatMap Array.toList).toArray:=by
  simp only[rdS,rdN_heap]
  rw[if_neg (by decide),heap_new w _ _ rfl,Nat.one_mul,rdO_all _ _ _ _ hs32]
  simp
 refine appO4 (ids2:=[(bv D).toArray]) hOA hrA rfl (by intro k hk;rw[List.mem_singleton.1 hk];exact hs32) (by intro k hk;rw[List.mem_singleton.1 hk];exact bv_flat D) (by rw[List.length_map];omega) (by rw[List.length_map];omega) rfl (Nat.le_trans hm hEA.size) (by decide) fun v' w' k1 k2 k3=>?_
 refine hk v' w' ?_ ((hEA.mono fun _ h=>h.elim).trans k2 fun _ _ h=>h) fun g hg=>?_
 ·show OwnO w' m T 32 v' ((hs++[D]).map fun H=>(bv H).toArray)
  rw[List.map_append];exact k1
 ·rcases k3 g hg with h|h
  ·exact .inl h
  ·exact .inr (by rw[size_alloc] at h;omega)
set_option maxHeartbeats 1600000 in
theorem rmerkle_ok (n:Nat):∀(w:World) (x:Value) (hs:List (List Int)),hs.length≤n→n≤10→HsR w x hs→HsOk hs→
  Calls Tryz.prog 71 #[x] w (Ret fun u w'=>u=.agg (bv (merkF n hs)).toArray∧Ext w w'):=by
 induction n using Nat.strongRecOn with
 |_ n ihn=>
 intro w x hs hn hn10 hx ho
 refine calls_of_cfg c71_ok (Nat.le_of_ble_eq_true rfl) ?_
 simp only[argE_nil,argE_cons,Nat.zero_add]
 have hz:zc [(32,Value.int .u8 0)]=(bv Z32).toArray:=rfl
 have zl:(bv Z32).toArray.size=32:=rfl
 have oz:okO (some (.cells (bv Z32).toArray 22 (0,0))) 0 32=True:=by simp only[okO,zl];simp
 (refine W_at c71_ok ⟨_,rfl,?_⟩;simp (disch:=first|omega|assumption|rfl|(simp only[vcS]<;>omega)|fail) only[↓vcN,vcQ,simprocAttr,hz])
 have hE1:Ext w (w.alloc (.cells (bv Z32).toArray 22)):=(Keep.refl _ w).alloc _
 have c1:(w.alloc (.cells (bv Z32).toArray 22)).heap[w.heap.size]?=some (.cells (bv Z32).toArray 22 (0,0)):=heap_new _ _ _ rfl
 generalize World.alloc w _=w1 at hE1 c1⊢
 have hp2lt:w.heap.size<w1.heap.size:=lt_of_heap c1
 generalize hp2:w.heap.size=p2 at*
 have hlen:=hx.len
 have fin:∀(wj:World) (D:List Int),D.length=32→Ext w wj→wj.heap[p2]?=some (.cells (bv Z32).toArray 22 (0,0))→
   Ext w (wj.putN p2 0 (bv D).toArray)∧(wj.putN p2 0 (bv D).toArray).heap[p2]?=some (.cells (bv D).toArray 22 (0,0))∧rdO (some (.cells (bv D).toArray 22 (0,0))) 0 32=some (bv D).toArray:=fun wj D hD hE c=>
  ⟨hE.trans ((Keep.refl (fun g=>g=p2) wj).putN _ fun _=>rfl) fun g hg e=>by omega,by rw[heap_putN_eq c,splice_all (by rw[bva_size,hD,zl])],rdO_all _ _ _ _ (by rw[bva_size,hD])⟩
 by_cases h0:hs.length=0
 ·have:hs=[]:=List.eq_nil_of_length_eq_zero h0
  subst this
  have e:merkF n []=Z32:=by cases n<;>rfl
  rw[e]
  obtain⟨f1,f2,f3⟩:=fin w1 Z32 rfl hE1 c1
  have hl0:(([]:List (List Int)).length:Int)=0:=rfl
  iterate 3 (refine W_at c71_ok ⟨_,rfl,?_⟩;simp (disch:=first|omega|assumption|rfl|(simp only[vcS]<;>omega)|fail) only[↓vcN,vcQ,simprocAttr,hlen,hz,c1,oz,zl])
  refine⟨bv_flat _,?_⟩
  (refine W_at c71_ok ⟨_,rfl,?_⟩;simp (disch:=first|omega|assumption|rfl|(simp only[vcS]<;>omega)|fail) only[↓vcN,vcQ,simprocAttr,f2,f3,Ret_returned])
  exact f1
 obtain⟨n,rfl⟩:∃n',n=n'+1:=⟨n - 1,by omega⟩
 have h0i:¬(((hs.length:Nat):Int)=0):=by omega
 iterate 2 (refine W_at c71_ok ⟨_,rfl,?_⟩;simp (disch:=first|omega|assumption|rfl|(simp only[vcS]<;>omega)|fail) only[↓vcN,vcQ,simprocAttr,hlen,h0i])
 by_cases h1:hs.length=1
 ·have h1i:((hs.length:Nat):Int)=1:=by omega
  obtain⟨H,rfl⟩:=List.length_eq_one_iff.1 h1
  have hH:=ho H (by simp)
  have hl1:(([H]:List (List Int)).length:Int)=1:=rfl
  obtain⟨b,o,c,rfl,hr⟩:=(hx.ext hE1).at (i:=0) (by simp)
  rw[Nat.zero_mul,Nat.add_zero,List.getElem_cons_zero] at hr
  rw[merkF_one]
  obtain⟨f1,f2,f3⟩:=fin w1 H hH.1 hE1 c1
  have sH:(bv H).toArray.size=32:=by rw[bva_size,hH.1]
  have bb:(0:Int)≤0∧(0:Int)< (([H]:List (List Int)).length:Nat):=by simp
  iterate 3 (refine W_at c71_ok ⟨_,rfl,?_⟩;simp (disch:=first|omega|assumption|rfl|(simp only[vcS]<;>omega)|fail) only[↓vcN,vcQ,simprocAttr,bb,Int.toNat_zero,hr,c1,oz,sH])
  refine⟨bv_flat _,?_⟩
  (refine W_at c71_ok ⟨_,rfl,?_⟩;simp (disch:=first|omega|assumption|rfl|(simp only[vcS]<;>omega)|fail) only[↓vcN,vcQ,simprocAttr,f2,f3,Ret_returned])
  exact f1
 have h1i:¬(((hs.length:Nat):Int)=1):=by omega
 rw[merkF_two (by omega)]
 iterate 4 (refine W_at c71_ok ⟨_,rfl,?_⟩;simp (disch:=first|omega|assumption|rfl|(simp only[vcS]<;>omega)|fail) only[↓vcN,vcQ,simprocAttr,hlen,h1i])
 have L:∀(k i:Nat) (wj:World) (vj:Value) (tl:Env) (A:List (List Int)),i+k=hs.length∨k=0∧hs.length≤i∧i≤hs.length+1→Ext w wj→wj.heap[p2]?=some (.cells (bv Z32).toArray 22 (0,0))→HsO 22 w1.heap.size wj vj A→A.length≤10→upF hs=A++upF (hs.drop i)→Ext w1 wj→
   W Tryz.prog (Ret fun u w'=>u=.agg (bv (merkF n (upF hs))).toArray∧Ext w w') 71 12 ((0,x)::(2,.pointer (some ⟨p2,0,none⟩))::(3,vj)::(4,.int .i64 (i:Nat))::tl) wj:=by
  intro k
  induction k using Nat.strongRecOn with
  |_ k ih=>
   intro i wj vj tl A hi hE c1j hA hAl hup hEj
   have ws:w.heap.size≤w1.heap.size:=hE1.size
   have wsj:w1.heap.size≤wj.heap.size:=hEj.size
   by_cases hil:i<hs.length
   ·have hlt:((i:Nat):Int)< (hs.length:Nat):=by omega
    have b1:0≤((i:Nat):Int)∧((i:Nat):Int)< (hs.length:Nat):=by omega
    have hwi1:IntKind.i64.wrap (((i:Nat):Int)+1)=((i+1:Nat):Int):=wrap_i64 (by omega) (by omega)
    have hwi2:IntKind.i64.wrap (((i:Nat):Int)+2)=((i+2:Nat):Int):=wrap_i64 (by omega) (by omega)
    have hH:=ho _ (List.getElem_mem hil)
    have pair:∀(wa:World) (tl:Env) (p5 p6:Nat) (H G:List Int),H.length=32→byt H→G.length=32→byt G→Ext w1 wa→wa.heap[p5]?=some (.cells (bv H).toArray 22 (0,0))→wa.heap[p6]?=some (.cells (bv G).toArray 22 (0,0))→
      HsO 22 w1.heap.size wa vj A→(upF (hs.drop i)=dblF (H++G)::upF (hs.drop (i+2)))→
      W Tryz.prog (Ret fun u w'=>u=.agg (bv (merkF n (upF hs))).toArray∧Ext w w') 71 5 ((0,x)::(2,.pointer (some ⟨p2,0,none⟩))::(3,vj)::(4,.int .i64 (i:Nat))::(5,.pointer (some ⟨p5,0,none⟩))::(6,.pointer (some ⟨p6,0,none⟩))::tl) wa:=by
     intro wa tl p5 p6 H G hHl hHb hGl hGb hEa c5 c6 hAa hstep
     have hEd:Ext wa wa.drew:=(Keep.refl _ wa).drew
     have r5:=box32_rd hHl (hEd.at c5 fun h=>h)
     have r6:=box32_rd hGl (hEd.at c6 fun h=>h)
     have hN0:New wa.drew (wa.drew.alloc (.cells (bv []).toArray 5)) (.slice (some ⟨wa.heap.size,0,none⟩) 0 0) []:=New.lit (by simp [maxLen])
     (refine W_at c71_ok ⟨_,rfl,?_⟩;simp (disch:=first|omega|assumption|rfl|(simp only[vcS]<;>omega)|fail) only[↓vcN,vcQ,simprocAttr])
     have e5:(#[]:Array Value)=(bv []).toArray:=rfl
     rw[e5]
     refine appN hN0 (r5.ext hN0.ext) (by simp [hHl]) fun v1 wb hN1 _ _=>?_
     first|(simp (disch:=first|omega|assumption|rfl|(simp only[vcS]<;>omega)|fail) only[↓vcN,vcQ,simprocAttr])|skip
     refine appN hN1 (r6.ext hN1.ext) (by simp [hHl,hGl]) fun v2 wc hN2 _ _=>?_
     rw[List.nil_append] at hN2
     first|(simp (disch:=first|omega|assumption|rfl|(simp only[vcS]<;>omega)|fail) only[↓vcN,vcQ,simprocAttr])|skip
     refine callV_ret (rdouble_ok wc v2 _ hN2.own.rd (byt_app hHb hGb) (by rw[List.length_append,hHl,hGl];omega)) ?_
     rintro _ we ⟨rfl,hEe⟩
     have hDl:(dblF (H++G)).length=32:=dblF_len _
     rw[hstep] at hup
     generalize dblF (H++G)=D at*
     have hcx:(Value.agg (bv D).toArray).cells=(bv D).toArray:=rfl
     have hcz:(bv D).toArray.size=32:=by rw[bva_size,hDl]
     have hcl:(bv D).toArray.toList++[]=bv D:=by rw[List.append_nil]
     first|(simp (disch:=first|omega|assumption|rfl|(simp only[vcS]<;>omega)|fail) only[↓vcN,vcQ,simprocAttr,hcx,hcz,hcl])|skip
     have hEae:Ext wa we:=(hEd.ext hN2.ext).ext hEe
     have hAe:HsO 22 w1.heap.size we vj A:=OwnO.ext hAa hEae
     have hwe:=(hEa.ext hEae).size
     refine HsO.app hAe hDl (by omega) hwe fun v' wf hAf hKf hbf=>?_
     have hEf:Ext w1 wf:=(hEa.ext hEae).trans hKf fun g hg hb=>by have:=(OwnO.blk hAe hb).1;omega
     first|(simp (disch:=first|omega|assumption|rfl|(simp only[vcS]<;>omega)|fail) only[↓vcN,vcQ,simprocAttr])|skip
     iterate 2 (refine W_at c71_ok ⟨_,rfl,?_⟩;simp (disch:=first|omega|assumption|rfl|(simp only[vcS]<;>omega)|fail) only[↓vcN,vcQ,simprocAttr,hwi2])
     have hupl:=upF_len hs
     have hall:A.length+1≤(upF hs).length:=by rw[hup];simp
     have hup2:upF hs=(A++[D])++upF (hs.drop (i+2)):=by rw[hup];simp
     have hAD:(A++[D]).length≤10:=by rw[List.length_append,List.length_singleton];omega
     by_cases hi2:i+2≤hs.length
     ·exact ih (hs.length - (i+2)) (by omega) (i+2) wf v' _ (A++[D]) (by omega) (hE1.ext hEf) (hEf.at c1 fun h=>h) hAf hAD hup2 hEf
     ·exact ih 0 (by omega) (i+2) wf v' _ (A++[D]) (by omega) (hE1.ext hEf) (hEf.at c1 fun h=>h) hAf hAD hup2 hEf
    obtain⟨b,o,c,ev,hr⟩:=(hx.ext hE).at hil
    have sH:(bv hs[i]).toArray.size=32:=by rw[bva_size,hH.1]
    have hlx:=hlen
    iterate 2 (refine W_at c71_ok ⟨_,rfl,?_⟩;simp (disch:=first|omega|assumption|rfl|(simp only[vcS]<;>omega)|fail) only[↓vcN,vcQ,simprocAttr,hlen,hlt])
    rw[ev]
    (refine W_at c71_ok ⟨_,rfl,?_⟩;simp (disch:=first|omega|assumption|rfl|(simp only[vcS]<;>omega)|fail) only[↓vcN,vcQ,simprocAttr,b1,Int.toNat_natCast,hr,sH])
    refine⟨bv_flat _,?_⟩
    have hE5:Ext wj ((wj.alloc (.cells (zc [(32,.int .u8 0)]) 22)).putN wj.heap.size 0 (bv hs[i]).toArray):=((Keep.refl _ wj).alloc _).putN _ (by intro hh;exfalso;omega)
    have c5:((wj.alloc (.cells (zc [(32,.int .u8 0)]) 22)).putN wj.heap.size 0 (bv hs[i]).toArray).heap[wj.heap.size]?=some (.cells (bv hs[i]).toArray 22 (0,0)):=by
     rw[heap_putN_eq (heap_new _ _ _ rfl),splice_all (by rw[sH];rfl)]
    generalize World.putN _ _ _ _=wa at hE5 c5⊢
    generalize hp5:wj.heap.size=p5 at c5⊢
    have r32:rdO (some (.cells (bv hs[i]).toArray 22 (0,0))) 0 32=some (bv hs[i]).toArray:=rdO_all _ _ _ _ sH
    have l5:=lt_of_heap c5
    (refine W_at c71_ok ⟨_,rfl,?_⟩;simp (disch:=first|omega|assumption|rfl|(simp only[vcS]<;>omega)|fail) only[↓vcN,vcQ,simprocAttr,c5,r32,sH])
    refine⟨bv_flat _,?_⟩
    have hE6:Ext wa ((wa.alloc (.cells (zc [(32,.int .u8 0)]) 22)).putN wa.heap.size 0 (bv hs[i]).toArray):=((Keep.refl _ wa).alloc _).putN _ (by intro hh;exfalso;omega)
    have c6:((wa.alloc (.cells (zc [(32,.int .u8 0)]) 22)).putN wa.heap.size 0 (bv hs[i]).toArray).heap[wa.heap.size]?=some (.cells (bv hs[i]).toArray 22 (0,0)):=by
     rw[heap_putN_eq (heap_new _ _ _ rfl),splice_all (by rw[sH];rfl)]
    have c56:=hE6.at c5 (fun h=>h)
    generalize World.putN _ _ _ _=wb at hE6 c6 c56⊢
    generalize hp6:wa.heap.size=p6 at c6 l5⊢
    have hEb:=(hEj.ext hE5).ext hE6
    have hwa:w1.heap.size≤wa.heap.size:=(hEj.ext hE5).size
    have hAb:HsO 22 w1.heap.size wb vj A:=OwnO.ext (OwnO.ext hA hE5) hE6
    by_cases hi1:i+1<hs.length
    ·have hlt1:((i+1:Nat):Int)< (hs.length:Nat):=by omega
     have b2:0≤((i+1:Nat):Int)∧((i+1:Nat):Int)< (hs.length:Nat):=by omega
     have hG:=ho _ (List.getElem_mem hi1)
     obtain⟨b',o',c',ev',hr'⟩:=(hx.ext (hE1.ext hEb)).at hi1
     rw[ev] at ev'
     cases ev'
     have sG:(bv hs[i+1]).toArray.size=32:=by rw[bva_size,hG.1]
     have o6:okO (some (.cells (bv hs[i]).toArray 22 (0,0))) 0 32=True:=by simp only[okO,sH];simp
     have hlen':lenR (.slice (some ⟨b,o,none⟩) hs.length c)=some (.int .i64 (hs.length:Nat)):=rfl
     iterate 3 (refine W_at c71_ok ⟨_,rfl,?_⟩;simp (disch:=first|omega|assumption|rfl|(simp only[vcS]<;>omega)|fail) only[↓vcN,vcQ,simprocAttr,hwi1,hlen',hlt1,b2,Int.toNat_natCast,hr',c6,sG,o6])
     refine⟨bv_flat _,?_⟩
     have k7:Keep (fun g=>g=p6) wb (wb.putN p6 0 (bv hs[i+1]).toArray):=(Keep.refl _ wb).putN _ fun _=>rfl
     have c67:(wb.putN p6 0 (bv hs[i+1]).toArray).heap[p6]?=some (.cells (bv hs[i+1]).toArray 22 (0,0)):=by
      rw[heap_putN_eq c6,splice_all (by rw[sH,sG])]
     have c57:=k7.at c56 (by omega)
     have hA7:HsO 22 w1.heap.size (wb.putN p6 0 (bv hs[i+1]).toArray) vj A:=OwnO.keep hAb k7 fun g hg e=>by
      have h1:=hA.blk hg
      obtain⟨_,cc,hcc⟩:=h1
      have:=lt_of_heap hcc
      omega
     rw[←ev]
     refine pair _ _ p5 p6 hs[i] hs[i+1] hH.1 hH.2 hG.1 hG.2 (hEb.trans k7 fun g hg e=>by omega) c57 c67 hA7 ?_
     rw[List.drop_eq_getElem_cons hil,List.drop_eq_getElem_cons hi1,upF]
    ·have hlt1:¬(((i+1:Nat):Int)< (hs.length:Nat)):=by omega
     have hlen':lenR (.slice (some ⟨b,o,none⟩) hs.length c)=some (.int .i64 (hs.length:Nat)):=rfl
     iterate 2 (refine W_at c71_ok ⟨_,rfl,?_⟩;simp (disch:=first|omega|assumption|rfl|(simp only[vcS]<;>omega)|fail) only[↓vcN,vcQ,simprocAttr,hwi1,hlen',hlt1])
     rw[←ev]
     refine pair _ _ p5 p6 hs[i] hs[i] hH.1 hH.2 hH.1 hH.2 hEb c56 c6 hAb ?_
     rw[List.drop_eq_getElem_cons hil,List.drop_eq_nil_of_le (by omega),List.drop_eq_nil_of_le (by omega),upF,upF]
   ·have hlt:¬(((i:Nat):Int)< (hs.length:Nat)):=by omega
    rw[List.drop_eq_nil_of_le (by omega),upF,List.append_nil] at hup
    subst hup
    have hupl:=upF_len hs
    iterate 2 (refine W_at c71_ok ⟨_,rfl,?_⟩;simp (disch:=first|omega|assumption|rfl|(simp only[vcS]<;>omega)|fail) only[↓vcN,vcQ,simprocAttr,hlen,hlt])
    have hAo:HsOk (upF hs):=fun H hH=>upF_mem hH
    (refine W_at c71_ok ⟨_,rfl,?_⟩;simp (disch:=first|omega|assumption|rfl|(simp only[vcS]<;>omega)|fail) only[↓vcN,vcQ,simprocAttr])
    refine callV_ret (ihn n (by omega) wj vj (upF hs) (by omega) (by omega) (HsO.rd hA hAo) hAo) ?_
    rintro _ wk ⟨rfl,hEk⟩
    have c1k:=hEk.at c1j (fun h=>h)
    have hMl:(merkF n (upF hs)).length=32:=merkF_len hAo
    generalize merkF n (upF hs)=M at*
    obtain⟨f1,f2,f3⟩:=fin wk M hMl (hE.ext hEk) c1k
    have sM:(bv M).toArray.size=32:=by rw[bva_size,hMl]
    first|(simp (disch:=first|omega|assumption|rfl|(simp only[vcS]<;>omega)|fail) only[↓vcN,vcQ,simprocAttr,c1k,sM,oz])|skip
    refine⟨bv_flat _,?_⟩
    (refine W_at c71_ok ⟨_,rfl,?_⟩;simp (disch:=first|omega|assumption|rfl|(simp only[vcS]<;>omega)|fail) only[↓vcN,vcQ,simprocAttr,f2,f3,Ret_returned])
    exact f1
 exact L hs.length 0 w1 _ _ [] (by omega) hE1 c1 (OwnO.nil _ _ _ _) (by simp) rfl (Keep.refl _ _)
end Go.Proofs
