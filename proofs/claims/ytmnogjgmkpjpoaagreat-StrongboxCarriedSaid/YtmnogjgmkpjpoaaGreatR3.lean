/- Laws that the last text of this claim uses, part 3: written for it, merged by program. -/
import Derived.Test.YtmnogjgmkpjpoaaGreatR2
set_option linter.unusedSimpArgs false
set_option linter.unusedVariables false
set_option linter.constructorNameAsVariable false
namespace Go.Proofs
open Go.Vc
set_option maxRecDepth 10000
def outT (s:S8)(i:Nat):List Int:=(outF s).take (4*i)++List.replicate (32 - 4*i) 0
theorem outT_len (s:S8)(i:Nat)(h:i≤8):(outT s i).length=32:=by
 unfold outT;rw[List.length_append,List.length_take,outF_len,List.length_replicate];omega
theorem outT_8 (s:S8):outT s 8=outF s:=by
 unfold outT;rw[List.take_of_length_le (by rw[outF_len];omega)];simp
theorem outT_set (s:S8)(i:Nat)(h:i<8):((((outT s i).set (4*i) (((((s.list.getD i 0)>>>24).toNat%256:Nat)):Int)).set (4*i+1) (((((s.list.getD i 0)>>>16).toNat%256:Nat)):Int)).set (4*i+2) (((((s.list.getD i 0)>>>8).toNat%256:Nat)):Int)).set (4*i+3) ((((s.list.getD i 0).toNat%256:Nat)):Int)=outT s (i+1):=by
 match i,h with
 |0,_=>rfl
 |1,_=>rfl
 |2,_=>rfl
 |3,_=>rfl
 |4,_=>rfl
 |5,_=>rfl
 |6,_=>rfl
 |7,_=>rfl
theorem bva_set (bs:List Int)(i:Nat)(x:Int):(bv bs).toArray.setIfInBounds i (.int .u8 x)=(bv (bs.set i x)).toArray:=by
 rw[List.setIfInBounds_toArray]
 simp [bv,List.map_set]
theorem bva_size (bs:List Int):(bv bs).toArray.size=bs.length:=by simp [bv]
theorem cvi8 (y:BitVec 32):cviR .u8 (U32 y)=some (.int .u8 ((y.toNat%256:Nat):Int)):=by
 unfold U32
 rw[cvi_i,wrap_u8]
 congr 2
theorem U32_shr24 (x:BitVec 32):binR .shr (U32 x) (.int .u64 24)=some (U32 (x>>>24)):=U32_shr x .u64 24 (by decide)
theorem U32_shr16 (x:BitVec 32):binR .shr (U32 x) (.int .u64 16)=some (U32 (x>>>16)):=U32_shr x .u64 16 (by decide)
theorem U32_shr8 (x:BitVec 32):binR .shr (U32 x) (.int .u64 8)=some (U32 (x>>>8)):=U32_shr x .u64 8 (by decide)
theorem z32:zc [(32,Value.int .u8 0)]=(bv (List.replicate 32 0)).toArray:=rfl
theorem poke {w:World}{g i:Nat}{bs:List Int}{T:TypeId}(x:Int)(h:w.heap[g]?=some (.cells (bv bs).toArray T (0,0)))(hi:i<bs.length):
  wr1 w g i∧(w.setCell ⟨g,i,none⟩ (.int .u8 x)).heap[g]?=some (.cells (bv (bs.set i x)).toArray T (0,0))∧Keep (fun y=>y=g) w (w.setCell ⟨g,i,none⟩ (.int .u8 x)):=
 ⟨wr1_of h (by rw[bva_size];exact hi),by rw[heap_setCell_eq h,bva_set],(Keep.refl _ w).setCell _ fun _=>rfl⟩
theorem sumG_bld (st:S8)(v:Value)(n:Nat)(b:Bool):(wcs st.list++(#[v]++#[Value.int .u64 (n:Nat),Value.bool b]))=sumG st v n b:=by
 apply Array.ext'
 simp [wcs,sumG]
theorem sumG_flat (st:S8)(v:Value)(n:Nat)(b:Bool)(h:v.oneCell'=true):flat (sumG st v n b):=by
 intro y hy
 simp only[sumG,List.mem_append,List.mem_map,List.mem_cons,List.not_mem_nil,or_false] at hy
 rcases hy with ⟨x,_,rfl⟩|rfl|rfl|rfl
 ·rfl
 ·exact h
 ·rfl
 ·rfl
set_option maxHeartbeats 3200000 in
theorem hash_ok (w:World)(g:Nat)(wv:Value)(m:List Int)(b:Bool)(h:SumAt w g wv m b)(hm:byt m)(hl:m.length≤400000000):
  Calls Tryz.prog 76 #[.pointer (some ⟨g,0,none⟩)] w (Ret fun u w'=>u=.agg (bv (shaF m)).toArray∧Ext w w'):=by
 refine calls_of_cfg c76_ok (Nat.le_of_ble_eq_true rfl) ?_
 simp only[argE_nil,argE_cons,Nat.zero_add]
 (refine W_at c76_ok ⟨_,rfl,?_⟩;simp (disch:=first|omega|assumption|rfl|(simp only[vcS]<;>omega)|fail) only[↓vcN,vcQ,simprocAttr])
 have hE0:Ext w (w.alloc (.cells (zc [(32,.int .u8 0)]) 23)):=(Keep.refl _ w).alloc _
 have hp2:(w.alloc (.cells (zc [(32,.int .u8 0)]) 23)).heap[w.heap.size]?=some (.cells (bv (List.replicate 32 0)).toArray 23 (0,0)):=heap_new _ _ _ rfl
 have hp2l:w.heap.size≤w.heap.size:=Nat.le_refl _
 generalize World.alloc _ _=w1 at hE0 hp2⊢
 generalize hp2e:w.heap.size=p2 at hp2 hp2l⊢
 have ho1:=hE0.at h.obj (fun h=>h)
 rw[sumC_G] at ho1
 have hr8:rdO (some (.cells (sumG (stF m b) wv m.length b) 77 (0,0))) 0 8=some (wcs (stF m b).list):=rd8 _ _ _
 have hwv1:wv.cells=#[wv]:=by obtain⟨q,c,e,_⟩:=h.wait.rd.is;rw[e];rfl
 have s8:(wcs (stF m b).list).size=8:=wcs_size _
 (refine W_at c76_ok ⟨_,rfl,?_⟩;simp (disch:=first|omega|assumption|rfl|(simp only[vcS]<;>omega)|fail) only[↓vcN,vcQ,simprocAttr,ho1,hr8,sumG_8,sumG_9,sumG_10])
 have hn:wv=.slice none 0 0∨ ∃a n c,wv=.slice (some a) n c:=by
  obtain⟨_,⟨e,_⟩|⟨g',o,cap,cur,e,_⟩⟩:=h.wait
  ·exact .inl e
  ·exact .inr ⟨_,_,_,e⟩
 have hzs:((zc [(8,.int .u32 0),(1,.slice none 0 0),(1,.int .u64 0),(1,.bool false)]):Array Value).size=11:=rfl
 have cont:∀(w2:World) (p3:Nat) (wv2:Value),SumAt w2 p3 wv2 m b→Ext w w2→w2.heap[p2]?=some (.cells (bv (List.replicate 32 0)).toArray 23 (0,0))→p2<p3→(∀y,blk wv2 y→p2<y)→
   W Tryz.prog (Ret fun u w'=>u=.agg (bv (shaF m)).toArray∧Ext w w') 76 11 [(0,.pointer (some ⟨g,0,none⟩)),(2,.pointer (some ⟨p2,0,none⟩)),(3,.pointer (some ⟨p3,0,none⟩))] w2:=by
  intro w2 p3 wv2 hS2 hE2 hp22 h23 hb2
  have ho2:=hE2.at h.obj (fun h=>h)
  rw[sumC_G] at ho2
  (refine W_at c76_ok ⟨_,rfl,?_⟩;simp (disch:=first|omega|assumption|rfl|(simp only[vcS]<;>omega)|fail) only[↓vcN,vcQ,simprocAttr,ho2,sumG_9])
  refine callV_ret (tail_ok w2 m.length (by omega)) ?_
  intro tv w3 hN
  have hpl:=padF_len m.length
  have hS3:=hS2.ext hN.ext
  have hp23:=hN.ext.at hp22 (fun h=>h)
  first|(simp (disch:=first|omega|assumption|rfl|(simp only[vcS]<;>omega)|fail) only[↓vcN,vcQ,simprocAttr])|skip
  refine callV_ret (add_ok w3 p3 wv2 tv m (padF m.length) b hS3 hN.own.rd (fun _ q n c e hq=>?_) (padF_byt _) hm (by omega)) ?_
  ·have h1:=hN.new q.block (by rw[e];rfl)
   have h2:=lt_of_heap hS2.obj
   omega
  rintro _ w4 ⟨wv4,hS4,hK4,hB4⟩
  have hE4:Ext w w4:=(hE2.ext hN.ext).trans hK4 fun i hi hy=>by
   rcases hy with rfl|hy
   ·omega
   ·have:=hb2 i hy;omega
  have hp24:=hK4.at hp23 (fun hy=>by
   rcases hy with e|hy
   ·omega
   ·have:=hb2 p2 hy;omega)
  have ho4:=hS4.obj
  rw[sumC_G] at ho4
  have hst:stF (m++padF m.length) true=runN ((allF m).length/64) iv (allF m):=rfl
  rw[hst] at ho4
  have hsha:shaF m=outF (runN ((allF m).length/64) iv (allF m)):=rfl
  rw[hsha]
  generalize runN ((allF m).length/64) iv (allF m)=st at ho4⊢
  first|(simp (disch:=first|omega|assumption|rfl|(simp only[vcS]<;>omega)|fail) only[↓vcN,vcQ,simprocAttr])|skip
  (refine W_at c76_ok ⟨_,rfl,?_⟩;simp (disch:=first|omega|assumption|rfl|(simp only[vcS]<;>omega)|fail) only[↓vcN,vcQ,simprocAttr])
  have hE5:Ext w4 (w4.alloc (.cells (zc [(32,.int .u8 0)]) 23)):=(Keep.refl _ w4).alloc _
  have hp5:(w4.alloc (.cells (zc [(32,.int .u8 0)]) 23)).heap[w4.heap.size]?=some (.cells (bv (outT st 0)).toArray 23 (0,0)):=heap_new _ _ _ rfl
  have hp24l:=lt_of_heap hp24
  have hw4l:=hE4.size
  generalize World.alloc _ _=w5 at hE5 hp5⊢
  generalize w4.heap.size=p4 at hp5 hp24l hw4l⊢
  have ho5:=hE5.at ho4 (fun h=>h)
  have hp25:=hE5.at hp24 (fun h=>h)
  have hr85:rdO (some (.cells (sumG st wv4 (m++padF m.length).length true) 77 (0,0))) 0 8=some (wcs st.list):=rd8 _ _ _
  (refine W_at c76_ok ⟨_,rfl,?_⟩;simp (disch:=first|omega|assumption|rfl|(simp only[vcS]<;>omega)|fail) only[↓vcN,vcQ,simprocAttr,ho5,hr85])
  have L:∀(k i:Nat) (wj:World),i+k=8→wj.heap[p4]?=some (.cells (bv (outT st i)).toArray 23 (0,0))→wj.heap[p2]?=some (.cells (bv (List.replicate 32 0)).toArray 23 (0,0))→Ext w wj→
    W Tryz.prog (Ret fun u w'=>u=.agg (bv (outF st)).toArray∧Ext w w') 76 8 [(2,.pointer (some ⟨p2,0,none⟩)),(4,.pointer (some ⟨p4,0,none⟩)),(32,.agg (wcs st.list)),(33,.int .i64 (i:Nat))] wj:=by
   intro k
   induction k with
   |zero=>
    intro i wj hi h4 h2 hE
    obtain rfl:i=8:=by omega
    rw[outT_8] at h4
    have hr32:rdO (some (.cells (bv (outF st)).toArray 23 (0,0))) 0 32=some (bv (outF st)).toArray:=rdO_all _ _ _ _ (by rw[bva_size,outF_len])
    have s32:(bv (outF st)).toArray.size=32:=by rw[bva_size,outF_len]
    have hok:okO (some (.cells (bv (List.replicate 32 0)).toArray 23 (0,0))) 0 32=True:=by simp only[okO,bva_size,List.length_replicate];simp
    (refine W_at c76_ok ?_;refine⟨_,rfl,?_⟩;simp (disch:=first|omega|assumption|rfl|(simp only[vcS]<;>omega)|fail) only[↓vcA,vcB,↓reduceIte,Nat.reduceEqDiff,Int.reduceLT,Option.bind_some,vcM])
    (refine W_at c76_ok ?_;refine⟨_,rfl,?_⟩;simp (disch:=first|omega|assumption|rfl|(simp only[vcS]<;>omega)|fail) only[↓vcA,vcB,↓reduceIte,Nat.reduceEqDiff])
    (refine W_at c76_ok ?_;refine⟨_,rfl,?_⟩;simp (disch:=first|omega|assumption|rfl|(simp only[vcS]<;>omega)|fail) only[↓ptV_l,↓vcA,vcB,↓reduceIte,Nat.reduceEqDiff,Option.bind_some,Option.map_some,vcM,h4,h2,hr32,s32,hok])
    have k2:Keep (fun y=>y=p2) wj (wj.putN p2 0 (bv (outF st)).toArray):=(Keep.refl _ wj).putN _ fun _=>rfl
    have h2':(wj.putN p2 0 (bv (outF st)).toArray).heap[p2]?=some (.cells (bv (outF st)).toArray 23 (0,0)):=by
     rw[heap_putN_eq h2,splice_all (by rw[bva_size,bva_size,outF_len];rfl)]
    refine⟨bv_flat _,?_⟩
    have hEk:Ext w (wj.putN p2 0 (bv (outF st)).toArray):=hE.trans k2 fun x hx e=>by omega
    generalize World.putN _ _ _ _=wk at k2 h2' hEk⊢
    (refine W_at c76_ok ?_;refine⟨_,rfl,?_⟩;simp (disch:=first|omega|assumption|rfl|(simp only[vcS]<;>omega)|fail) only[↓vcA,vcB,↓reduceIte,Option.bind_some,Option.map_some,vcM,Ret_returned,h2',hr32])
    exact hEk
   |succ k ih=>
    intro i wj hi h4 h2 hE
    have hlt:((i:Nat):Int)<8:=by omega
    have b1:0≤((i:Nat):Int)∧((i:Nat):Int)<8:=by omega
    have hwi:IntKind.i64.wrap (((i:Nat):Int)+1)=((i+1:Nat):Int):=wrap_i64 (by omega) (by omega)
    have hel:=wcs8_at st i (by omega)
    have hset:=outT_set st i (by omega)
    have hlen:=outT_len st i (by omega)
    have m0:IntKind.i64.wrap (4*((i:Nat):Int))=((4*i:Nat):Int):=by rw[wrap_i64 (by omega) (by omega)];omega
    have m1:IntKind.i64.wrap (((4*i:Nat):Int)+1)=((4*i+1:Nat):Int):=by rw[wrap_i64 (by omega) (by omega)];omega
    have m2:IntKind.i64.wrap (((4*i:Nat):Int)+2)=((4*i+2:Nat):Int):=by rw[wrap_i64 (by omega) (by omega)];omega
    have m3:IntKind.i64.wrap (((4*i:Nat):Int)+3)=((4*i+3:Nat):Int):=by rw[wrap_i64 (by omega) (by omega)];omega
    have i0:0≤((4*i:Nat):Int)∧((4*i:Nat):Int)<32:=by omega
    have i1:0≤((4*i+1:Nat):Int)∧((4*i+1:Nat):Int)<32:=by omega
    have i2:0≤((4*i+2:Nat):Int)∧((4*i+2:Nat):Int)<32:=by omega
    have i3:0≤((4*i+3:Nat):Int)∧((4*i+3:Nat):Int)<32:=by omega
    generalize st.list.getD i 0=xi at hel hset
    iterate 4 (refine W_at c76_ok ⟨_,rfl,?_⟩;simp (disch:=first|omega|assumption|rfl|(simp only[vcS]<;>omega)|fail) only[↓vcN,vcQ,simprocAttr,hlt,b1,Int.toNat_natCast,Nat.mul_one,hel,m0,m1,m2,m3,i0,i1,i2,i3,U32_shr24,U32_shr16,U32_shr8,cvi8])
    obtain⟨a1,c1,e1⟩:=poke ((((xi>>>24).toNat%256:Nat)):Int) h4 (i:=4*i) (by omega)
    obtain⟨a2,c2,e2⟩:=poke ((((xi>>>16).toNat%256:Nat)):Int) c1 (i:=4*i+1) (by rw[List.length_set];omega)
    obtain⟨a3,c3,e3⟩:=poke ((((xi>>>8).toNat%256:Nat)):Int) c2 (i:=4*i+2) (by rw[List.length_set,List.length_set];omega)
    obtain⟨a4,c4,e4⟩:=poke (((xi.toNat%256:Nat)):Int) c3 (i:=4*i+3) (by rw[List.length_set,List.length_set,List.length_set];omega)
    rw[hset] at c4
    refine⟨a1,a2,a3,a4,?_⟩
    have ke:=((e1.trans e2 fun _ _ h=>h).trans e3 fun _ _ h=>h).trans e4 fun _ _ h=>h
    have hEk:=hE.trans ke fun x hx e=>by omega
    have h2k:=ke.at h2 (by omega)
    generalize World.setCell (World.setCell (World.setCell (World.setCell _ _ _) _ _) _ _) _ _=wk at c4 hEk h2k⊢
    iterate 2 (refine W_at c76_ok ⟨_,rfl,?_⟩;simp (disch:=first|omega|assumption|rfl|(simp only[vcS]<;>omega)|fail) only[↓vcN,vcQ,simprocAttr,hwi])
    exact ih (i+1) wk (by omega) c4 h2k hEk
  exact L 8 0 w5 (by omega) hp5 hp25 (hE4.ext hE5)
 have hEd:Ext w1 w1.drew:=(Keep.refl _ w1).drew
 have hbl:(waitL m).length≤500000000:=by rw[waitL_len];omega
 have hsc:∀v:Value,v.oneCell'=true→v.cells=#[v]→True:=fun _ _ _=>trivial
 have hs11:∀v:Value,(sumG (stF m b) v m.length b).size=11:=fun _=>rfl
 have h1s:∀v:Value,(#[v]:Array Value).size=1:=fun _=>rfl
 refine⟨?_,?_⟩
 ·refine callV_ret (bclone_ok w1.drew wv (waitL m) (h.wait.rd.ext (hE0.ext hEd)) hn hbl) ?_
  rintro v w2 ⟨hO2,hE2,hb2⟩
  have hvc:v.cells=#[v]:=by obtain⟨q,c,e,_⟩:=hO2.rd.is;rw[e];rfl
  have ho2:=(hEd.ext hE2).at ho1 (fun h=>h)
  have hE3:Ext w2 (w2.alloc (.cells (zc [(8,.int .u32 0),(1,.slice none 0 0),(1,.int .u64 0),(1,.bool false)]) 77)):=(Keep.refl _ w2).alloc _
  have ho3:=hE3.at ho2 (fun h=>h)
  have hbld:=sumG_bld (stF m b) v m.length b
  simp (disch:=first|omega|assumption|rfl|(simp only[vcS]<;>omega)|fail) only[↓vcN,vcQ,simprocAttr,ho2,ho3,hr8,sumG_9,sumG_10,hvc,h1s,s8,hbld,hs11]
  refine⟨sumG_flat _ _ _ _ hO2.rd.one,Nat.le_refl _,?_⟩
  have hob:((w2.alloc (.cells (zc [(8,.int .u32 0),(1,.slice none 0 0),(1,.int .u64 0),(1,.bool false)]) 77)).putN w2.heap.size 0 (sumG (stF m b) v m.length b)).heap[w2.heap.size]?=some (.cells (sumC m b v) 77 (0,0)):=by
   rw[heap_putN_eq (heap_new _ _ _ rfl),splice_all (by rw[sumG_size];rfl),sumC_G]
  have hEb:Ext w2 ((w2.alloc (.cells (zc [(8,.int .u32 0),(1,.slice none 0 0),(1,.int .u64 0),(1,.bool false)]) 77)).putN w2.heap.size 0 (sumG (stF m b) v m.length b)):=((Keep.refl _ w2).alloc _).putN _ (by intro hh;exfalso;omega)
  generalize World.putN _ _ _ _=w4 at hob hEb⊢
  have hEw:Ext w1 w4:=(hEd.ext hE2).ext hEb
  have hp2l1:=lt_of_heap hp2
  have hz2:=(hEd.ext hE2).size
  exact cont w4 _ v ⟨hob,hO2.ext hEb,h.zero⟩ (hE0.ext hEw) (hEw.at hp2 fun h=>h) (by omega) fun y hy=>by have h1:w1.heap.size≤y:=hb2 y hy;omega
 ·have hE3:Ext w1 (w1.drew.alloc (.cells (zc [(8,.int .u32 0),(1,.slice none 0 0),(1,.int .u64 0),(1,.bool false)]) 77)):=hEd.alloc _
  have hp3:(w1.drew.alloc (.cells (zc [(8,.int .u32 0),(1,.slice none 0 0),(1,.int .u64 0),(1,.bool false)]) 77)).heap[w1.heap.size]?=some (.cells (zc [(8,.int .u32 0),(1,.slice none 0 0),(1,.int .u64 0),(1,.bool false)]) 77 (0,0)):=heap_new _ _ _ rfl
  have ho3:=hE3.at ho1 (fun h=>h)
  have hp2l1:=lt_of_heap hp2
  generalize World.alloc _ _=w3 at hE3 hp3 ho3⊢
  generalize hp3e:w1.heap.size=p3 at hp3 hp2l1⊢
  simp (disch:=first|omega|assumption|rfl|(simp only[vcS]<;>omega)|fail) only[↓vcN,vcQ,simprocAttr,ho3,hr8,sumG_8,sumG_9,sumG_10]
  refine callV_ret (bclone_ok w3 wv (waitL m) (h.wait.rd.ext (hE0.ext hE3)) hn hbl) ?_
  rintro v w2 ⟨hO2,hE2,hb2⟩
  have hvc:v.cells=#[v]:=by obtain⟨q,c,e,_⟩:=hO2.rd.is;rw[e];rfl
  have ho2:=hE2.at ho3 (fun h=>h)
  have hp32:=hE2.at hp3 (fun h=>h)
  have hbld:=sumG_bld (stF m b) v m.length b
  simp (disch:=first|omega|assumption|rfl|(simp only[vcS]<;>omega)|fail) only[↓vcN,vcQ,simprocAttr,ho2,hr8,sumG_9,sumG_10,hvc,h1s,s8,hbld,hs11,hp32]
  refine⟨sumG_flat _ _ _ _ hO2.rd.one,Nat.le_refl _,?_⟩
  have hob:(w2.putN p3 0 (sumG (stF m b) v m.length b)).heap[p3]?=some (.cells (sumC m b v) 77 (0,0)):=by
   rw[heap_putN_eq hp32,splice_all (by rw[sumG_size];rfl),sumC_G]
  have kb:Keep (fun y=>y=p3) w2 (w2.putN p3 0 (sumG (stF m b) v m.length b)):=(Keep.refl _ w2).putN _ fun _=>rfl
  generalize World.putN _ _ _ _=w4 at hob kb⊢
  have hEw:Ext w1 w4:=(hE3.ext hE2).trans kb fun i hi e=>by omega
  have hp3l:=lt_of_heap hp3
  exact cont w4 p3 v ⟨hob,hO2.keep kb fun y hy e=>by have:=hb2 y hy;omega,h.zero⟩ (hE0.ext hEw) (hEw.at hp2 fun h=>h) (by omega) fun y hy=>by have:=hb2 y hy;omega
theorem arr_rd {w:World}{g:Nat}{bs:List Int}{T:TypeId}(h:w.heap[g]?=some (.cells (bv bs).toArray T (0,0)))(hl:bs.length≤maxLen):Rd w (.slice (some ⟨g,0,none⟩) bs.length bs.length) bs:=by
 refine⟨⟨_,_,rfl,Nat.le_refl _⟩,hl,?_⟩
 simp only[rdS]
 split
 ·rename_i h0
  have:bs=[]:=List.eq_nil_of_length_eq_zero h0
  subst this;rfl
 ·rw[rdN_heap,h,rdO_some _ _ _ _ _ (by simp [bv_len]),Nat.zero_add,ext_all _ _ (by simp [bv_len])]
theorem new_sum (w:World):SumAt (w.alloc (.cells (zc [(8,.int .u32 0),(1,.slice none 0 0),(1,.int .u64 0),(1,.bool false)]) 77)) w.heap.size (.slice none 0 0) [] false:=
 ⟨heap_new _ _ _ rfl,by unfold waitL;exact ByO.nil _,fun _=>rfl⟩
set_option maxHeartbeats 800000 in
theorem sum256_ok (w:World)(x:Value)(bs:List Int)(hx:Rd w x bs)(hb:byt bs)(hl:bs.length≤100000000):
  Calls Tryz.prog 77 #[x] w (Ret fun u w'=>u=.agg (bv (shaF bs)).toArray∧Ext w w'):=by
 refine calls_of_cfg c77_ok (Nat.le_of_ble_eq_true rfl) ?_
 simp only[argE_nil,argE_cons,Nat.zero_add]
 (refine W_at c77_ok ⟨_,rfl,?_⟩;simp (disch:=first|omega|assumption|rfl|(simp only[vcS]<;>omega)|fail) only[↓vcN,vcQ,simprocAttr])
 have hE0:Ext w (w.alloc (.cells (zc [(32,.int .u8 0)]) 23)):=(Keep.refl _ w).alloc _
 have hp2:(w.alloc (.cells (zc [(32,.int .u8 0)]) 23)).heap[w.heap.size]?=some (.cells (bv (List.replicate 32 0)).toArray 23 (0,0)):=heap_new _ _ _ rfl
 generalize World.alloc _ _=w1 at hE0 hp2⊢
 generalize hp2e:w.heap.size=p2 at hp2⊢
 (refine W_at c77_ok ⟨_,rfl,?_⟩;simp (disch:=first|omega|assumption|rfl|(simp only[vcS]<;>omega)|fail) only[↓vcN,vcQ,simprocAttr])
 have hE1:Ext w1 (w1.alloc (.cells (zc [(8,.int .u32 0),(1,.slice none 0 0),(1,.int .u64 0),(1,.bool false)]) 77)):=(Keep.refl _ w1).alloc _
 have hS1:=new_sum w1
 have hp2l:=lt_of_heap hp2
 generalize World.alloc _ _=w2 at hE1 hS1⊢
 have hw1l:=hE0.size
 generalize w1.heap.size=p3 at hS1 hp2l hw1l⊢
 have hxlt:bs≠[]→∀q n c,x=.slice (some q) n c→q.block≠p3:=fun h0 q n c e hq=>by have:=hx.lt h0 q n c e;omega
 (refine W_at c77_ok ⟨_,rfl,?_⟩;simp (disch:=first|omega|assumption|rfl|(simp only[vcS]<;>omega)|fail) only[↓vcN,vcQ,simprocAttr])
 refine callV_ret (add_ok w2 p3 _ x [] bs false hS1 ((hx.ext hE0).ext hE1) hxlt hb byt_nil (by simp;omega)) ?_
 rintro _ w3 ⟨wv,hS3,hK3,hB3⟩
 rw[List.nil_append] at hS3
 have hE3:Ext w w3:=(hE0.ext hE1).trans hK3 fun i hi hy=>by
  rcases hy with e|hy
  ·omega
  ·cases hy
 have hp23:=hK3.at (hE1.at hp2 fun h=>h) (fun hy=>by rcases hy with e|hy;omega;cases hy)
 first|(simp (disch:=first|omega|assumption|rfl|(simp only[vcS]<;>omega)|fail) only[↓vcN,vcQ,simprocAttr])|skip
 (refine W_at c77_ok ⟨_,rfl,?_⟩;simp (disch:=first|omega|assumption|rfl|(simp only[vcS]<;>omega)|fail) only[↓vcN,vcQ,simprocAttr])
 refine callV_ret (hash_ok w3 p3 wv bs true hS3 hb (by omega)) ?_
 rintro _ w4 ⟨rfl,hE4⟩
 have s32:(bv (shaF bs)).toArray.size=32:=by rw[bva_size,shaF_len]
 have hp24:=hE4.at hp23 (fun h=>h)
 have hok:okO (some (.cells (bv (List.replicate 32 0)).toArray 23 (0,0))) 0 32=True:=by simp only[okO,bva_size,List.length_replicate];simp
 simp (disch:=first|omega|assumption|rfl|(simp only[vcS]<;>omega)|fail) only[↓vcA,vcB,vcM,s32,hp24,hok]
 have k5:Keep (fun y=>y=p2) w4 (w4.putN p2 0 (bv (shaF bs)).toArray):=(Keep.refl _ w4).putN _ fun _=>rfl
 have hp25:(w4.putN p2 0 (bv (shaF bs)).toArray).heap[p2]?=some (.cells (bv (shaF bs)).toArray 23 (0,0)):=by
  rw[heap_putN_eq hp24,splice_all (by rw[bva_size,bva_size,shaF_len];rfl)]
 refine⟨bv_flat _,?_⟩
 generalize World.putN _ _ _ _=w5 at k5 hp25⊢
 have hr32:rdO (some (.cells (bv (shaF bs)).toArray 23 (0,0))) 0 32=some (bv (shaF bs)).toArray:=rdO_all _ _ _ _ s32
 (refine W_at c77_ok ?_;refine⟨_,rfl,?_⟩;simp (disch:=first|omega|assumption|rfl|(simp only[vcS]<;>omega)|fail) only[↓vcA,vcB,↓reduceIte,Option.bind_some,Option.map_some,vcM,Ret_returned,hp25,hr32])
 exact(hE3.ext hE4).trans k5 fun i hi e=>by omega
set_option maxHeartbeats 800000 in
theorem twice_ok (w:World)(g:Nat)(wv:Value)(m:List Int)(b:Bool)(h:SumAt w g wv m b)(hm:byt m)(hl:m.length≤400000000):
  Calls Tryz.prog 34 #[.pointer (some ⟨g,0,none⟩)] w (Ret fun u w'=>u=.agg (bv (dblF m)).toArray∧Ext w w'):=by
 refine calls_of_cfg c34_ok (Nat.le_of_ble_eq_true rfl) ?_
 simp only[argE_nil,argE_cons,Nat.zero_add]
 (refine W_at c34_ok ⟨_,rfl,?_⟩;simp (disch:=first|omega|assumption|rfl|(simp only[vcS]<;>omega)|fail) only[↓vcN,vcQ,simprocAttr])
 have hE0:Ext w (w.alloc (.cells (zc [(32,.int .u8 0)]) 23)):=(Keep.refl _ w).alloc _
 have hp2:(w.alloc (.cells (zc [(32,.int .u8 0)]) 23)).heap[w.heap.size]?=some (.cells (bv (List.replicate 32 0)).toArray 23 (0,0)):=heap_new _ _ _ rfl
 generalize World.alloc _ _=w1 at hE0 hp2⊢
 generalize hp2e:w.heap.size=p2 at hp2⊢
 (refine W_at c34_ok ⟨_,rfl,?_⟩;simp (disch:=first|omega|assumption|rfl|(simp only[vcS]<;>omega)|fail) only[↓vcN,vcQ,simprocAttr])
 refine callV_ret (hash_ok w1 g wv m b (h.ext hE0) hm hl) ?_
 rintro _ w2 ⟨rfl,hE2⟩
 have s32:(bv (shaF m)).toArray.size=32:=by rw[bva_size,shaF_len]
 have hp22:=hE2.at hp2 (fun h=>h)
 simp (disch:=first|omega|assumption|rfl|(simp only[vcS]<;>omega)|fail) only[↓vcN,vcQ,simprocAttr,s32]
 have hE3:Ext w2 ((w2.alloc (.cells (zc [(32,.int .u8 0)]) 23)).putN w2.heap.size 0 (bv (shaF m)).toArray):=((Keep.refl _ w2).alloc _).putN _ (by intro hh;exfalso;omega)
 have hp3:((w2.alloc (.cells (zc [(32,.int .u8 0)]) 23)).putN w2.heap.size 0 (bv (shaF m)).toArray).heap[w2.heap.size]?=some (.cells (bv (shaF m)).toArray 23 (0,0)):=by
  rw[heap_putN_eq (heap_new _ _ _ rfl),z32,splice_all (by rw[bva_size,bva_size,shaF_len];rfl)]
 refine⟨bv_flat _,?_⟩
 have hp2l:=lt_of_heap hp22
 generalize World.putN _ _ _ _=w3 at hE3 hp3⊢
 generalize w2.heap.size=p3 at hp3 hp2l⊢
 have hrd:=arr_rd hp3 (by rw[shaF_len];decide)
 rw[shaF_len] at hrd
 have hp23:=hE3.at hp22 (fun h=>h)
 (refine W_at c34_ok ⟨_,rfl,?_⟩;simp (disch:=first|omega|assumption|rfl|(simp only[vcS]<;>omega)|fail) only[↓vcN,vcQ,simprocAttr,Nat.sub_zero])
 refine callV_ret (sum256_ok w3 _ (shaF m) hrd (shaF_byt m) (by rw[shaF_len];omega)) ?_
 rintro _ w4 ⟨rfl,hE4⟩
 have s322:(bv (shaF (shaF m))).toArray.size=32:=by rw[bva_size,shaF_len]
 have hp24:=hE4.at hp23 (fun h=>h)
 have hok:okO (some (.cells (bv (List.replicate 32 0)).toArray 23 (0,0))) 0 32=True:=by simp only[okO,bva_size,List.length_replicate];simp
 simp (disch:=first|omega|assumption|rfl|(simp only[vcS]<;>omega)|fail) only[↓vcA,vcB,vcM,s322,hp24,hok]
 have k5:Keep (fun y=>y=p2) w4 (w4.putN p2 0 (bv (shaF (shaF m))).toArray):=(Keep.refl _ w4).putN _ fun _=>rfl
 have hp25:(w4.putN p2 0 (bv (shaF (shaF m))).toArray).heap[p2]?=some (.cells (bv (shaF (shaF m))).toArray 23 (0,0)):=by
  rw[heap_putN_eq hp24,splice_all (by rw[bva_size,bva_size,shaF_len];rfl)]
 refine⟨bv_flat _,?_⟩
 generalize World.putN _ _ _ _=w5 at k5 hp25⊢
 have hr32:rdO (some (.cells (bv (shaF (shaF m))).toArray 23 (0,0))) 0 32=some (bv (shaF (shaF m))).toArray:=rdO_all _ _ _ _ s322
 (refine W_at c34_ok ?_;refine⟨_,rfl,?_⟩;simp (disch:=first|omega|assumption|rfl|(simp only[vcS]<;>omega)|fail) only[↓vcA,vcB,↓reduceIte,Option.bind_some,Option.map_some,vcM,Ret_returned,hp25,hr32])
 exact⟨rfl,(((hE0.ext hE2).ext hE3).ext hE4).trans k5 fun i hi e=>by omega⟩
set_option maxHeartbeats 800000 in
theorem double_ok (w:World)(x:Value)(bs:List Int)(hx:Rd w x bs)(hb:byt bs)(hl:bs.length≤100000000):
  Calls Tryz.prog 9 #[x] w (Ret fun u w'=>u=.agg (bv (dblF bs)).toArray∧Ext w w'):=by
 refine calls_of_cfg c9_ok (Nat.le_of_ble_eq_true rfl) ?_
 simp only[argE_nil,argE_cons,Nat.zero_add]
 (refine W_at c9_ok ⟨_,rfl,?_⟩;simp (disch:=first|omega|assumption|rfl|(simp only[vcS]<;>omega)|fail) only[↓vcN,vcQ,simprocAttr])
 have hE0:Ext w (w.alloc (.cells (zc [(32,.int .u8 0)]) 23)):=(Keep.refl _ w).alloc _
 have hp2:(w.alloc (.cells (zc [(32,.int .u8 0)]) 23)).heap[w.heap.size]?=some (.cells (bv (List.replicate 32 0)).toArray 23 (0,0)):=heap_new _ _ _ rfl
 generalize World.alloc _ _=w1 at hE0 hp2⊢
 generalize hp2e:w.heap.size=p2 at hp2⊢
 (refine W_at c9_ok ⟨_,rfl,?_⟩;simp (disch:=first|omega|assumption|rfl|(simp only[vcS]<;>omega)|fail) only[↓vcN,vcQ,simprocAttr])
 have hE1:Ext w1 (w1.alloc (.cells (zc [(8,.int .u32 0),(1,.slice none 0 0),(1,.int .u64 0),(1,.bool false)]) 77)):=(Keep.refl _ w1).alloc _
 have hS1:=new_sum w1
 have hp2l:=lt_of_heap hp2
 generalize World.alloc _ _=w2 at hE1 hS1⊢
 have hw1l:=hE0.size
 generalize w1.heap.size=p3 at hS1 hp2l hw1l⊢
 have hxlt:bs≠[]→∀q n c,x=.slice (some q) n c→q.block≠p3:=fun h0 q n c e hq=>by have:=hx.lt h0 q n c e;omega
 (refine W_at c9_ok ⟨_,rfl,?_⟩;simp (disch:=first|omega|assumption|rfl|(simp only[vcS]<;>omega)|fail) only[↓vcN,vcQ,simprocAttr])
 refine callV_ret (add_ok w2 p3 _ x [] bs false hS1 ((hx.ext hE0).ext hE1) hxlt hb byt_nil (by simp;omega)) ?_
 rintro _ w3 ⟨wv,hS3,hK3,hB3⟩
 rw[List.nil_append] at hS3
 have hE3:Ext w w3:=(hE0.ext hE1).trans hK3 fun i hi hy=>by
  rcases hy with e|hy
  ·omega
  ·cases hy
 have hp23:=hK3.at (hE1.at hp2 fun h=>h) (fun hy=>by rcases hy with e|hy;omega;cases hy)
 first|(simp (disch:=first|omega|assumption|rfl|(simp only[vcS]<;>omega)|fail) only[↓vcN,vcQ,simprocAttr])|skip
 (refine W_at c9_ok ⟨_,rfl,?_⟩;simp (disch:=first|omega|assumption|rfl|(simp only[vcS]<;>omega)|fail) only[↓vcN,vcQ,simprocAttr])
 refine callV_ret (twice_ok w3 p3 wv bs true hS3 hb (by omega)) ?_
 rintro _ w4 ⟨rfl,hE4⟩
 have s32:(bv (dblF bs)).toArray.size=32:=by rw[bva_size,dblF_len]
 have hp24:=hE4.at hp23 (fun h=>h)
 have hok:okO (some (.cells (bv (List.replicate 32 0)).toArray 23 (0,0))) 0 32=True:=by simp only[okO,bva_size,List.length_replicate];simp
 simp (disch:=first|omega|assumption|rfl|(simp only[vcS]<;>omega)|fail) only[↓vcA,vcB,vcM,s32,hp24,hok]
 have k5:Keep (fun y=>y=p2) w4 (w4.putN p2 0 (bv (dblF bs)).toArray):=(Keep.refl _ w4).putN _ fun _=>rfl
 have hp25:(w4.putN p2 0 (bv (dblF bs)).toArray).heap[p2]?=some (.cells (bv (dblF bs)).toArray 23 (0,0)):=by
  rw[heap_putN_eq hp24,splice_all (by rw[bva_size,bva_size,dblF_len];rfl)]
 refine⟨bv_flat _,?_⟩
 generalize World.putN _ _ _ _=w5 at k5 hp25⊢
 have hr32:rdO (some (.cells (bv (dblF bs)).toArray 23 (0,0))) 0 32=some (bv (dblF bs)).toArray:=rdO_all _ _ _ _ s32
 (refine W_at c9_ok ?_;refine⟨_,rfl,?_⟩;simp (disch:=first|omega|assumption|rfl|(simp only[vcS]<;>omega)|fail) only[↓vcA,vcB,↓reduceIte,Option.bind_some,Option.map_some,vcM,Ret_returned,hp25,hr32])
 exact(hE3.ext hE4).trans k5 fun i hi e=>by omega
end Go.Proofs
namespace Go.Proofs
open Go.Vc
set_option maxRecDepth 10000
structure TxI where
 prev:List Int
 idx:Int
 script:List Int
 seq:Int
 wit:List (List Int)
structure TxO where
 val:Int
 script:List Int
structure TxV where
 ver:Int
 ins:List TxI
 outs:List TxO
 lock:Int
def encI (x:TxI):List Int:=x.prev++lowF 4 x.idx++(sizeF x.script.length++x.script)++lowF 4 x.seq
def encO (y:TxO):List Int:=lowF 8 (y.val%18446744073709551616)++(sizeF y.script.length++y.script)
structure TxI.Ok (x:TxI):Prop where
 len:x.prev.length=32
 prev:byt x.prev
 idx:0≤x.idx∧x.idx≤4294967295
 script:byt x.script
 seq:0≤x.seq∧x.seq≤4294967295
 wit:∀b∈x.wit,byt b
structure TxO.Ok (y:TxO):Prop where
 val: -9223372036854775808≤y.val∧y.val≤9223372036854775807
 script:byt y.script
structure TxV.Ok (t:TxV):Prop where
 ver: -2147483648≤t.ver∧t.ver≤2147483647
 ins:∀x∈t.ins,x.Ok
 outs:∀y∈t.outs,y.Ok
 lock:0≤t.lock∧t.lock≤4294967295
def RowR (w:World)(v:Value)(ps:List (List Int)):Prop:=∃vs:List Value,rdS w 1 v=some vs.toArray∧vs.length=ps.length∧(∃q c,v=.slice q ps.length c∧ps.length≤c)∧ps.length≤maxLen∧∀i (h:i<vs.length) (h':i<ps.length),Rd w vs[i] ps[i]
theorem RowR.ext {w w':World}{v:Value}{ps:List (List Int)}(h:RowR w v ps)(k:Ext w w'):RowR w' v ps:=by
 obtain⟨vs,h1,h2,⟨q,c,e,hc⟩,h4,h5⟩:=h
 subst e
 exact⟨vs,rdS_keep h1 k fun _ _ h=>h,h2,⟨q,c,rfl,hc⟩,h4,fun i a b=>(h5 i a b).ext k⟩
theorem RowR.len {w:World}{v:Value}{ps:List (List Int)}(h:RowR w v ps):lenR v=some (.int .i64 (ps.length:Nat)):=by
 obtain⟨vs,_,_,⟨q,c,e,_⟩,_⟩:=h
 rw[e];rfl
theorem RowR.one {w:World}{v:Value}{ps:List (List Int)}(h:RowR w v ps):v.oneCell'=true:=by
 obtain⟨vs,_,_,⟨q,c,e,_⟩,_⟩:=h
 rw[e];rfl
theorem RowR.nil (w:World):RowR w (.slice none 0 0) []:=⟨[],rfl,rfl,⟨none,0,rfl,Nat.le_refl _⟩,Nat.zero_le _,fun i h=>by simp at h⟩
theorem flat1_list (vs:List Value):(vs.map fun v=>(#[v]:Array Value)).flatMap Array.toList=vs:=by
 induction vs with
 |nil=>rfl
 |cons v vs ih=>simp only[List.map_cons,List.flatMap_cons,ih];rfl
theorem RowR.at {w:World}{v:Value}{ps:List (List Int)}(h:RowR w v ps){i:Nat}(hi:i<ps.length):∃b o c x,v=.slice (some ⟨b,o,none⟩) ps.length c∧cellO w.heap[b]? (o+i)=some x∧Rd w x ps[i]:=by
 obtain⟨vs,h1,h2,⟨q,c,e,hc⟩,h4,h5⟩:=h
 subst e
 have hf:=flat1_list vs
 rw[←hf] at h1
 obtain⟨b,o,hq,h6⟩:=rdS_at (size:=1) (xs:=vs.map fun v=>#[v]) h1 (by rw[List.length_map];exact h2) (fun x hx=>by obtain⟨y,_,rfl⟩:=List.mem_map.1 hx;rfl) hi
 have h7:=rdO_cell h6 (j:=0) (by omega)
 rw[Nat.add_zero,Nat.mul_one] at h7
 have hiv:i<vs.length:=by omega
 simp only[List.getElem_map] at h7
 refine⟨b,o,c,vs[i],by rw[hq],?_,h5 i hiv hi⟩
 rw[h7];rfl
def iC (x:TxI)(sv wv:Value):Array Value:=(bv x.prev++[.int .u32 x.idx,sv,.int .u32 x.seq,wv]).toArray
def oC (y:TxO)(sv:Value):Array Value:=#[.int .i64 y.val,sv]
def InAt (w:World)(c:Array Value)(x:TxI):Prop:=∃sv wv,c=iC x sv wv∧Rd w sv x.script∧RowR w wv x.wit
def OuAt (w:World)(c:Array Value)(y:TxO):Prop:=∃sv,c=oC y sv∧Rd w sv y.script
theorem InAt.ext {w w':World}{c:Array Value}{x:TxI}(h:InAt w c x)(k:Ext w w'):InAt w' c x:=by
 obtain⟨sv,wv,h1,h2,h3⟩:=h
 exact⟨sv,wv,h1,h2.ext k,h3.ext k⟩
theorem OuAt.ext {w w':World}{c:Array Value}{y:TxO}(h:OuAt w c y)(k:Ext w w'):OuAt w' c y:=by
 obtain⟨sv,h1,h2⟩:=h
 exact⟨sv,h1,h2.ext k⟩
theorem iC_size {x:TxI}(hx:x.prev.length=32)(sv wv:Value):(iC x sv wv).size=36:=by simp [iC,bv_len,hx]
theorem iC_flat {x:TxI}{sv wv:Value}(h1:sv.oneCell'=true)(h2:wv.oneCell'=true):flat (iC x sv wv):=by
 intro y hy
 simp only[iC,List.mem_append,List.mem_cons,List.not_mem_nil,or_false] at hy
 rcases hy with hy|rfl|rfl|rfl|rfl
 ·exact bv_flat x.prev y (by simpa using hy)
 ·rfl
 ·exact h1
 ·rfl
 ·exact h2
theorem oC_flat {y:TxO}{sv:Value}(h:sv.oneCell'=true):flat (oC y sv):=by
 rw[oC,flat_2];exact⟨rfl,h⟩
theorem iC_32 {x:TxI}(hx:x.prev.length=32)(sv wv:Value):(iC x sv wv)[32]?=some (.int .u32 x.idx):=by
 simp [iC,bv_len,hx]
theorem iC_33 {x:TxI}(hx:x.prev.length=32)(sv wv:Value):(iC x sv wv)[33]?=some sv:=by
 simp [iC,bv_len,hx]
theorem iC_34 {x:TxI}(hx:x.prev.length=32)(sv wv:Value):(iC x sv wv)[34]?=some (.int .u32 x.seq):=by
 simp [iC,bv_len,hx]
theorem iC_35 {x:TxI}(hx:x.prev.length=32)(sv wv:Value):(iC x sv wv)[35]?=some wv:=by
 simp [iC,bv_len,hx]
theorem iC_set33 {x:TxI}(hx:x.prev.length=32)(sv wv v:Value):(iC x sv wv).setIfInBounds 33 v=iC x v wv:=by
 simp [iC,List.set_append_right,bv_len,hx]
theorem iC_set34 {x:TxI}(hx:x.prev.length=32)(sv wv:Value)(n:Int):(iC x sv wv).setIfInBounds 34 (.int .u32 n)=iC {x with seq:=n} sv wv:=by
 simp [iC,List.set_append_right,bv_len,hx]
theorem iC_set35 {x:TxI}(hx:x.prev.length=32)(sv wv v:Value):(iC x sv wv).setIfInBounds 35 v=iC x sv v:=by
 simp [iC,List.set_append_right,bv_len,hx]
def ListR {α:Type}(R:World→Array Value→α→Prop)(size:Nat)(w:World)(v:Value)(l:List α):Prop:=
 ∃cs:List (Array Value),cs.length=l.length∧(∀c∈cs,c.size=size)∧rdS w size v=some (cs.flatMap Array.toList).toArray∧(∃q c,v=.slice q l.length c∧l.length≤c)∧l.length≤maxLen∧∀i (h:i<cs.length) (h':i<l.length),R w cs[i] l[i]
theorem ListR.ext {α:Type}{R:World→Array Value→α→Prop}{size:Nat}{w w':World}{v:Value}{l:List α}(h:ListR R size w v l)(k:Ext w w')(hR:∀c x,R w c x→R w' c x):ListR R size w' v l:=by
 obtain⟨cs,h1,h2,h3,⟨q,c,e,hc⟩,h4,h5⟩:=h
 subst e
 exact⟨cs,h1,h2,rdS_keep h3 k fun _ _ h=>h,⟨q,c,rfl,hc⟩,h4,fun i a b=>hR _ _ (h5 i a b)⟩
theorem ListR.len {α:Type}{R:World→Array Value→α→Prop}{size:Nat}{w:World}{v:Value}{l:List α}(h:ListR R size w v l):lenR v=some (.int .i64 (l.length:Nat)):=by
 obtain⟨vs,_,_,_,⟨q,c,e,_⟩,_⟩:=h
 rw[e];rfl
theorem ListR.one {α:Type}{R:World→Array Value→α→Prop}{size:Nat}{w:World}{v:Value}{l:List α}(h:ListR R size w v l):v.oneCell'=true:=by
 obtain⟨vs,_,_,_,⟨q,c,e,_⟩,_⟩:=h
 rw[e];rfl
theorem ListR.at {α:Type}{R:World→Array Value→α→Prop}{size:Nat}{w:World}{v:Value}{l:List α}(h:ListR R size w v l){i:Nat}(hi:i<l.length):
  ∃b o c cs,v=.slice (some ⟨b,o,none⟩) l.length c∧rdO w.heap[b]? (o+i*size) size=some cs∧cs.size=size∧R w cs l[i]:=by
 obtain⟨cs,h1,h2,h3,⟨q,c,e,hc⟩,h4,h5⟩:=h
 subst e
 obtain⟨b,o,hq,h6⟩:=rdS_at h3 h1 h2 hi
 have hic:i<cs.length:=by omega
 exact⟨b,o,c,cs[i],by rw[hq],h6,h2 _ (List.getElem_mem hic),h5 i hic hi⟩
abbrev InsR (w:World)(v:Value)(l:List TxI):Prop:=ListR InAt 36 w v l
abbrev OusR (w:World)(v:Value)(l:List TxO):Prop:=ListR OuAt 2 w v l
def txC (t:TxV)(iv ov:Value):Array Value:=#[.int .i32 t.ver,iv,ov,.int .u32 t.lock]
structure TxR (w:World)(iv ov:Value)(t:TxV):Prop where
 ins:InsR w iv t.ins
 outs:OusR w ov t.outs
theorem TxR.ext {w w':World}{iv ov:Value}{t:TxV}(h:TxR w iv ov t)(k:Ext w w'):TxR w' iv ov t:=⟨ListR.ext h.ins k fun _ _ h=>h.ext k,ListR.ext h.outs k fun _ _ h=>h.ext k⟩
end Go.Proofs
namespace Go.Proofs
open Go.Vc
set_option maxRecDepth 10000
theorem iC_rd32 {w:World}{g:Nat}{x:TxI}{sv wv:Value}{T:TypeId}(hx:x.prev.length=32)(h:w.heap[g]?=some (.cells (iC x sv wv) T (0,0))):Rd w (.slice (some ⟨g,0,none⟩) 32 32) x.prev:=by
 refine⟨⟨_,32,by rw[hx],by omega⟩,by rw[hx];decide,?_⟩
 simp only[rdS]
 rw[if_neg (by omega),rdN_heap,h,rdO_some _ _ _ _ _ (by rw[iC_size hx];omega)]
 congr 1
 apply Array.ext'
 simp [iC,bv_len,hx]
structure WMid (w0 w:World)(p:Nat)(v:Value)(bs:List Int):Prop where
 at':WAt w p v bs
 ext:Ext w0 w
 pl:w0.heap.size≤p
 bl:∀g,blk v g→w0.heap.size≤g
theorem WMid.go {w0 w w1:World}{p:Nat}{v:Value}{bs bs':List Int}(h:WMid w0 w p v bs)(hT:WTo w w1 p v bs'):∃v',WMid w0 w1 p v' bs':=by
 obtain⟨⟨v',h1,h2⟩,hk⟩:=hT
 refine⟨v',h1,h.ext.trans hk fun i hi hs=>?_,h.pl,fun g hg=>?_⟩
 ·rcases hs with rfl|hs
  ·have:=h.pl;omega
  ·have:=h.bl i hs;omega
 ·rcases h2 g hg with h3|h3
  ·exact h.bl g h3
  ·exact Nat.le_trans h.ext.size h3
theorem WMid.grow {w0 w w1:World}{p:Nat}{v:Value}{bs:List Int}(h:WMid w0 w p v bs)(k:Ext w w1):WMid w0 w1 p v bs:=⟨h.at'.keep k (fun h=>h) (fun _ _ h=>h),h.ext.ext k,h.pl,h.bl⟩
theorem WMid.rd {w0 w:World}{p:Nat}{v x:Value}{bs news:List Int}(h:WMid w0 w p v bs)(hx:Rd w0 x news):∀w',Keep (WS p v) w w'→Rd w' x news:=fun w' k=>
 hx.ext (h.ext.trans k fun i hi hs=>by
  rcases hs with rfl|hs
  ·have:=h.pl;omega
  ·have:=h.bl i hs;omega)
theorem WAt.ne_box {w:World}{p:Nat}{v:Value}{bs:List Int}(h:WAt w p v bs){g:Nat}{c:Array Value}{T:TypeId}(hg:w.heap[g]?=some (.cells c T (0,0)))(h1:T≠81)(h2:T≠5):¬WS p v g:=fun hs=>by
 rcases hs with rfl|hs
 ·rw[h.at'] at hg;cases hg;exact h1 rfl
 ·obtain⟨c',hc⟩:=row_type h.own hs
  rw[hg] at hc;cases hc;exact h2 rfl
theorem WTo.at {w w':World}{p:Nat}{v:Value}{bs bs':List Int}(h:WTo w w' p v bs')(hW:WAt w p v bs){g:Nat}{c:Array Value}{T:TypeId}(hg:w.heap[g]?=some (.cells c T (0,0)))(h1:T≠81)(h2:T≠5):w'.heap[g]?=some (.cells c T (0,0)):=
 h.keep.at hg (hW.ne_box hg h1 h2)
theorem take_flat {α:Type}(f:α→List Int){l:List α}{i:Nat}(h:i<l.length):(l.take (i+1)).flatMap f=(l.take i).flatMap f++f l[i]:=by
 rw[List.take_add_one,List.getElem?_eq_getElem h,List.flatMap_append]
 simp
theorem rdO_ext' {w w':World}(k:Ext w w'){g o n:Nat}{c:Array Value}(h:rdO w.heap[g]? o n=some c):rdO w'.heap[g]? o n=some c:=by
 cases hg:w.heap[g]? with
 |none=>rw[hg] at h;cases h
 |some x=>rw[k.at hg (fun h=>h),←hg];exact h
theorem encI_len {x:TxI}(h:x.prev.length=32):(encI x).length≤49+x.script.length:=by
 have:=(sizeF_len (n:=(x.script.length:Int))).2
 simp only[encI,List.length_append,lowF_len,h];omega
theorem encO_len (y:TxO):(encO y).length≤17+y.script.length:=by
 have:=(sizeF_len (n:=(y.script.length:Int))).2
 simp only[encO,List.length_append,lowF_len];omega
structure TxV.Few (t:TxV)(n m:Nat):Prop where
 ins:t.ins.length≤n
 outs:t.outs.length≤n
 iscr:∀x∈t.ins,x.script.length≤m
 oscr:∀y∈t.outs,y.script.length≤m
theorem flatI_len {l:List TxI}{m:Nat}(h1:∀x∈l,x.prev.length=32)(h2:∀x∈l,x.script.length≤m):(l.flatMap encI).length≤(49+m)*l.length:=by
 induction l with
 |nil=>simp
 |cons x l ih=>
  have a:=encI_len (h1 x (by simp))
  have b:=h2 x (by simp)
  have c:=ih (fun y hy=>h1 y (by simp [hy])) (fun y hy=>h2 y (by simp [hy]))
  rw[List.flatMap_cons,List.length_append,List.length_cons,Nat.mul_add]
  omega
theorem flatO_len {l:List TxO}{m:Nat}(h2:∀x∈l,x.script.length≤m):(l.flatMap encO).length≤(17+m)*l.length:=by
 induction l with
 |nil=>simp
 |cons x l ih=>
  have a:=encO_len x
  have b:=h2 x (by simp)
  have c:=ih (fun y hy=>h2 y (by simp [hy]))
  rw[List.flatMap_cons,List.length_append,List.length_cons,Nat.mul_add]
  omega
theorem new_writer (w:World):WMid w (w.alloc (.cells (zc [(1,.slice none 0 0)]) 81)) w.heap.size (.slice none 0 0) []:=
 ⟨⟨heap_new _ _ _ rfl,Own1.nil _⟩,(Keep.refl _ w).alloc _,Nat.le_refl _,fun g hg=>by cases hg⟩
end Go.Proofs
namespace Go.Proofs
open Go.Vc
set_option maxRecDepth 10000
theorem arr32_rd {w:World}{g:Nat}{bs:List Int}{T:TypeId}(hl:bs.length=32)(h:w.heap[g]?=some (.cells (bv bs).toArray T (0,0))):Rd w (.slice (some ⟨g,0,none⟩) 32 32) bs:=by
 have:=arr_rd h (by rw[hl];decide)
 rwa [hl] at this
theorem iC_ext32 {x:TxI}(hx:x.prev.length=32)(sv wv:Value):(iC x sv wv).extract 0 32=(bv x.prev).toArray:=by
 apply Array.ext'
 simp [iC,bv_len,hx]
theorem rdO_32 {o:Option Obj}{a:Nat}{x:TxI}{sv wv:Value}(hx:x.prev.length=32)(h:rdO o a 36=some (iC x sv wv)):rdO o a 32=some (bv x.prev).toArray:=by
 cases o with
 |none=>cases h
 |some y=>
  cases y with
  |cells c t fr=>
   simp only[rdO] at h⊢
   split at h
   ·rename_i hle
    rw[if_pos (by omega)]
    have e:=Option.some.inj h
    rw[←iC_ext32 hx sv wv,←e,Array.extract_extract,Nat.min_eq_left (by omega)]
    rfl
   ·cases h
  |_=>cases h
set_option maxHeartbeats 1600000 in
theorem inputs_ok (w:World)(iv ov:Value)(t:TxV)(h:TxR w iv ov t)(ht:t.Ok)(hf:t.Few 100 1000):
  Calls Tryz.prog 114 #[.agg (txC t iv ov)] w (Ret fun u w'=>New w w' u (sizeF t.ins.length++t.ins.flatMap encI)):=by
 refine calls_of_cfg c114_ok (Nat.le_of_ble_eq_true rfl) ?_
 simp only[argE_nil,argE_cons,Nat.zero_add]
 have hi1:=h.ins.one
 have ho1:=h.outs.one
 (refine W_at c114_ok ⟨_,rfl,?_⟩;simp (disch:=first|omega|assumption|rfl|(simp only[vcS]<;>omega)|fail) only[↓vcN,vcQ,simprocAttr])
 have hE0:Ext w (w.alloc (.cells (txC t iv ov) 33)):=(Keep.refl _ w).alloc _
 have hp1:(w.alloc (.cells (txC t iv ov) 33)).heap[w.heap.size]?=some (.cells (txC t iv ov) 33 (0,0)):=heap_new _ _ _ rfl
 generalize World.alloc _ _=w1 at hE0 hp1⊢
 generalize hp1e:w.heap.size=p1 at hp1⊢
 have h1:=h.ext hE0
 have t1:(txC t iv ov)[1]?=some iv:=rfl
 have hlI:=h.ins.len
 have hnI:=hf.ins
 have huI:IntKind.u64.wrap ((t.ins.length:Nat):Int)=(t.ins.length:Nat):=by rw[wrap_u64];omega
 have hsI:=(sizeF_len (n:=(t.ins.length:Int))).2
 (refine W_at c114_ok ⟨_,rfl,?_⟩;simp (disch:=first|omega|assumption|rfl|(simp only[vcS]<;>omega)|fail) only[↓vcN,vcQ,simprocAttr,hp1,t1,hlI,huI])
 refine callV_ret (rsize_ok w1 (t.ins.length:Nat) (by omega)) ?_
 intro v2 w2 hN2
 first|(simp (disch:=first|omega|assumption|rfl|(simp only[vcS]<;>omega)|fail) only[↓vcN,vcQ,simprocAttr])|skip
 (refine W_at c114_ok ⟨_,rfl,?_⟩;simp (disch:=first|omega|assumption|rfl|(simp only[vcS]<;>omega)|fail) only[↓vcN,vcQ,simprocAttr])
 have L:∀(k i:Nat) (wj:World) (vj:Value),i+k=t.ins.length→New w1 wj vj (sizeF (t.ins.length:Nat)++(t.ins.take i).flatMap encI)→
   W Tryz.prog (Ret fun u w'=>New w w' u (sizeF t.ins.length++t.ins.flatMap encI)) 114 11 [(1,.pointer (some ⟨p1,0,none⟩)),(3,vj),(4,.int .i64 (i:Nat))] wj:=by
  intro k
  induction k with
  |zero=>
   intro i wj vj hi hN
   obtain rfl:i=t.ins.length:=by omega
   rw[List.take_length] at hN
   have hno:¬((t.ins.length:Nat):Int)< (t.ins.length:Nat):=by omega
   have hp1j:=hN.ext.at hp1 (fun h=>h)
   iterate 4 (refine W_at c114_ok ⟨_,rfl,?_⟩;simp (disch:=first|omega|assumption|rfl|(simp only[vcS]<;>omega)|fail) only[↓vcN,vcQ,simprocAttr,hp1j,t1,hlI,hno,Ret_returned])
   exact hN.pre hE0
  |succ k ih=>
   intro i wj vj hi hN
   have hil:i<t.ins.length:=by omega
   have hlt:((i:Nat):Int)< (t.ins.length:Nat):=by omega
   have b1:0≤((i:Nat):Int)∧((i:Nat):Int)< (t.ins.length:Nat):=by omega
   have hwi:IntKind.i64.wrap (((i:Nat):Int)+1)=((i+1:Nat):Int):=wrap_i64 (by omega) (by omega)
   obtain⟨b,o,c,cs,ev,hr0,hcs,sv,wv,ecs,hsvW,hwvW⟩:=h1.ins.at hil
   have hok:=ht.ins _ (List.getElem_mem hil)
   have hscl:=hf.iscr _ (List.getElem_mem hil)
   have htk:=take_flat encI hil
   have hbi:=flatI_len (l:=t.ins.take i) (m:=1000) (fun x hx=>(ht.ins x (List.mem_of_mem_take hx)).len) (fun x hx=>hf.iscr x (List.mem_of_mem_take hx))
   have hbl:(t.ins.take i).length≤100:=by rw[List.length_take];omega
   generalize t.ins[i]=y at hsvW hwvW ecs hok hscl htk
   subst ecs
   have hpl:=hok.len
   have rr:∀{w'},Ext w1 w'→rdO w'.heap[b]? (o+i*36) 36=some (iC y sv wv):=fun k=>rdO_ext' k hr0
   have x32:=iC_32 hpl sv wv
   have x33:=iC_33 hpl sv wv
   have x34:=iC_34 hpl sv wv
   have t1':(txC t iv ov)[1]?=some (.slice (some ⟨b,o,none⟩) t.ins.length c):=by rw[←ev];rfl
   have hlI':lenR (.slice (some ⟨b,o,none⟩) t.ins.length c)=some (.int .i64 (t.ins.length:Nat)):=rfl
   have hp1j:=hN.ext.at hp1 (fun h=>h)
   have r32:=rdO_32 hpl (rr hN.ext)
   have s32:(bv y.prev).toArray.size=32:=by rw[bva_size,hpl]
   iterate 3 (refine W_at c114_ok ⟨_,rfl,?_⟩;simp (disch:=first|omega|assumption|rfl|(simp only[vcS]<;>omega)|fail) only[↓vcN,vcQ,simprocAttr,hp1j,t1',hlI',hlt,b1,Int.toNat_natCast,r32,s32])
   refine⟨bv_flat _,?_⟩
   have hEb:Ext wj ((wj.alloc (.cells (zc [(32,.int .u8 0)]) 23)).putN wj.heap.size 0 (bv y.prev).toArray):=((Keep.refl _ wj).alloc _).putN _ (by intro hh;exfalso;omega)
   have h5:((wj.alloc (.cells (zc [(32,.int .u8 0)]) 23)).putN wj.heap.size 0 (bv y.prev).toArray).heap[wj.heap.size]?=some (.cells (bv y.prev).toArray 23 (0,0)):=by
    rw[heap_putN_eq (heap_new _ _ _ rfl),splice_all (by rw[s32];rfl)]
   generalize World.putN _ _ _ _=wa at hEb h5⊢
   generalize wj.heap.size=p5 at h5⊢
   have hNa:=hN.keep hEb
   have hrp:=arr32_rd hpl h5
   have hix:IntKind.u64.wrap y.idx=y.idx:=by have:=hok.idx;rw[wrap_u64];omega
   have hsq:IntKind.u64.wrap y.seq=y.seq:=by have:=hok.seq;rw[wrap_u64];omega
   (refine W_at c114_ok ⟨_,rfl,?_⟩;simp (disch:=first|omega|assumption|rfl|(simp only[vcS]<;>omega)|fail) only[↓vcN,vcQ,simprocAttr,Nat.sub_zero])
   refine appN hNa hrp (by simp only[List.length_append];omega) fun vb wb hNb _ _=>?_
   first|(simp (disch:=first|omega|assumption|rfl|(simp only[vcS]<;>omega)|fail) only[↓vcN,vcQ,simprocAttr])|skip
   have c32:=rdO_cell (rr hNb.ext) (j:=32) (by omega)
   rw[x32] at c32
   have hp1b:=hNb.ext.at hp1 (fun h=>h)
   (refine W_at c114_ok ⟨_,rfl,?_⟩;simp (disch:=first|omega|assumption|rfl|(simp only[vcS]<;>omega)|fail) only[↓vcN,vcQ,simprocAttr,hp1b,t1',b1,Int.toNat_natCast,c32,hix])
   refine callV_ret (low_ok wb y.idx 4 (by have:=hok.idx;omega) (by omega)) ?_
   intro lc wc hL
   refine appN (hNb.keep hL.ext) hL.own.rd (by simp only[List.length_append,lowF_len];omega) fun vc wc hNc _ _=>?_
   first|(simp (disch:=first|omega|assumption|rfl|(simp only[vcS]<;>omega)|fail) only[↓vcN,vcQ,simprocAttr])|skip
   have c33:=rdO_cell (rr hNc.ext) (j:=33) (by omega)
   rw[x33] at c33
   have hp1c:=hNc.ext.at hp1 (fun h=>h)
   (refine W_at c114_ok ⟨_,rfl,?_⟩;simp (disch:=first|omega|assumption|rfl|(simp only[vcS]<;>omega)|fail) only[↓vcN,vcQ,simprocAttr,hp1c,t1',b1,Int.toNat_natCast,c33])
   refine callV_ret (text_ok wc sv y.script (hsvW.ext hNc.ext) (by omega)) ?_
   intro lc2 wd hL2
   have hsy:=(sizeF_len (n:=(y.script.length:Int))).2
   refine appN (hNc.keep hL2.ext) hL2.own.rd (by simp only[List.length_append,lowF_len];omega) fun vd wd hNd _ _=>?_
   first|(simp (disch:=first|omega|assumption|rfl|(simp only[vcS]<;>omega)|fail) only[↓vcN,vcQ,simprocAttr])|skip
   have c34:=rdO_cell (rr hNd.ext) (j:=34) (by omega)
   rw[x34] at c34
   have hp1d:=hNd.ext.at hp1 (fun h=>h)
   (refine W_at c114_ok ⟨_,rfl,?_⟩;simp (disch:=first|omega|assumption|rfl|(simp only[vcS]<;>omega)|fail) only[↓vcN,vcQ,simprocAttr,hp1d,t1',b1,Int.toNat_natCast,c34,hsq])
   refine callV_ret (low_ok wd y.seq 4 (by have:=hok.seq;omega) (by omega)) ?_
   intro le we hL3
   refine appN (hNd.keep hL3.ext) hL3.own.rd (by simp only[List.length_append,lowF_len];omega) fun ve we hNe _ _=>?_
   first|(simp (disch:=first|omega|assumption|rfl|(simp only[vcS]<;>omega)|fail) only[↓vcN,vcQ,simprocAttr])|skip
   iterate 2 (refine W_at c114_ok ⟨_,rfl,?_⟩;simp (disch:=first|omega|assumption|rfl|(simp only[vcS]<;>omega)|fail) only[↓vcN,vcQ,simprocAttr,hwi])
   refine ih (i+1) we ve (by omega) ?_
   rw[htk,show encI y=y.prev++lowF 4 y.idx++(sizeF y.script.length++y.script)++lowF 4 y.seq from rfl]
   simpa only[List.append_assoc] using hNe
 exact L t.ins.length 0 w2 v2 (by omega) (by rw[List.take_zero];simpa using hN2)
set_option maxHeartbeats 1600000 in
theorem outputs_ok (w:World)(iv ov:Value)(t:TxV)(h:TxR w iv ov t)(ht:t.Ok)(hf:t.Few 100 1000):
  Calls Tryz.prog 115 #[.agg (txC t iv ov)] w (Ret fun u w'=>New w w' u (sizeF t.outs.length++t.outs.flatMap encO)):=by
 refine calls_of_cfg c115_ok (Nat.le_of_ble_eq_true rfl) ?_
 simp only[argE_nil,argE_cons,Nat.zero_add]
 (refine W_at c115_ok ⟨_,rfl,?_⟩;simp (disch:=first|omega|assumption|rfl|(simp only[vcS]<;>omega)|fail) only[↓vcN,vcQ,simprocAttr])
 have hE0:Ext w (w.alloc (.cells (txC t iv ov) 33)):=(Keep.refl _ w).alloc _
 have hp1:(w.alloc (.cells (txC t iv ov) 33)).heap[w.heap.size]?=some (.cells (txC t iv ov) 33 (0,0)):=heap_new _ _ _ rfl
 generalize World.alloc _ _=w1 at hE0 hp1⊢
 generalize hp1e:w.heap.size=p1 at hp1⊢
 have h1:=h.ext hE0
 have t2:(txC t iv ov)[2]?=some ov:=rfl
 have hlO:=h.outs.len
 have hnO:=hf.outs
 have huO:IntKind.u64.wrap ((t.outs.length:Nat):Int)=(t.outs.length:Nat):=by rw[wrap_u64];omega
 have hsO:=(sizeF_len (n:=(t.outs.length:Int))).2
 (refine W_at c115_ok ⟨_,rfl,?_⟩;simp (disch:=first|omega|assumption|rfl|(simp only[vcS]<;>omega)|fail) only[↓vcN,vcQ,simprocAttr,hp1,t2,hlO,huO])
 refine callV_ret (rsize_ok w1 (t.outs.length:Nat) (by omega)) ?_
 intro v2 w2 hN2
 first|(simp (disch:=first|omega|assumption|rfl|(simp only[vcS]<;>omega)|fail) only[↓vcN,vcQ,simprocAttr])|skip
 (refine W_at c115_ok ⟨_,rfl,?_⟩;simp (disch:=first|omega|assumption|rfl|(simp only[vcS]<;>omega)|fail) only[↓vcN,vcQ,simprocAttr])
 have L:∀(k i:Nat) (wj:World) (vj:Value),i+k=t.outs.length→New w1 wj vj (sizeF (t.outs.length:Nat)++(t.outs.take i).flatMap encO)→
   W Tryz.prog (Ret fun u w'=>New w w' u (sizeF t.outs.length++t.outs.flatMap encO)) 115 8 [(1,.pointer (some ⟨p1,0,none⟩)),(3,vj),(4,.int .i64 (i:Nat))] wj:=by
  intro k
  induction k with
  |zero=>
   intro i wj vj hi hN
   obtain rfl:i=t.outs.length:=by omega
   rw[List.take_length] at hN
   have hno:¬((t.outs.length:Nat):Int)< (t.outs.length:Nat):=by omega
   have hp1j:=hN.ext.at hp1 (fun h=>h)
   iterate 4 (refine W_at c115_ok ⟨_,rfl,?_⟩;simp (disch:=first|omega|assumption|rfl|(simp only[vcS]<;>omega)|fail) only[↓vcN,vcQ,simprocAttr,hp1j,t2,hlO,hno,Ret_returned])
   exact hN.pre hE0
  |succ k ih=>
   intro i wj vj hi hN
   have hil:i<t.outs.length:=by omega
   have hlt:((i:Nat):Int)< (t.outs.length:Nat):=by omega
   have b1:0≤((i:Nat):Int)∧((i:Nat):Int)< (t.outs.length:Nat):=by omega
   have hwi:IntKind.i64.wrap (((i:Nat):Int)+1)=((i+1:Nat):Int):=wrap_i64 (by omega) (by omega)
   obtain⟨b,o,c,cs,ev,hr0,hcs,sv,ecs,hsvW⟩:=h1.outs.at hil
   have hok:=ht.outs _ (List.getElem_mem hil)
   have hscl:=hf.oscr _ (List.getElem_mem hil)
   have htk:=take_flat encO hil
   have hbi:=flatO_len (l:=t.outs.take i) (m:=1000) (fun x hx=>hf.oscr x (List.mem_of_mem_take hx))
   have hbl:(t.outs.take i).length≤100:=by rw[List.length_take];omega
   generalize t.outs[i]=y at hsvW ecs hok hscl htk
   subst ecs
   have rr:∀{w'},Ext w1 w'→rdO w'.heap[b]? (o+i*2) 2=some (oC y sv):=fun k=>rdO_ext' k hr0
   have x0:(oC y sv)[0]?=some (.int .i64 y.val):=rfl
   have x1:(oC y sv)[1]?=some sv:=rfl
   have t2':(txC t iv ov)[2]?=some (.slice (some ⟨b,o,none⟩) t.outs.length c):=by rw[←ev];rfl
   have hlO':lenR (.slice (some ⟨b,o,none⟩) t.outs.length c)=some (.int .i64 (t.outs.length:Nat)):=rfl
   have hp1j:=hN.ext.at hp1 (fun h=>h)
   have hv64:IntKind.u64.wrap y.val=y.val%18446744073709551616:=wrap_u64 _
   have c0:=rdO_cell (rr hN.ext) (j:=0) (by omega)
   rw[x0,Nat.add_zero] at c0
   iterate 3 (refine W_at c115_ok ⟨_,rfl,?_⟩;simp (disch:=first|omega|assumption|rfl|(simp only[vcS]<;>omega)|fail) only[↓vcN,vcQ,simprocAttr,hp1j,t2',hlO',hlt,b1,Int.toNat_natCast,c0,hv64])
   refine callV_ret (low_ok wj (y.val%18446744073709551616) 8 (by omega) (by omega)) ?_
   intro lc wc hL
   refine appN (hN.keep hL.ext) hL.own.rd (by simp only[List.length_append,lowF_len];omega) fun vc wc hNc _ _=>?_
   first|(simp (disch:=first|omega|assumption|rfl|(simp only[vcS]<;>omega)|fail) only[↓vcN,vcQ,simprocAttr])|skip
   have c1:=rdO_cell (rr hNc.ext) (j:=1) (by omega)
   rw[x1] at c1
   have hp1c:=hNc.ext.at hp1 (fun h=>h)
   (refine W_at c115_ok ⟨_,rfl,?_⟩;simp (disch:=first|omega|assumption|rfl|(simp only[vcS]<;>omega)|fail) only[↓vcN,vcQ,simprocAttr,hp1c,t2',b1,Int.toNat_natCast,c1])
   refine callV_ret (text_ok wc sv y.script (hsvW.ext hNc.ext) (by omega)) ?_
   intro lc2 wd hL2
   have hsy:=(sizeF_len (n:=(y.script.length:Int))).2
   refine appN (hNc.keep hL2.ext) hL2.own.rd (by simp only[List.length_append,lowF_len];omega) fun vd wd hNd _ _=>?_
   first|(simp (disch:=first|omega|assumption|rfl|(simp only[vcS]<;>omega)|fail) only[↓vcN,vcQ,simprocAttr])|skip
   iterate 2 (refine W_at c115_ok ⟨_,rfl,?_⟩;simp (disch:=first|omega|assumption|rfl|(simp only[vcS]<;>omega)|fail) only[↓vcN,vcQ,simprocAttr,hwi])
   refine ih (i+1) wd vd (by omega) ?_
   rw[htk,show encO y=lowF 8 (y.val%18446744073709551616)++(sizeF y.script.length++y.script) from rfl]
   simpa only[List.append_assoc] using hNd
 exact L t.outs.length 0 w2 v2 (by omega) (by rw[List.take_zero];simpa using hN2)
end Go.Proofs
namespace Go.Vc
open Go.ChangeShapes Go.WideShapes Go.ChangeAt Go.RowKit
mutual
def LiesB (bz:Tys→Nat)(w:World):Ty→Value→Prop
 | .int k,v=> ∃n,v=.int k n∧(Lit.int k n).wf=true
 | .bool,v=> ∃b,v=.bool b
 | .str,v=> ∃s,v=.string s∧s.size≤maxLen
 | .sl e,v=> ∃(q:Option Addr) (n c:Nat) (xs:List (Array Value)),v=.slice q n c∧n≤c∧c≤maxLen∧n*bz e≤reachBytes∧xs.length=n∧rdS w e.len v=some (xs.flatMap Array.toList).toArray∧
   (∀x∈xs,x.size=e.len)∧∀x∈xs,LiesBAll bz w e x.toList
def LiesBAll (bz:Tys→Nat)(w:World):Tys→List Value→Prop
 | .nil,cs=>cs=[]
 | .cons t r,cs=>match cs with|[]=>False|v::cs=>LiesB bz w t v∧LiesBAll bz w r cs
end
mutual
theorem LiesB.lies {bz:Tys→Nat}{w:World}:∀{t:Ty} {v:Value},LiesB bz w t v→Lies w t v
 | .int _,_,h=>by simp only[Lies,LiesB] at h⊢;exact h
 | .bool,_,h=>by simp only[Lies,LiesB] at h⊢;exact h
 | .str,_,h=>by simp only[Lies,LiesB] at h⊢;exact h
 | .sl e,v,h=>by
  simp only[Lies,LiesB] at h⊢
  obtain⟨q,n,c,xs,h1,h2,h3,_,h4,h5,h6,h7⟩:=h
  exact⟨q,n,c,xs,h1,h2,h3,h4,h5,h6,fun x hx=>LiesBAll.lies (h7 x hx)⟩
theorem LiesBAll.lies {bz:Tys→Nat}{w:World}:∀{t:Tys} {cs:List Value},LiesBAll bz w t cs→LiesAll w t cs
 | .nil,cs,h=>by simp only[LiesAll,LiesBAll] at h⊢;exact h
 | .cons t r,[],h=>by simp only[LiesBAll] at h
 | .cons t r,v::cs,h=>by
  simp only[LiesAll,LiesBAll] at h⊢
  exact⟨LiesB.lies h.1,LiesBAll.lies h.2⟩
end
theorem liesBAll_app {bz:Tys→Nat}{w:World}:∀{s t:Tys} {a b:List Value},LiesBAll bz w s a→LiesBAll bz w t b→LiesBAll bz w (s.app t) (a++b)
 | .nil,t,a,b,h,k=>by simp only[LiesBAll] at h;subst h;exact k
 | .cons u s,t,[],b,h,k=>by simp only[LiesBAll] at h
 | .cons u s,t,v::a,b,h,k=>by
  simp only[LiesBAll] at h
  simp only[Tys.app,List.cons_append,LiesBAll]
  exact⟨h.1,liesBAll_app h.2 k⟩
theorem liesBAll_rep {bz:Tys→Nat}{w:World}{a:Tys}(k:Nat):∀(m:Nat) (cs:List Value),a.len=k→cs.length=m*k→(∀i,i<m→LiesBAll bz w a ((cs.drop (i*k)).take k))→LiesBAll bz w (Tys.rep m a) cs
 |0,cs,hk,hl,h=>by
  have:cs=[]:=List.eq_nil_of_length_eq_zero (by simpa using hl)
  subst this;simp [Tys.rep,LiesBAll]
 |m+1,cs,hk,hl,h=>by
  rw[Nat.add_mul,Nat.one_mul] at hl
  have h0:=h 0 (by omega)
  rw[Nat.zero_mul,List.drop_zero] at h0
  have:=liesBAll_app h0 (liesBAll_rep (w:=w) (a:=a) k m (cs.drop k) hk (by simp;omega) fun i hi=>by
   have:=h (i+1) (by omega)
   rw[List.drop_drop,show k+i*k=(i+1)*k by rw[Nat.add_mul];omega];exact this)
  rw[List.take_append_drop] at this
  exact this
theorem liesBAll_fields {bz:Tys→Nat}{P:Program}{w:World}{r:TypeId→Option Tys}(cs:List Value):∀(fs:List Field) (off:Nat) (a:Tys),fieldsTy P r off fs=some a→off+a.len=cs.length→
  (∀f∈fs,∀b,r f.type=some b→LiesBAll bz w b ((cs.drop f.offset).take (P.cellsOf f.type)))→LiesBAll bz w a (cs.drop off)
 |[],off,a,h,hl,hf=>by
  simp only[fieldsTy,Option.some.injEq] at h;subst h
  simp only[Tys.len] at hl
  simp only[LiesBAll];exact List.drop_eq_nil_of_le (by omega)
 |f::fs,off,a,h,hl,hf=>by
  simp only[fieldsTy] at h
  split at h
  ·rename_i ho
   obtain⟨b,hb,h⟩:=Option.bind_eq_some_iff.1 h
   split at h
   ·rename_i hbl
    obtain⟨c,hc,rfl⟩:=Option.map_eq_some_iff.1 h
    rw[Tys.len_app] at hl
    have h1:=hf f (by simp) b hb
    rw[ho] at h1
    have h2:=liesBAll_fields cs fs (off+P.cellsOf f.type) c hc (by omega) fun f hf'=>hf f (by simp [hf'])
    have:=liesBAll_app h1 h2
    rw[←List.drop_drop,List.take_append_drop] at this
    exact this
   ·cases h
  ·cases h
theorem mapM_some2 {α β:Type}{g:α→Option β}:∀{l:List α} {ys:List β},l.mapM g=some ys→ys.length=l.length∧∀i (h:i<l.length) (h':i<ys.length),g l[i]=some ys[i]
 |[],ys,h=>by
  simp at h;subst h;exact⟨rfl,fun i h=>by simp at h⟩
 |x::l,ys,h=>by
  rw[List.mapM_cons] at h
  obtain⟨y,hy,h⟩:=Option.bind_eq_some_iff.1 h
  obtain⟨zs,hz,h⟩:=Option.bind_eq_some_iff.1 h
  cases h
  obtain⟨h1,h2⟩:=mapM_some2 hz
  refine⟨by simp [h1],fun i hi hi'=>?_⟩
  cases i with
  |zero=>exact hy
  |succ i=>exact h2 i (by simpa using hi) (by simpa using hi')
theorem weights_mem_all {H:Type}{P:Program}{e:TypeId}:∀{ds:List (DataW H)} {d:DataW H},d∈ds→∀n∈d.weights P e,n∈DataW.weightsAll P e ds
 |d0::ds,d,hd,n,hn=>by
  simp only[DataW.weightsAll,List.mem_append]
  rcases List.mem_cons.1 hd with rfl|hd
  ·exact .inl hn
  ·exact .inr (weights_mem_all hd n hn)
def bzOk (P:Program)(bz:Tys→Nat):Nat→TypeId→Bool
 |0,_=>true
 |n+1,t=>match P.underlying t with
  |some (.slice e)=>(match tyOf P n e with|some a=>decide (bz a≤P.bytesOf e)|none=>true)&&bzOk P bz n e
  |some (.struct fs)=>fs.toList.all fun f=>bzOk P bz n f.type
  |some (.array _ e)=>bzOk P bz n e
  |_=>true
theorem trod_liesB {H:Type}{enc:TypeId×Value→H}{P:Program}{w:World}{spare:Nat→Bool}{held:Bool}{bz:Tys→Nat}:
  ∀(m n:Nat) (t:TypeId) (cs:List Value) (x:DataW H×List MemPlace) (a:Tys),bzOk P bz m t=true→tyOf P m t=some a→DataW.trod enc P w 0 spare held n t cs=some x→(∀k∈x.1.weights P t,k≤reachBytes)→LiesBAll bz w a cs
 |0,_,_,_,_,_,_,h,_,_=>by simp [tyOf] at h
 |_+1,0,_,_,_,_,_,_,h,_=>by simp [DataW.trod] at h
 |m+1,n+1,t,cs,x,a,hM,ha,h,hz=>by
  have ih:=fun n t cs x a=>trod_liesB (enc:=enc) (P:=P) (w:=w) (spare:=spare) (held:=held) (bz:=bz) m n t cs x a
  simp only[tyOf] at ha
  simp only[bzOk] at hM
  cases hu:P.underlying t with
  |none=>simp [hu] at ha
  |some u=>
   simp only[hu] at ha hM
   cases u<;>try (cases ha;done)
   case bool=>
    simp only[Option.some.injEq] at ha;subst ha
    simp only[DataW.trod,hu] at h
    split at h<;>simp_all [LiesBAll,LiesB]
   case int k=>
    simp only[Option.some.injEq] at ha;subst ha
    simp only[DataW.trod,hu] at h
    split at h<;>simp_all [LiesBAll,LiesB]
   case string=>
    simp only[Option.some.injEq] at ha;subst ha
    simp only[DataW.trod,hu] at h
    split at h<;>simp_all [LiesBAll,LiesB]
   case slice e=>
    obtain⟨b,hb,ha⟩:=Option.bind_eq_some_iff.1 ha
    simp only[hb,Bool.and_eq_true] at hM
    split at ha
    ·rename_i hbl
     simp only[Option.some.injEq] at ha;subst ha
     rcases Go.Deep.open_slice hu h with ⟨rfl,_⟩|⟨ad,len,cap,mm,n',D,Pl,rfl,_,hlc,hcm,hmm,rfl,hx⟩
     ·simp only[LiesBAll,LiesB]
      exact⟨⟨none,0,0,[],rfl,Nat.le_refl _,Nat.zero_le _,by rw[Nat.zero_mul];exact Nat.zero_le _,rfl,rfl,by simp,by simp⟩,trivial⟩
     ·have hlm:len≤mm:=by rw[hmm];split<;>omega
      have hsz:=hz ((((List.range len).map D).length+((List.range (mm - len)).map fun j=>D (len+j)).length)*P.bytesOf e) (by simp [DataW.weights,hu])
      have hsz2:len*bz b≤reachBytes:=by
       have h1:=of_decide_eq_true hM.1
       rw[List.length_map,List.length_range] at hsz
       exact Nat.le_trans (Nat.le_trans (Nat.mul_le_mul_left _ h1) (Nat.mul_le_mul_right _ (Nat.le_add_right _ _))) hsz
      obtain⟨ys,h1,h2⟩:=list_choose (p:=fun i cs'=>w.cells? 0 (ad.add (i*P.cellsOf e)) (P.cellsOf e)=some cs'∧LiesBAll bz w b cs') (List.range len) (fun i hi=>by
       have hi':=List.mem_range.1 hi
       obtain⟨cs',h1,h2⟩:=hx i (by omega)
       refine⟨cs',h1,ih _ _ _ _ _ hM.2 hb h2 fun k hk=>hz k ?_⟩
       simp only[DataW.weights,hu,List.mem_cons,List.mem_append]
       exact .inr (.inl (weights_mem_all (List.mem_map.2 ⟨i,hi,rfl⟩) k hk)))
      have hyl:ys.length=len:=by simpa using h1
      have hch:∀i (hi:i<ys.length),w.cells? 0 (ad.add (i*P.cellsOf e)) (P.cellsOf e)=some ys[i]∧LiesBAll bz w b ys[i]:=by
       intro i hi
       have:=h2 i (by simpa using (hyl▸hi)) hi
       simpa using this
      simp only[LiesBAll,LiesB]
      refine⟨⟨some ad,len,cap,ys.map List.toArray,rfl,hlc,hcm,hsz2,by simp [hyl],?_,?_,?_⟩,trivial⟩
      ·by_cases h0:len=0
       ·have:ys=[]:=List.eq_nil_of_length_eq_zero (by omega)
        subst this;simp [rdS,h0]
       ·have hpos:0<P.cellsOf e:=by rw[←hbl.1];exact hbl.2
        have hc0:=(hch 0 (by omega)).1
        obtain⟨bb,oo,ss⟩:=ad
        rw[Nat.zero_mul,show (Addr.mk bb oo ss).add 0=⟨bb,oo,ss⟩ from rfl] at hc0
        obtain⟨hs,_,_⟩:=cells_rdN hc0 hpos
        simp only at hs
        subst hs
        simp only[rdS,if_neg h0,hbl.1]
        have hj:=rdN_join (w:=w) (b:=bb) (k:=P.cellsOf e) (ys.map List.toArray) oo (by intro h;apply h0;rw[←hyl];simpa using congrArg List.length h) (fun i hi=>by
         have hi':i<ys.length:=by simpa using hi
         obtain⟨_,h3,_⟩:=cells_rdN (hch i hi').1 hpos
         have e1:(Addr.mk bb oo none).add (i*P.cellsOf e)=⟨bb,oo+i*P.cellsOf e,none⟩:=by
          simp only[Addr.add];split
          ·rename_i h0;rw[h0];rfl
          ·rfl
         rw[e1] at h3
         rw[List.getElem_map];exact h3)
        rw[List.length_map,hyl] at hj
        exact hj
      ·intro x hx
       obtain⟨y,hy,rfl⟩:=List.mem_map.1 hx
       obtain⟨i,hi,rfl⟩:=List.getElem_of_mem hy
       have:=(cells_rdN (hch i hi).1 (by rw[←hbl.1];exact hbl.2)).2.2
       simp [this,hbl.1]
      ·intro x hx
       obtain⟨y,hy,rfl⟩:=List.mem_map.1 hx
       obtain⟨i,hi,rfl⟩:=List.getElem_of_mem hy
       exact(hch i hi).2
    ·cases ha
   case struct fs=>
    obtain⟨b,hb,ha⟩:=Option.bind_eq_some_iff.1 ha
    split at ha
    ·rename_i hbl
     simp only[Option.some.injEq] at ha;subst ha
     simp only[DataW.trod,hu] at h
     split at h
     ·rename_i hl
      obtain⟨ys,hys,rfl⟩:=Option.map_eq_some_iff.1 h
      obtain⟨hyl,hyi⟩:=mapM_some2 hys
      have:=liesBAll_fields (bz:=bz) (w:=w) cs fs.toList 0 b hb (by omega) (fun f hf c hc=>by
       obtain⟨i,hi,rfl⟩:=List.getElem_of_mem hf
       refine ih _ _ _ _ _ (List.all_eq_true.1 hM _ hf) hc (hyi i hi (by omega)) fun k hk=>hz k ?_
       simp only[DataW.weights,hu]
       refine DataW.weights_mem_each (j:=i) (t:=fs.toList[i].type) (d:=ys[i].1) ?_ ?_ k hk
       ·rw[List.getElem?_map,List.getElem?_eq_getElem hi];rfl
       ·rw[List.getElem?_map,List.getElem?_eq_getElem (by omega)];rfl)
      rwa [List.drop_zero] at this
     ·cases h
    ·cases ha
   case array k e=>
    obtain⟨b,hb,ha⟩:=Option.bind_eq_some_iff.1 ha
    split at ha
    ·rename_i hbl
     simp only[Option.some.injEq] at ha;subst ha
     simp only[DataW.trod,hu] at h
     split at h
     ·rename_i hl
      obtain⟨ys,hys,rfl⟩:=Option.map_eq_some_iff.1 h
      obtain⟨hyl,hyi⟩:=mapM_some2 hys
      refine liesBAll_rep (P.cellsOf e) k cs hbl.1 (by rw[hl,←hbl.2,hbl.1]) fun i hi=>?_
      have h2:=hyi i (by simpa using hi) (by rw[hyl];simpa using hi)
      rw[List.getElem_range] at h2
      refine ih _ _ _ _ _ hM hb h2 fun j hj=>hz j ?_
      simp only[DataW.weights,hu]
      exact weights_mem_all (List.mem_map.2 ⟨_,List.getElem_mem _,rfl⟩) j hj
     ·cases h
    ·cases ha
def ArgLiesB (bz:Tys→Nat)(P:Program)(W:World)(t:TypeId)(v:Value):Prop:=
 ArgLies P W t v∧∀m a,bzOk P bz m t=true→tyOf P m t=some a→LiesBAll bz W a v.cells.toList
theorem argsB {H:Type}{enc:TypeId×Value→H}{P:Program}{W:World}{bz:Tys→Nat}:∀{ts:List TypeId} {vs:List Value} {ds:List (DataW H)} {ps:List MemPlace},
  DataW.TrodAll enc P W 0 (fun _=>true) true ts vs ds ps→(∀k∈DataW.weightsEach P ts ds,k≤reachBytes)→∀(j:Nat) t v,ts[j]?=some t→vs[j]?=some v→∀m a,bzOk P bz m t=true→tyOf P m t=some a→LiesBAll bz W a v.cells.toList
 |[],[],[],ps,h,_=>fun j t v h=>by simp at h
 |t::ts,v::vs,d::ds,ps,h,hz=>by
  obtain⟨p,q,⟨n,h1⟩,h2,rfl⟩:=h
  intro j t' v' h3 h4 m a hM ha
  cases j with
  |zero=>
   simp only[List.getElem?_cons_zero,Option.some.injEq] at h3 h4
   subst h3 h4
   exact trod_liesB m n t _ _ a hM ha h1 fun k hk=>hz k (by simp only[DataW.weightsEach,List.mem_append];exact .inl hk)
  |succ j=>exact argsB h2 (fun k hk=>hz k (by simp only[DataW.weightsEach,List.mem_append];exact .inr hk)) j t' v' (by simpa using h3) (by simpa using h4) m a hM ha
 |[],[],_::_,_,h,_=>by cases h
 |[],_::_,_,_,h,_=>by cases h
 |_::_,[],_,_,h,_=>by cases h
 |_::_,_::_,[],_,h,_=>by cases h
theorem weights_left {H:Type}{P:Program}:∀{ts us:List TypeId} {ds gs:List (DataW H)},ds.length=ts.length→∀k∈DataW.weightsEach P ts ds,k∈DataW.weightsEach P (ts++us) (ds++gs)
 |[],us,ds,gs,h,k,hk=>by
  cases ds with
  |nil=>simp [DataW.weightsEach] at hk
  |cons=>simp at h
 |t::ts,us,[],gs,h,k,hk=>by simp at h
 |t::ts,us,d::ds,gs,h,k,hk=>by
  simp only[List.cons_append,DataW.weightsEach,List.mem_append] at hk⊢
  rcases hk with hk|hk
  ·exact .inl hk
  ·exact .inr (weights_left (by simpa using h) k hk)
theorem post_trueB {H:Type}{enc:TypeId×Value→H}{P:Program}{fn:Func}{s:ChangeSpec}{fresh handsOn:Bool}{W:World}{base:Nat}{args:Array Value}{ds gs:List (DataW H)}{before:List MemPlace}{f:FuncId}{tb:TypeId}(bz:Tys→Nat)
  (hl:laidOutB P=true) (hvars:s.vars=[]) (hres:fn.resultTypes=#[tb]) (htb:P.underlying tb=some .bool)
  (hread:∀t∈fn.params.toList,P.readableRec t=true∧t<P.types.size)
  (hfn:∀ds:List (DataW H),ds.length=fn.params.size→s.fn H ds={results:=[.lit (.bool true)],args:=ds})
  (hval:∀(j:Nat) t v,fn.params[j]?=some t→args[j]?=some v→Value.okWide P W .any base t v)
  (hW:DataW.Whole enc P fn.params.toList s.vars false W args.toList ds gs before) {us:List TypeId}
  (hz:(DataW.weightsEach P (fn.params.toList++us) (ds++gs)).all (· ≤reachBytes)=true)
  (hC:args.size=fn.params.size→(∀(j:Nat) t v,fn.params[j]?=some t→args[j]?=some v→ArgLiesB bz P W t v)→Calls P f args W (Ret fun v W'=>v=.bool true∧Ext W W')):
  Calls P f args W fun e W'=> ∃v,e=.returned v∧s.post enc P fn false fresh handsOn false W args v W':=by
 refine post_true hl hvars hres htb hread hfn hval hW fun hs ha=>hC hs fun j t v h1 h2=>⟨ha j t v h1 h2,?_⟩
 obtain⟨p,q,hA,_,_,_,_⟩:=hW
 obtain⟨_,e2,_⟩:=argsLie (fun j t v h1 h2=>hval j t v (by simpa using h1) (by simpa using h2)) hA
 exact argsB hA (fun k hk=>by simpa using List.all_eq_true.1 hz k (weights_left (by simpa using e2) k hk)) j t v (by simpa using h1) (by simpa using h2)
end Go.Vc
namespace Go.Proofs.YtmnogjgmkpjpoaaGreat
open Go.Vc Go.ChangeShapes Go.WideShapes Go.ChangeAt Go.RowKit Go.Proofs
theorem Tryz.own:ownKnob Tryz.prog.godebug=none:=by kernel_rfl
theorem Tryz.laidOut:laidOutB Tryz.prog=true:=by kernel_rfl
end Go.Proofs.YtmnogjgmkpjpoaaGreat
namespace Go.Proofs
open Go.Vc
def u8T:Tys:=.cons (.int .u8) .nil
def rowT:Tys:=.cons (.sl u8T) .nil
def inT:Tys:=(Tys.rep 32 u8T).app (.cons (.int .u32) (.cons (.sl u8T) (.cons (.int .u32) (.cons (.sl rowT) .nil))))
def ouT:Tys:=.cons (.int .i64) (.cons (.sl u8T) .nil)
def txT:Tys:=.cons (.int .i32) (.cons (.sl inT) (.cons (.sl ouT) (.cons (.int .u32) .nil)))
def bzT:Tys→Nat
 | .cons (.int .u8) .nil=>1
 | .cons (.sl (.cons (.int .u8) .nil)) .nil=>24
 | .cons (.int .i64) (.cons (.sl (.cons (.int .u8) .nil)) .nil)=>32
 | .cons (.int .u8) (.cons _ (.cons _ (.cons _ (.cons _ (.cons _ (.cons _ (.cons _ (.cons _ r))))))))=>if r.len=27 then 96 else 0
 |_=>0
theorem bz_row:bzT rowT=24:=rfl
theorem bz_u8:bzT u8T=1:=rfl
end Go.Proofs
namespace Go.Proofs
open Go.Vc
set_option maxRecDepth 10000
theorem appO4 {w:World}{base el size bytes:Nat}{z:List Value}{v:Value}{ids ids2:List (Array Value)}{q:Option Addr}{m c2:Nat}{K:Value→World→Prop}(h:OwnO w base el size v ids)
  (hr:rdS w size (.slice q m c2)=some (ids2.flatMap Array.toList).toArray) (hm:ids2.length=m) (hs2:∀k∈ids2,k.size=size) (hf:∀k∈ids2,flat k)
  (hlen:ids.length+m≤9223372036854775807) (hb:(ids.length+m)*bytes≤140737488355328) (hz:z.length=size) (hbase:base≤w.heap.size) (hs:0<size)
  (hk:∀v' w',OwnO w' base el size v' (ids++ids2)→Keep (Go.Proofs.blk v) w w'→(∀g,Go.Proofs.blk v' g→Go.Proofs.blk v g∨w.heap.size≤g)→K v' w'):
  appV el size bytes z v (.slice q m c2) w K:=by
 have hml:maxLen=9223372036854775807:=rfl
 have hs3:∀k∈ids++ids2,k.size=size:=fun k hk=>by
  rcases List.mem_append.1 hk with hk|hk
  ·exact h.sz k hk
  ·exact hs2 k hk
 have hfl:(ids++ids2).flatMap Array.toList=ids.flatMap Array.toList++ids2.flatMap Array.toList:=by simp
 have hfll:(ids.flatMap Array.toList).length=ids.length*size:=flat_len h.sz
 have hfl2:(ids2.flatMap Array.toList).length=m*size:=by rw[flat_len hs2,hm]
 have hro:=h.rd
 have hl2:(ids++ids2).length=ids.length+m:=by rw[List.length_append,hm]
 have hmul:(ids.length+m)*size=ids.length*size+m*size:=Nat.add_mul _ _ _
 have grow:∀c',ids.length+m≤c'→c'≤maxLen→K (.slice (some ⟨w.heap.size,0,none⟩) (ids.length+m) c')
   (w.drew.alloc (.cells (ids.flatMap Array.toList++ids2.flatMap Array.toList++zrep (c' - (ids.length+m)) z).toArray el)):=by
  intro c' h1 h2
  refine hk _ _ ⟨hs3,.inr ⟨_,0,c',_,by rw[hl2],hbase,heap_new w.drew _ _ rfl,by rw[hl2];exact h1,h2,?_,?_⟩⟩ ?_ ?_
  ·simp only[List.size_toArray,List.length_append,hfll,hfl2,length_zrep,hz]
   rw[Nat.zero_add,←hmul,←Nat.add_mul]
   exact Nat.mul_le_mul_right _ (by omega)
  ·rw[hl2,List.drop_zero,hfl]
   rw[List.take_left']
   rw[List.length_append,hfll,hfl2,hmul]
  ·exact((Keep.refl _ w).drew).alloc _
  ·intro g hg;cases hg;exact .inr (Nat.le_refl _)
 have keep0:∀(q:Option Addr) (c:Nat),v=.slice q ids.length c→m*size=0→K (.slice q (ids.length+m) c) w:=by
  intro q c hv h0
  have hm0:m=0:=by rcases Nat.mul_eq_zero.1 h0 with h|h;exact h;omega
  subst hm0
  have:ids2=[]:=List.eq_nil_of_length_eq_zero hm
  subst this
  rw[Nat.add_zero,←hv]
  refine hk v w ?_ (Keep.refl _ w) fun g hg=>.inl hg
  rw[List.append_nil];exact h
 unfold appV
 obtain⟨q',c,rfl,hcap⟩:=h.is
 simp only[hro,hr,getV_some]
 refine⟨flat_flat hf,by omega,hb,hz,fun hc'=>⟨fun h0=>keep0 _ _ rfl h0,fun h0 b o' hp=>?_⟩,fun hc' h0=>?_,fun _=>grow⟩
 ·subst hp
  obtain⟨_,⟨e,_⟩|⟨g,o,cap,cur,e,hbg,hg,hn,hcm,hle,htake⟩⟩:=h
  ·cases e
  ·injection e with e1 e2 e3
   injection e1 with e1
   injection e1 with e4 e5
   subst e3 e4 e5
   have e6:(ids.length+m)*size≤c*size:=Nat.mul_le_mul_right _ hc'
   rw[hmul] at e6
   refine⟨okN_of hg (by omega),hk _ _ ⟨hs3,.inr ⟨_,_,c,_,by rw[hl2],hbg,heap_putN_eq hg,by rw[hl2];exact hc',hcm,?_,?_⟩⟩ ?_ fun g' hg'=>.inl hg'⟩
   ·simp only[spliceA,List.size_toArray,List.length_append,List.length_take,List.length_drop,Array.length_toList (xs:=cur),hfl2]
    omega
   ·rw[hl2,hfl,←htake]
    simp only[spliceA]
    rw[hmul]
    have hlen1:(cur.toList.take (o'+ids.length*size)).length=o'+ids.length*size:=by rw[List.length_take,Array.length_toList (xs:=cur)];omega
    rw[List.append_assoc,List.drop_append_of_le_length (by rw[hlen1];omega),List.drop_take,Nat.add_sub_cancel_left]
    have hlen2:((cur.toList.drop o').take (ids.length*size)).length=ids.length*size:=by rw[htake,hfll]
    rw[List.take_append,hlen2,List.take_of_length_le (by rw[hlen2];omega),Nat.add_sub_cancel_left,List.take_left' hfl2]
   ·exact(Keep.refl _ w).putN _ fun _=>rfl
 ·obtain⟨_,⟨e,_⟩|⟨g,o,cap,cur,e,_⟩⟩:=h
  ·injection e with e1 e2 e3
   subst e3
   exfalso
   have hm0:m=0:=by omega
   rw[hm0,Nat.zero_mul] at h0
   exact h0 rfl
  ·injection e with e1
   exact⟨_,_,e1⟩
theorem appB2 {w:World}{v x:Value}{bs news:List Int}{K:Value→World→Prop}(h:Own1 w v bs)(hx:Rd w x news)(hlen:bs.length+news.length≤140737488355328)
  (hk:∀v' w',Own1 w' v' (bs++news)→Keep (blk v) w w'→(∀g,blk v' g→blk v g∨w.heap.size≤g)→K v' w'):appV 5 1 1 [.int .u8 0] v x w K:=by
 obtain⟨⟨q,c,rfl,hc⟩,hm,hr⟩:=hx
 have hml:maxLen=9223372036854775807:=rfl
 refine appV_own3 h rfl hr (bv_flat news) (by omega) (by omega) rfl (Nat.zero_le _) (by omega) fun v' w' ho hg hb=>hk v' w' ?_ ?_ hb
 ·have e:bv (bs++news)=bv bs++(bv news).toArray.toList:=by rw[bv_app]
  show w'.ownsRow 0 5 1 v' (bs++news).length (bv (bs++news))
  rw[e,List.length_append];exact ho
 ·exact(Keep.refl _ w).grown hg fun k _ h=>h
theorem copy_ok (w:World)(x:Value)(bs:List Int)(hx:Rd w x bs)(hl:bs.length≤140737488355328):
  Calls Tryz.prog 60 #[x] w (Ret fun u w'=>New w w' u bs):=by
 refine calls_of_cfg c60_ok (Nat.le_of_ble_eq_true rfl) ?_
 simp only[argE_nil,argE_cons,Nat.zero_add]
 iterate 2 (refine W_at c60_ok ⟨_,rfl,?_⟩;simp (disch:=first|omega|assumption|rfl|(simp only[vcS]<;>omega)|fail) only[↓vcN,vcQ,simprocAttr])
 have hN:New w (w.alloc (.cells (bv []).toArray 5)) (.slice (some ⟨w.heap.size,0,none⟩) 0 0) []:=New.lit (by simp [maxLen])
 refine appB2 hN.own (hx.ext hN.ext) (by simp;omega) fun v' w' h1 h2 h3=>?_
 first|(simp (disch:=first|omega|assumption|rfl|(simp only[vcS]<;>omega)|fail) only[↓vcN,vcQ,simprocAttr])|skip
 (refine W_at c60_ok ⟨_,rfl,?_⟩;simp (disch:=first|omega|assumption|rfl|(simp only[vcS]<;>omega)|fail) only[↓vcN,vcQ,simprocAttr,Ret_returned])
 refine⟨h1,hN.ext.trans h2 fun i hi hb=>by have:=hN.new i hb;omega,fun g hg=>?_⟩
 rcases h3 g hg with h|h
 ·exact hN.new g h
 ·exact Nat.le_trans hN.ext.size h
def N1 (m:Nat)(w:World)(v:Value)(bs:List Int):Prop:=Own1 w v bs∧∀g,blk v g→m≤g
theorem N1.keepT {m:Nat}{S:Nat→Prop}{w w':World}{v:Value}{bs:List Int}(h:N1 m w v bs)(k:Keep S w w')(hS:∀g,S g→∀c,w.heap[g]?≠some (.cells c 5 (0,0))):N1 m w' v bs:=
 ⟨h.1.keep k fun g hg hs=>by obtain⟨c,hc⟩:=row_type h.1 hg;exact hS g hs c hc,h.2⟩
theorem N1.ext {m:Nat}{w w':World}{v:Value}{bs:List Int}(h:N1 m w v bs)(k:Ext w w'):N1 m w' v bs:=⟨h.1.ext k,h.2⟩
theorem New.n1 {m:Nat}{w w':World}{v:Value}{bs:List Int}(h:New w w' v bs)(hm:m≤w.heap.size):N1 m w' v bs:=⟨h.own,fun g hg=>Nat.le_trans hm (h.new g hg)⟩
def RowN (m:Nat)(w:World)(v:Value)(ps:List (List Int)):Prop:=∃vs:List Value,OwnO w m 41 1 v (vs.map fun v=>#[v])∧vs.length=ps.length∧∀i (h:i<vs.length) (h':i<ps.length),N1 m w vs[i] ps[i]
theorem RowN.keepT {m:Nat}{S:Nat→Prop}{w w':World}{v:Value}{ps:List (List Int)}(h:RowN m w v ps)(k:Keep S w w')(hS:∀g,S g→∀c,w.heap[g]?≠some (.cells c 5 (0,0))∧w.heap[g]?≠some (.cells c 41 (0,0))):RowN m w' v ps:=by
 obtain⟨vs,h1,h2,h3⟩:=h
 exact⟨vs,h1.keep k fun g hg hs=>by obtain⟨_,c,hc⟩:=h1.blk hg;exact(hS g hs c).2 hc,h2,fun i a b=>(h3 i a b).keepT k fun g hs c=>(hS g hs c).1⟩
theorem RowN.nil (m:Nat)(w:World):RowN m w (.slice none 0 0) []:=⟨[],OwnO.nil _ _ _ _,rfl,fun i h=>by simp at h⟩
theorem RowN.rd {m:Nat}{w:World}{v:Value}{ps:List (List Int)}(h:RowN m w v ps):RowR w v ps:=by
 obtain⟨vs,h1,h2,h3⟩:=h
 have hr:=h1.rd
 rw[flat1_list] at hr
 obtain⟨q,c,e,hc⟩:=h1.is
 rw[List.length_map,h2] at e hc
 have hml:ps.length≤maxLen:=by
  obtain⟨_,⟨_,e2⟩|⟨g,o,cap,cur,e2,_,_,hn,hcm,_⟩⟩:=h1
  ·have:=congrArg List.length e2
   rw[List.length_map,List.length_nil] at this
   omega
  ·rw[List.length_map,h2] at hn;omega
 exact⟨vs,hr,h2,⟨q,c,e,hc⟩,hml,fun i a b=>(h3 i a b).1.rd⟩
set_option maxHeartbeats 800000 in
theorem copies_ok (w:World)(x:Value)(ps:List (List Int))(hx:RowR w x ps)(hl:ps.length*24≤140737488355328)(hb:∀p∈ps,p.length≤140737488355328):
  Calls Tryz.prog 61 #[x] w (Ret fun u w'=>RowN w.heap.size w' u ps∧Ext w w'):=by
 refine calls_of_cfg c61_ok (Nat.le_of_ble_eq_true rfl) ?_
 simp only[argE_nil,argE_cons,Nat.zero_add]
 have hlen:=hx.len
 iterate 3 (refine W_at c61_ok ⟨_,rfl,?_⟩;simp (disch:=first|omega|assumption|rfl|(simp only[vcS]<;>omega)|fail) only[↓vcN,vcQ,simprocAttr])
 have L:∀(k i:Nat) (wj:World) (vo:Value) (tl:Env),k+i=ps.length→Ext w wj→RowN w.heap.size wj vo (ps.take i)→
   W Tryz.prog (Ret fun u w'=>RowN w.heap.size w' u ps∧Ext w w') 61 7 ((0,x)::(3,vo)::(4,.int .i64 (i:Nat))::tl) wj:=by
  intro k
  induction k with
  |zero=>
   intro i wj vo tl hi hE hR
   have hil:¬((i:Int)< (ps.length:Nat)):=by omega
   rw[List.take_of_length_le (by omega)] at hR
   iterate 4 (refine W_at c61_ok ⟨_,rfl,?_⟩;simp (disch:=first|omega|assumption|rfl|(simp only[vcS]<;>omega)|fail) only[↓vcN,vcQ,simprocAttr,hlen,hil,Ret_returned])
   exact⟨hR,hE⟩
  |succ k ih=>
   intro i wj vo tl hi hE hR
   have hi0:i<ps.length:=by omega
   have hil:(i:Int)< (ps.length:Nat):=by omega
   have c3:0≤(i:Int)∧(i:Int)< (ps.length:Nat):=by omega
   have wi:IntKind.i64.wrap ((i:Int)+1)=((i+1:Nat):Int):=wrap_i64 (by omega) (by omega)
   obtain⟨b,o,c,y,rfl,hcell,hy⟩:=(hx.ext hE).at hi0
   iterate 3 (refine W_at c61_ok ⟨_,rfl,?_⟩;simp (disch:=first|omega|assumption|rfl|(simp only[vcS]<;>omega)|fail) only[↓vcN,vcQ,simprocAttr,hlen,hil,c3,Int.toNat_natCast,Nat.mul_one,hcell])
   refine callV_ret (copy_ok wj y _ hy (hb _ (List.getElem_mem hi0))) ?_
   rintro u w1 hu
   have hcu:u.cells=#[u]:=by obtain⟨q,c,e,_⟩:=hu.own.rd.is;rw[e];rfl
   have hcz:(#[u]:Array Value).size=1:=rfl
   have hcl:(#[u]:Array Value).toList=[u]:=rfl
   first|(simp (disch:=first|omega|assumption|rfl|(simp only[vcS]<;>omega)|fail) only[↓vcN,vcQ,simprocAttr,hcu,hcz,hcl])|skip
   obtain⟨vs,h1,h2,h3⟩:=hR
   rw[List.length_take] at h2
   have hll:(vs.map fun v=>(#[v]:Array Value)).length=vs.length:=List.length_map _
   have hEu:=(hE.ext hu.ext).size
   have hOA:OwnO (w1.alloc (.cells #[u] 41)) w.heap.size 41 1 vo (vs.map fun v=>#[v]):=(h1.ext hu.ext).ext ((Keep.refl _ w1).alloc _)
   have hEA:Ext w1 (w1.alloc (.cells #[u] 41)):=(Keep.refl _ w1).alloc _
   have hrA:rdS (w1.alloc (.cells #[u] 41)) 1 (.slice (some ⟨w1.heap.size,0,none⟩) 1 1)=some (([#[u]]:List (Array Value)).flatMap Array.toList).toArray:=by
    simp only[rdS,rdN_heap]
    rw[if_neg (by decide),heap_new w1 _ _ rfl]
    rfl
   refine appO4 (ids2:=[#[u]]) hOA hrA rfl (by simp) (by intro k hk;rw[List.mem_singleton.1 hk,flat_1];exact hu.own.rd.one) (by rw[hll];omega) (by rw[hll];omega) rfl (Nat.le_trans hEu hEA.size) (by decide) fun v' w' k1 k2 k3=>?_
   have hnb:∀g,blk vo g→∀c,(w1.alloc (.cells #[u] 41)).heap[g]?≠some (.cells c 5 (0,0)):=fun g hg c hc=>by
    obtain⟨_,c',hc'⟩:=hOA.blk hg
    rw[hc] at hc';cases hc'
   have hR2:RowN w.heap.size w' v' (ps.take (i+1)):=by
    refine⟨vs++[u],by rw[List.map_append];exact k1,by rw[List.length_append,List.length_take];simp;omega,fun j a b=>?_⟩
    by_cases hj:j<vs.length
    ·rw[List.getElem_append_left hj,List.getElem_take]
     have:=(((h3 j hj (by rw[List.length_take];omega)).ext hu.ext).ext hEA).keepT k2 hnb
     rwa [List.getElem_take] at this
    ·rw[List.length_append,List.length_singleton] at a
     have hje:j=i:=by omega
     subst hje
     rw[List.getElem_append_right (by omega),List.getElem_take]
     have:=((hu.n1 hE.size).ext hEA).keepT k2 hnb
     simpa using this
   have hE2:Ext w w':=((hE.ext hu.ext).ext hEA).trans k2 fun g hg hb=>by have:=(hOA.blk hb).1;omega
   first|(simp (disch:=first|omega|assumption|rfl|(simp only[vcS]<;>omega)|fail) only[↓vcN,vcQ,simprocAttr])|skip
   iterate 2 (refine W_at c61_ok ⟨_,rfl,?_⟩;simp (disch:=first|omega|assumption|rfl|(simp only[vcS]<;>omega)|fail) only[↓vcN,vcQ,simprocAttr,wi])
   exact ih (i+1) w' v' _ (by omega) hE2 hR2
 exact L ps.length 0 w _ _ (by omega) (Keep.refl _ w) (RowN.nil _ _)
end Go.Proofs
namespace Go.Proofs
open Go.Vc
set_option maxRecDepth 10000
structure TxI.Sz (x:TxI):Prop where
 script:x.script.length≤140737488355328
 wit:x.wit.length*24≤140737488355328
 item:∀p∈x.wit,p.length≤140737488355328
structure TxV.Sz (t:TxV):Prop where
 ins:t.ins.length*96≤140737488355328
 outs:t.outs.length*32≤140737488355328
 inp:∀x∈t.ins,x.Sz
 out:∀y∈t.outs,y.script.length≤140737488355328
def InN (m:Nat)(w:World)(c:Array Value)(x:TxI):Prop:=∃sv wv,c=iC x sv wv∧N1 m w sv x.script∧RowN m w wv x.wit
def OuN (m:Nat)(w:World)(c:Array Value)(y:TxO):Prop:=∃sv,c=oC y sv∧N1 m w sv y.script
def ListN {α:Type}(R:Nat→World→Array Value→α→Prop)(T size:Nat)(m:Nat)(w:World)(v:Value)(l:List α):Prop:=
 ∃cs:List (Array Value),cs.length=l.length∧OwnO w m T size v cs∧∀i (h:i<cs.length) (h':i<l.length),R m w cs[i] l[i]
abbrev InsN (m:Nat)(w:World)(v:Value)(l:List TxI):Prop:=ListN InN 61 36 m w v l
abbrev OusN (m:Nat)(w:World)(v:Value)(l:List TxO):Prop:=ListN OuN 63 2 m w v l
theorem InN.keepT {m:Nat}{S:Nat→Prop}{w w':World}{c:Array Value}{x:TxI}(h:InN m w c x)(k:Keep S w w')(hS:∀g,S g→∀c,w.heap[g]?≠some (.cells c 5 (0,0))∧w.heap[g]?≠some (.cells c 41 (0,0))):InN m w' c x:=by
 obtain⟨sv,wv,h1,h2,h3⟩:=h
 exact⟨sv,wv,h1,h2.keepT k fun g hs c=>(hS g hs c).1,h3.keepT k hS⟩
theorem OuN.keepT {m:Nat}{S:Nat→Prop}{w w':World}{c:Array Value}{y:TxO}(h:OuN m w c y)(k:Keep S w w')(hS:∀g,S g→∀c,w.heap[g]?≠some (.cells c 5 (0,0))):OuN m w' c y:=by
 obtain⟨sv,h1,h2⟩:=h
 exact⟨sv,h1,h2.keepT k hS⟩
theorem InN.ext {m:Nat}{w w':World}{c:Array Value}{x:TxI}(h:InN m w c x)(k:Ext w w'):InN m w' c x:=h.keepT k fun _ h=>h.elim
theorem OuN.ext {m:Nat}{w w':World}{c:Array Value}{y:TxO}(h:OuN m w c y)(k:Ext w w'):OuN m w' c y:=h.keepT k fun _ h=>h.elim
theorem ListN.keepT {α:Type}{R:Nat→World→Array Value→α→Prop}{T size m:Nat}{S:Nat→Prop}{w w':World}{v:Value}{l:List α}(h:ListN R T size m w v l)(k:Keep S w w')(hS:∀g,S g→∀c,w.heap[g]?≠some (.cells c T (0,0)))(hR:∀c x,R m w c x→R m w' c x):ListN R T size m w' v l:=by
 obtain⟨cs,h1,h2,h3⟩:=h
 exact⟨cs,h1,h2.keep k fun g hg hs=>by obtain⟨_,c,hc⟩:=h2.blk hg;exact hS g hs c hc,fun i a b=>hR _ _ (h3 i a b)⟩
theorem InsN.ext {m:Nat}{w w':World}{v:Value}{l:List TxI}(h:InsN m w v l)(k:Ext w w'):InsN m w' v l:=ListN.keepT h k (fun _ h=>h.elim) fun _ _ h=>h.ext k
theorem OusN.ext {m:Nat}{w w':World}{v:Value}{l:List TxO}(h:OusN m w v l)(k:Ext w w'):OusN m w' v l:=ListN.keepT h k (fun _ h=>h.elim) fun _ _ h=>h.ext k
theorem ListN.nil {α:Type}(R:Nat→World→Array Value→α→Prop)(T size m:Nat)(w:World):ListN R T size m w (.slice none 0 0) []:=⟨[],rfl,OwnO.nil _ _ _ _,fun i h=>by simp at h⟩
theorem ListN.one {α:Type}{R:Nat→World→Array Value→α→Prop}{T size m:Nat}{w:World}{v:Value}{l:List α}(h:ListN R T size m w v l):v.oneCell'=true:=by
 obtain⟨_,_,h,_⟩:=h;exact h.one
theorem InN.at {m:Nat}{w:World}{c:Array Value}{x:TxI}(h:InN m w c x):InAt w c x:=by
 obtain⟨sv,wv,h1,h2,h3⟩:=h
 exact⟨sv,wv,h1,h2.1.rd,h3.rd⟩
theorem OuN.at {m:Nat}{w:World}{c:Array Value}{y:TxO}(h:OuN m w c y):OuAt w c y:=by
 obtain⟨sv,h1,h2⟩:=h
 exact⟨sv,h1,h2.1.rd⟩
theorem ListN.app {α:Type}{R:Nat→World→Array Value→α→Prop}{T size m bytes:Nat}{z:List Value}{w:World}{v:Value}{l:List α}{c:Array Value}{x:α}{K:Value→World→Prop}(h:ListN R T size m w v l)(hc:R m w c x)(hcs:c.size=size)(hcf:flat c)
  (hb:(l.length+1)*bytes≤140737488355328) (hl:l.length<9223372036854775807) (hz:z.length=size) (hs:0<size) (hm:m≤w.heap.size)
  (hR:∀(S:Nat→Prop) w1 w2 c x,Keep S w1 w2→(∀g,S g→∃c,w1.heap[g]?=some (.cells c T (0,0)))→R m w1 c x→R m w2 c x)
  (hk:∀v' w',ListN R T size m w' v' (l++[x])→Ext w (w.alloc (.cells c T))→Keep (blk v) w w'→(∀g,blk v' g→blk v g∨w.heap.size≤g)→K v' w'):
  appV T size bytes z v (.slice (some ⟨w.heap.size,0,none⟩) 1 1) (w.alloc (.cells c T)) K:=by
 obtain⟨cs,h1,h2,h3⟩:=h
 have hEA:Ext w (w.alloc (.cells c T)):=(Keep.refl _ w).alloc _
 have hOA:=h2.ext hEA
 have hrA:rdS (w.alloc (.cells c T)) size (.slice (some ⟨w.heap.size,0,none⟩) 1 1)=some (([c]:List (Array Value)).flatMap Array.toList).toArray:=by
  simp only[rdS,rdN_heap]
  rw[if_neg (by omega),heap_new w _ _ rfl,Nat.one_mul]
  rw[rdO_all _ _ _ _ hcs]
  simp
 refine appO4 (ids2:=[c]) hOA hrA rfl (by intro k hk;rw[List.mem_singleton.1 hk];exact hcs) (by intro k hk;rw[List.mem_singleton.1 hk];exact hcf) (by omega) (by rw[h1];exact hb) hz (Nat.le_trans hm hEA.size) hs fun v' w' k1 k2 k3=>?_
 have hSb:∀g,blk v g→∃c',(w.alloc (.cells c T)).heap[g]?=some (.cells c' T (0,0)):=fun g hg=>(hOA.blk hg).2
 refine hk v' w' ⟨cs++[c],by simp [h1],k1,fun i a b=>?_⟩ hEA ((hEA.mono fun _ h=>h.elim).trans k2 fun _ _ h=>h) fun g hg=>?_
 ·by_cases hi:i<cs.length
  ·rw[List.getElem_append_left hi,List.getElem_append_left (by omega)]
   exact hR _ _ _ _ _ k2 hSb (hR _ _ _ _ _ hEA (fun _ h=>h.elim) (h3 i hi (by omega)))
  ·rw[List.length_append,List.length_singleton] at a
   have hie:i=cs.length:=by omega
   subst hie
   rw[List.getElem_append_right (by omega),List.getElem_append_right (by omega)]
   have:=hR _ _ _ _ _ k2 hSb (hR _ _ _ _ _ hEA (fun _ h=>h.elim) hc)
   simpa using this
 ·rcases k3 g hg with h|h
  ·exact .inl h
  ·exact .inr (by rw[size_alloc] at h;omega)
theorem InN.kT {m:Nat}(S:Nat→Prop)(w1 w2:World)(c:Array Value)(x:TxI)(k:Keep S w1 w2)(hS:∀g,S g→∃c,w1.heap[g]?=some (.cells c 61 (0,0)))(h:InN m w1 c x):InN m w2 c x:=
 h.keepT k fun g hs c=>by obtain⟨c',hc⟩:=hS g hs;rw[hc];exact⟨fun e=>(by cases e),fun e=>(by cases e)⟩
theorem OuN.kT {m:Nat}(S:Nat→Prop)(w1 w2:World)(c:Array Value)(y:TxO)(k:Keep S w1 w2)(hS:∀g,S g→∃c,w1.heap[g]?=some (.cells c 63 (0,0)))(h:OuN m w1 c y):OuN m w2 c y:=
 h.keepT k fun g hs c=>by obtain⟨c',hc⟩:=hS g hs;rw[hc];exact fun e=>by cases e
end Go.Proofs
namespace Go.Proofs
open Go.Vc
set_option maxRecDepth 10000
theorem iC_33r {o:Option Obj}{a:Nat}{x:TxI}{sv wv:Value}(hx:x.prev.length=32)(h:rdO o a 36=some (iC x sv wv)):rdO o a 33=some (bv x.prev++[Value.int .u32 x.idx]).toArray:=by
 cases o with
 |none=>cases h
 |some y=>
  cases y with
  |cells c T fr=>
   simp only[rdO] at h⊢
   split at h
   ·rename_i hl
    rw[if_pos (by omega)]
    simp only[Option.some.injEq] at h⊢
    have e:=congrArg (fun r:Array Value=>r.toList.take 33) h
    apply Array.ext'
    simp only[Array.toList_extract,List.extract_eq_take_drop] at e⊢
    rw[show a+33 - a=33 by omega]
    rw[show a+36 - a=36 by omega,List.take_take,show min 33 36=33 from rfl] at e
    rw[e]
    simp only[iC]
    rw[show bv x.prev++[Value.int .u32 x.idx,sv,.int .u32 x.seq,wv]=(bv x.prev++[Value.int .u32 x.idx])++[sv,.int .u32 x.seq,wv] by simp]
    rw[List.take_left' (by simp [bv_len,hx])]
   ·cases h
  |_=>cases h
theorem txC_0 (t:TxV)(iv ov:Value):(txC t iv ov)[0]?=some (.int .i32 t.ver):=rfl
theorem txC_1 (t:TxV)(iv ov:Value):(txC t iv ov)[1]?=some iv:=rfl
theorem txC_2 (t:TxV)(iv ov:Value):(txC t iv ov)[2]?=some ov:=rfl
theorem txC_3 (t:TxV)(iv ov:Value):(txC t iv ov)[3]?=some (.int .u32 t.lock):=rfl
theorem txC_sz (t:TxV)(iv ov:Value):(txC t iv ov).size=4:=rfl
theorem cell_ext {w w':World}{b i:Nat}{x:Value}(h:cellO w.heap[b]? i=some x)(k:Ext w w'):cellO w'.heap[b]? i=some x:=by
 cases hb:w.heap[b]? with
 |none=>rw[hb] at h;simp [cellO] at h
 |some o=>rw[k.at hb (fun h=>h),←hb];exact h
theorem RowN.base {m m':Nat}{w:World}{v:Value}{ps:List (List Int)}(h:RowN m w v ps)(hm:m'≤m):RowN m' w v ps:=by
 obtain⟨vs,h1,h2,h3⟩:=h
 exact⟨vs,h1.base hm,h2,fun i a b=>⟨(h3 i a b).1,fun g hg=>Nat.le_trans hm ((h3 i a b).2 g hg)⟩⟩
theorem ListN.blkT {α:Type}{R:Nat→World→Array Value→α→Prop}{T size m:Nat}{w:World}{v:Value}{l:List α}(h:ListN R T size m w v l){g:Nat}(hg:blk v g):m≤g∧∃c,w.heap[g]?=some (.cells c T (0,0)):=by
 obtain⟨_,_,h,_⟩:=h
 exact h.blk hg
theorem iC_cat (x:TxI)(u v:Value):(bv x.prev++[Value.int .u32 x.idx]).toArray++(#[u]++#[Value.int .u32 x.seq,v])=iC x u v:=by
 apply Array.ext'
 simp [iC]
theorem getV_if {p:Prop}[Decidable p]{α:Type}{x:α}{K:α→Prop}(hp:p)(h:K x):getV (if p then some x else none) K:=by rw[if_pos hp,getV_some];exact h
theorem InsN.setT {m:Nat}{w w':World}{v:Value}{l:List TxI}{p:Nat}{c:Array Value}{T:TypeId}(h:InsN m w v l)(k:Keep (fun g=>g=p) w w')(hp:w.heap[p]?=some (.cells c T (0,0)))(h1:T≠5)(h2:T≠41)(h3:T≠61):InsN m w' v l:=
 ListN.keepT h k (fun g hg c' e=>by subst hg;rw[hp] at e;injection e with e;injection e with _ e;exact h3 e) fun _ _ hR=>InN.keepT hR k fun g hg c'=>by
  subst hg
  rw[hp]
  exact⟨fun e=>by injection e with e;injection e with _ e;exact h1 e,fun e=>by injection e with e;injection e with _ e;exact h2 e⟩
theorem OusN.setT {m:Nat}{w w':World}{v:Value}{l:List TxO}{p:Nat}{c:Array Value}{T:TypeId}(h:OusN m w v l)(k:Keep (fun g=>g=p) w w')(hp:w.heap[p]?=some (.cells c T (0,0)))(h1:T≠5)(h3:T≠63):OusN m w' v l:=
 ListN.keepT h k (fun g hg c' e=>by subst hg;rw[hp] at e;injection e with e;injection e with _ e;exact h3 e) fun _ _ hR=>OuN.keepT hR k fun g hg c'=>by
  subst hg
  rw[hp]
  exact fun e=>by injection e with e;injection e with _ e;exact h1 e
structure CP (w wj:World)(p1 p2 p3:Nat)(t:TxV)(iv ov vi vo:Value)(li:List TxI)(lo:List TxO):Prop where
 ext:Ext w wj
 c1:wj.heap[p1]?=some (.cells (txC t iv ov) 33 (0,0))
 c2:∃c,wj.heap[p2]?=some (.cells c 33 (0,0))∧c.size=4
 c3:wj.heap[p3]?=some (.cells (txC t vi vo) 33 (0,0))
 ins:InsN w.heap.size wj vi li
 outs:OusN w.heap.size wj vo lo
 l1:w.heap.size≤p1
 l2:p1<p2
 l3:p2<p3
theorem CP.keep {w wj w':World}{p1 p2 p3:Nat}{t:TxV}{iv ov vi vo:Value}{li:List TxI}{lo:List TxO}(h:CP w wj p1 p2 p3 t iv ov vi vo li lo)(k:Ext wj w'):CP w w' p1 p2 p3 t iv ov vi vo li lo:=by
 obtain⟨c,h2,h3⟩:=h.c2
 exact⟨h.ext.ext k,k.at h.c1 (fun h=>h),⟨c,k.at h2 (fun h=>h),h3⟩,k.at h.c3 (fun h=>h),InsN.ext h.ins k,OusN.ext h.outs k,h.l1,h.l2,h.l3⟩
theorem InsN.keepS {m:Nat}{S:Nat→Prop}{w w':World}{v:Value}{l:List TxI}{T:TypeId}(h:InsN m w v l)(k:Keep S w w')(hp:∀g,S g→∃c,w.heap[g]?=some (.cells c T (0,0)))(h1:T≠5)(h2:T≠41)(h3:T≠61):InsN m w' v l:=
 ListN.keepT h k (fun g hg c' e=>by obtain⟨c,hc⟩:=hp g hg;rw[hc] at e;injection e with e;injection e with _ e;exact h3 e) fun _ _ hR=>InN.keepT hR k fun g hg c'=>by
  obtain⟨c,hc⟩:=hp g hg
  rw[hc]
  exact⟨fun e=>by injection e with e;injection e with _ e;exact h1 e,fun e=>by injection e with e;injection e with _ e;exact h2 e⟩
theorem OusN.keepS {m:Nat}{S:Nat→Prop}{w w':World}{v:Value}{l:List TxO}{T:TypeId}(h:OusN m w v l)(k:Keep S w w')(hp:∀g,S g→∃c,w.heap[g]?=some (.cells c T (0,0)))(h1:T≠5)(h3:T≠63):OusN m w' v l:=
 ListN.keepT h k (fun g hg c' e=>by obtain⟨c,hc⟩:=hp g hg;rw[hc] at e;injection e with e;injection e with _ e;exact h3 e) fun _ _ hR=>OuN.keepT hR k fun g hg c'=>by
  obtain⟨c,hc⟩:=hp g hg
  rw[hc]
  exact fun e=>by injection e with e;injection e with _ e;exact h1 e
theorem at_T {S:Nat→Prop}{w w':World}{g:Nat}{c:Array Value}{T T':TypeId}(k:Keep S w w')(hp:∀g,S g→∃c,w.heap[g]?=some (.cells c T' (0,0)))(h:w.heap[g]?=some (.cells c T (0,0)))(hT:T≠T'):w'.heap[g]?=some (.cells c T (0,0)):=
 k.at h fun hs=>by obtain⟨c',hc⟩:=hp g hs;rw[h] at hc;injection hc with e;injection e with _ e;exact hT e
theorem CP.put1 {w w7 w8:World}{p1 p2 p3:Nat}{t:TxV}{iv ov vi vo v':Value}{li li':List TxI}{lo:List TxO}(h:CP w w7 p1 p2 p3 t iv ov vi vo li lo)(k:Keep (blk vi) w7 w8)(hi:InsN w.heap.size w8 v' li'):
  v'.oneCell'=true∧wr1 w8 p3 1∧CP w (w8.setCell ⟨p3,1,none⟩ v') p1 p2 p3 t iv ov v' vo li' lo:=by
 have hS:∀g,blk vi g→∃c,w7.heap[g]?=some (.cells c 61 (0,0)):=fun g hg=>(ListN.blkT h.ins hg).2
 have d3:=at_T k hS h.c3 (by decide)
 have d1:=at_T k hS h.c1 (by decide)
 obtain⟨c2,h2,h2s⟩:=h.c2
 have d2:=at_T k hS h2 (by decide)
 have hk2:Keep (fun g=>g=p3) w8 (w8.setCell ⟨p3,1,none⟩ v'):=(Keep.refl _ w8).setCell _ fun _=>rfl
 have l1:=h.l1
 have l2:=h.l2
 have l3:=h.l3
 refine⟨ListN.one hi,wr1_of d3 (by rw[txC_sz];decide),(h.ext.trans k fun g hg hb=>by have:=(ListN.blkT h.ins hb).1;omega).trans hk2 fun g hg e=>by omega,hk2.at d1 (by omega),⟨c2,hk2.at d2 (by omega),h2s⟩,?_,InsN.setT hi hk2 d3 (by decide) (by decide) (by decide),OusN.setT (OusN.keepS h.outs k hS (by decide) (by decide)) hk2 d3 (by decide) (by decide),l1,l2,l3⟩
 rw[heap_setCell_eq d3];rfl
theorem CP.put2 {w w7 w8:World}{p1 p2 p3:Nat}{t:TxV}{iv ov vi vo v':Value}{li:List TxI}{lo lo':List TxO}(h:CP w w7 p1 p2 p3 t iv ov vi vo li lo)(k:Keep (blk vo) w7 w8)(hi:OusN w.heap.size w8 v' lo'):
  v'.oneCell'=true∧wr1 w8 p3 2∧CP w (w8.setCell ⟨p3,2,none⟩ v') p1 p2 p3 t iv ov vi v' li lo':=by
 have hS:∀g,blk vo g→∃c,w7.heap[g]?=some (.cells c 63 (0,0)):=fun g hg=>(ListN.blkT h.outs hg).2
 have d3:=at_T k hS h.c3 (by decide)
 have d1:=at_T k hS h.c1 (by decide)
 obtain⟨c2,h2,h2s⟩:=h.c2
 have d2:=at_T k hS h2 (by decide)
 have hk2:Keep (fun g=>g=p3) w8 (w8.setCell ⟨p3,2,none⟩ v'):=(Keep.refl _ w8).setCell _ fun _=>rfl
 have l1:=h.l1
 have l2:=h.l2
 have l3:=h.l3
 refine⟨ListN.one hi,wr1_of d3 (by rw[txC_sz];decide),(h.ext.trans k fun g hg hb=>by have:=(ListN.blkT h.outs hb).1;omega).trans hk2 fun g hg e=>by omega,hk2.at d1 (by omega),⟨c2,hk2.at d2 (by omega),h2s⟩,?_,InsN.setT (InsN.keepS h.ins k hS (by decide) (by decide) (by decide)) hk2 d3 (by decide) (by decide) (by decide),OusN.setT hi hk2 d3 (by decide) (by decide),l1,l2,l3⟩
 rw[heap_setCell_eq d3];rfl
set_option maxHeartbeats 3200000 in
theorem rcopy_ok (w:World)(iv ov:Value)(t:TxV)(hT:TxR w iv ov t)(hok:t.Ok)(hsz:t.Sz):
  Calls Tryz.prog 22 #[.agg (txC t iv ov)] w (Ret fun u w'=> ∃iv' ov',u=.agg (txC t iv' ov')∧InsN w.heap.size w' iv' t.ins∧OusN w.heap.size w' ov' t.outs∧Ext w w'):=by
 refine calls_of_cfg c22_ok (Nat.le_of_ble_eq_true rfl) ?_
 simp only[argE_nil,argE_cons,Nat.zero_add]
 have hi1:=ListR.one hT.ins
 have ho1:=ListR.one hT.outs
 have hli:=ListR.len hT.ins
 have hlo:=ListR.len hT.outs
 have hfx:flat (txC t iv ov):=by intro y hy;simp only[txC,List.mem_cons,List.not_mem_nil,or_false] at hy;rcases hy with rfl|rfl|rfl|rfl<;>first|rfl|assumption
 have hcx:(Value.agg (txC t iv ov)).cells=txC t iv ov:=rfl
 have hzx:(txC t iv ov).size=4:=rfl
 (refine W_at c22_ok ⟨_,rfl,?_⟩;simp (disch:=first|omega|assumption|rfl|(simp only[vcS]<;>omega)|fail) only[↓vcN,vcQ,simprocAttr,hcx])
 have hE1:Ext w (w.alloc (.cells (txC t iv ov) 33)):=(Keep.refl _ w).alloc _
 have c1:(w.alloc (.cells (txC t iv ov) 33)).heap[w.heap.size]?=some (.cells (txC t iv ov) 33 (0,0)):=heap_new _ _ _ rfl
 have s1:(w.alloc (.cells (txC t iv ov) 33)).heap.size=w.heap.size+1:=size_alloc _ _
 generalize World.alloc w _=w1 at hE1 c1 s1⊢
 have hE2:Ext w1 (w1.alloc (.cells (zc [(1,.int .i32 0),(2,.slice none 0 0),(1,.int .u32 0)]) 33)):=(Keep.refl _ w1).alloc _
 have c2:(w1.alloc (.cells (zc [(1,.int .i32 0),(2,.slice none 0 0),(1,.int .u32 0)]) 33)).heap[w1.heap.size]?=some (.cells (zc [(1,.int .i32 0),(2,.slice none 0 0),(1,.int .u32 0)]) 33 (0,0)):=heap_new _ _ _ rfl
 have s2:(w1.alloc (.cells (zc [(1,.int .i32 0),(2,.slice none 0 0),(1,.int .u32 0)]) 33)).heap.size=w1.heap.size+1:=size_alloc _ _
 generalize World.alloc w1 _=w2 at hE2 c2 s2⊢
 rw[s1] at c2 s2
 generalize hp1:w.heap.size=p1 at c1 c2 s1 s2⊢
 generalize hp2:p1+1=p2 at c2 s2 s1⊢
 have c12:=hE2.at c1 (fun h=>h)
 (refine W_at c22_ok ⟨_,rfl,?_⟩;simp (disch:=first|omega|assumption|rfl|(simp only[vcS]<;>omega)|fail) only[↓vcN,vcQ,simprocAttr,c12,txC_0,txC_3])
 have e3:#[Value.int IntKind.i32 t.ver]++(zc [(2,Value.slice none 0 0)]++#[Value.int IntKind.u32 t.lock])=txC t (.slice none 0 0) (.slice none 0 0):=rfl
 rw[e3]
 have hf3:flat (txC t (.slice none 0 0) (.slice none 0 0)):=by intro y hy;simp only[txC,List.mem_cons,List.not_mem_nil,or_false] at hy;rcases hy with rfl|rfl|rfl|rfl<;>rfl
 refine⟨rfl,hf3,by decide,?_⟩
 have hE3:Ext w2 ((w2.alloc (.cells (zc [(1,.int .i32 0),(2,.slice none 0 0),(1,.int .u32 0)]) 33)).putN w2.heap.size 0 (txC t (.slice none 0 0) (.slice none 0 0))):=((Keep.refl _ w2).alloc _).putN _ (by intro hh;exfalso;omega)
 have c3:((w2.alloc (.cells (zc [(1,.int .i32 0),(2,.slice none 0 0),(1,.int .u32 0)]) 33)).putN w2.heap.size 0 (txC t (.slice none 0 0) (.slice none 0 0))).heap[w2.heap.size]?=some (.cells (txC t (.slice none 0 0) (.slice none 0 0)) 33 (0,0)):=by
  rw[heap_putN_eq (heap_new _ _ _ rfl),splice_all (by rw[txC_sz];rfl)]
 generalize World.putN _ _ _ _=w3 at hE3 c3⊢
 generalize hp3:w2.heap.size=p3 at c3 s2⊢
 have hP0:CP w w3 p1 p2 p3 t iv ov (.slice none 0 0) (.slice none 0 0) [] []:=
  ⟨(hE1.ext hE2).ext hE3,hE3.at c12 (fun h=>h),⟨_,hE3.at c2 (fun h=>h),by decide⟩,c3,ListN.nil _ _ _ _ _,ListN.nil _ _ _ _ _,by omega,by omega,by omega⟩
 clear hE1 hE2 hE3 c1 c2 c3 c12 hf3 e3
 (refine W_at c22_ok ⟨_,rfl,?_⟩;simp (disch:=first|omega|assumption|rfl|(simp only[vcS]<;>omega)|fail) only[↓vcN,vcQ,simprocAttr])
 have L2:∀(vi:Value) (k i:Nat) (wj:World) (vo:Value) (tl:Env),k+i=t.outs.length→CP w wj p1 p2 p3 t iv ov vi vo t.ins (t.outs.take i)→
   W Tryz.prog (Ret fun u w'=> ∃iv' ov',u=.agg (txC t iv' ov')∧InsN p1 w' iv' t.ins∧OusN p1 w' ov' t.outs∧Ext w w') 22 7 ((1,.pointer (some ⟨p1,0,none⟩))::(2,.pointer (some ⟨p2,0,none⟩))::(3,.pointer (some ⟨p3,0,none⟩))::(6,.int .i64 (i:Nat))::tl) wj:=by
  intro vi k
  induction k with
  |zero=>
   intro i wj vo tl hi hP
   have hil:¬((i:Int)< (t.outs.length:Nat)):=by omega
   rw[List.take_of_length_le (by omega)] at hP
   have d1:=hP.c1
   have d3:=hP.c3
   obtain⟨cc,d2,hcc⟩:=hP.c2
   have r4:rdO (some (.cells (txC t vi vo) 33 (0,0))) 0 4=some (txC t vi vo):=rdO_all _ _ _ _ rfl
   have z4:=txC_sz t vi vo
   have o4:okO (some (.cells cc 33 (0,0))) 0 4=True:=by simp only[okO,hcc];simp
   iterate 3 (refine W_at c22_ok ⟨_,rfl,?_⟩;simp (disch:=first|omega|assumption|rfl|(simp only[vcS]<;>omega)|fail) only[↓vcN,vcQ,simprocAttr,d1,txC_2,hlo,hil,d3,r4,z4,d2,o4])
   have hfl:flat (txC t vi vo):=by
    have a1:=ListN.one hP.ins
    have a2:=ListN.one hP.outs
    intro y hy;simp only[txC,List.mem_cons,List.not_mem_nil,or_false] at hy;rcases hy with rfl|rfl|rfl|rfl<;>first|rfl|assumption
   refine⟨hfl,?_⟩
   have hk2:Keep (fun g=>g=p2) wj (wj.putN p2 0 (txC t vi vo)):=(Keep.refl _ wj).putN _ fun _=>rfl
   have d9:(wj.putN p2 0 (txC t vi vo)).heap[p2]?=some (.cells (txC t vi vo) 33 (0,0)):=by
    rw[heap_putN_eq d2,splice_all (by rw[hcc,txC_sz])]
   have l1:=hP.l1
   have l2:=hP.l2
   (refine W_at c22_ok ⟨_,rfl,?_⟩;simp (disch:=first|omega|assumption|rfl|(simp only[vcS]<;>omega)|fail) only[↓vcN,vcQ,simprocAttr,d9,r4,Ret_returned])
   rw[←hp1]
   exact⟨vi,vo,rfl,InsN.setT hP.ins hk2 d2 (by decide) (by decide) (by decide),OusN.setT hP.outs hk2 d2 (by decide) (by decide),hP.ext.trans hk2 fun g hg e=>by omega⟩
  |succ k ih=>
   intro i wj vo tl hi hP
   have hi0:i<t.outs.length:=by omega
   have hil:((i:Int)< (t.outs.length:Nat)):=by omega
   have d1:=hP.c1
   have d3:=hP.c3
   have c3:0≤(i:Int)∧(i:Int)< (t.outs.length:Nat):=by omega
   obtain⟨b,o,c,cs,hov,hrd,hcs,sv,rfl,hsv⟩:=(ListR.ext hT.outs hP.ext fun _ _ h=>h.ext hP.ext).at hi0
   have hoo:=hok.outs _ (List.getElem_mem hi0)
   have hzo:=hsz.out _ (List.getElem_mem hi0)
   have q0:=rdO_cell hrd (j:=0) (by omega)
   have q1:=rdO_cell hrd (j:=1) (by omega)
   have q0':(oC t.outs[i] sv)[0]?=some (.int .i64 t.outs[i].val):=rfl
   have q1':(oC t.outs[i] sv)[1]?=some sv:=rfl
   rw[q0',Nat.add_zero] at q0
   rw[q1'] at q1
   iterate 3 (refine W_at c22_ok ⟨_,rfl,?_⟩;simp (disch:=first|omega|assumption|rfl|(simp only[vcS]<;>omega)|fail) only[↓vcN,vcQ,simprocAttr,d1,txC_2,hlo,hil,d3,hov,c3,Int.toNat_natCast,q0,q1])
   have hEd:Ext wj wj.drew:=(Keep.refl _ wj).drew
   refine callV_ret (copy_ok wj.drew sv _ (hsv.ext hEd) hzo) ?_
   rintro u6 w6 hu6
   have hE6:Ext wj w6:=hEd.ext hu6.ext
   have d16:=hE6.at d1 (fun h=>h)
   have d36:=hE6.at d3 (fun h=>h)
   have q06:=cell_ext q0 hE6
   have hc6:u6.cells=#[u6]:=by obtain⟨q,c,e,_⟩:=hu6.own.rd.is;rw[e];rfl
   have hz6:(#[u6]:Array Value).size=1:=rfl
   have hz7:(#[Value.int .i64 t.outs[i].val]++#[u6]:Array Value).size=2:=rfl
   have hl7:(#[Value.int .i64 t.outs[i].val]++#[u6]:Array Value).toList++[]=(oC t.outs[i] u6).toList:=rfl
   first|(simp (disch:=first|omega|assumption|rfl|(simp only[vcS]<;>omega)|fail) only[↓vcN,vcQ,simprocAttr,d16,d36,txC_2,hov,q06,hc6,hz6])|skip
   have hP6:=hP.keep hE6
   have hcs2:([Value.int .i64 t.outs[i].val,u6]++[]).toArray=oC t.outs[i] u6:=rfl
   rw[hcs2]
   have hEA:Ext w6 (w6.alloc (.cells (oC t.outs[i] u6) 63)):=(Keep.refl _ w6).alloc _
   refine⟨by rw[hEA.at d36 (fun h=>h)];rfl,?_⟩
   refine ListN.app hP6.outs (x:=t.outs[i]) ⟨u6,rfl,hu6.n1 ((hP.keep hEd).ext.size)⟩ rfl (oC_flat hu6.own.rd.one) ?_ ?_ rfl (by decide) hP6.ext.size OuN.kT fun v' w8 g1 g2 g3 g4=>?_
   ·rw[List.length_take];have:=hsz.outs;omega
   ·rw[List.length_take];have:=hsz.outs;omega
   obtain⟨k1,k2,hP8⟩:=hP6.put2 g3 g1
   refine⟨k1,k2,?_⟩
   have wi:IntKind.i64.wrap ((i:Int)+1)=((i+1:Nat):Int):=wrap_i64 (by omega) (by have:=hsz.outs;omega)
   rw[←List.take_succ_eq_append_getElem hi0] at hP8
   iterate 2 (refine W_at c22_ok ⟨_,rfl,?_⟩;simp (disch:=first|omega|assumption|rfl|(simp only[vcS]<;>omega)|fail) only[↓vcN,vcQ,simprocAttr,wi])
   exact ih (i+1) _ v' _ (by omega) hP8
 have L1:∀(k i:Nat) (wj:World) (vi:Value) (tl:Env),k+i=t.ins.length→CP w wj p1 p2 p3 t iv ov vi (.slice none 0 0) (t.ins.take i) []→
   W Tryz.prog (Ret fun u w'=> ∃iv' ov',u=.agg (txC t iv' ov')∧InsN p1 w' iv' t.ins∧OusN p1 w' ov' t.outs∧Ext w w') 22 14 ((1,.pointer (some ⟨p1,0,none⟩))::(2,.pointer (some ⟨p2,0,none⟩))::(3,.pointer (some ⟨p3,0,none⟩))::(4,.int .i64 (i:Nat))::tl) wj:=by
  intro k
  induction k with
  |zero=>
   intro i wj vi tl hi hP
   have hil:¬((i:Int)< (t.ins.length:Nat)):=by omega
   rw[List.take_of_length_le (by omega)] at hP
   have d1:=hP.c1
   iterate 3 (refine W_at c22_ok ⟨_,rfl,?_⟩;simp (disch:=first|omega|assumption|rfl|(simp only[vcS]<;>omega)|fail) only[↓vcN,vcQ,simprocAttr,d1,txC_1,hli,hil])
   exact L2 vi t.outs.length 0 wj _ _ (by omega) hP
  |succ k ih=>
   intro i wj vi tl hi hP
   have hi0:i<t.ins.length:=by omega
   have hil:((i:Int)< (t.ins.length:Nat)):=by omega
   have d1:=hP.c1
   have d3:=hP.c3
   have c3:0≤(i:Int)∧(i:Int)< (t.ins.length:Nat):=by omega
   obtain⟨b,o,c,cs,hiv,hrd,hcs,sv,wv,rfl,hsv,hwv⟩:=(ListR.ext hT.ins hP.ext fun _ _ h=>h.ext hP.ext).at hi0
   have hoi:=hok.ins _ (List.getElem_mem hi0)
   have hzi:=hsz.inp _ (List.getElem_mem hi0)
   iterate 3 (refine W_at c22_ok ⟨_,rfl,?_⟩;simp (disch:=first|omega|assumption|rfl|(simp only[vcS]<;>omega)|fail) only[↓vcN,vcQ,simprocAttr,d1,txC_1,hli,hil,hiv,c3,Int.toNat_natCast,hrd,hcs])
   have hfi:flat (iC t.ins[i] sv wv):=iC_flat hsv.one (RowR.one hwv)
   have hz36:(zc [(32,Value.int .u8 0),(1,.int .u32 0),(1,.slice none 0 0),(1,.int .u32 0),(1,.slice none 0 0)]).size=36:=rfl
   refine⟨hfi,by omega,?_⟩
   have hE5:Ext wj ((wj.alloc (.cells (zc [(32,.int .u8 0),(1,.int .u32 0),(1,.slice none 0 0),(1,.int .u32 0),(1,.slice none 0 0)]) 61)).putN wj.heap.size 0 (iC t.ins[i] sv wv)):=((Keep.refl _ wj).alloc _).putN _ (by intro hh;exfalso;omega)
   have d5:((wj.alloc (.cells (zc [(32,.int .u8 0),(1,.int .u32 0),(1,.slice none 0 0),(1,.int .u32 0),(1,.slice none 0 0)]) 61)).putN wj.heap.size 0 (iC t.ins[i] sv wv)).heap[wj.heap.size]?=some (.cells (iC t.ins[i] sv wv) 61 (0,0)):=by
    rw[heap_putN_eq (heap_new _ _ _ rfl),splice_all (by rw[hz36,hcs])]
   generalize World.putN _ _ _ _=w5 at hE5 d5⊢
   generalize hp5:wj.heap.size=p5 at d5⊢
   have hP5:=hP.keep hE5
   have d3:=hP5.c3
   have r33:=iC_33r (o:=w5.heap[p5]?) (a:=0) hoi.len (by rw[d5];exact rdO_all _ _ _ _ hcs)
   have g33:=iC_33 hoi.len sv wv
   have g34:=iC_34 hoi.len sv wv
   have g35:=iC_35 hoi.len sv wv
   have r33':=r33
   rw[d5] at r33'
   (refine W_at c22_ok ⟨_,rfl,?_⟩;simp (disch:=first|omega|assumption|rfl|(simp only[vcS]<;>omega)|fail) only[↓vcN,vcQ,simprocAttr,d3,txC_1,d5,r33',g33,g34,g35])
   have hEd:Ext w5 w5.drew:=(Keep.refl _ w5).drew
   refine callV_ret (copy_ok w5.drew sv _ ((hsv.ext hE5).ext hEd) hzi.script) ?_
   rintro u6 w6 hu6
   have hE6:Ext w5 w6:=hEd.ext hu6.ext
   have d36:=hE6.at d3 (fun h=>h)
   have d56:=hE6.at d5 (fun h=>h)
   have hc6:u6.cells=#[u6]:=by obtain⟨q,c,e,_⟩:=hu6.own.rd.is;rw[e];rfl
   first|(simp (disch:=first|omega|assumption|rfl|(simp only[vcS]<;>omega)|fail) only[↓vcN,vcQ,simprocAttr,d36,txC_1,d56,r33',g34,g35])|skip
   refine callV_ret (copies_ok w6 wv _ ((hwv.ext hE5).ext hE6) hzi.wit hzi.item) ?_
   rintro u7 w7 ⟨hu7,hE7⟩
   have d37:=hE7.at d36 (fun h=>h)
   have d57:=hE7.at d56 (fun h=>h)
   have hc7:u7.cells=#[u7]:=by
    obtain⟨vs,h1,_⟩:=hu7
    obtain⟨q,c,e,_⟩:=h1.is
    rw[e];rfl
   have hs33:(bv t.ins[i].prev++[Value.int .u32 t.ins[i].idx]).toArray.size=33:=by simp [bv_len,hoi.len]
   first|(simp (disch:=first|omega|assumption|rfl|(simp only[vcS]<;>omega)|fail) only[↓vcN,vcQ,simprocAttr,d37,txC_1,d57,r33',g34,hc6,hc7,hs33])|skip
   rw[iC_cat]
   refine getV_if (iC_size hoi.len _ _) ?_
   rw[List.append_nil,Array.toArray_toList]
   have hP7:=(hP5.keep hE6).keep hE7
   have hwb:w.heap.size≤w6.heap.size:=(hP5.keep hE6).ext.size
   have hu66:N1 w.heap.size w7 u6 t.ins[i].script:=(hu6.n1 ((hP5.keep hEd).ext.size)).ext hE7
   have hEA:Ext w7 (w7.alloc (.cells (iC t.ins[i] u6 u7) 61)):=(Keep.refl _ w7).alloc _
   have d3A:=hEA.at d37 (fun h=>h)
   refine⟨by rw[d3A];rfl,?_⟩
   refine ListN.app hP7.ins (x:=t.ins[i]) ⟨u6,u7,rfl,hu66,hu7.base hwb⟩ (iC_size hoi.len _ _) (iC_flat hu6.own.rd.one (by obtain⟨_,h1,_⟩:=hu7;exact h1.one)) ?_ ?_ rfl (by decide) hP7.ext.size InN.kT fun v' w8 g1 g2 g3 g4=>?_
   ·rw[List.length_take];have:=hsz.ins;omega
   ·rw[List.length_take];have:=hsz.ins;omega
   obtain⟨q1,q2,hP8⟩:=hP7.put1 g3 g1
   refine⟨q1,q2,?_⟩
   have wi:IntKind.i64.wrap ((i:Int)+1)=((i+1:Nat):Int):=wrap_i64 (by omega) (by have:=hsz.ins;omega)
   rw[←List.take_succ_eq_append_getElem hi0] at hP8
   iterate 2 (refine W_at c22_ok ⟨_,rfl,?_⟩;simp (disch:=first|omega|assumption|rfl|(simp only[vcS]<;>omega)|fail) only[↓vcN,vcQ,simprocAttr,wi])
   exact ih (i+1) _ v' _ (by omega) hP8
 exact L1 t.ins.length 0 w3 _ _ (by omega) hP0
end Go.Proofs
namespace Go.Proofs
open Go.Vc
set_option maxRecDepth 10000
theorem flat_set {size:Nat}{v:Value}:∀{ids:List (Array Value)} {e j:Nat} (_:∀k∈ids,k.size=size) (_:e<ids.length) (_:j<size),
  (ids.set e ((ids[e]?.getD #[]).setIfInBounds j v)).flatMap Array.toList=(ids.flatMap Array.toList).set (e*size+j) v
 |[],e,j,_,h,_=>by simp at h
 |a::ids,0,j,hs,_,hj=>by
  have ha:a.toList.length=size:=by simpa using hs a (by simp)
  simp only[List.set_cons_zero,List.flatMap_cons,Nat.zero_mul,Nat.zero_add,List.getElem?_cons_zero,Option.getD_some,Array.toList_setIfInBounds]
  rw[List.set_append_left _ _ (by omega)]
 |a::ids,e+1,j,hs,he,hj=>by
  have ha:a.toList.length=size:=by simpa using hs a (by simp)
  have ih:=flat_set (v:=v) (ids:=ids) (e:=e) (j:=j) (fun k hk=>hs k (by simp [hk])) (by simpa using he) hj
  simp only[List.set_cons_succ,List.flatMap_cons,List.getElem?_cons_succ]
  rw[ih,List.set_append_right _ _ (by rw[ha,Nat.add_mul];omega),ha]
  congr 2
  rw[Nat.add_mul];omega
theorem OwnO.setc {w:World}{base el size:Nat}{v:Value}{ids:List (Array Value)}(h:OwnO w base el size v ids){e j:Nat}(he:e<ids.length)(hj:j<size)(x:Value):
  ∃g o cap,v=.slice (some ⟨g,o,none⟩) ids.length cap∧Go.Proofs.blk v g∧wr1 w g (o+e*size+j)∧OwnO (w.setCell ⟨g,o+e*size+j,none⟩ x) base el size v (ids.set e (ids[e].setIfInBounds j x)):=by
 have hid:ids[e]?.getD #[]=ids[e]:=by rw[List.getElem?_eq_getElem he];rfl
 obtain⟨hs,⟨rfl,rfl⟩|⟨g,o,cap,cur,rfl,hb,hg,hn,hcm,hle,htake⟩⟩:=h
 ·simp at he
 ·have h1:(e+1)*size≤ids.length*size:=Nat.mul_le_mul_right _ he
  have h2:ids.length*size≤cap*size:=Nat.mul_le_mul_right _ hn
  rw[Nat.add_mul,Nat.one_mul] at h1
  refine⟨g,o,cap,rfl,rfl,wr1_of hg (by omega),fun k hk=>?_,.inr ⟨g,o,cap,_,by rw[List.length_set],hb,heap_setCell_eq hg,by rw[List.length_set];exact hn,hcm,by rw[Array.size_setIfInBounds];exact hle,?_⟩⟩
  ·rcases List.mem_or_eq_of_mem_set hk with hk|rfl
   ·exact hs k hk
   ·rw[Array.size_setIfInBounds];exact hs _ (List.getElem_mem he)
  ·have hf:=flat_set (v:=x) hs he hj
   rw[hid] at hf
   rw[List.length_set,hf,Array.toList_setIfInBounds,←htake,Nat.add_assoc,List.drop_set,if_neg (by omega),Nat.add_sub_cancel_left,List.take_set]
theorem OwnO.take {w:World}{base el size n c:Nat}{q:Option Addr}{ids:List (Array Value)}(h:OwnO w base el size (.slice q n c) ids){l:Nat}(hl:l≤ids.length):OwnO w base el size (.slice q l c) (ids.take l):=by
 obtain⟨hs,⟨e,rfl⟩|⟨g,o,cap,cur,e,hb,hg,hn,hcm,hle,htake⟩⟩:=h
 ·have:l=0:=by simpa using hl
  subst this
  injection e with e1 e2 e3
  subst e1 e3
  exact OwnO.nil w base el size
 ·injection e with e1 e2 e3
  subst e1 e3
  have ht:(ids.take l).length=l:=by rw[List.length_take];omega
  refine⟨fun k hk=>hs k (List.mem_of_mem_take hk),.inr ⟨g,o,c,cur,by rw[ht],hb,hg,by omega,hcm,hle,?_⟩⟩
  rw[ht,←flat_take l hs,←htake,List.take_take]
  congr 1
  have:=Nat.mul_le_mul_right size hl
  omega
def B5 (w:World)(v:Value)(bs:List Int):Prop:=Rd w v bs∧byt bs∧bs.length≤140737488355328∧∀q n c,v=.slice (some q) n c→∃cs,w.heap[q.block]?=some (.cells cs 5 (0,0))
theorem B5.keepT {S:Nat→Prop}{w w':World}{v:Value}{bs:List Int}(h:B5 w v bs)(k:Keep S w w')(hS:∀g,S g→∀c,w.heap[g]?≠some (.cells c 5 (0,0))):B5 w' v bs:=by
 obtain⟨h1,h2,h3,h4⟩:=h
 have hn:∀q n c,v=.slice (some q) n c→¬S q.block:=fun q n c e hs=>by obtain⟨cs,hc⟩:=h4 q n c e;exact hS _ hs cs hc
 exact⟨h1.keep k hn,h2,h3,fun q n c e=>by obtain⟨cs,hc⟩:=h4 q n c e;exact⟨cs,k.at hc (hn q n c e)⟩⟩
theorem B5.cut {w:World}{q:Option Addr}{n c:Nat}{bs:List Int}(h:B5 w (.slice q n c) bs){k:Nat}(hk:k≤n):B5 w (.slice q k c) (bs.take k):=by
 obtain⟨h1,h2,h3,h4⟩:=h
 have h5:=h1.cut (l:=0) (j:=k) (Nat.zero_le _) hk
 rw[advA_0,Nat.sub_zero,Nat.sub_zero,List.drop_zero] at h5
 exact⟨h5,byt_take h2 k,by rw[List.length_take];omega,fun q' n' c' e=>by injection e with e1 e2 e3;exact h4 q' n c (by rw[e1])⟩
theorem N1.b5 {m:Nat}{w:World}{v:Value}{bs:List Int}(h:N1 m w v bs)(hb:byt bs)(hl:bs.length≤140737488355328):B5 w v bs:=
 ⟨h.1.rd,hb,hl,fun q n c e=>by subst e;exact row_type h.1 rfl⟩
def GR (B m:Nat)(w:World)(v:Value)(n:Nat):Prop:=(v=.slice none 0 0∧n=0)∨ ∃g o cap cs,v=.slice (some ⟨g,o,none⟩) n cap∧m≤g∧n≤cap∧n≤maxLen∧w.heap[g]?=some (.cells cs 41 (0,0))∧o+n≤cs.size∧∀k,k<n→∃x b,cs[o+k]?=some x∧B5 w x b∧b.length≤B
theorem GR.keepT {B m n:Nat}{S:Nat→Prop}{w w':World}{v:Value}(h:GR B m w v n)(k:Keep S w w')(hS:∀g,S g→∀c,w.heap[g]?≠some (.cells c 5 (0,0))∧w.heap[g]?≠some (.cells c 41 (0,0))):GR B m w' v n:=by
 rcases h with h|⟨g,o,cap,cs,h1,h2,h3,h4,h5,h6,h7⟩
 ·exact .inl h
 ·exact .inr ⟨g,o,cap,cs,h1,h2,h3,h4,k.at h5 fun hs=>(hS g hs cs).2 h5,h6,fun j hj=>by obtain⟨x,b,hx,hb,hl⟩:=h7 j hj;exact⟨x,b,hx,hb.keepT k fun g hs c=>(hS g hs c).1,hl⟩⟩
theorem GR.set {B m n:Nat}{w:World}{v:Value}(h:GR B m w v n){g0 idx:Nat}{c0:Array Value}{x:Value}{b:List Int}(h0:w.heap[g0]?=some (.cells c0 41 (0,0)))(hx:B5 w x b)(hB:b.length≤B):GR B m (w.setCell ⟨g0,idx,none⟩ x) v n:=by
 have hk:Keep (fun g=>g=g0) w (w.setCell ⟨g0,idx,none⟩ x):=(Keep.refl _ w).setCell _ fun _=>rfl
 have h5:∀g,g=g0→∀c,w.heap[g]?≠some (.cells c 5 (0,0)):=fun g hg c e=>by subst hg;rw[h0] at e;injection e with e;injection e with _ e;exact absurd e (by decide)
 have hx':=hx.keepT hk h5
 rcases h with h|⟨g,o,cap,cs,h1,h2,h3,h4,h8,h6,h7⟩
 ·exact .inl h
 ·by_cases hg:g=g0
  ·subst hg
   rw[h0] at h8
   injection h8 with h8
   injection h8 with h8
   subst h8
   refine .inr ⟨g,o,cap,_,h1,h2,h3,h4,heap_setCell_eq h0,by rw[Array.size_setIfInBounds];exact h6,fun j hj=>?_⟩
   by_cases hi:idx=o+j
   ·exact⟨x,b,by rw[hi,Array.getElem?_setIfInBounds_self_of_lt (by omega)],hx',hB⟩
   ·obtain⟨y,b',hy,hb,hl⟩:=h7 j hj
    exact⟨y,b',by rw[Array.getElem?_setIfInBounds_ne hi];exact hy,hb.keepT hk h5,hl⟩
  ·exact .inr ⟨g,o,cap,cs,h1,h2,h3,h4,hk.at h8 hg,h6,fun j hj=>by obtain⟨y,b',hy,hb,hl⟩:=h7 j hj;exact⟨y,b',hy,hb.keepT hk h5,hl⟩⟩
theorem GR.cut {B m n c:Nat}{w:World}{q:Option Addr}(h:GR B m w (.slice q n c) n){k:Nat}(hk:k≤n):GR B m w (.slice q k c) k:=by
 rcases h with ⟨e,rfl⟩|⟨g,o,cap,cs,h1,h2,h3,h4,h8,h6,h7⟩
 ·have:k=0:=by omega
  subst this
  exact .inl ⟨e,rfl⟩
 ·injection h1 with e1 e2 e3
  subst e1 e3
  exact .inr ⟨g,o,c,cs,rfl,h2,by omega,by omega,h8,by omega,fun j hj=>h7 j (by omega)⟩
theorem RowN.gr {B m:Nat}{w:World}{v:Value}{ps:List (List Int)}(h:RowN m w v ps)(hBB:B≤140737488355328)(hb:∀p∈ps,byt p∧p.length≤B):GR B m w v ps.length:=by
 obtain⟨vs,⟨hs,⟨rfl,e⟩|⟨g,o,cap,cur,rfl,hbs,hg,hn,hcm,hle,htake⟩⟩,h2,h3⟩:=h
 ·have:=congrArg List.length e
  rw[List.length_map,List.length_nil] at this
  exact .inl ⟨rfl,by omega⟩
 ·rw[List.length_map] at hn htake⊢
  rw[flat1_list,Nat.mul_one] at htake
  rw[Nat.mul_one] at hle
  rw[h2] at hn htake⊢
  refine .inr ⟨g,o,cap,cur,rfl,hbs,hn,by omega,hg,by omega,fun j hj=>?_⟩
  have hj2:j<vs.length:=by omega
  refine⟨vs[j],ps[j],?_,(h3 j hj2 hj).b5 (hb _ (List.getElem_mem hj)).1 (Nat.le_trans (hb _ (List.getElem_mem hj)).2 hBB),(hb _ (List.getElem_mem hj)).2⟩
  have:=congrArg (fun l:List Value=>l[j]?) htake
  rw[List.getElem?_take_of_lt hj,List.getElem?_drop,List.getElem?_eq_getElem hj2] at this
  rw[←this,Array.getElem?_toList]
def GP (m:Nat)(w:World)(v:Value)(ps:List (List Int)):Prop:=(v=.slice none 0 0∧ps=[])∨ ∃g o cap cs,v=.slice (some ⟨g,o,none⟩) ps.length cap∧m≤g∧ps.length≤cap∧ps.length≤maxLen∧w.heap[g]?=some (.cells cs 41 (0,0))∧o+ps.length≤cs.size∧∀k (h:k<ps.length),∃x,cs[o+k]?=some x∧B5 w x ps[k]
theorem GP.keepT {m:Nat}{ps:List (List Int)}{S:Nat→Prop}{w w':World}{v:Value}(h:GP m w v ps)(k:Keep S w w')(hS:∀g,S g→∀c,w.heap[g]?≠some (.cells c 5 (0,0))∧w.heap[g]?≠some (.cells c 41 (0,0))):GP m w' v ps:=by
 rcases h with h|⟨g,o,cap,cs,h1,h2,h3,h4,h5,h6,h7⟩
 ·exact .inl h
 ·exact .inr ⟨g,o,cap,cs,h1,h2,h3,h4,k.at h5 fun hs=>(hS g hs cs).2 h5,h6,fun j hj=>by obtain⟨x,hx,hb⟩:=h7 j hj;exact⟨x,hx,hb.keepT k fun g hs c=>(hS g hs c).1⟩⟩
theorem GR.gp {B m n:Nat}{w:World}{v:Value}(h:GR B m w v n):∃ps,ps.length=n∧GP m w v ps∧∀p∈ps,byt p∧p.length≤B:=by
 rcases h with ⟨rfl,rfl⟩|⟨g,o,cap,cs,rfl,h2,h3,h4,h8,h6,h7⟩
 ·exact⟨[],rfl,.inl ⟨rfl,rfl⟩,fun p hp=>by cases hp⟩
 ·obtain⟨ps,hl,hps⟩:=list_choose (p:=fun k b=> ∃x,cs[o+k]?=some x∧B5 w x b∧b.length≤B) (List.range n) (fun k hk=>by obtain⟨x,b,h1,h2⟩:=h7 k (List.mem_range.1 hk);exact⟨b,x,h1,h2⟩)
  rw[List.length_range] at hl
  have hps2:∀k (hk:k<n) (hk':k<ps.length),∃x,cs[o+k]?=some x∧B5 w x ps[k]∧ps[k].length≤B:=fun k hk hk'=>by
   have:=hps k (by simpa using hk) hk'
   simpa using this
  refine⟨ps,hl,.inr ⟨g,o,cap,cs,by rw[hl],h2,by omega,by omega,h8,by omega,fun k hk=>by obtain⟨x,h1,h2,_⟩:=hps2 k (by omega) hk;exact⟨x,h1,h2⟩⟩,fun p hp=>?_⟩
  obtain⟨i,hi,rfl⟩:=List.getElem_of_mem hp
  obtain⟨x,hx,hb,hl⟩:=hps2 i (by omega) hi
  exact⟨hb.2.1,hl⟩
theorem GP.rowR {m:Nat}{w:World}{v:Value}{ps:List (List Int)}(h:GP m w v ps):RowR w v ps:=by
 rcases h with ⟨rfl,rfl⟩|⟨g,o,cap,cs,rfl,h2,h3,h4,h8,h6,h7⟩
 ·exact RowR.nil w
 ·refine⟨(cs.extract o (o+ps.length)).toList,?_,?_,⟨some ⟨g,o,none⟩,cap,rfl,h3⟩,h4,fun i a b=>?_⟩
  ·simp only[rdS,rdN_heap,Nat.mul_one]
   split
   ·rename_i h0;rw[h0];simp
   ·rw[h8,rdO_some _ _ _ _ _ h6,Array.toArray_toList]
  ·rw[Array.length_toList,Array.size_extract];omega
  ·have ha:=a
   rw[Array.length_toList,Array.size_extract] at ha
   obtain⟨x,hx,hb⟩:=h7 i b
   have e:(cs.extract o (o+ps.length)).toList[i]?=some x:=by
    rw[Array.getElem?_toList,Array.getElem?_extract,if_pos (by omega)];exact hx
   rw[List.getElem?_eq_getElem a] at e
   rw[Option.some.inj e]
   exact hb.1
theorem GR.zero {B B' m n c:Nat}{w:World}{q:Option Addr}(h:GR B m w (.slice q n c) n):GR B' m w (.slice q 0 c) 0:=by
 rcases h with ⟨e,rfl⟩|⟨g,o,cap,cs,h1,h2,h3,h4,h8,h6,h7⟩
 ·exact .inl ⟨e,rfl⟩
 ·injection h1 with e1 e2 e3
  subst e1 e3
  exact .inr ⟨g,o,c,cs,rfl,h2,Nat.zero_le _,Nat.zero_le _,h8,by omega,fun j hj=>by omega⟩
theorem GR.snoc {B m j n g o c:Nat}{w:World}{cs:Array Value}{x:Value}{b:List Int}(h:GR B m w (.slice (some ⟨g,o,none⟩) j c) j)(hj:j<n)(hc:n≤c)(hm:n≤maxLen)(hg:w.heap[g]?=some (.cells cs 41 (0,0)))(ho:o+n≤cs.size)(hx:cs[o+j]?=some x)(hb:B5 w x b)(hB:b.length≤B):GR B m w (.slice (some ⟨g,o,none⟩) (j+1) c) (j+1):=by
 rcases h with ⟨e,rfl⟩|⟨g',o',cap,cs',h1,h2,h3,h4,h8,h6,h7⟩
 ·cases e
 ·injection h1 with e1 e2 e3
  injection e1 with e1
  injection e1 with e4 e5
  subst e3 e4 e5
  rw[hg] at h8
  injection h8 with h8
  injection h8 with h8
  subst h8
  refine .inr ⟨g,o,c,cs,rfl,h2,by omega,by omega,hg,by omega,fun k hk=>?_⟩
  by_cases hkj:k=j
  ·subst hkj;exact⟨x,b,hx,hb,hB⟩
  ·exact h7 k (by omega)
end Go.Proofs
namespace Go.Proofs
open Go.Vc
set_option maxRecDepth 10000
theorem ListN.setc {α:Type}{R:Nat→World→Array Value→α→Prop}{T size m:Nat}{w:World}{v:Value}{l:List α}(h:ListN R T size m w v l){g o n cap i j:Nat}(he:v=.slice (some ⟨g,o,none⟩) n cap)(hi:i<l.length)(hj:j<size)(val:Value)(x':α)
  (hnew:∀c,R m w c l[i]→R m (w.setCell ⟨g,o+i*size+j,none⟩ val) (c.setIfInBounds j val) x') (hR:∀c x,R m w c x→R m (w.setCell ⟨g,o+i*size+j,none⟩ val) c x):
  wr1 w g (o+i*size+j)∧ListN R T size m (w.setCell ⟨g,o+i*size+j,none⟩ val) v (l.set i x'):=by
 obtain⟨cs,h1,h2,h3⟩:=h
 obtain⟨g',o',cap',e,hb,hw,hO⟩:=h2.setc (e:=i) (j:=j) (by omega) hj val
 rw[he] at e
 injection e with e1 e2 e3
 injection e1 with e1
 injection e1 with e4 e5
 subst e4 e5
 refine⟨hw,cs.set i (cs[i].setIfInBounds j val),by simp [h1],hO,fun k a b=>?_⟩
 rw[List.length_set] at a b
 by_cases hk:i=k
 ·subst hk
  rw[List.getElem_set_self,List.getElem_set_self]
  exact hnew _ (h3 i (by omega) hi)
 ·rw[List.getElem_set_ne hk,List.getElem_set_ne hk]
  exact hR _ _ (h3 k a b)
theorem ListN.at {α:Type}{R:Nat→World→Array Value→α→Prop}{T size m:Nat}{w:World}{v:Value}{l:List α}(h:ListN R T size m w v l){i:Nat}(hi:i<l.length):
  ∃g o cap c,v=.slice (some ⟨g,o,none⟩) l.length cap∧rdO w.heap[g]? (o+i*size) size=some c∧R m w c l[i]∧m≤g∧∃cur,w.heap[g]?=some (.cells cur T (0,0)):=by
 obtain⟨cs,h1,h2,h3⟩:=h
 obtain⟨g,o,cap,cur,e,hg,hr⟩:=h2.at (j:=i) (by omega)
 rw[h1] at e
 exact⟨g,o,cap,cs[i],e,hr,h3 i (by omega) hi,(h2.blk (g:=g) (by rw[e];rfl)).1,cur,hg⟩
theorem ListN.upd {α:Type}{R:Nat→World→Array Value→α→Prop}{T size m:Nat}{w:World}{v:Value}{l:List α}(h:ListN R T size m w v l){g o n cap i:Nat}(he:v=.slice (some ⟨g,o,none⟩) n cap)(hi:i<l.length)(x':α)
  (hnew:∀c,rdO w.heap[g]? (o+i*size) size=some c→R m w c l[i]→R m w c x'):ListN R T size m w v (l.set i x'):=by
 obtain⟨cs,h1,h2,h3⟩:=h
 obtain⟨g',o',cap',cur,e,hg,hr⟩:=h2.at (j:=i) (by omega)
 rw[he] at e
 injection e with e1 e2 e3
 injection e1 with e1
 injection e1 with e4 e5
 subst e4 e5
 refine⟨cs,by simp [h1],h2,fun k a b=>?_⟩
 rw[List.length_set] at b
 by_cases hk:i=k
 ·subst hk
  rw[List.getElem_set_self]
  exact hnew _ hr (h3 i (by omega) hi)
 ·rw[List.getElem_set_ne hk]
  exact h3 k a b
theorem ListN.len {α:Type}{R:Nat→World→Array Value→α→Prop}{T size m:Nat}{w:World}{v:Value}{l:List α}(h:ListN R T size m w v l):lenR v=some (.int .i64 (l.length:Nat)):=by
 obtain⟨cs,h1,h2,_⟩:=h
 rw[h2.len,h1]
theorem ListN.is {α:Type}{R:Nat→World→Array Value→α→Prop}{T size m:Nat}{w:World}{v:Value}{l:List α}(h:ListN R T size m w v l):∃q c,v=.slice q l.length c∧l.length≤c:=by
 obtain⟨cs,h1,h2,_⟩:=h
 obtain⟨q,c,e,hc⟩:=h2.is
 exact⟨q,c,by rw[e,h1],by omega⟩
theorem ListN.take {α:Type}{R:Nat→World→Array Value→α→Prop}{T size m n c:Nat}{w:World}{q:Option Addr}{l:List α}(h:ListN R T size m w (.slice q n c) l){k:Nat}(hk:k≤l.length):ListN R T size m w (.slice q k c) (l.take k):=by
 obtain⟨cs,h1,h2,h3⟩:=h
 refine⟨cs.take k,by simp [h1],h2.take (by omega),fun i a b=>?_⟩
 rw[List.length_take] at a b
 rw[List.getElem_take,List.getElem_take]
 exact h3 i (by omega) (by omega)
def IG (m:Nat)(w:World)(c:Array Value)(x:TxI):Prop:=∃sv wv n,c=iC x sv wv∧B5 w sv x.script∧GR 140737488355328 m w wv n∧n*24≤140737488355328∧(x.wit.length≤1→n≤3)∧(x.wit=[]→GR 100 m w wv n)
def OG (_:Nat)(w:World)(c:Array Value)(y:TxO):Prop:=∃sv,c=oC y sv∧B5 w sv y.script
theorem IG.keepT {m:Nat}{S:Nat→Prop}{w w':World}{c:Array Value}{x:TxI}(h:IG m w c x)(k:Keep S w w')(hS:∀g,S g→∀c,w.heap[g]?≠some (.cells c 5 (0,0))∧w.heap[g]?≠some (.cells c 41 (0,0))):IG m w' c x:=by
 obtain⟨sv,wv,n,h1,h2,h3,h4,h5⟩:=h
 exact⟨sv,wv,n,h1,h2.keepT k fun g hs c=>(hS g hs c).1,h3.keepT k hS,h4,h5.1,fun e=>(h5.2 e).keepT k hS⟩
theorem OG.keepT {m:Nat}{S:Nat→Prop}{w w':World}{c:Array Value}{y:TxO}(h:OG m w c y)(k:Keep S w w')(hS:∀g,S g→∀c,w.heap[g]?≠some (.cells c 5 (0,0))):OG m w' c y:=by
 obtain⟨sv,h1,h2⟩:=h
 exact⟨sv,h1,h2.keepT k hS⟩
structure FwS (w wj:World)(p3 p6:Nat)(t:TxV)(vi vo:Value)(li:List TxI)(lo:List TxO):Prop where
 ext:Ext w wj
 c3:wj.heap[p3]?=some (.cells (txC t vi vo) 33 (0,0))
 c6:∃c,wj.heap[p6]?=some (.cells c 33 (0,0))∧c.size=4
 ins:ListN IG 61 36 w.heap.size wj vi li
 outs:ListN OG 63 2 w.heap.size wj vo lo
 l3:w.heap.size≤p3
 l6:w.heap.size≤p6
 ne:p3≠p6
 okI:∀x∈li,x.Ok
 okO:∀y∈lo,y.Ok
section
variable {w wj w':World} {p3 p6:Nat} {t:TxV} {vi vo:Value} {li:List TxI} {lo:List TxO}
theorem FwS.keep (h:FwS w wj p3 p6 t vi vo li lo)(k:Ext wj w'):FwS w w' p3 p6 t vi vo li lo:=by
 obtain⟨c,h2,h3⟩:=h.c6
 exact⟨h.ext.ext k,k.at h.c3 (fun h=>h),⟨c,k.at h2 (fun h=>h),h3⟩,ListN.keepT h.ins k (fun _ h=>h.elim) fun _ _ h=>IG.keepT h k fun _ h=>h.elim,ListN.keepT h.outs k (fun _ h=>h.elim) fun _ _ h=>OG.keepT h k fun _ h=>h.elim,h.l3,h.l6,h.ne,h.okI,h.okO⟩
theorem ne_T {g:Nat}{c:Array Value}{T T':TypeId}(h:w.heap[g]?=some (.cells c T (0,0)))(hT:T≠T'):∀c',w.heap[g]?≠some (.cells c' T' (0,0)):=fun c' e=>by rw[h] at e;injection e with e;injection e with _ e;exact hT e
theorem FwS.put1 (h:FwS w wj p3 p6 t vi vo li lo){v':Value}{l':List TxI}(hv:ListN IG 61 36 w.heap.size wj v' l')(hs:∀x∈l',x∈li):wr1 wj p3 1∧FwS w (wj.setCell ⟨p3,1,none⟩ v') p3 p6 t v' vo l' lo:=by
 have hk:Keep (fun g=>g=p3) wj (wj.setCell ⟨p3,1,none⟩ v'):=(Keep.refl _ wj).setCell _ fun _=>rfl
 have n5:=ne_T (T':=5) h.c3 (by decide)
 have n27:=ne_T (T':=41) h.c3 (by decide)
 have n50:=ne_T (T':=61) h.c3 (by decide)
 have n54:=ne_T (T':=63) h.c3 (by decide)
 obtain⟨c,h2,h3⟩:=h.c6
 have l3:=h.l3
 have ne:=h.ne
 exact⟨wr1_of h.c3 (by rw[txC_sz];decide),h.ext.trans hk fun g hg e=>by omega,by rw[heap_setCell_eq h.c3];rfl,⟨c,hk.at h2 (by omega),h3⟩,
  ListN.keepT hv hk (fun g hg c=>by subst hg;exact n50 c) fun _ _ hR=>IG.keepT hR hk fun g hg c=>by subst hg;exact⟨n5 c,n27 c⟩,
  ListN.keepT h.outs hk (fun g hg c=>by subst hg;exact n54 c) fun _ _ hR=>OG.keepT hR hk fun g hg c=>by subst hg;exact n5 c,h.l3,h.l6,h.ne,fun x hx=>h.okI x (hs x hx),h.okO⟩
theorem FwS.put2 (h:FwS w wj p3 p6 t vi vo li lo){v':Value}{l':List TxO}(hv:ListN OG 63 2 w.heap.size wj v' l')(hs:∀x∈l',x∈lo):wr1 wj p3 2∧FwS w (wj.setCell ⟨p3,2,none⟩ v') p3 p6 t vi v' li l':=by
 have hk:Keep (fun g=>g=p3) wj (wj.setCell ⟨p3,2,none⟩ v'):=(Keep.refl _ wj).setCell _ fun _=>rfl
 have n5:=ne_T (T':=5) h.c3 (by decide)
 have n27:=ne_T (T':=41) h.c3 (by decide)
 have n50:=ne_T (T':=61) h.c3 (by decide)
 have n54:=ne_T (T':=63) h.c3 (by decide)
 obtain⟨c,h2,h3⟩:=h.c6
 have l3:=h.l3
 have ne:=h.ne
 exact⟨wr1_of h.c3 (by rw[txC_sz];decide),h.ext.trans hk fun g hg e=>by omega,by rw[heap_setCell_eq h.c3];rfl,⟨c,hk.at h2 (by omega),h3⟩,
  ListN.keepT h.ins hk (fun g hg c=>by subst hg;exact n50 c) fun _ _ hR=>IG.keepT hR hk fun g hg c=>by subst hg;exact⟨n5 c,n27 c⟩,
  ListN.keepT hv hk (fun g hg c=>by subst hg;exact n54 c) fun _ _ hR=>OG.keepT hR hk fun g hg c=>by subst hg;exact n5 c,h.l3,h.l6,h.ne,h.okI,fun x hx=>h.okO x (hs x hx)⟩
theorem FwS.setI (h:FwS w wj p3 p6 t vi vo li lo){g o n cap i j:Nat}(he:vi=.slice (some ⟨g,o,none⟩) n cap)(hi:i<li.length)(hj:j<36)(val:Value)(x':TxI)(hx':x'.Ok)
  (hnew:∀w' c,Keep (fun y=>y=g) wj w'→(∀c',wj.heap[g]?≠some (.cells c' 5 (0,0))∧wj.heap[g]?≠some (.cells c' 41 (0,0)))→IG w.heap.size wj c li[i]→IG w.heap.size w' (c.setIfInBounds j val) x'):
  wr1 wj g (o+i*36+j)∧FwS w (wj.setCell ⟨g,o+i*36+j,none⟩ val) p3 p6 t vi vo (li.set i x') lo:=by
 have hk:Keep (fun y=>y=g) wj (wj.setCell ⟨g,o+i*36+j,none⟩ val):=(Keep.refl _ wj).setCell _ fun _=>rfl
 obtain⟨hm,cur,hg⟩:=ListN.blkT h.ins (g:=g) (by rw[he];rfl)
 have n5:=ne_T (T':=5) hg (by decide)
 have n27:=ne_T (T':=41) hg (by decide)
 have n26:=ne_T (T':=33) hg (by decide)
 have n54:=ne_T (T':=63) hg (by decide)
 obtain⟨c,h2,h3⟩:=h.c6
 obtain⟨hw,hL⟩:=ListN.setc h.ins he hi hj val x' (fun c hc=>hnew _ c hk (fun c'=>⟨n5 c',n27 c'⟩) hc) fun c x hR=>IG.keepT hR hk fun g' hg' c=>by subst hg';exact⟨n5 c,n27 c⟩
 refine⟨hw,h.ext.trans hk fun y hy e=>by omega,hk.at h.c3 fun e=>n26 _ (e▸h.c3),⟨c,hk.at h2 fun e=>n26 _ (e▸h2),h3⟩,hL,
  ListN.keepT h.outs hk (fun g' hg' c=>by subst hg';exact n54 c) fun _ _ hR=>OG.keepT hR hk fun g' hg' c=>by subst hg';exact n5 c,h.l3,h.l6,h.ne,fun x hx=>?_,h.okO⟩
 rcases List.mem_or_eq_of_mem_set hx with hx|rfl
 ·exact h.okI x hx
 ·exact hx'
theorem FwS.setO (h:FwS w wj p3 p6 t vi vo li lo){g o n cap i j:Nat}(he:vo=.slice (some ⟨g,o,none⟩) n cap)(hi:i<lo.length)(hj:j<2)(val:Value)(x':TxO)(hx':x'.Ok)
  (hnew:∀w' c,Keep (fun y=>y=g) wj w'→(∀c',wj.heap[g]?≠some (.cells c' 5 (0,0)))→OG w.heap.size wj c lo[i]→OG w.heap.size w' (c.setIfInBounds j val) x'):
  wr1 wj g (o+i*2+j)∧FwS w (wj.setCell ⟨g,o+i*2+j,none⟩ val) p3 p6 t vi vo li (lo.set i x'):=by
 have hk:Keep (fun y=>y=g) wj (wj.setCell ⟨g,o+i*2+j,none⟩ val):=(Keep.refl _ wj).setCell _ fun _=>rfl
 obtain⟨hm,cur,hg⟩:=ListN.blkT h.outs (g:=g) (by rw[he];rfl)
 have n5:=ne_T (T':=5) hg (by decide)
 have n27:=ne_T (T':=41) hg (by decide)
 have n26:=ne_T (T':=33) hg (by decide)
 have n50:=ne_T (T':=61) hg (by decide)
 obtain⟨c,h2,h3⟩:=h.c6
 obtain⟨hw,hL⟩:=ListN.setc h.outs he hi hj val x' (fun c hc=>hnew _ c hk n5 hc) fun c x hR=>OG.keepT hR hk fun g' hg' c=>by subst hg';exact n5 c
 refine⟨hw,h.ext.trans hk fun y hy e=>by omega,hk.at h.c3 fun e=>n26 _ (e▸h.c3),⟨c,hk.at h2 fun e=>n26 _ (e▸h2),h3⟩,ListN.keepT h.ins hk (fun g' hg' c=>by subst hg';exact n50 c) fun _ _ hR=>IG.keepT hR hk fun g' hg' c=>by subst hg';exact⟨n5 c,n27 c⟩,
  hL,h.l3,h.l6,h.ne,h.okI,fun x hx=>?_⟩
 rcases List.mem_or_eq_of_mem_set hx with hx|rfl
 ·exact h.okO x hx
 ·exact hx'
theorem FwS.setR (h:FwS w wj p3 p6 t vi vo li lo){g0 idx:Nat}{c0:Array Value}{x:Value}{b:List Int}(hm:w.heap.size≤g0)(h0:wj.heap[g0]?=some (.cells c0 41 (0,0)))(hi:idx<c0.size)(hx:B5 wj x b)(hB:b.length≤100):
  wr1 wj g0 idx∧FwS w (wj.setCell ⟨g0,idx,none⟩ x) p3 p6 t vi vo li lo:=by
 have hk:Keep (fun y=>y=g0) wj (wj.setCell ⟨g0,idx,none⟩ x):=(Keep.refl _ wj).setCell _ fun _=>rfl
 have n5:=ne_T (T':=5) h0 (by decide)
 have n26:=ne_T (T':=33) h0 (by decide)
 have n50:=ne_T (T':=61) h0 (by decide)
 have n54:=ne_T (T':=63) h0 (by decide)
 obtain⟨c,h2,h3⟩:=h.c6
 refine⟨wr1_of h0 hi,h.ext.trans hk fun y hy e=>by omega,hk.at h.c3 fun e=>n26 _ (e▸h.c3),⟨c,hk.at h2 fun e=>n26 _ (e▸h2),h3⟩,ListN.keepT h.ins hk (fun g' hg' c=>by subst hg';exact n50 c) fun _ _ hR=>?_,
  ListN.keepT h.outs hk (fun g' hg' c=>by subst hg';exact n54 c) fun _ _ hR=>OG.keepT hR hk fun g' hg' c=>by subst hg';exact n5 c,h.l3,h.l6,h.ne,h.okI,h.okO⟩
 obtain⟨sv,wv,n,k1,k2,k3,k4,k5⟩:=hR
 exact⟨sv,wv,n,k1,k2.keepT hk fun g' hg' c=>by subst hg';exact n5 c,k3.set h0 hx (by omega),k4,k5.1,fun e=>(k5.2 e).set h0 hx hB⟩
end
end Go.Proofs
namespace Go.Proofs
open Go.Vc
set_option maxRecDepth 10000
structure TxV.Lim (t:TxV)(n b:Nat):Prop where
 ins:t.ins.length≤n
 outs:t.outs.length≤n
 inp:∀x∈t.ins,x.script.length≤b
 out:∀y∈t.outs,y.script.length≤b
def TxV.WLim (t:TxV):Prop:=∀x∈t.ins,x.wit.length≤3∧∀p∈x.wit,p.length≤100
theorem GR.mono {B B' m n:Nat}{w:World}{v:Value}(h:GR B m w v n)(hB:B≤B'):GR B' m w v n:=by
 rcases h with h|⟨g,o,cap,cs,h1,h2,h3,h4,h8,h6,h7⟩
 ·exact .inl h
 ·exact .inr ⟨g,o,cap,cs,h1,h2,h3,h4,h8,h6,fun j hj=>by obtain⟨x,b,a1,a2,a3⟩:=h7 j hj;exact⟨x,b,a1,a2,Nat.le_trans a3 hB⟩⟩
theorem InN.ig {m:Nat}{w:World}{c:Array Value}{x:TxI}(h:InN m w c x)(hk:x.Ok)(hz:x.Sz):IG m w c x:=by
 obtain⟨sv,wv,h1,h2,h3⟩:=h
 exact⟨sv,wv,_,h1,h2.b5 hk.script hz.script,h3.gr (Nat.le_refl _) fun p hp=>⟨hk.wit p hp,hz.item p hp⟩,hz.wit,fun e=>by omega,fun e=>h3.gr (by decide) fun p hp=>by rw[e] at hp;cases hp⟩
theorem OuN.og {m:Nat}{w:World}{c:Array Value}{y:TxO}(h:OuN m w c y)(hk:y.Ok)(hz:y.script.length≤140737488355328):OG m w c y:=by
 obtain⟨sv,h1,h2⟩:=h
 exact⟨sv,h1,h2.b5 hk.script hz⟩
def IP (m:Nat)(w:World)(c:Array Value)(x:TxI):Prop:=∃sv wv,c=iC x sv wv∧B5 w sv x.script∧GP m w wv x.wit
structure TxT (m:Nat)(w:World)(iv ov:Value)(t:TxV):Prop where
 ins:ListN IP 61 36 m w iv t.ins
 outs:ListN OG 63 2 m w ov t.outs
theorem IP.keepT {m:Nat}{S:Nat→Prop}{w w':World}{c:Array Value}{x:TxI}(h:IP m w c x)(k:Keep S w w')(hS:∀g,S g→∀c,w.heap[g]?≠some (.cells c 5 (0,0))∧w.heap[g]?≠some (.cells c 41 (0,0))):IP m w' c x:=by
 obtain⟨sv,wv,h1,h2,h3⟩:=h
 exact⟨sv,wv,h1,h2.keepT k fun g hs c=>(hS g hs c).1,h3.keepT k hS⟩
theorem TxT.keepT {m:Nat}{S:Nat→Prop}{w w':World}{iv ov:Value}{t:TxV}(h:TxT m w iv ov t)(k:Keep S w w')(hS:∀g,S g→∃c T,w.heap[g]?=some (.cells c T (0,0))∧T≠5∧T≠41∧T≠61∧T≠63):TxT m w' iv ov t:=by
 have hn:∀g,S g→∀T' c',(T'=5∨T'=41∨T'=61∨T'=63)→w.heap[g]?≠some (.cells c' T' (0,0)):=fun g hg T' c' hT' e=>by
  obtain⟨c,T,hc,a1,a2,a3,a4⟩:=hS g hg
  rw[hc] at e
  injection e with e
  injection e with _ e
  subst e
  rcases hT' with h|h|h|h
  ·exact a1 h
  ·exact a2 h
  ·exact a3 h
  ·exact a4 h
 exact⟨ListN.keepT h.ins k (fun g hg c=>hn g hg _ c (.inr (.inr (.inl rfl)))) fun _ _ h=>IP.keepT h k fun g hg c=>⟨hn g hg _ c (.inl rfl),hn g hg _ c (.inr (.inl rfl))⟩,
  ListN.keepT h.outs k (fun g hg c=>hn g hg _ c (.inr (.inr (.inr rfl)))) fun _ _ h=>OG.keepT h k fun g hg c=>hn g hg _ c (.inl rfl)⟩
theorem IG.in {m:Nat}{w:World}{c:Array Value}{x:TxI}(h:IG m w c x)(hk:x.Ok)(hw:x.wit=[]):∃ps,IP m w c {x with wit:=ps}∧({x with wit:=ps}:TxI).Ok∧({x with wit:=ps}:TxI).Sz∧ps.length≤3∧∀p∈ps,p.length≤100:=by
 obtain⟨sv,wv,n,h1,h2,h3,h4,h5,h6⟩:=h
 obtain⟨ps,e1,e2,e3⟩:=(h6 hw).gp
 have h5:=h5 (by rw[hw];decide)
 exact⟨ps,⟨sv,wv,h1,h2,e2⟩,⟨hk.len,hk.prev,hk.idx,hk.script,hk.seq,fun b hb=>(e3 b hb).1⟩,⟨h2.2.2.1,by show ps.length*24≤_;omega,fun p hp=>Nat.le_trans (e3 p hp).2 (by decide)⟩,by omega,fun p hp=>(e3 p hp).2⟩
theorem ListN.imp {α:Type}{R R':Nat→World→Array Value→α→Prop}{T size m m':Nat}{w:World}{v:Value}{l:List α}(h:ListN R T size m w v l)(hm:m'≤m)(hR:∀c x,x∈l→R m w c x→R' m' w c x):ListN R' T size m' w v l:=by
 obtain⟨cs,h1,h2,h3⟩:=h
 exact⟨cs,h1,h2.base hm,fun i a b=>hR _ _ (List.getElem_mem b) (h3 i a b)⟩
theorem N1.base {m m':Nat}{w:World}{v:Value}{bs:List Int}(h:N1 m w v bs)(hm:m'≤m):N1 m' w v bs:=⟨h.1,fun g hg=>Nat.le_trans hm (h.2 g hg)⟩
theorem InN.base {m m':Nat}{w:World}{c:Array Value}{x:TxI}(h:InN m w c x)(hm:m'≤m):InN m' w c x:=by
 obtain⟨sv,wv,h1,h2,h3⟩:=h
 exact⟨sv,wv,h1,h2.base hm,h3.base hm⟩
theorem OuN.base {m m':Nat}{w:World}{c:Array Value}{y:TxO}(h:OuN m w c y)(hm:m'≤m):OuN m' w c y:=by
 obtain⟨sv,h1,h2⟩:=h
 exact⟨sv,h1,h2.base hm⟩
theorem OwnO.mx {w:World}{base el size:Nat}{v:Value}{ids:List (Array Value)}(h:OwnO w base el size v ids):ids.length≤maxLen:=by
 obtain⟨_,⟨_,rfl⟩|⟨g,o,cap,cur,e,hb,hg,hn,hcm,_⟩⟩:=h
 ·exact Nat.zero_le _
 ·omega
theorem FwS.fin {w wj w':World}{p3 p6:Nat}{t:TxV}{vi vo:Value}{li:List TxI}{lo:List TxO}(h:FwS w wj p3 p6 t vi vo li lo)(k:Keep (fun g=>g=p6) wj w')(hw:∀x∈li,x.wit=[]):
  ∃li':List TxI,li'.length=li.length∧ListN IP 61 36 w.heap.size w' vi li'∧ListN OG 63 2 w.heap.size w' vo lo∧(∀x∈li',x.Ok∧x.Sz∧x.wit.length≤3∧∀p∈x.wit,p.length≤100)∧(∀y∈lo,y.script.length≤140737488355328)∧∀b,(∀x∈li,x.script.length≤b)→∀x∈li',x.script.length≤b:=by
 obtain⟨c6,h6,_⟩:=h.c6
 have n5:=ne_T (T':=5) h6 (by decide)
 have n27:=ne_T (T':=41) h6 (by decide)
 have n50:=ne_T (T':=61) h6 (by decide)
 have n54:=ne_T (T':=63) h6 (by decide)
 have hI:=ListN.keepT h.ins k (fun g hg c=>by subst hg;exact n50 c) fun _ _ hR=>IG.keepT hR k fun g hg c=>by subst hg;exact⟨n5 c,n27 c⟩
 have hO:=ListN.keepT h.outs k (fun g hg c=>by subst hg;exact n54 c) fun _ _ hR=>OG.keepT hR k fun g hg c=>by subst hg;exact n5 c
 obtain⟨cs,a1,a2,a3⟩:=hI
 obtain⟨ds,b1,b2,b3⟩:=hO
 obtain⟨li',e1,e2⟩:=list_choose (p:=fun i (x':TxI)=>∀(h1:i<cs.length) (h2:i<li.length),IP w.heap.size w' cs[i] x'∧x'.Ok∧x'.Sz∧x'.script=li[i].script∧x'.wit.length≤3∧∀p∈x'.wit,p.length≤100) (List.range li.length) (fun i hi=>by
  have hi:=List.mem_range.1 hi
  obtain⟨ps,f1,f2,f3,f4⟩:=(a3 i (by omega) hi).in (h.okI _ (List.getElem_mem hi)) (hw _ (List.getElem_mem hi))
  exact⟨_,fun _ _=>⟨f1,f2,f3,rfl,f4⟩⟩)
 rw[List.length_range] at e1
 have e3:∀i (h1:i<cs.length) (h2:i<li.length) (h3:i<li'.length),IP w.heap.size w' cs[i] li'[i]∧li'[i].Ok∧li'[i].Sz∧li'[i].script=li[i].script∧li'[i].wit.length≤3∧∀p∈li'[i].wit,p.length≤100:=fun i h1 h2 h3=>by
  have e:=List.getElem_range (n:=li.length) (j:=i) (by simpa using h2)
  have:=e2 i (by simpa using h2) h3
  rw[e] at this
  exact this h1 h2
 refine⟨li',e1,⟨cs,by omega,a2,fun i x y=>(e3 i x (by omega) y).1⟩,⟨ds,b1,b2,b3⟩,fun x hx=>?_,fun y hy=>?_,fun b hb x hx=>?_⟩
 ·obtain⟨i,hi,rfl⟩:=List.getElem_of_mem hx
  have:=e3 i (by omega) (by omega) hi
  exact⟨this.2.1,this.2.2.1,this.2.2.2.2⟩
 ·obtain⟨i,hi,rfl⟩:=List.getElem_of_mem hy
  obtain⟨sv,r1,r2⟩:=b3 i (by omega) hi
  exact r2.2.2.1
 ·obtain⟨i,hi,rfl⟩:=List.getElem_of_mem hx
  have:=e3 i (by omega) (by omega) hi
  rw[this.2.2.2.1]
  exact hb _ (List.getElem_mem _)
def FewQ (w:World)(n by':Nat):Ending→World→Prop:=Ret fun u w'=> ∃t' iv' ov',u=.agg (txC t' iv' ov')∧TxT w.heap.size w' iv' ov' t'∧t'.Ok∧t'.Sz∧t'.Lim n by'∧t'.WLim∧Ext w w'
set_option maxHeartbeats 3200000 in
theorem few_outs (w:World)(p3 p6:Nat)(t:TxV)(n by':Nat)(hok:t.Ok)(hn:n≤100)(hb:by'≤100000)(vi:Value)(li:List TxI)(hli:li.length≤n)(hls:∀x∈li,x.script.length≤by')(hlw:∀x∈li,x.wit=[]):
  ∀(k i:Nat) (wj:World) (vo:Value) (lo:List TxO) (tl:Env),k+i=lo.length→lo.length≤n→FwS w wj p3 p6 t vi vo li lo→(∀j (h:j<lo.length),j<i→lo[j].script.length≤by')→
   W Tryz.prog (FewQ w n by') 4 9 ((2,.int .i64 (by':Nat))::(3,.pointer (some ⟨p3,0,none⟩))::(6,.pointer (some ⟨p6,0,none⟩))::(9,.int .i64 (i:Nat))::tl) wj:=by
 intro k
 induction k with
 |zero=>
  intro i wj vo lo tl hi hlo hP hd
  have hil:¬((i:Int)< (lo.length:Nat)):=by omega
  have d3:=hP.c3
  have hlen:=ListN.len hP.outs
  obtain⟨cc,d6,hcc⟩:=hP.c6
  have r4:rdO (some (.cells (txC t vi vo) 33 (0,0))) 0 4=some (txC t vi vo):=rdO_all _ _ _ _ rfl
  have z4:=txC_sz t vi vo
  have o4:okO (some (.cells cc 33 (0,0))) 0 4=True:=by simp only[okO,hcc];simp
  iterate 3 (refine W_at c4_ok ⟨_,rfl,?_⟩;simp (disch:=first|omega|assumption|rfl|(simp only[vcS]<;>omega)|fail) only[↓vcN,vcQ,simprocAttr,d3,txC_2,hlen,hil,r4,z4,d6,o4])
  have hfl:flat (txC t vi vo):=by
   have a1:=ListN.one hP.ins
   have a2:=ListN.one hP.outs
   intro y hy;simp only[txC,List.mem_cons,List.not_mem_nil,or_false] at hy;rcases hy with rfl|rfl|rfl|rfl<;>first|rfl|assumption
  refine⟨hfl,?_⟩
  have hk:Keep (fun g=>g=p6) wj (wj.putN p6 0 (txC t vi vo)):=(Keep.refl _ wj).putN _ fun _=>rfl
  have d9:(wj.putN p6 0 (txC t vi vo)).heap[p6]?=some (.cells (txC t vi vo) 33 (0,0)):=by
   rw[heap_putN_eq d6,splice_all (by rw[hcc,txC_sz])]
  obtain⟨li',f1,f2,f3,f4,f5,f6⟩:=hP.fin hk hlw
  have l6:=hP.l6
  have hE9:=hP.ext.trans hk fun g hg e=>by omega
  (refine W_at c4_ok ⟨_,rfl,?_⟩;simp (disch:=first|omega|assumption|rfl|(simp only[vcS]<;>omega)|fail) only[↓vcN,vcQ,simprocAttr,d9,r4])
  refine⟨_,rfl,⟨t.ver,li',lo,t.lock⟩,vi,vo,rfl,⟨f2,f3⟩,⟨hok.ver,fun x hx=>(f4 x hx).1,hP.okO,hok.lock⟩,⟨by show li'.length*96≤_;omega,by show lo.length*32≤_;omega,fun x hx=>(f4 x hx).2.1,f5⟩,⟨by show li'.length≤n;omega,hlo,f6 by' hls,fun y hy=>?_⟩,fun x hx=>(f4 x hx).2.2,hE9⟩
  obtain⟨j,hj,rfl⟩:=List.getElem_of_mem hy
  have hj':j<lo.length:=hj
  exact hd j hj' (by omega)
 |succ k ih=>
  intro i wj vo lo tl hi hlo hP hd
  have hi0:i<lo.length:=by omega
  have hil:((i:Int)< (lo.length:Nat)):=by omega
  have c3:0≤(i:Int)∧(i:Int)< (lo.length:Nat):=by omega
  have d3:=hP.c3
  have hlen:=ListN.len hP.outs
  obtain⟨g,o,cap,c,hov,hrd,⟨sv,rfl,hsv⟩,hm,cur,hg⟩:=ListN.at hP.outs hi0
  have q1:=rdO_cell hrd (j:=1) (by omega)
  have q1':(oC lo[i] sv)[1]?=some sv:=rfl
  rw[q1'] at q1
  have hsl:=hsv.1.len
  have wi:IntKind.i64.wrap ((i:Int)+1)=((i+1:Nat):Int):=wrap_i64 (by omega) (by omega)
  iterate 3 (refine W_at c4_ok ⟨_,rfl,?_⟩;simp (disch:=first|omega|assumption|rfl|(simp only[vcS]<;>omega)|fail) only[↓vcN,vcQ,simprocAttr,d3,txC_2,hlen,hil,hov,c3,Int.toNat_natCast,q1,hsl])
  by_cases hg4:(by':Int)< (lo[i].script.length:Nat)
  ·obtain⟨qs,cs,rfl,hcs⟩:=hsv.1.is
   have k1:(0:Int)≤(by':Nat)∧((by':Nat):Int)≤(cs:Nat):=by omega
   have hEd:Ext wj wj.drew:=(Keep.refl _ wj).drew
   have hPd:=hP.keep hEd
   have hcut:=(hsv.keepT hEd fun _ h=>h.elim).cut (k:=by') (by omega)
   have hol:=hP.okO _ (List.getElem_mem hi0)
   obtain⟨hw,hP2⟩:=hPd.setO (j:=1) hov hi0 (by decide) (.slice qs by' cs) ⟨lo[i].val,lo[i].script.take by'⟩ ⟨hol.val,byt_take hol.script _⟩ (fun w' c hk hS hO=>by
    obtain⟨sv,rfl,hsv2⟩:=hO
    refine⟨.slice qs by' cs,rfl,hcut.keepT hk fun g' hg' c=>by subst hg';exact hS c⟩)
   iterate 2 (refine W_at c4_ok ⟨_,rfl,?_⟩;simp (disch:=first|omega|assumption|rfl|(simp only[vcS]<;>omega)|fail) only[↓vcN,vcQ,simprocAttr,hg4,d3,txC_2,hov,c3,Int.toNat_natCast,q1,k1,Nat.sub_zero])
   refine⟨hw,?_⟩
   iterate 2 (refine W_at c4_ok ⟨_,rfl,?_⟩;simp (disch:=first|omega|assumption|rfl|(simp only[vcS]<;>omega)|fail) only[↓vcN,vcQ,simprocAttr,wi])
   refine ih (i+1) _ vo _ _ (by rw[List.length_set];omega) (by rw[List.length_set];exact hlo) hP2 fun j hj hji=>?_
   rw[List.length_set] at hj
   by_cases hjj:i=j
   ·subst hjj
    rw[List.getElem_set_self]
    show (lo[i].script.take by').length≤by'
    rw[List.length_take];omega
   ·rw[List.getElem_set_ne hjj]
    exact hd j hj (by omega)
  ·(refine W_at c4_ok ⟨_,rfl,?_⟩;simp (disch:=first|omega|assumption|rfl|(simp only[vcS]<;>omega)|fail) only[↓vcN,vcQ,simprocAttr,hg4])
   iterate 2 (refine W_at c4_ok ⟨_,rfl,?_⟩;simp (disch:=first|omega|assumption|rfl|(simp only[vcS]<;>omega)|fail) only[↓vcN,vcQ,simprocAttr,wi])
   refine ih (i+1) wj vo lo _ (by omega) hlo hP fun j hj hji=>?_
   by_cases hjj:j=i
   ·subst hjj;omega
   ·exact hd j hj (by omega)
theorem GR.len {B m n:Nat}{w:World}{v:Value}(h:GR B m w v n):lenR v=some (.int .i64 (n:Nat)):=by
 rcases h with ⟨rfl,rfl⟩|⟨g,o,cap,cs,rfl,_⟩<;>rfl
theorem GR.mx {B m n:Nat}{w:World}{v:Value}(h:GR B m w v n):n≤maxLen:=by
 rcases h with ⟨rfl,rfl⟩|⟨g,o,cap,cs,rfl,_,_,h,_⟩
 ·exact Nat.zero_le _
 ·exact h
set_option maxHeartbeats 3200000 in
theorem few_wits (w:World)(p3 p6:Nat)(t:TxV)(n by':Nat)(hb:by'=100)(vi vo:Value)(li:List TxI)(lo:List TxO)(i:Nat)(hi0:i<li.length)(hln:li.length≤140737488355328)(g o cap:Nat)(hvi:vi=.slice (some ⟨g,o,none⟩) li.length cap)(x:TxI)(hxl:x.prev.length=32)(sv:Value)(qw:Option Addr)(cw nw:Nat)
  (hdone:∀wj tl,FwS w wj p3 p6 t vi vo li lo→rdO wj.heap[g]? (o+i*36) 36=some (iC x sv (.slice qw nw cw))→GR 100 w.heap.size wj (.slice qw nw cw) nw→W Tryz.prog (FewQ w n by') 4 12 ((1,.int .i64 (n:Nat))::(2,.int .i64 (by':Nat))::(3,.pointer (some ⟨p3,0,none⟩))::(6,.pointer (some ⟨p6,0,none⟩))::(7,.int .i64 (i:Nat))::tl) wj):
  ∀(k j:Nat) (wj:World) (tl:Env),k+j=nw→FwS w wj p3 p6 t vi vo li lo→rdO wj.heap[g]? (o+i*36) 36=some (iC x sv (.slice qw nw cw))→GR 140737488355328 w.heap.size wj (.slice qw nw cw) nw→GR 100 w.heap.size wj (.slice qw j cw) j→
   W Tryz.prog (FewQ w n by') 4 19 ((1,.int .i64 (n:Nat))::(2,.int .i64 (by':Nat))::(3,.pointer (some ⟨p3,0,none⟩))::(6,.pointer (some ⟨p6,0,none⟩))::(7,.int .i64 (i:Nat))::(8,.int .i64 (j:Nat))::tl) wj:=by
 intro k
 have c3:0≤(i:Int)∧(i:Int)< (li.length:Nat):=by omega
 induction k with
 |zero=>
  intro j wj tl hj hP hrd hG hpre
  have hil:¬((j:Int)< (nw:Nat)):=by omega
  have d3:=hP.c3
  have hlen:=hG.len
  have q:=rdO_cell hrd (j:=35) (by omega)
  rw[iC_35 hxl] at q
  iterate 2 (refine W_at c4_ok ⟨_,rfl,?_⟩;simp (disch:=first|omega|assumption|rfl|(simp only[vcS]<;>omega)|fail) only[↓vcN,vcQ,simprocAttr,d3,txC_1,hvi,c3,Int.toNat_natCast,q,hlen,hil])
  obtain rfl:j=nw:=by omega
  exact hdone wj _ hP hrd hpre
 |succ k ih=>
  intro j wj tl hj hP hrd hG hpre
  have hil:((j:Int)< (nw:Nat)):=by omega
  have d3:=hP.c3
  have hlen:=hG.len
  have q:=rdO_cell hrd (j:=35) (by omega)
  rw[iC_35 hxl] at q
  have hmx:=hG.mx
  have hG0:=hG
  rcases hG with ⟨_,rfl⟩|⟨g1,o1,cap1,cs1,ew,a1,a2,a3,a4,a5,a6⟩
  ·omega
  injection ew with ew1 ew2 ew3
  subst ew1 ew3
  obtain⟨y,b,hy,hyb,_⟩:=a6 j (by omega)
  have hcy:cellO wj.heap[g1]? (o1+j)=some y:=by rw[a4,cellO_some];exact hy
  have c4:0≤(j:Int)∧(j:Int)< (nw:Nat):=by omega
  have hyl:=hyb.1.len
  have e:maxLen=9223372036854775807:=rfl
  have wi:IntKind.i64.wrap ((j:Int)+1)=((j+1:Nat):Int):=wrap_i64 (by omega) (by omega)
  iterate 3 (refine W_at c4_ok ⟨_,rfl,?_⟩;simp (disch:=first|omega|assumption|rfl|(simp only[vcS]<;>omega)|fail) only[↓vcN,vcQ,simprocAttr,d3,txC_1,hvi,c3,Int.toNat_natCast,q,hlen,hil,c4,Nat.mul_one,hcy,hyl])
  by_cases hg4:(by':Int)< (b.length:Nat)
  ·obtain⟨qs,cs,rfl,hcs⟩:=hyb.1.is
   have k1:(0:Int)≤(by':Nat)∧((by':Nat):Int)≤(cs:Nat):=by omega
   have hEd:Ext wj wj.drew:=(Keep.refl _ wj).drew
   have hPd:=hP.keep hEd
   have hcut:=(hyb.keepT hEd fun _ h=>h.elim).cut (k:=by') (by omega)
   have a4d:=hEd.at a4 (fun h=>h)
   obtain⟨hw,hP2⟩:=hPd.setR a1 a4d (idx:=o1+j) (by omega) hcut (by rw[List.length_take];omega)
   have hk:Keep (fun y=>y=g1) wj.drew (wj.drew.setCell ⟨g1,o1+j,none⟩ (.slice qs by' cs)):=(Keep.refl _ _).setCell _ fun _=>rfl
   have hcl:(b.take by').length≤100:=by rw[List.length_take];omega
   have hG2:=(hG0.keepT hEd fun _ h=>h.elim).set (idx:=o1+j) a4d hcut (by omega)
   have hpre1:=(hpre.keepT hEd fun _ h=>h.elim).set (idx:=o1+j) a4d hcut hcl
   have n5:=ne_T (T':=5) a4d (by decide)
   have hpre2:=hpre1.snoc (n:=nw) (x:=.slice qs by' cs) (by omega) (by omega) (by omega) (heap_setCell_eq a4d) (by rw[Array.size_setIfInBounds];omega) (Array.getElem?_setIfInBounds_self_of_lt (by omega)) (hcut.keepT hk fun g' hg' c=>by subst hg';exact n5 c) hcl
   have hrd2:rdO (wj.drew.setCell ⟨g1,o1+j,none⟩ (.slice qs by' cs)).heap[g]? (o+i*36) 36=some (iC x sv (.slice (some ⟨g1,o1,none⟩) nw cw)):=by
    obtain⟨_,cur,hcur⟩:=ListN.blkT hPd.ins (g:=g) (by rw[hvi];rfl)
    have hne:g≠g1:=fun e=>by subst e;rw[a4d] at hcur;injection hcur with e;injection e with _ e;exact absurd e (by decide)
    have h1:=hEd.block g (by rw[←Nat.not_le];intro hh;rw[Array.getElem?_eq_none hh] at hrd;cases hrd) (fun h=>h)
    rw[hk.block g (lt_of_heap hcur) hne,h1]
    exact hrd
   iterate 2 (refine W_at c4_ok ⟨_,rfl,?_⟩;simp (disch:=first|omega|assumption|rfl|(simp only[vcS]<;>omega)|fail) only[↓vcN,vcQ,simprocAttr,hg4,d3,txC_1,hvi,c3,c4,Int.toNat_natCast,Nat.mul_one,q,hcy,k1,Nat.sub_zero])
   refine⟨hw,?_⟩
   iterate 2 (refine W_at c4_ok ⟨_,rfl,?_⟩;simp (disch:=first|omega|assumption|rfl|(simp only[vcS]<;>omega)|fail) only[↓vcN,vcQ,simprocAttr,wi])
   exact ih (j+1) _ _ (by omega) hP2 hrd2 hG2 hpre2
  ·(refine W_at c4_ok ⟨_,rfl,?_⟩;simp (disch:=first|omega|assumption|rfl|(simp only[vcS]<;>omega)|fail) only[↓vcN,vcQ,simprocAttr,hg4])
   iterate 2 (refine W_at c4_ok ⟨_,rfl,?_⟩;simp (disch:=first|omega|assumption|rfl|(simp only[vcS]<;>omega)|fail) only[↓vcN,vcQ,simprocAttr,wi])
   exact ih (j+1) wj _ (by omega) hP hrd hG0 (hpre.snoc (n:=nw) (by omega) (by omega) (by omega) a4 (by omega) hy hyb (by omega))
theorem hdset {li:List TxI}{i m by':Nat}{x':TxI}(hi:i<li.length)(hx:x'.script=li[i].script)(hd:∀j (h:j<li.length),j<m→li[j].script.length≤by'):∀j (h:j< (li.set i x').length),j<m→(li.set i x')[j].script.length≤by':=fun j hj hji=>by
 rw[List.length_set] at hj
 by_cases hjj:i=j
 ·subst hjj;rw[List.getElem_set_self,hx];exact hd i hi hji
 ·rw[List.getElem_set_ne hjj];exact hd j hj hji
theorem hwset {li:List TxI}{i:Nat}{x':TxI}(hw:∀j (h:j<li.length),j<i→li[j].wit=[]):∀j (h:j< (li.set i x').length),j<i→(li.set i x')[j].wit=[]:=fun j hj hji=>by
 rw[List.length_set] at hj
 rw[List.getElem_set_ne (by omega)];exact hw j hj hji
theorem hwset1 {li:List TxI}{i:Nat}{x':TxI}(hi:i<li.length)(hx:x'.wit=[])(hw:∀j (h:j<li.length),j<i→li[j].wit=[]):∀j (h:j< (li.set i x').length),j<i+1→(li.set i x')[j].wit=[]:=fun j hj hji=>by
 rw[List.length_set] at hj
 by_cases hjj:i=j
 ·subst hjj;rw[List.getElem_set_self,hx]
 ·rw[List.getElem_set_ne hjj];exact hw j hj (by omega)
set_option maxHeartbeats 3200000 in
theorem few_ins (w:World)(p3 p6:Nat)(t:TxV)(n by':Nat)(hok:t.Ok)(hn:n=3)(hb:by'=100)(vi vo:Value)(lo:List TxO)(hlo:lo.length≤n):
  ∀(k i:Nat) (wj:World) (li:List TxI) (tl:Env),k+i=li.length→li.length≤n→FwS w wj p3 p6 t vi vo li lo→(∀j (h:j<li.length),j<i→li[j].script.length≤by')→(∀j (h:j<li.length),j<i→li[j].wit=[])→
   W Tryz.prog (FewQ w n by') 4 28 ((1,.int .i64 (n:Nat))::(2,.int .i64 (by':Nat))::(3,.pointer (some ⟨p3,0,none⟩))::(6,.pointer (some ⟨p6,0,none⟩))::(7,.int .i64 (i:Nat))::tl) wj:=by
 intro k
 induction k with
 |zero=>
  intro i wj li tl hi hli hP hd hwn
  have hil:¬((i:Int)< (li.length:Nat)):=by omega
  have d3:=hP.c3
  have hlen:=ListN.len hP.ins
  iterate 3 (refine W_at c4_ok ⟨_,rfl,?_⟩;simp (disch:=first|omega|assumption|rfl|(simp only[vcS]<;>omega)|fail) only[↓vcN,vcQ,simprocAttr,d3,txC_1,hlen,hil])
  refine few_outs w p3 p6 t n by' hok (by omega) (by omega) vi li hli (fun x hx=>?_) (fun x hx=>?_) lo.length 0 wj vo lo _ (by omega) hlo hP fun j _ h=>by omega
  ·obtain⟨j,hj,rfl⟩:=List.getElem_of_mem hx
   exact hd j hj (by omega)
  ·obtain⟨j,hj,rfl⟩:=List.getElem_of_mem hx
   exact hwn j hj (by omega)
 |succ k ih=>
  intro i wj0 li0 tl0 hi hli hP hd hwn
  have hi0:i<li0.length:=by omega
  have hil:((i:Int)< (li0.length:Nat)):=by omega
  have c3:0≤(i:Int)∧(i:Int)< (li0.length:Nat):=by omega
  have wi:IntKind.i64.wrap ((i:Int)+1)=((i+1:Nat):Int):=wrap_i64 (by omega) (by omega)
  have items:∀wj li tl,li.length=li0.length→FwS w wj p3 p6 t vi vo li lo→(∀j (h:j<li.length),j<i+1→li[j].script.length≤by')→(∀j (h:j<li.length),j<i→li[j].wit=[])→(∀h:i<li.length,li[i].wit.length≤1)→
    W Tryz.prog (FewQ w n by') 4 20 ((1,.int .i64 (n:Nat))::(2,.int .i64 (by':Nat))::(3,.pointer (some ⟨p3,0,none⟩))::(6,.pointer (some ⟨p6,0,none⟩))::(7,.int .i64 (i:Nat))::tl) wj:=by
   intro wj li tl hl hP hd hwn h1
   have hil2:i<li.length:=by omega
   obtain⟨g,o,cap,c,hvi,hrd,⟨sv,wv,nw,rfl,hsv,hG,hnw,hn3,_⟩,hm,cur,hg⟩:=ListN.at hP.ins (i:=i) hil2
   have hn3:=hn3 (h1 hil2)
   have hoi:=hP.okI _ (List.getElem_mem hil2)
   obtain⟨qw,cw,rfl,hcw⟩:∃q c,wv=.slice q nw c∧nw≤c:=by
    rcases hG with ⟨rfl,rfl⟩|⟨g1,o1,cap1,cs1,rfl,a1,a2,_⟩
    ·exact⟨none,0,rfl,Nat.le_refl _⟩
    ·exact⟨_,_,rfl,a2⟩
   (refine W_at c4_ok ⟨_,rfl,?_⟩;simp (disch:=first|omega|assumption|rfl|(simp only[vcS]<;>omega)|fail) only[↓vcN,vcQ,simprocAttr])
   refine few_wits w p3 p6 t n by' hb vi vo li lo i (by omega) (by omega) g o cap hvi li[i] hoi.len sv qw cw nw ?_ nw 0 wj _ (by omega) hP hrd hG hG.zero
   intro w9 tl9 hP9 hrd9 hG9
   have hP10:FwS w w9 p3 p6 t vi vo (li.set i {li[i] with wit:=[]}) lo:={hP9 with
    ins:=ListN.upd hP9.ins hvi hil2 _ fun c hc hR=>by
     obtain⟨sv',wv',n',e,b1,b2,b3,_⟩:=hR
     rw[hrd9] at hc
     have hc:=Option.some.inj hc
     have e33:sv=sv':=by
      have:=congrArg (fun a:Array Value=>a[33]?) (hc.trans e)
      simp only[iC_33 hoi.len] at this
      exact Option.some.inj this
     subst e33
     exact⟨sv,.slice qw nw cw,nw,hc.symm,b1,hG9.mono (by decide),hnw,fun _=>hn3,fun _=>hG9⟩
    okI:=fun x hx=>by
     rcases List.mem_or_eq_of_mem_set hx with hx|rfl
     ·exact hP9.okI x hx
     ·exact⟨hoi.len,hoi.prev,hoi.idx,hoi.script,hoi.seq,fun b hb=>by cases hb⟩}
   iterate 2 (refine W_at c4_ok ⟨_,rfl,?_⟩;simp (disch:=first|omega|assumption|rfl|(simp only[vcS]<;>omega)|fail) only[↓vcN,vcQ,simprocAttr,wi])
   exact ih (i+1) w9 _ _ (by rw[List.length_set];omega) (by rw[List.length_set];omega) hP10 (hdset hil2 rfl hd) (hwset1 hil2 rfl hwn)
  have wits:∀wj li tl,li.length=li0.length→FwS w wj p3 p6 t vi vo li lo→(∀j (h:j<li.length),j<i+1→li[j].script.length≤by')→(∀j (h:j<li.length),j<i→li[j].wit=[])→
    W Tryz.prog (FewQ w n by') 4 23 ((1,.int .i64 (n:Nat))::(2,.int .i64 (by':Nat))::(3,.pointer (some ⟨p3,0,none⟩))::(6,.pointer (some ⟨p6,0,none⟩))::(7,.int .i64 (i:Nat))::tl) wj:=by
   intro wj li tl hl hP hd hwn
   have hil2:i<li.length:=by omega
   obtain⟨g,o,cap,c,hvi,hrd,⟨sv,wv,nw,rfl,hsv,hG,hnw,_⟩,hm,cur,hg⟩:=ListN.at hP.ins hil2
   have hoi:=hP.okI _ (List.getElem_mem hil2)
   have d3:=hP.c3
   have q:=rdO_cell hrd (j:=35) (by omega)
   rw[iC_35 hoi.len] at q
   have hlen:=hG.len
   have c5:0≤(i:Int)∧(i:Int)< (li.length:Nat):=by omega
   (refine W_at c4_ok ⟨_,rfl,?_⟩;simp (disch:=first|omega|assumption|rfl|(simp only[vcS]<;>omega)|fail) only[↓vcN,vcQ,simprocAttr,d3,txC_1,hvi,c5,Int.toNat_natCast,q,hlen])
   by_cases hg4:(n:Int)< (nw:Nat)
   ·have hEd:Ext wj wj.drew:=(Keep.refl _ wj).drew
    have hPd:=hP.keep hEd
    obtain⟨qs,cs,rfl,hcs⟩:∃q c,wv=.slice q nw c∧nw≤c:=by
     rcases hG with ⟨rfl,rfl⟩|⟨g1,o1,cap1,cs1,rfl,a1,a2,_⟩
     ·exact⟨none,0,rfl,Nat.le_refl _⟩
     ·exact⟨_,_,rfl,a2⟩
    have k1:(0:Int)≤(n:Nat)∧((n:Nat):Int)≤(cs:Nat):=by omega
    have hcut:=(hG.keepT hEd fun _ h=>h.elim).cut (k:=n) (by omega)
    obtain⟨hw,hP2⟩:=hPd.setI (j:=35) hvi hil2 (by decide) (.slice qs n cs) {li[i] with wit:=[[]]} ⟨hoi.len,hoi.prev,hoi.idx,hoi.script,hoi.seq,fun b hb=>by rw[List.mem_singleton.1 hb];exact fun _ h=>by cases h⟩ (fun w' c hk hS hI=>by
     obtain⟨sv',wv',n',rfl,b1,b2,b3,_⟩:=hI
     refine⟨sv',.slice qs n cs,n,iC_set35 hoi.len _ _ _,b1.keepT hk fun g' hg' c=>by subst hg';exact(hS c).1,hcut.keepT hk fun g' hg' c=>by subst hg';exact hS c,by omega,fun _=>by omega,fun e=>by cases e⟩)
    iterate 2 (refine W_at c4_ok ⟨_,rfl,?_⟩;simp (disch:=first|omega|assumption|rfl|(simp only[vcS]<;>omega)|fail) only[↓vcN,vcQ,simprocAttr,hg4,d3,txC_1,hvi,c5,Int.toNat_natCast,q,k1,Nat.sub_zero])
    refine⟨hw,?_⟩
    exact items _ _ _ (by rw[List.length_set];exact hl) hP2 (hdset hil2 rfl hd) (hwset hwn) (fun h=>by rw[List.getElem_set_self];exact Nat.le_refl 1)
   ·(refine W_at c4_ok ⟨_,rfl,?_⟩;simp (disch:=first|omega|assumption|rfl|(simp only[vcS]<;>omega)|fail) only[↓vcN,vcQ,simprocAttr,hg4])
    have hP2:FwS w wj p3 p6 t vi vo (li.set i {li[i] with wit:=[[]]}) lo:={hP with
     ins:=ListN.upd hP.ins hvi hil2 _ fun c hc hR=>by
      obtain⟨sv',wv',n',e,b1,b2,b3,b4,_⟩:=hR
      rw[hrd] at hc
      have hc:=Option.some.inj hc
      have e35:wv=wv':=by
       have:=congrArg (fun a:Array Value=>a[35]?) (hc.trans e)
       simp only[iC_35 hoi.len] at this
       exact Option.some.inj this
      subst e35
      have hnn:nw=n':=by
       have a1:=hG.len
       rw[b2.len] at a1
       injection a1 with a1
       injection a1 with _ a1
       omega
      exact⟨sv',wv,n',e,b1,b2,b3,fun _=>by omega,fun e=>by cases e⟩
     okI:=fun x hx=>by
      rcases List.mem_or_eq_of_mem_set hx with hx|rfl
      ·exact hP.okI x hx
      ·exact⟨hoi.len,hoi.prev,hoi.idx,hoi.script,hoi.seq,fun b hb=>by rw[List.mem_singleton.1 hb];exact fun _ h=>by cases h⟩}
    exact items wj _ _ (by rw[List.length_set];exact hl) hP2 (hdset hil2 rfl hd) (hwset hwn) (fun h=>by rw[List.getElem_set_self];exact Nat.le_refl 1)
  obtain⟨g,o,cap,c,hvi,hrd,⟨sv,wv,nw,rfl,hsv,hG,hnw,_⟩,hm,cur,hg⟩:=ListN.at hP.ins hi0
  have hoi:=hP.okI _ (List.getElem_mem hi0)
  have d3:=hP.c3
  have q:=rdO_cell hrd (j:=33) (by omega)
  rw[iC_33 hoi.len] at q
  have hsl:=hsv.1.len
  have hlen:=ListN.len hP.ins
  iterate 3 (refine W_at c4_ok ⟨_,rfl,?_⟩;simp (disch:=first|omega|assumption|rfl|(simp only[vcS]<;>omega)|fail) only[↓vcN,vcQ,simprocAttr,d3,txC_1,hlen,hil,hvi,c3,Int.toNat_natCast,q,hsl])
  by_cases hg4:(by':Int)< (li0[i].script.length:Nat)
  ·have hEd:Ext wj0 wj0.drew:=(Keep.refl _ wj0).drew
   have hPd:=hP.keep hEd
   obtain⟨qs,cs,rfl,hcs⟩:=hsv.1.is
   have k1:(0:Int)≤(by':Nat)∧((by':Nat):Int)≤(cs:Nat):=by omega
   have hcut:=(hsv.keepT hEd fun _ h=>h.elim).cut (k:=by') (by omega)
   obtain⟨hw,hP2⟩:=hPd.setI (j:=33) hvi hi0 (by decide) (.slice qs by' cs) {li0[i] with script:=li0[i].script.take by'} ⟨hoi.len,hoi.prev,hoi.idx,byt_take hoi.script _,hoi.seq,hoi.wit⟩ (fun w' c hk hS hI=>by
    obtain⟨sv',wv',n',rfl,b1,b2,b3⟩:=hI
    refine⟨.slice qs by' cs,wv',n',?_,hcut.keepT hk fun g' hg' c=>by subst hg';exact(hS c).1,b2.keepT hk fun g' hg' c=>by subst hg';exact hS c,b3.1,b3.2.1,fun e=>(b3.2.2 e).keepT hk fun g' hg' c=>by subst hg';exact hS c⟩
    rw[iC_set33 hoi.len];rfl)
   iterate 2 (refine W_at c4_ok ⟨_,rfl,?_⟩;simp (disch:=first|omega|assumption|rfl|(simp only[vcS]<;>omega)|fail) only[↓vcN,vcQ,simprocAttr,hg4,d3,txC_1,hvi,c3,Int.toNat_natCast,q,k1,Nat.sub_zero])
   refine⟨hw,?_⟩
   refine wits _ _ _ (by rw[List.length_set]) hP2 (fun j hj hji=>?_) (hwset hwn)
   rw[List.length_set] at hj
   by_cases hjj:i=j
   ·subst hjj
    rw[List.getElem_set_self]
    show (li0[i].script.take by').length≤by'
    rw[List.length_take];omega
   ·rw[List.getElem_set_ne hjj]
    exact hd j hj (by omega)
  ·(refine W_at c4_ok ⟨_,rfl,?_⟩;simp (disch:=first|omega|assumption|rfl|(simp only[vcS]<;>omega)|fail) only[↓vcN,vcQ,simprocAttr,hg4])
   refine wits wj0 li0 _ rfl hP (fun j hj hji=>?_) hwn
   by_cases hjj:j=i
   ·subst hjj;omega
   ·exact hd j hj (by omega)
set_option maxHeartbeats 3200000 in
theorem few_ok (w:World)(iv ov:Value)(t:TxV)(n by':Nat)(hT:TxR w iv ov t)(hok:t.Ok)(hsz:t.Sz)(hn:n=3)(hb:by'=100):
  Calls Tryz.prog 4 #[.agg (txC t iv ov),.int .i64 (n:Nat),.int .i64 (by':Nat)] w (Ret fun u w'=> ∃t' iv' ov',u=.agg (txC t' iv' ov')∧TxT w.heap.size w' iv' ov' t'∧t'.Ok∧t'.Sz∧t'.Lim n by'∧t'.WLim∧Ext w w'):=by
 refine calls_of_cfg c4_ok (Nat.le_of_ble_eq_true rfl) ?_
 simp only[argE_nil,argE_cons,Nat.reduceAdd,Nat.zero_add]
 show W Tryz.prog (FewQ w n by') _ _ _ _
 have hi1:=ListR.one hT.ins
 have ho1:=ListR.one hT.outs
 have hfx:flat (txC t iv ov):=by intro y hy;simp only[txC,List.mem_cons,List.not_mem_nil,or_false] at hy;rcases hy with rfl|rfl|rfl|rfl<;>first|rfl|assumption
 have hcx:(Value.agg (txC t iv ov)).cells=txC t iv ov:=rfl
 have hzx:=txC_sz t iv ov
 (refine W_at c4_ok ⟨_,rfl,?_⟩;simp (disch:=first|omega|assumption|rfl|(simp only[vcS]<;>omega)|fail) only[↓vcN,vcQ,simprocAttr,hcx])
 have hE1:Ext w (w.alloc (.cells (txC t iv ov) 33)):=(Keep.refl _ w).alloc _
 have c1:(w.alloc (.cells (txC t iv ov) 33)).heap[w.heap.size]?=some (.cells (txC t iv ov) 33 (0,0)):=heap_new _ _ _ rfl
 have s1:(w.alloc (.cells (txC t iv ov) 33)).heap.size=w.heap.size+1:=size_alloc _ _
 generalize World.alloc w _=w1 at hE1 c1 s1⊢
 have hE2:Ext w1 (w1.alloc (.cells (zc [(1,.int .i32 0),(2,.slice none 0 0),(1,.int .u32 0)]) 33)):=(Keep.refl _ w1).alloc _
 have c2:(w1.alloc (.cells (zc [(1,.int .i32 0),(2,.slice none 0 0),(1,.int .u32 0)]) 33)).heap[w1.heap.size]?=some (.cells (zc [(1,.int .i32 0),(2,.slice none 0 0),(1,.int .u32 0)]) 33 (0,0)):=heap_new _ _ _ rfl
 generalize World.alloc w1 _=w2 at hE2 c2⊢
 rw[s1] at c2
 generalize hp1:w.heap.size=p3 at c1 c2 s1⊢
 generalize hp2:p3+1=p6 at c2 s1⊢
 have c12:=hE2.at c1 (fun h=>h)
 have hE02:=hE1.ext hE2
 have hr4:rdO (some (.cells (txC t iv ov) 33 (0,0))) 0 4=some (txC t iv ov):=rdO_all _ _ _ _ rfl
 (refine W_at c4_ok ⟨_,rfl,?_⟩;simp (disch:=first|omega|assumption|rfl|(simp only[vcS]<;>omega)|fail) only[↓vcN,vcQ,simprocAttr,c12,hr4])
 refine callV_ret (rcopy_ok w2 iv ov t (hT.ext hE02) hok hsz) ?_
 rintro _ w3 ⟨vi,vo,rfl,hI,hO,hE3⟩
 have c13:=hE3.at c12 (fun h=>h)
 have c23:=hE3.at c2 (fun h=>h)
 have hz2:=txC_sz t vi vo
 have ho4:okO (some (.cells (txC t iv ov) 33 (0,0))) 0 4=True:=by simp only[okO,hzx];simp
 first|(simp (disch:=first|omega|assumption|rfl|(simp only[vcS]<;>omega)|fail) only[↓vcN,vcQ,simprocAttr,c13,hz2,ho4])|skip
 have hw2:w.heap.size≤w2.heap.size:=hE02.size
 have hfv:flat (txC t vi vo):=by
  have a1:=ListN.one hI
  have a2:=ListN.one hO
  intro y hy;simp only[txC,List.mem_cons,List.not_mem_nil,or_false] at hy;rcases hy with rfl|rfl|rfl|rfl<;>first|rfl|assumption
 refine⟨hfv,?_⟩
 have hk4:Keep (fun g=>g=p3) w3 (w3.putN p3 0 (txC t vi vo)):=(Keep.refl _ w3).putN _ fun _=>rfl
 have hP:FwS w (w3.putN p3 0 (txC t vi vo)) p3 p6 t vi vo t.ins t.outs:=by
  refine⟨(hE02.ext hE3).trans hk4 fun g hg e=>by omega,by rw[heap_putN_eq c13,splice_all (by rw[hzx,hz2])],⟨_,hk4.at c23 (by omega),by decide⟩,?_,?_,by omega,by omega,by omega,hok.ins,hok.outs⟩
  ·exact ListN.imp (InsN.setT hI hk4 c13 (by decide) (by decide) (by decide)) hw2 fun c x hx hR=>(hR.base hw2).ig (hok.ins x hx) (hsz.inp x hx)
  ·exact ListN.imp (OusN.setT hO hk4 c13 (by decide) (by decide)) hw2 fun c y hy hR=>(hR.base hw2).og (hok.outs y hy) (hsz.out y hy)
 generalize World.putN _ _ _ _=w4 at hP⊢
 clear hk4 hfv c13 c23 hI hO hE3 c12 hr4 hE02 hE1 hE2 c1 c2
 have after:∀wj vi li tl,FwS w wj p3 p6 t vi vo li t.outs→li.length≤n→W Tryz.prog (FewQ w n by') 4 32 ((1,.int .i64 (n:Nat))::(2,.int .i64 (by':Nat))::(3,.pointer (some ⟨p3,0,none⟩))::(6,.pointer (some ⟨p6,0,none⟩))::tl) wj:=by
  intro wj vi li tl hP hli
  have go:∀wj vo lo tl,FwS w wj p3 p6 t vi vo li lo→lo.length≤n→W Tryz.prog (FewQ w n by') 4 29 ((1,.int .i64 (n:Nat))::(2,.int .i64 (by':Nat))::(3,.pointer (some ⟨p3,0,none⟩))::(6,.pointer (some ⟨p6,0,none⟩))::tl) wj:=by
   intro wj vo lo tl hP hlo
   (refine W_at c4_ok ⟨_,rfl,?_⟩;simp (disch:=first|omega|assumption|rfl|(simp only[vcS]<;>omega)|fail) only[↓vcN,vcQ,simprocAttr])
   exact few_ins w p3 p6 t n by' hok hn hb vi vo lo hlo li.length 0 wj li _ (by omega) hli hP (fun j _ h=>by omega) (fun j _ h=>by omega)
  have d3:=hP.c3
  have hlen:=ListN.len hP.outs
  (refine W_at c4_ok ⟨_,rfl,?_⟩;simp (disch:=first|omega|assumption|rfl|(simp only[vcS]<;>omega)|fail) only[↓vcN,vcQ,simprocAttr,d3,txC_2,hlen])
  by_cases hg:(n:Int)< (t.outs.length:Nat)
  ·obtain⟨q,c,rfl,hc⟩:=ListN.is hP.outs
   have k1:(0:Int)≤(n:Nat)∧((n:Nat):Int)≤(c:Nat):=by omega
   obtain⟨hw,hP2⟩:=hP.put2 (ListN.take hP.outs (k:=n) (by omega)) fun x hx=>List.mem_of_mem_take hx
   have h1:(Value.slice q n c).oneCell'=true:=rfl
   iterate 2 (refine W_at c4_ok ⟨_,rfl,?_⟩;simp (disch:=first|omega|assumption|rfl|(simp only[vcS]<;>omega)|fail) only[↓vcN,vcQ,simprocAttr,hg,d3,txC_2,k1,Int.toNat_natCast,Nat.sub_zero])
   refine⟨hw,?_⟩
   exact go _ _ _ _ hP2 (by rw[List.length_take];omega)
  ·(refine W_at c4_ok ⟨_,rfl,?_⟩;simp (disch:=first|omega|assumption|rfl|(simp only[vcS]<;>omega)|fail) only[↓vcN,vcQ,simprocAttr,hg])
   exact go _ _ _ _ hP (by omega)
 have d3:=hP.c3
 have hlen:=ListN.len hP.ins
 (refine W_at c4_ok ⟨_,rfl,?_⟩;simp (disch:=first|omega|assumption|rfl|(simp only[vcS]<;>omega)|fail) only[↓vcN,vcQ,simprocAttr,d3,txC_1,hlen])
 by_cases hg:(n:Int)< (t.ins.length:Nat)
 ·obtain⟨q,c,rfl,hc⟩:=ListN.is hP.ins
  have k1:(0:Int)≤(n:Nat)∧((n:Nat):Int)≤(c:Nat):=by omega
  obtain⟨hw,hP2⟩:=hP.put1 (ListN.take hP.ins (k:=n) (by omega)) fun x hx=>List.mem_of_mem_take hx
  iterate 2 (refine W_at c4_ok ⟨_,rfl,?_⟩;simp (disch:=first|omega|assumption|rfl|(simp only[vcS]<;>omega)|fail) only[↓vcN,vcQ,simprocAttr,hg,d3,txC_1,k1,Int.toNat_natCast,Nat.sub_zero])
  refine⟨hw,?_⟩
  exact after _ _ _ _ hP2 (by rw[List.length_take];omega)
 ·(refine W_at c4_ok ⟨_,rfl,?_⟩;simp (disch:=first|omega|assumption|rfl|(simp only[vcS]<;>omega)|fail) only[↓vcN,vcQ,simprocAttr,hg])
  exact after _ _ _ _ hP (by omega)
end Go.Proofs
