/- 'strongboxtop.StrongboxCarried' returns true for every input, and the input reads as it did. No condition. -/
import Derived.Test.YtmnogjgmkpjpoaaGreatR8
import Derived.Test.YtmnogjgmkpjpoaaGreatRows
set_option linter.unusedSimpArgs false
set_option linter.unusedVariables false
set_option linter.constructorNameAsVariable false
namespace Go.Proofs
open Go.Vc
set_option maxRecDepth 10000
theorem conf_bv (p:List Int)(ls:List SK)(vs:List Value):conf (List.replicate p.length (.i .u8)++ls) (bv p++vs)=conf ls vs:=by
 induction p with
 |nil=>rfl
 |cons b p ih=>
  simp only[bv,List.length_cons,List.replicate_succ,List.map_cons,List.cons_append,conf,SK.ok,decide_true,Bool.true_and] at ih⊢
  exact ih
theorem conf68 {h:HdV}(ho:h.Ok):conf (skR [(1,.i .i32),(64,.i .u8),(3,.i .u32)]) (hC h).toList=true:=by
 have e:skR [(1,.i .i32),(64,.i .u8),(3,.i .u32)]=.i .i32::(List.replicate h.prev.length (.i .u8)++(List.replicate h.merkle.length (.i .u8)++[.i .u32,.i .u32,.i .u32])):=by rw[ho.plen,ho.mlen];simp [skR]
 rw[e]
 show (true&&conf _ (bv h.prev++(bv h.merkle++_)))=true
 rw[Bool.true_and,conf_bv,conf_bv]
 rfl
theorem eqA_hC {h:HdV}(ho:h.Ok):eqAR true (skR [(1,.i .i32),(64,.i .u8),(3,.i .u32)]) (.agg (hC h)) (.agg (hC h))=some (.bool false):=by
 rw[eqA_a,if_pos ⟨conf68 ho,conf68 ho⟩,eqc_self];rfl
theorem TxV.Sm3.sz {t:TxV}(h:t.Sm3):t.Sz:=by
 have h1:=h.few.ins
 have h2:=h.few.outs
 exact⟨by omega,by omega,fun x hx=>⟨by have:=h.few.iscr x hx;omega,by have:=(h.wl x hx).1;omega,fun p hp=>by have:=(h.wl x hx).2 p hp;omega⟩,fun y hy=>by have:=h.few.oscr y hy;omega⟩
set_option maxHeartbeats 1600000 in
theorem rbsame_ok (w:World)(h:HdV)(v v':Value)(ts:List TxV)(hT:TxsR w v ts)(hT':TxsR w v' ts)(hb:BOk h ts):
  Calls Tryz.prog 13 #[.agg (bC h v),.agg (bC h v')] w (Ret fun u w'=>u=.bool true∧Ext w w'):=by
 refine calls_of_cfg c13_ok (Nat.le_of_ble_eq_true rfl) ?_
 simp only[argE_nil,argE_cons,Nat.reduceAdd,Nat.zero_add]
 have ho:=hb.ho
 have hn:=hb.n
 have hbs:=bC_size ho v
 have hbf:=bC_flat h (u:=v) (ListR.one hT)
 have hbx:(Value.agg (bC h v)).cells=bC h v:=rfl
 have hbs':=bC_size ho v'
 have hbf':=bC_flat h (u:=v') (ListR.one hT')
 have hbx':(Value.agg (bC h v')).cells=bC h v':=rfl
 (refine W_at c13_ok ⟨_,rfl,?_⟩;simp (disch:=first|omega|assumption|rfl|(simp only[vcS]<;>omega)|fail) only[↓vcN,vcQ,simprocAttr,hbx,hbx'])
 have hE1:Ext w (w.alloc (.cells (bC h v) 29)):=(Keep.refl _ w).alloc _
 have c2:(w.alloc (.cells (bC h v) 29)).heap[w.heap.size]?=some (.cells (bC h v) 29 (0,0)):=heap_new _ _ _ rfl
 have s1:(w.alloc (.cells (bC h v) 29)).heap.size=w.heap.size+1:=size_alloc _ _
 generalize World.alloc w _=w1 at hE1 c2 s1⊢
 have hE2:Ext w1 (w1.alloc (.cells (bC h v') 29)):=(Keep.refl _ w1).alloc _
 have c3:(w1.alloc (.cells (bC h v') 29)).heap[w.heap.size+1]?=some (.cells (bC h v') 29 (0,0)):=heap_new _ _ _ s1.symm
 generalize World.alloc w1 _=w2 at hE2 c3⊢
 have c2:=hE2.at c2 (fun h=>h)
 have hE:=hE1.ext hE2
 clear hE1 hE2 s1
 generalize w.heap.size+1=p3 at c3⊢
 generalize w.heap.size=p2 at c2⊢
 have rx:=bC_head ho v 29 (0,0)
 have ry:=bC_head ho v' 29 (0,0)
 have qe:=eqA_hC ho
 have b68:=bC_68 ho v
 have b68':=bC_68 ho v'
 have hl:=ListR.len hT
 have hl':=ListR.len hT'
 iterate 3 (refine W_at c13_ok ⟨_,rfl,?_⟩;simp (disch:=first|omega|assumption|rfl|(simp only[vcS]<;>omega)|fail) only[↓vcN,vcQ,simprocAttr,c2,c3,rx,ry,qe,b68,b68',hl,hl'])
 have L:∀(k i:Nat) (wj:World) (tl:Env),k+i=ts.length→Ext w2 wj→W Tryz.prog (Ret fun u w'=>u=.bool true∧Ext w w') 13 10 ((2,.pointer (some ⟨p2,0,none⟩))::(3,.pointer (some ⟨p3,0,none⟩))::(5,.int .i64 (i:Nat))::tl) wj:=by
  intro k
  induction k with
  |zero=>
   intro i wj tl hi hj
   have hno:¬((i:Nat):Int)< (ts.length:Nat):=by omega
   have c2j:=hj.at c2 (fun h=>h)
   iterate 4 (refine W_at c13_ok ⟨_,rfl,?_⟩;simp (disch:=first|omega|assumption|rfl|(simp only[vcS]<;>omega)|fail) only[↓vcN,vcQ,simprocAttr,c2j,b68,hl,hno,Ret_returned])
   exact hE.ext hj
  |succ k ih=>
   intro i wj tl hi hj
   have hil:i<ts.length:=by omega
   have hlt:((i:Nat):Int)< (ts.length:Nat):=by omega
   have b1:0≤((i:Nat):Int)∧((i:Nat):Int)< (ts.length:Nat):=by omega
   have hwi:IntKind.i64.wrap (((i:Nat):Int)+1)=((i+1:Nat):Int):=wrap_i64 (by omega) (by omega)
   have hEd:Ext wj wj.drew:=(Keep.refl _ wj).drew
   have hjd:=hj.ext hEd
   have c2j:=hj.at c2 (fun h=>h)
   have c3j:=hj.at c3 (fun h=>h)
   have c2d:=hjd.at c2 (fun h=>h)
   have c3d:=hjd.at c3 (fun h=>h)
   obtain⟨b,o,c,cs,ev,hr,_,iv,ov,rfl,hR⟩:=ListR.at (hT.ext (hE.ext hj)) hil
   obtain⟨b',o',c',cs',ev',hr',_,iv',ov',rfl,hR'⟩:=ListR.at (hT'.ext (hE.ext hj)) hil
   have h3:=hb.txs _ (List.getElem_mem hil)
   generalize ts[i]=t at hr hr' hR hR' h3
   have g68:(bC h v)[68]?=some (.slice (some ⟨b,o,none⟩) ts.length c):=by rw[b68,ev]
   have g68':(bC h v')[68]?=some (.slice (some ⟨b',o',none⟩) ts.length c'):=by rw[b68',ev']
   have hrd:=rdO_ext' hEd hr
   have hrd':=rdO_ext' hEd hr'
   (refine W_at c13_ok ?_;refine⟨_,rfl,?_⟩;simp (disch:=first|omega|assumption|rfl|(simp only[vcS]<;>omega)|fail) only[↓vcA,vcB,↓reduceIte,Nat.reduceEqDiff,Option.bind_some,vcM,c2j,b68,hl,hlt])
   (refine W_at c13_ok ?_;refine⟨_,rfl,?_⟩;simp (disch:=first|omega|assumption|rfl|(simp only[vcS]<;>omega)|fail) only[↓vcA,vcB,↓reduceIte,Nat.reduceEqDiff])
   (refine W_at c13_ok ?_;refine⟨_,rfl,?_⟩;simp (disch:=first|omega|assumption|rfl|(simp only[vcS]<;>omega)|fail) only[↓ptV_l,↓vcA,vcB,↓reduceIte,Nat.reduceEqDiff,Option.bind_some,Option.map_some,vcM,c2j,c3j,g68,g68',b1,Int.toNat_natCast,hr,hr'])
   refine callV_ret (same09_ok wj.drew iv ov iv' ov' t (hR.ext hEd) (hR'.ext hEd) h3.ok h3.sz) ?_
   rintro _ wk ⟨rfl,hEk⟩
   first|(simp (disch:=first|omega|assumption|rfl|(simp only[vcS]<;>omega)|fail) only[↓vcN,vcQ,simprocAttr])|skip
   iterate 3 (refine W_at c13_ok ⟨_,rfl,?_⟩;simp (disch:=first|omega|assumption|rfl|(simp only[vcS]<;>omega)|fail) only[↓vcN,vcQ,simprocAttr,hwi])
   exact ih (i+1) _ _ (by omega) (hjd.ext hEk)
 exact L ts.length 0 w2 _ (by omega) (Keep.refl _ w2)
end Go.Proofs
namespace Go.Proofs
open Go.Vc
set_option maxRecDepth 10000
set_option maxHeartbeats 6400000 in
theorem carr_each (w wZ:World)(p2 p10:Nat)(h:HdV)(vb vc:Value)(ts:List TxV)(m:Nat)(hb:BOk h ts)(hn5:ts.length≤5)(hf:BFine ts)(hk:Ext w wZ)(hl10:w.heap.size≤p10)(hm:m≤wZ.heap.size)(hmw:w.heap.size≤m)(h210:p2≠p10)
  (c2:wZ.heap[p2]?=some (.cells (bC h vb) 29 (0,0))) (c10:wZ.heap[p10]?=some (.cells (bC h vc) 29 (0,0))) (hTb:TxsR wZ vb ts) (hTc:TxsN m wZ vc ts):
  ∀(k i:Nat) (wj:World) (tl:Env),k+i=ts.length→Ext wZ wj→
   W Tryz.prog (Ret fun u w'=>u=.bool true∧Ext w w') 3 14 ((2,.pointer (some ⟨p2,0,none⟩))::(10,.pointer (some ⟨p10,0,none⟩))::(104,vc)::(105,.int .i64 (ts.length:Nat))::(106,.int .i64 (i:Nat))::tl) wj:=by
 intro k
 induction k with
 |zero=>
  intro i wj tl hi hj
  obtain rfl:i=ts.length:=by omega
  have hno:¬((ts.length:Nat):Int)< (ts.length:Nat):=by omega
  iterate 2 (refine W_at c3_ok ⟨_,rfl,?_⟩;simp (disch:=first|omega|assumption|rfl|(simp only[vcS]<;>omega)|fail) only[↓vcN,vcQ,simprocAttr,hno])
  obtain⟨n,hnl⟩:∃n,ts.length=n+1:=by
   cases hts:ts with
   |nil=>exact absurd hts hf.ne
   |cons t l=>exact⟨l.length,rfl⟩
  exact carr_tail w wj p2 p10 h vb vc ts m hb hn5 (hk.ext hj) hl10 (Nat.le_trans hm hj.size) hmw h210 (hj.at c2 fun h=>h) (hj.at c10 fun h=>h) (TxsN.ext hTc hj) n hnl _
 |succ k ih=>
  intro i wj tl hi hj
  have ho:=hb.ho
  have hil:i<ts.length:=by omega
  have hlt:((i:Nat):Int)< (ts.length:Nat):=by omega
  have b1:0≤((i:Nat):Int)∧((i:Nat):Int)< (ts.length:Nat):=by omega
  have hwi:IntKind.i64.wrap (((i:Nat):Int)+1)=((i+1:Nat):Int):=wrap_i64 (by omega) (by omega)
  have hmem:ts[i]∈ts:=List.getElem_mem hil
  have h3:=hb.txs _ hmem
  have hins:=hf.ins _ hmem
  have hchk:=hf.chk _ hmem
  have hcoin:=hf.coin i hil
  have hcr:=hTc.r
  obtain⟨b,o,c,cs,ev,hrr,hcs,iv,ov,ecs,hR⟩:=(hcr.ext hj).at hil
  obtain⟨b',o',c',cs',ev',hrr',hcs',iv',ov',ecs',hR'⟩:=(hTb.ext hj).at hil
  generalize ts[i]=t at*
  subst ecs ecs'
  have s4:=txC_sz t iv ov
  rw[ev]
  iterate 3 (refine W_at c3_ok ⟨_,rfl,?_⟩;simp (disch:=first|omega|assumption|rfl|(simp only[vcS]<;>omega)|fail) only[↓vcN,vcQ,simprocAttr,hlt,b1,Int.toNat_natCast,hrr,s4])
  refine⟨txC_flat2 hR,by decide,?_⟩
  have hEb:Ext wj ((wj.alloc (.cells (zc [(1,.int .i32 0),(2,.slice none 0 0),(1,.int .u32 0)]) 33)).putN wj.heap.size 0 (txC t iv ov)):=((Keep.refl _ wj).alloc _).putN _ (by intro hh;exfalso;omega)
  have h9:((wj.alloc (.cells (zc [(1,.int .i32 0),(2,.slice none 0 0),(1,.int .u32 0)]) 33)).putN wj.heap.size 0 (txC t iv ov)).heap[wj.heap.size]?=some (.cells (txC t iv ov) 33 (0,0)):=by
   rw[heap_putN_eq (heap_new _ _ _ rfl),splice_all (by rw[s4];rfl)]
  generalize World.putN _ _ _ _=wa at hEb h9⊢
  generalize wj.heap.size=p9 at h9⊢
  have r4:rdO (some (.cells (txC t iv ov) 33 (0,0))) 0 4=some (txC t iv ov):=rdO_all _ _ _ _ s4
  (refine W_at c3_ok ⟨_,rfl,?_⟩;simp (disch:=first|omega|assumption|rfl|(simp only[vcS]<;>omega)|fail) only[↓vcN,vcQ,simprocAttr,h9,r4])
  refine callV_ret (encodeW_ok wa iv ov t true (hR.ext hEb) h3) ?_
  intro u wb hu
  rw[encT_eq] at hu
  first|(simp (disch:=first|omega|assumption|rfl|(simp only[vcS]<;>omega)|fail) only[↓vcN,vcQ,simprocAttr])|skip
  refine callV_ret (tdecode_ok wb u t h3 hins hu.own.rd) ?_
  rintro _ wc ⟨iv2,ov2,rfl,hI,hO,hEc⟩
  have hcx:(Value.agg (txC t iv2 ov2)).cells=txC t iv2 ov2:=rfl
  have s42:=txC_sz t iv2 ov2
  first|(simp (disch:=first|omega|assumption|rfl|(simp only[vcS]<;>omega)|fail) only[↓vcN,vcQ,simprocAttr,s42])|skip
  refine⟨txC_fl (ListN.one hI) (ListN.one hO),by decide,?_⟩
  have hR2:TxR wc iv2 ov2 t:=⟨ListN.toR hI fun _ _ h=>h.at,ListN.toR hO fun _ _ h=>h.at⟩
  have hEd:Ext wc ((wc.alloc (.cells (zc [(1,.int .i32 0),(2,.slice none 0 0),(1,.int .u32 0)]) 33)).putN wc.heap.size 0 (txC t iv2 ov2)):=((Keep.refl _ wc).alloc _).putN _ (by intro hh;exfalso;omega)
  have h13:((wc.alloc (.cells (zc [(1,.int .i32 0),(2,.slice none 0 0),(1,.int .u32 0)]) 33)).putN wc.heap.size 0 (txC t iv2 ov2)).heap[wc.heap.size]?=some (.cells (txC t iv2 ov2) 33 (0,0)):=by
   rw[heap_putN_eq (heap_new _ _ _ rfl),splice_all (by rw[s42];rfl)]
  generalize World.putN _ _ _ _=wd at hEd h13⊢
  generalize wc.heap.size=p13 at h13⊢
  have hjd:=(((hj.ext hEb).ext hu.ext).ext hEc).ext hEd
  have hEjd:=((hEb.ext hu.ext).ext hEc).ext hEd
  have hR2d:=hR2.ext hEd
  have hR'd:=hR'.ext hEjd
  have rd':=rdO_ext' hEjd hrr'
  have c2d:=hjd.at c2 (fun h=>h)
  have g68:(bC h vb)[68]?=some (.slice (some ⟨b',o',none⟩) ts.length c'):=by rw[bC_68 ho,ev']
  have r4':∀T,rdO (some (.cells (txC t iv2 ov2) T (0,0))) 0 4=some (txC t iv2 ov2):=fun T=>rdO_all _ _ _ _ s42
  have hz0:¬((0:Int)≠0):=fun h=>h rfl
  clear hR hR2 hR' hrr hrr' h9 hEb hEc hEd hI hO hu hEjd
  (refine W_at c3_ok ⟨_,rfl,?_⟩;simp (disch:=first|omega|assumption|rfl|(simp only[vcS]<;>omega)|fail) only[↓vcX,ptS2_eq,vcQ,simprocAttr,h13,r4'])
  have hEr:Ext wd wd.drew:=(Keep.refl _ wd).drew
  refine callV_ret (tcheck_ok wd.drew iv2 ov2 t (hR2d.ext hEr) h3) ?_
  rintro _ we ⟨rfl,hEe⟩
  rw[hchk]
  have hdr:=hEr.ext hEe
  have h13e:=hdr.at h13 (fun h=>h)
  have hci:(decide ((i:Int)=0))=decide (i=0):=by congr 1;apply propext;omega
  simp (disch:=first|omega|assumption|rfl|(simp only[vcS]<;>omega)|fail) only[↓vcY,ptS1_eq,vcQ,simprocAttr,h13e,r4',hci]
  refine callV_ret (coinbase_ok we iv2 ov2 t (hR2d.ext hdr) h3.ok (by have:=h3.few.ins;omega)) ?_
  rintro _ wf ⟨rfl,hEf⟩
  rw[hcoin]
  have hdf:=hdr.ext hEf
  have h13f:=hdf.at h13 (fun h=>h)
  have c2f:=hdf.at c2d (fun h=>h)
  have rf':=rdO_ext' hdf rd'
  have hxx:(true^^(decide (i=0)==decide (i=0)))=false:=by simp
  have hxy:(!(decide (i=0)==decide (i=0)))=false:=by simp
  simp (disch:=first|omega|assumption|rfl|(simp only[vcS]<;>omega)|fail) only[↓vcX,ptS2_eq,vcQ,simprocAttr,h13f,r4',c2f,g68,b1,Int.toNat_natCast,rf',hxy]
  refine callV_ret (tsame_ok wf iv2 ov2 iv' ov' t (hR2d.ext hdf) (hR'd.ext hdf) h3) ?_
  rintro _ wg ⟨rfl,hEg⟩
  first|(simp (disch:=first|omega|assumption|rfl|(simp only[vcS]<;>omega)|fail) only[↓vcY,ptS1_eq,vcQ,simprocAttr])|skip
  iterate 3 (refine W_at c3_ok ⟨_,rfl,?_⟩;simp (disch:=first|omega|assumption|rfl|(simp only[vcS]<;>omega)|fail) only[↓vcN,vcQ,simprocAttr,hwi])
  rw[←ev]
  exact ih (i+1) wg _ (by omega) ((hjd.ext hdf).ext hEg)
end Go.Proofs
namespace Go.Proofs
open Go.Vc
set_option maxRecDepth 10000
set_option maxHeartbeats 3200000 in
theorem rbcheck_ok (w:World)(h:HdV)(v:Value)(ts:List TxV)(hT:TxsR w v ts)(hb:BOk h ts):
  Calls Tryz.prog 7 #[.agg (bC h v)] w (Ret fun u w'=>u=.int .i64 (chkB h ts)∧Ext w w'):=by
 refine calls_of_cfg c7_ok (Nat.le_of_ble_eq_true rfl) ?_
 simp only[argE_nil,argE_cons,Nat.zero_add]
 have ho:=hb.ho
 have hn:=hb.n
 have hbs:=bC_size ho v
 have hbf:=bC_flat h (u:=v) hT.one
 have hbx:(Value.agg (bC h v)).cells=bC h v:=rfl
 have b68:=bC_68 ho v
 have rh:=bC_head ho v 29 (0,0)
 have ra:=bC_all ho v 29 (0,0)
 have rm:=bC_mrk ho v 29 (0,0)
 have hlT:=hT.len
 have hch:chkB h ts=if prF h=false then 12
   else if ts.length=0 then 3
   else if formL 0 ts=false then 3
   else if h.merkle≠rootF ts then 5
   else if errL ts≠0 then errL ts
   else if dupF [] (ts.map tid) then 18 else 0:=rfl
 (refine W_at c7_ok ⟨_,rfl,?_⟩;simp (disch:=first|omega|assumption|rfl|(simp only[vcS]<;>omega)|fail) only[↓vcN,vcQ,simprocAttr,hbx])
 have hE1:Ext w (w.alloc (.cells (bC h v) 29)):=(Keep.refl _ w).alloc _
 have c1:(w.alloc (.cells (bC h v) 29)).heap[w.heap.size]?=some (.cells (bC h v) 29 (0,0)):=heap_new _ _ _ rfl
 generalize World.alloc w _=w1 at hE1 c1⊢
 generalize w.heap.size=p1 at*
 (refine W_at c7_ok ⟨_,rfl,?_⟩;simp (disch:=first|omega|assumption|rfl|(simp only[vcS]<;>omega)|fail) only[↓vcN,vcQ,simprocAttr,c1,rh])
 refine callV_ret (rproved_ok w1 h ho) ?_
 rintro _ w2 ⟨rfl,hE2⟩
 have c12:=hE2.at c1 (fun h=>h)
 have hE02:=hE1.ext hE2
 first|(simp (disch:=first|omega|assumption|rfl|(simp only[vcS]<;>omega)|fail) only[↓vcN,vcQ,simprocAttr])|skip
 cases hp:prF h with
 |false=>
  rw[hch,if_pos hp]
  iterate 3 (refine W_at c7_ok ⟨_,rfl,?_⟩;simp (disch:=first|omega|assumption|rfl|(simp only[vcS]<;>omega)|fail) only[↓vcN,vcQ,simprocAttr,Ret_returned])
  exact hE02
 |true=>
 rw[if_neg (by rw[hp];decide)] at hch
 (refine W_at c7_ok ⟨_,rfl,?_⟩;simp (disch:=first|omega|assumption|rfl|(simp only[vcS]<;>omega)|fail) only[↓vcN,vcQ,simprocAttr])
 by_cases h0:ts.length=0
 ·have h0i:((ts.length:Nat):Int)=0:=by omega
  rw[hch,if_pos h0]
  iterate 4 (refine W_at c7_ok ⟨_,rfl,?_⟩;simp (disch:=first|omega|assumption|rfl|(simp only[vcS]<;>omega)|fail) only[↓vcN,vcQ,simprocAttr,c12,b68,hlT,h0i,Ret_returned])
  exact hE02
 have h0i:¬(((ts.length:Nat):Int)=0):=by omega
 rw[if_neg h0] at hch
 iterate 3 (refine W_at c7_ok ⟨_,rfl,?_⟩;simp (disch:=first|omega|assumption|rfl|(simp only[vcS]<;>omega)|fail) only[↓vcN,vcQ,simprocAttr,c12,b68,hlT,h0i])
 have pl:∀j,j<ts.length→∀w',Ext w w'→∃b o c iv ov,v=.slice (some ⟨b,o,none⟩) ts.length c∧∀hj:j<ts.length,rdO w'.heap[b]? (o+j*4) 4=some (txC ts[j] iv ov)∧TxR w' iv ov ts[j]:=fun j hj w' hw'=>by
  obtain⟨b,o,c,cs,ev,hrr,hcs,iv,ov,ecs,hR⟩:=(hT.ext hw').at hj
  exact⟨b,o,c,iv,ov,ev,fun _=>⟨by rw[hrr,ecs],hR⟩⟩
 have LD:∀(k i:Nat) (wj:World) (tl:Env),k+i=ts.length→chkB h ts=(if dupF [] (ts.map tid) then 18 else 0)→Ext w wj→wj.heap[p1]?=some (.cells (bC h v) 29 (0,0))→dupF [] (ts.map tid)=dupF ((ts.map tid).take i) ((ts.map tid).drop i)→
   W Tryz.prog (Ret fun u w'=>u=.int .i64 (chkB h ts)∧Ext w w') 7 15 ((1,.pointer (some ⟨p1,0,none⟩))::(6,.int .i64 (i:Nat))::tl) wj:=by
  intro k
  induction k with
  |zero=>
   intro i wj tl hi hch hE c1 hd
   obtain rfl:i=ts.length:=by omega
   have hno:¬((ts.length:Nat):Int)< (ts.length:Nat):=by omega
   rw[List.drop_eq_nil_of_le (by rw[List.length_map];omega)] at hd
   rw[hd] at hch
   have hc0:chkB h ts=0:=hch
   rw[hc0]
   iterate 4 (refine W_at c7_ok ⟨_,rfl,?_⟩;simp (disch:=first|omega|assumption|rfl|(simp only[vcS]<;>omega)|fail) only[↓vcN,vcQ,simprocAttr,c1,b68,hlT,hno,Ret_returned])
   exact hE
  |succ k ih=>
   intro i wj tl hi hch hE c1 hd
   have hil:i<ts.length:=by omega
   have hlt:((i:Nat):Int)< (ts.length:Nat):=by omega
   have b1:0≤((i:Nat):Int)∧((i:Nat):Int)< (ts.length:Nat):=by omega
   have hwi:IntKind.i64.wrap (((i:Nat):Int)+1)=((i+1:Nat):Int):=wrap_i64 (by omega) (by omega)
   rw[dupF_at (by rw[List.length_map];exact hil),List.getElem_map] at hd
   iterate 3 (refine W_at c7_ok ⟨_,rfl,?_⟩;simp (disch:=first|omega|assumption|rfl|(simp only[vcS]<;>omega)|fail) only[↓vcN,vcQ,simprocAttr,c1,b68,hlT,hlt])
   have LK:∀(m j:Nat) (wk:World) (tl:Env),m+j=i→Ext w wk→wk.heap[p1]?=some (.cells (bC h v) 29 (0,0))→(tid ts[i]∈(ts.map tid).take i↔tid ts[i]∈((ts.map tid).take i).drop j)→
     W Tryz.prog (Ret fun u w'=>u=.int .i64 (chkB h ts)∧Ext w w') 7 12 ((1,.pointer (some ⟨p1,0,none⟩))::(6,.int .i64 (i:Nat))::(7,.int .i64 (j:Nat))::tl) wk:=by
    intro m
    induction m with
    |zero=>
     intro j wk tl hj hEk c1k hm
     obtain rfl:j=i:=by omega
     have hno:¬((j:Nat):Int)< (j:Nat):=by omega
     rw[List.drop_eq_nil_of_le (by rw[List.length_take];omega)] at hm
     have hnin:¬tid ts[j]∈(ts.map tid).take j:=fun h=>by have:=hm.1 h;cases this
     have hd1:dupF [] (ts.map tid)=dupF ((ts.map tid).take (j+1)) ((ts.map tid).drop (j+1)):=by rw[hd];simp [hnin]
     iterate 4 (refine W_at c7_ok ⟨_,rfl,?_⟩;simp (disch:=first|omega|assumption|rfl|(simp only[vcS]<;>omega)|fail) only[↓vcN,vcQ,simprocAttr,hno,hwi])
     exact ih (j+1) wk _ (by omega) hch hEk c1k hd1
    |succ m ihm=>
     intro j wk tl hj hEk c1k hm
     have hjl:j<ts.length:=by omega
     have hlt2:((j:Nat):Int)< (i:Nat):=by omega
     have b2:0≤((j:Nat):Int)∧((j:Nat):Int)< (ts.length:Nat):=by omega
     have hwj:IntKind.i64.wrap (((j:Nat):Int)+1)=((j+1:Nat):Int):=wrap_i64 (by omega) (by omega)
     have hgl:((ts.map tid).take i)[j]'(by rw[List.length_take,List.length_map];omega)=tid ts[j]:=by simp
     rw[List.drop_eq_getElem_cons (by rw[List.length_take,List.length_map];omega),hgl,List.mem_cons] at hm
     have hEd:Ext wk wk.drew:=(Keep.refl _ wk).drew
     have hEkd:=hEk.ext hEd
     obtain⟨b,o,c,iv,ov,ev,hi0⟩:=pl i hil wk.drew hEkd
     obtain⟨hri,hRi⟩:=hi0 hil
     obtain⟨b',o',c',iv',ov',ev',hj0⟩:=pl j hjl wk.drew hEkd
     obtain⟨hrj,hRj⟩:=hj0 hjl
     rw[ev] at ev'
     cases ev'
     have h3i:=hb.txs _ (List.getElem_mem hil)
     have h3j:=hb.txs _ (List.getElem_mem hjl)
     have c1d:=hEd.at c1k (fun h=>h)
     have hri':rdO wk.heap[b]? (o+i*4) 4=some (txC ts[i] iv ov):=hri
     have hrj':rdO wk.heap[b]? (o+j*4) 4=some (txC ts[j] iv' ov'):=hrj
     have b68':(bC h v)[68]?=some (.slice (some ⟨b,o,none⟩) ts.length c):=by rw[←ev];exact b68
     iterate 2 (refine W_at c7_ok ⟨_,rfl,?_⟩;simp (disch:=first|omega|assumption|rfl|(simp only[vcS]<;>omega)|fail) only[↓vcN,vcQ,simprocAttr,hlt2])
     (refine W_at c7_ok ⟨_,rfl,?_⟩;simp (disch:=first|omega|assumption|rfl|(simp only[vcS]<;>omega)|fail) only[↓vcX,ptS2_eq,vcQ,simprocAttr,c1k,b68',b1,b2,Int.toNat_natCast,hri',hrj'])
     refine callV_ret (rid_ok wk.drew iv ov ts[i] hRi h3i) ?_
     rintro _ wl ⟨rfl,hEl⟩
     have c1l:=hEl.at c1d (fun h=>h)
     have hrjl:=rdO_ext' hEl hrj
     simp (disch:=first|omega|assumption|rfl|(simp only[vcS]<;>omega)|fail) only[↓vcY,ptS1_eq,vcQ,simprocAttr,c1l,b68',hrjl]
     refine callV_ret (rid_ok wl iv' ov' ts[j] (hRj.ext hEl) h3j) ?_
     rintro _ wm ⟨rfl,hEm⟩
     have c1m:=hEm.at c1l (fun h=>h)
     have hEw:=(hEkd.ext hEl).ext hEm
     have et:∀t,dblF (encW t (false&&witB t))=tid t:=fun _=>rfl
     rw[et,et]
     have q1:=conf32 (tid_len ts[i])
     have q2:=conf32 (tid_len ts[j])
     have q3:=eqc32 (tid ts[i]) (tid ts[j])
     by_cases he:tid ts[i]=tid ts[j]
     ·have hin:tid ts[i]∈(ts.map tid).take i:=hm.2 (.inl he)
      have hd1:dupF [] (ts.map tid)=true:=by rw[hd];simp [hin]
      rw[hd1,if_pos rfl] at hch
      rw[decide_eq_true he] at q3
      rw[hch]
      simp (disch:=first|omega|assumption|rfl|(simp only[vcS]<;>omega)|fail) only[↓vcX,ptS2_eq,vcQ,simprocAttr,q1,q2,q3,Bool.false_xor]
      first|((refine W_at c7_ok ⟨_,rfl,?_⟩;simp (disch:=first|omega|assumption|rfl|(simp only[vcS]<;>omega)|fail) only[↓vcN,vcQ,simprocAttr]))|skip
      iterate 2 (refine W_at c7_ok ⟨_,rfl,?_⟩;simp (disch:=first|omega|assumption|rfl|(simp only[vcS]<;>omega)|fail) only[↓vcN,vcQ,simprocAttr,Ret_returned])
      exact hEw
     ·rw[decide_eq_false he] at q3
      simp (disch:=first|omega|assumption|rfl|(simp only[vcS]<;>omega)|fail) only[↓vcX,ptS2_eq,vcQ,simprocAttr,q1,q2,q3,Bool.false_xor]
      first|((refine W_at c7_ok ⟨_,rfl,?_⟩;simp (disch:=first|omega|assumption|rfl|(simp only[vcS]<;>omega)|fail) only[↓vcN,vcQ,simprocAttr]))|skip
      iterate 2 (refine W_at c7_ok ⟨_,rfl,?_⟩;simp (disch:=first|omega|assumption|rfl|(simp only[vcS]<;>omega)|fail) only[↓vcN,vcQ,simprocAttr,hwj])
      exact ihm (j+1) wm _ (by omega) hEw c1m ⟨fun h=>(hm.1 h).elim (fun e=>absurd e he) id,fun h=>hm.2 (.inr h)⟩
   exact LK i 0 wj _ (by omega) hE c1 (by rw[List.drop_zero])
 have LE:∀(k i:Nat) (wj:World) (tl:Env),k+i=ts.length→chkB h ts=(if errL ts≠0 then errL ts else if dupF [] (ts.map tid) then 18 else 0)→Ext w wj→wj.heap[p1]?=some (.cells (bC h v) 29 (0,0))→errL ts=errL (ts.drop i)→
   W Tryz.prog (Ret fun u w'=>u=.int .i64 (chkB h ts)∧Ext w w') 7 25 ((1,.pointer (some ⟨p1,0,none⟩))::(4,.int .i64 (i:Nat))::tl) wj:=by
  intro k
  induction k with
  |zero=>
   intro i wj tl hi hch hE c1 hd
   obtain rfl:i=ts.length:=by omega
   have hno:¬((ts.length:Nat):Int)< (ts.length:Nat):=by omega
   rw[List.drop_eq_nil_of_le (Nat.le_refl _)] at hd
   have hd0:errL ts=0:=hd
   rw[hd0,if_neg (fun h=>h rfl)] at hch
   iterate 3 (refine W_at c7_ok ⟨_,rfl,?_⟩;simp (disch:=first|omega|assumption|rfl|(simp only[vcS]<;>omega)|fail) only[↓vcN,vcQ,simprocAttr,c1,b68,hlT,hno])
   exact LD ts.length 0 wj _ (by omega) hch hE c1 rfl
  |succ k ih=>
   intro i wj tl hi hch hE c1 hd
   have hil:i<ts.length:=by omega
   have hlt:((i:Nat):Int)< (ts.length:Nat):=by omega
   have b1:0≤((i:Nat):Int)∧((i:Nat):Int)< (ts.length:Nat):=by omega
   have hwi:IntKind.i64.wrap (((i:Nat):Int)+1)=((i+1:Nat):Int):=wrap_i64 (by omega) (by omega)
   obtain⟨b,o,c,cs,ev,hrr,hcs,iv,ov,ecs,hR⟩:=(hT.ext hE).at hil
   have h3:=hb.txs _ (List.getElem_mem hil)
   rw[errL_at hil] at hd
   have ih':=ih (i+1)
   generalize ts[i]=t at*
   subst ecs
   have b68':(bC h v)[68]?=some (.slice (some ⟨b,o,none⟩) ts.length c):=by rw[←ev];exact b68
   have hlT':lenR (.slice (some ⟨b,o,none⟩) ts.length c)=some (.int .i64 (ts.length:Nat)):=rfl
   iterate 3 (refine W_at c7_ok ⟨_,rfl,?_⟩;simp (disch:=first|omega|assumption|rfl|(simp only[vcS]<;>omega)|fail) only[↓vcN,vcQ,simprocAttr,c1,b68',hlT',hlt,b1,Int.toNat_natCast,hrr])
   refine callV_ret (rtcheck_ok wj iv ov t hR h3) ?_
   rintro _ wb ⟨rfl,hEb2⟩
   have hEw:=hE.ext hEb2
   have c1b:=hEb2.at c1 (fun h=>h)
   first|(simp (disch:=first|omega|assumption|rfl|(simp only[vcS]<;>omega)|fail) only[↓vcN,vcQ,simprocAttr])|skip
   by_cases hc:chkT t=0
   ·rw[if_neg (fun h=>h hc)] at hd
    rw[hc]
    iterate 4 (refine W_at c7_ok ⟨_,rfl,?_⟩;simp (disch:=first|omega|assumption|rfl|(simp only[vcS]<;>omega)|fail) only[↓vcN,vcQ,simprocAttr,hwi])
    exact ih' wb _ (by omega) hch hEw c1b hd
   ·rw[if_pos hc] at hd
    rw[hd,if_pos hc] at hch
    rw[hch]
    iterate 4 (refine W_at c7_ok ⟨_,rfl,?_⟩;simp (disch:=first|omega|assumption|rfl|(simp only[vcS]<;>omega)|fail) only[↓vcN,vcQ,simprocAttr,hc,Ret_returned])
    exact hEw
 have mid:∀(wj:World) (tl:Env),chkB h ts=(if h.merkle≠rootF ts then 5 else if errL ts≠0 then errL ts else if dupF [] (ts.map tid) then 18 else 0)→Ext w wj→wj.heap[p1]?=some (.cells (bC h v) 29 (0,0))→
   W Tryz.prog (Ret fun u w'=>u=.int .i64 (chkB h ts)∧Ext w w') 7 34 ((1,.pointer (some ⟨p1,0,none⟩))::tl) wj:=by
  intro wj tl hch hE c1
  (refine W_at c7_ok ⟨_,rfl,?_⟩;simp (disch:=first|omega|assumption|rfl|(simp only[vcS]<;>omega)|fail) only[↓vcN,vcQ,simprocAttr,c1,ra])
  refine callV_ret (rbencode_ok wj h v ts (hT.ext hE) hb) ?_
  intro u wk hu
  have hul:=hu.own.rd.len
  have hbl:=encB_len hb
  have hgt:¬((1000000:Int)< ((encB h ts).length:Nat)):=by omega
  have hEk:=hE.ext hu.ext
  have c1k:=hu.ext.at c1 (fun h=>h)
  generalize encB h ts=EB at*
  first|(simp (disch:=first|omega|assumption|rfl|(simp only[vcS]<;>omega)|fail) only[↓vcN,vcQ,simprocAttr,hul,hgt])|skip
  (refine W_at c7_ok ⟨_,rfl,?_⟩;simp (disch:=first|omega|assumption|rfl|(simp only[vcS]<;>omega)|fail) only[↓vcN,vcQ,simprocAttr])
  have hEd:Ext wk wk.drew:=(Keep.refl _ wk).drew
  have c1d:=hEd.at c1k (fun h=>h)
  have q1:=conf32 ho.mlen
  have q2:=conf32 (rootF_len ts)
  have q3:=eqc32 h.merkle (rootF ts)
  (refine W_at c7_ok ⟨_,rfl,?_⟩;simp (disch:=first|omega|assumption|rfl|(simp only[vcS]<;>omega)|fail) only[↓vcX,ptS2_eq,vcQ,simprocAttr,c1k,ra,rm])
  refine callV_ret (rroot_ok wk.drew h v ts ((hT.ext hEk).ext hEd) hb) ?_
  rintro _ wl ⟨rfl,hEl⟩
  have c1l:=hEl.at c1d (fun h=>h)
  have hEwl:=(hEk.ext hEd).ext hEl
  by_cases hm:h.merkle=rootF ts
  ·rw[if_neg (fun h=>h hm)] at hch
   rw[decide_eq_true hm] at q3
   simp (disch:=first|omega|assumption|rfl|(simp only[vcS]<;>omega)|fail) only[↓vcY,ptS1_eq,vcQ,simprocAttr,c1l,rm,q1,q2,q3,Bool.true_xor]
   first|((refine W_at c7_ok ⟨_,rfl,?_⟩;simp (disch:=first|omega|assumption|rfl|(simp only[vcS]<;>omega)|fail) only[↓vcN,vcQ,simprocAttr]))|skip
   (refine W_at c7_ok ⟨_,rfl,?_⟩;simp (disch:=first|omega|assumption|rfl|(simp only[vcS]<;>omega)|fail) only[↓vcN,vcQ,simprocAttr])
   exact LE ts.length 0 wl _ (by omega) hch hEwl c1l rfl
  ·rw[if_pos hm] at hch
   rw[decide_eq_false hm] at q3
   rw[hch]
   simp (disch:=first|omega|assumption|rfl|(simp only[vcS]<;>omega)|fail) only[↓vcY,ptS1_eq,vcQ,simprocAttr,c1l,rm,q1,q2,q3,Bool.xor_false]
   first|((refine W_at c7_ok ⟨_,rfl,?_⟩;simp (disch:=first|omega|assumption|rfl|(simp only[vcS]<;>omega)|fail) only[↓vcN,vcQ,simprocAttr]))|skip
   iterate 2 (refine W_at c7_ok ⟨_,rfl,?_⟩;simp (disch:=first|omega|assumption|rfl|(simp only[vcS]<;>omega)|fail) only[↓vcN,vcQ,simprocAttr,Ret_returned])
   exact hEwl
 have LF:∀(k i:Nat) (wj:World) (tl:Env),k+i=ts.length→Ext w wj→wj.heap[p1]?=some (.cells (bC h v) 29 (0,0))→formL 0 ts=formL i (ts.drop i)→
   W Tryz.prog (Ret fun u w'=>u=.int .i64 (chkB h ts)∧Ext w w') 7 42 ((1,.pointer (some ⟨p1,0,none⟩))::(3,.int .i64 (i:Nat))::tl) wj:=by
  intro k
  induction k with
  |zero=>
   intro i wj tl hi hE c1 hd
   obtain rfl:i=ts.length:=by omega
   have hno:¬((ts.length:Nat):Int)< (ts.length:Nat):=by omega
   rw[List.drop_eq_nil_of_le (Nat.le_refl _),formL] at hd
   rw[hd] at hch
   rw[if_neg (show¬(true=false) by decide)] at hch
   iterate 2 (refine W_at c7_ok ⟨_,rfl,?_⟩;simp (disch:=first|omega|assumption|rfl|(simp only[vcS]<;>omega)|fail) only[↓vcN,vcQ,simprocAttr,c1,b68,hlT,hno])
   exact mid wj _ hch hE c1
  |succ k ih=>
   intro i wj tl hi hE c1 hd
   have hil:i<ts.length:=by omega
   have hlt:((i:Nat):Int)< (ts.length:Nat):=by omega
   have b1:0≤((i:Nat):Int)∧((i:Nat):Int)< (ts.length:Nat):=by omega
   have hwi:IntKind.i64.wrap (((i:Nat):Int)+1)=((i+1:Nat):Int):=wrap_i64 (by omega) (by omega)
   obtain⟨b,o,c,cs,ev,hrr,hcs,iv,ov,ecs,hR⟩:=(hT.ext hE).at hil
   have h3:=hb.txs _ (List.getElem_mem hil)
   rw[formL_at hil] at hd
   have ih':=ih (i+1)
   generalize ts[i]=t at*
   subst ecs
   have b68':(bC h v)[68]?=some (.slice (some ⟨b,o,none⟩) ts.length c):=by rw[←ev];exact b68
   have hlT':lenR (.slice (some ⟨b,o,none⟩) ts.length c)=some (.int .i64 (ts.length:Nat)):=rfl
   iterate 3 (refine W_at c7_ok ⟨_,rfl,?_⟩;simp (disch:=first|omega|assumption|rfl|(simp only[vcS]<;>omega)|fail) only[↓vcN,vcQ,simprocAttr,c1,b68',hlT',hlt,b1,Int.toNat_natCast,hrr])
   refine callV_ret (rcoinbase_ok wj iv ov t hR h3.ok (by have:=h3.few.ins;omega)) ?_
   rintro _ wb ⟨rfl,hEb2⟩
   have hEw:=hE.ext hEb2
   have c1b:=hEb2.at c1 (fun h=>h)
   have k1:(true==true)=true:=rfl
   have k2:(false==false)=true:=rfl
   have k3:(false==true)=false:=rfl
   have k4:(true==false)=false:=rfl
   have hdi:decide (((i:Nat):Int)=0)=decide (i=0):=by
    by_cases h0:i=0
    ·rw[decide_eq_true h0,decide_eq_true (by omega)]
    ·rw[decide_eq_false h0,decide_eq_false (by omega)]
   by_cases hc:coinB t=decide (i=0)
   ·have hbb:(coinB t==decide (i=0))=true:=by rw[hc];exact beq_self_eq_true _
    rw[hbb,Bool.true_and] at hd
    rw[hc]
    cases hi0:decide (i=0) with
    |true=>
     rw[hi0] at hdi
     first|(simp (disch:=first|omega|assumption|rfl|(simp only[vcS]<;>omega)|fail) only[↓vcN,vcQ,simprocAttr,hdi,k1])|skip
     iterate 3 (refine W_at c7_ok ⟨_,rfl,?_⟩;simp (disch:=first|omega|assumption|rfl|(simp only[vcS]<;>omega)|fail) only[↓vcN,vcQ,simprocAttr,hwi])
     exact ih' wb _ (by omega) hEw c1b hd
    |false=>
     rw[hi0] at hdi
     first|(simp (disch:=first|omega|assumption|rfl|(simp only[vcS]<;>omega)|fail) only[↓vcN,vcQ,simprocAttr,hdi,k2])|skip
     iterate 3 (refine W_at c7_ok ⟨_,rfl,?_⟩;simp (disch:=first|omega|assumption|rfl|(simp only[vcS]<;>omega)|fail) only[↓vcN,vcQ,simprocAttr,hwi])
     exact ih' wb _ (by omega) hEw c1b hd
   ·have hbb:(coinB t==decide (i=0))=false:=by
     cases h1:coinB t<;>cases h2:decide (i=0)<;>rw[h1,h2] at hc<;>first|rfl|exact absurd rfl hc
    rw[hbb,Bool.false_and] at hd
    rw[if_pos hd] at hch
    rw[hch]
    cases hi0:decide (i=0) with
    |true=>
     rw[hi0] at hdi
     have hcf:coinB t=false:=by
      cases h1:coinB t
      ·rfl
      ·rw[h1,hi0] at hc;exact absurd rfl hc
     rw[hcf]
     first|(simp (disch:=first|omega|assumption|rfl|(simp only[vcS]<;>omega)|fail) only[↓vcN,vcQ,simprocAttr,hdi,k3])|skip
     iterate 3 (refine W_at c7_ok ⟨_,rfl,?_⟩;simp (disch:=first|omega|assumption|rfl|(simp only[vcS]<;>omega)|fail) only[↓vcN,vcQ,simprocAttr,Ret_returned])
     exact hEw
    |false=>
     rw[hi0] at hdi
     have hcf:coinB t=true:=by
      cases h1:coinB t
      ·rw[h1,hi0] at hc;exact absurd rfl hc
      ·rfl
     rw[hcf]
     first|(simp (disch:=first|omega|assumption|rfl|(simp only[vcS]<;>omega)|fail) only[↓vcN,vcQ,simprocAttr,hdi,k4])|skip
     iterate 3 (refine W_at c7_ok ⟨_,rfl,?_⟩;simp (disch:=first|omega|assumption|rfl|(simp only[vcS]<;>omega)|fail) only[↓vcN,vcQ,simprocAttr,Ret_returned])
     exact hEw
 exact LF ts.length 0 w2 _ (by omega) hE02 c12 rfl
end Go.Proofs
namespace Go.Proofs
open Go.Vc
set_option maxRecDepth 10000
set_option maxHeartbeats 6400000 in
theorem carr_block (w wj:World)(p2:Nat)(h:HdV)(vb:Value)(ts:List TxV)(hb:BOk h ts)(hn5:ts.length≤5)(hk:Ext w wj)(hl2:w.heap.size≤p2)
  (c2:wj.heap[p2]?=some (.cells (bC h vb) 29 (0,0))) (hTb:TxsR wj vb ts) (tr:Value) (tl:Env):
  W Tryz.prog (Ret fun u w'=>u=.bool true∧Ext w w') 3 29 ((1,tr)::(2,.pointer (some ⟨p2,0,none⟩))::tl) wj:=by
 have ho:=hb.ho
 have rA:=bC_all ho vb 29 (0,0)
 have rH:=bC_head ho vb 29 (0,0)
 (refine W_at c3_ok ⟨_,rfl,?_⟩;simp (disch:=first|omega|assumption|rfl|(simp only[vcS]<;>omega)|fail) only[↓vcN,vcQ,simprocAttr,c2,rA])
 refine callV_ret (bcheck_ok wj h vb ts hTb hb) ?_
 rintro _ w1 ⟨rfl,hE1⟩
 first|(simp (disch:=first|omega|assumption|rfl|(simp only[vcS]<;>omega)|fail) only[↓vcN,vcQ,simprocAttr])|skip
 have c21:=hE1.at c2 (fun h=>h)
 have hT1:=hTb.ext hE1
 have hk1:=hk.ext hE1
 clear hE1 c2 hTb hk
 obtain⟨e,he⟩:∃e,chkB h ts=e:=⟨_,rfl⟩
 rw[he]
 have hee:decide (¬e=e)=false:=by simp
 have hDl:(dblF (encH h)).length=32:=dblF_len _
 have hHl:=encH_len ho
 have hby:=encH_byt ho
 have q3:=conf32 hDl
 have q4:=eqc32 (dblF (encH h)) (dblF (encH h))
 rw[decide_eq_true (rfl:dblF (encH h)=dblF (encH h))] at q4
 have xt:(true^^true)=false:=rfl
 have h80:(((encH h).length:Nat):Int)=80:=by rw[hHl];rfl
 (refine W_at c3_ok ⟨_,rfl,?_⟩;simp (disch:=first|omega|assumption|rfl|(simp only[vcS]<;>omega)|fail) only[↓vcX,ptS2_eq,vcQ,simprocAttr,c21,rA])
 have hEd:Ext w1 w1.drew:=(Keep.refl _ w1).drew
 refine callV_ret (rbcheck_ok w1.drew h vb ts (hT1.ext hEd) hb) ?_
 rintro _ w2 ⟨rfl,hE2⟩
 rw[he]
 have hdd:=hEd.ext hE2
 have c22:=hdd.at c21 (fun h=>h)
 simp (disch:=first|omega|assumption|rfl|(simp only[vcS]<;>omega)|fail) only[↓vcY,ptS1_eq,vcQ,simprocAttr,c22,rH]
 refine callV_ret (hid_ok w2 h ho) ?_
 rintro _ w3 ⟨rfl,hE3⟩
 have c23:=hE3.at c22 (fun h=>h)
 simp (disch:=first|omega|assumption|rfl|(simp only[vcS]<;>omega)|fail) only[↓vcX,ptS2_eq,vcQ,simprocAttr,c23,rH]
 refine callV_ret (encodeHeader_ok w3 h ho) ?_
 intro u4 w4 hu4
 have c24:=hu4.ext.at c23 (fun h=>h)
 simp (disch:=first|omega|assumption|rfl|(simp only[vcS]<;>omega)|fail) only[↓vcY,ptS1_eq,vcQ,simprocAttr]
 refine callV_ret (double_ok w4 u4 (encH h) hu4.own.rd hby (by omega)) ?_
 rintro _ w5 ⟨rfl,hE5⟩
 have c25:=hE5.at c24 (fun h=>h)
 simp (disch:=first|omega|assumption|rfl|(simp only[vcS]<;>omega)|fail) only[↓vcX,ptS2_eq,vcQ,simprocAttr,c25,rH,q3,q4,xt]
 refine callV_ret (encodeHeader_ok w5 h ho) ?_
 intro u6 w6 hu6
 have c26:=hu6.ext.at c25 (fun h=>h)
 have hl6:=hu6.own.rd.len
 have h81:decide (¬(((encH h).length:Nat):Int)=80)=false:=by rw[h80];rfl
 simp (disch:=first|omega|assumption|rfl|(simp only[vcS]<;>omega)|fail) only[↓vcY,ptS1_eq,vcQ,simprocAttr,hl6,h80]
 have hk6:=((((hk1.ext hdd).ext hE3).ext hu4.ext).ext hE5).ext hu6.ext
 have hT6:=(((((hT1.ext hdd).ext hE3).ext hu4.ext).ext hE5).ext hu6.ext)
 clear hu6 hE5 hu4 hE3 hdd hE2 hEd hT1 hk1 c21 c22 c23 c24 c25 q3 q4 hl6
 (refine W_at c3_ok ⟨_,rfl,?_⟩;simp (disch:=first|omega|assumption|rfl|(simp only[vcS]<;>omega)|fail) only[↓vcN,vcQ,simprocAttr])
 by_cases h0:e=0
 case neg=>
  iterate 4 (refine W_at c3_ok ⟨_,rfl,?_⟩;simp (disch:=first|omega|assumption|rfl|(simp only[vcS]<;>omega)|fail) only[↓vcN,vcQ,simprocAttr,h0,Ret_returned])
  exact hk6
 subst h0
 have hf:=chk_fine he
 iterate 2 (refine W_at c3_ok ⟨_,rfl,?_⟩;simp (disch:=first|omega|assumption|rfl|(simp only[vcS]<;>omega)|fail) only[↓vcN,vcQ,simprocAttr])
 obtain⟨z,hz⟩:∃z,z=zc [(1,Value.int .i32 0),(64,.int .u8 0),(3,.int .u32 0),(1,.slice none 0 0)]:=⟨_,rfl⟩
 have hzs:z.size=69:=by rw[hz];simp [zc,runs]
 rw[eq_comm] at hz
 (refine W_at c3_ok ⟨_,rfl,?_⟩;simp (disch:=first|omega|assumption|rfl|(simp only[vcS]<;>omega)|fail) only[↓vcN,vcQ,simprocAttr,c26,rA])
 refine callV_ret (bencode_ok w6 h vb ts hT6 hb) ?_
 intro u7 w7 hu7
 first|(simp (disch:=first|omega|assumption|rfl|(simp only[vcS]<;>omega)|fail) only[↓vcN,vcQ,simprocAttr])|skip
 refine callV_ret (bdecode_ok w7 u7 h ts hb hf.ins hu7.own.rd) ?_
 rintro _ w8 ⟨vc,rfl,hTc,hE8⟩
 have hbx:(Value.agg (bC h vc)).cells=bC h vc:=rfl
 have hbs:=bC_size ho vc
 first|(simp (disch:=first|omega|assumption|rfl|(simp only[vcS]<;>omega)|fail) only[↓vcN,vcQ,simprocAttr,hbs,hz,hzs])|skip
 refine⟨bC_flat h (ListN.one hTc),?_⟩
 have c28:=hE8.at (hu7.ext.at c26 (fun h=>h)) (fun h=>h)
 have hk8:=(hk6.ext hu7.ext).ext hE8
 have hT8:=((hT6.ext hu7.ext).ext hE8)
 have hm8:=hE8.size
 have hmw:w.heap.size≤w7.heap.size:=(hk6.ext hu7.ext).size
 have l2:=lt_of_heap c28
 have hE9:Ext w8 ((w8.alloc (.cells z 29)).putN w8.heap.size 0 (bC h vc)):=((Keep.refl _ w8).alloc _).putN _ (by intro hh;exfalso;omega)
 have c10:((w8.alloc (.cells z 29)).putN w8.heap.size 0 (bC h vc)).heap[w8.heap.size]?=some (.cells (bC h vc) 29 (0,0)):=by
  rw[heap_putN_eq (heap_new _ _ _ rfl),splice_all (by rw[hbs,hzs])]
 generalize World.putN _ _ _ _=w9 at hE9 c10⊢
 generalize hp10:w8.heap.size=p10 at*
 have c29:=hE9.at c28 (fun h=>h)
 have hk9:=hk8.ext hE9
 have hT9:=hT8.ext hE9
 have hTc9:=TxsN.ext hTc hE9
 have hm9:=hE9.size
 generalize hm7:w7.heap.size=m at*
 have rC:=bC_all ho vc 29 (0,0)
 have hz0:¬((0:Int)≠0):=fun h=>h rfl
 clear hu7 hE8 hE9 c28 hk8 hT8 hTc c26 hk6 hT6
 (refine W_at c3_ok ⟨_,rfl,?_⟩;simp (disch:=first|omega|assumption|rfl|(simp only[vcS]<;>omega)|fail) only[↓vcX,ptS2_eq,vcQ,simprocAttr,c10,rC])
 refine callV_ret (bcheck_ok w9 h vc ts hTc9.r hb) ?_
 rintro _ wA ⟨rfl,hEA⟩
 rw[he]
 have c10A:=hEA.at c10 (fun h=>h)
 have c2A:=hEA.at c29 (fun h=>h)
 have hTcA:=TxsN.ext hTc9 hEA
 have hTA:=hT9.ext hEA
 simp (disch:=first|omega|assumption|rfl|(simp only[vcS]<;>omega)|fail) only[↓vcY,ptS1_eq,vcQ,simprocAttr,c10A,rC,c2A,rA]
 refine callV_ret (rbsame_ok wA h vc vb ts hTcA.r hTA hb) ?_
 rintro _ wB ⟨rfl,hEB⟩
 first|(simp (disch:=first|omega|assumption|rfl|(simp only[vcS]<;>omega)|fail) only[↓vcX,ptS2_eq,vcQ,simprocAttr])|skip
 have c10B:=hEB.at c10A (fun h=>h)
 have c2B:=hEB.at c2A (fun h=>h)
 have b68:=bC_68 ho vc
 have hlc:=ListN.len hTcA
 iterate 2 (refine W_at c3_ok ⟨_,rfl,?_⟩;simp (disch:=first|omega|assumption|rfl|(simp only[vcS]<;>omega)|fail) only[↓vcN,vcQ,simprocAttr,c10B,b68,hlc])
 have hAB:=hEA.ext hEB
 exact carr_each w wB p2 p10 h vb vc ts m hb hn5 hf (hk9.ext hAB) (by omega) (by have:=hAB.size;omega) hmw (by omega) c2B c10B (hTA.ext hEB) (TxsN.ext hTcA hEB) ts.length 0 wB _ (by omega) (Keep.refl _ _)
end Go.Proofs
namespace Go.Proofs
open Go.Vc
set_option maxRecDepth 10000
theorem HdV.Ok.non {h:HdV}(ho:h.Ok){n:Int}(hn:0≤n∧n≤4294967295):({h with nonce:=n}:HdV).Ok:=⟨ho.ver,ho.plen,ho.prev,ho.mlen,ho.merkle,ho.time,ho.bits,hn⟩
set_option maxHeartbeats 3200000 in
theorem carr_nonce (w:World)(p2:Nat)(vb:Value)(ts:List TxV)(hs:∀t∈ts,t.Sm3)(hn5:ts.length≤5)(hl2:w.heap.size≤p2)(tries:Int):
  ∀(k i:Nat) (h:HdV) (wj:World) (tl:Env),k+i=20→h.Ok→Ext w wj→wj.heap[p2]?=some (.cells (bC h vb) 29 (0,0))→TxsG w.heap.size wj vb ts→
   W Tryz.prog (Ret fun u w'=>u=.bool true∧Ext w w') 3 34 ((1,.int .i64 tries)::(2,.pointer (some ⟨p2,0,none⟩))::(8,.int .i64 (i:Nat))::tl) wj:=by
 intro k
 induction k with
 |zero=>
  intro i h wj tl hi ho hk c2 hT
  obtain rfl:i=20:=by omega
  by_cases a1:(20:Int)<tries
  ·(refine W_at c3_ok ⟨_,rfl,?_⟩;simp (disch:=first|omega|assumption|rfl|(simp only[vcS]<;>omega)|fail) only[↓vcN,vcQ,simprocAttr,a1])
   (refine W_at c3_ok ⟨_,rfl,?_⟩;simp (disch:=first|omega|assumption|rfl|(simp only[vcS]<;>omega)|fail) only[↓vcN,vcQ,simprocAttr])
   exact carr_block w wj p2 h vb ts ⟨ho,hs,by omega⟩ hn5 hk hl2 c2 hT.r _ _
  ·(refine W_at c3_ok ⟨_,rfl,?_⟩;simp (disch:=first|omega|assumption|rfl|(simp only[vcS]<;>omega)|fail) only[↓vcN,vcQ,simprocAttr,a1])
   (refine W_at c3_ok ⟨_,rfl,?_⟩;simp (disch:=first|omega|assumption|rfl|(simp only[vcS]<;>omega)|fail) only[↓vcN,vcQ,simprocAttr])
   exact carr_block w wj p2 h vb ts ⟨ho,hs,by omega⟩ hn5 hk hl2 c2 hT.r _ _
 |succ k ih=>
  intro i h wj tl hi ho hk c2 hT
  have a2:((i:Nat):Int)<20:=by omega
  have hwi:IntKind.i64.wrap (((i:Nat):Int)+1)=((i+1:Nat):Int):=wrap_i64 (by omega) (by omega)
  by_cases a1:((i:Nat):Int)<tries
  case neg=>
   iterate 2 (refine W_at c3_ok ⟨_,rfl,?_⟩;simp (disch:=first|omega|assumption|rfl|(simp only[vcS]<;>omega)|fail) only[↓vcN,vcQ,simprocAttr,a1])
   exact carr_block w wj p2 h vb ts ⟨ho,hs,by omega⟩ hn5 hk hl2 c2 hT.r _ _
  have rH:=bC_head ho vb 29 (0,0)
  (refine W_at c3_ok ⟨_,rfl,?_⟩;simp (disch:=first|omega|assumption|rfl|(simp only[vcS]<;>omega)|fail) only[↓vcN,vcQ,simprocAttr,a1,a2,c2,rH])
  refine callV_ret (rproved_ok wj h ho) ?_
  rintro _ w1 ⟨rfl,hE1⟩
  first|(simp (disch:=first|omega|assumption|rfl|(simp only[vcS]<;>omega)|fail) only[↓vcN,vcQ,simprocAttr])|skip
  have c21:=hE1.at c2 (fun h=>h)
  have hk1:=hk.ext hE1
  have hT1:=TxsG.ext hT hE1
  cases hp:prF h with
  |true=>
   first|(simp (disch:=first|omega|assumption|rfl|(simp only[vcS]<;>omega)|fail) only[↓vcN,vcQ,simprocAttr])|skip
   (refine W_at c3_ok ⟨_,rfl,?_⟩;simp (disch:=first|omega|assumption|rfl|(simp only[vcS]<;>omega)|fail) only[↓vcN,vcQ,simprocAttr])
   exact carr_block w w1 p2 h vb ts ⟨ho,hs,by omega⟩ hn5 hk1 hl2 c21 hT1.r _ _
  |false=>
   have b67:=bC_67 ho vb
   first|(simp (disch:=first|omega|assumption|rfl|(simp only[vcS]<;>omega)|fail) only[↓vcN,vcQ,simprocAttr])|skip
   (refine W_at c3_ok ⟨_,rfl,?_⟩;simp (disch:=first|omega|assumption|rfl|(simp only[vcS]<;>omega)|fail) only[↓vcN,vcQ,simprocAttr])
   have hwn:0≤IntKind.u32.wrap (h.nonce+1)∧IntKind.u32.wrap (h.nonce+1)≤4294967295:=by
    rw[wrap_u32];omega
   (refine W_at c3_ok ⟨_,rfl,?_⟩;simp (disch:=first|omega|assumption|rfl|(simp only[vcS]<;>omega)|fail) only[↓vcN,vcQ,simprocAttr,c21,b67])
   refine⟨wr1_of c21 (by rw[bC_size ho];decide),?_⟩
   generalize IntKind.u32.wrap (h.nonce+1)=nn at*
   have k5:Keep (fun g=>g=p2) w1 (w1.setCell ⟨p2,67,none⟩ (.int .u32 nn)):=(Keep.refl _ w1).setCell _ fun _=>rfl
   have c22:(w1.setCell ⟨p2,67,none⟩ (.int .u32 nn)).heap[p2]?=some (.cells (bC {h with nonce:=nn} vb) 29 (0,0)):=by rw[heap_setCell_eq c21,bC_set67 ho]
   have hT2:TxsG w.heap.size (w1.setCell ⟨p2,67,none⟩ (.int .u32 nn)) vb ts:=hT1.keepT k5 fun g hg=>⟨bC h vb,29,by rw[show g=p2 from hg];exact c21,by decide,by decide,by decide,by decide,by decide⟩
   have hk2:Ext w (w1.setCell ⟨p2,67,none⟩ (.int .u32 nn)):=hk1.trans k5 fun g hg e=>by have e:g=p2:=e;omega
   generalize World.setCell _ _ _=w2 at c22 hT2 hk2⊢
   iterate 2 (refine W_at c3_ok ⟨_,rfl,?_⟩;simp (disch:=first|omega|assumption|rfl|(simp only[vcS]<;>omega)|fail) only[↓vcN,vcQ,simprocAttr,hwi])
   exact ih (i+1) {h with nonce:=nn} w2 _ (by omega) (ho.non hwn) hk2 c22 hT2
set_option maxHeartbeats 3200000 in
theorem carried_ok (w:World)(h:HdV)(v:Value)(ts:List TxV)(ho:h.Ok)(hT:TxsR w v ts)(hts:∀t∈ts,t.Ok∧t.Sz)(tries:Int):
  Calls Tryz.prog 3 #[.agg (bC h v),.int .i64 tries] w (Ret fun u w'=>u=.bool true∧Ext w w'):=by
 refine calls_of_cfg c3_ok (Nat.le_of_ble_eq_true rfl) ?_
 simp only[argE_nil,argE_cons,Nat.reduceAdd,Nat.zero_add]
 have hbs:=bC_size ho v
 have hbf:=bC_flat h (u:=v) hT.one
 have hbx:(Value.agg (bC h v)).cells=bC h v:=rfl
 have b68:=bC_68 ho v
 (refine W_at c3_ok ⟨_,rfl,?_⟩;simp (disch:=first|omega|assumption|rfl|(simp only[vcS]<;>omega)|fail) only[↓vcN,vcQ,simprocAttr,hbx])
 have hE1:Ext w (w.alloc (.cells (bC h v) 29)):=(Keep.refl _ w).alloc _
 have c1:(w.alloc (.cells (bC h v) 29)).heap[w.heap.size]?=some (.cells (bC h v) 29 (0,0)):=heap_new _ _ _ rfl
 generalize World.alloc w _=w1 at hE1 c1⊢
 generalize hp2:w.heap.size=p2 at*
 have rest:∀(wj:World) (v0:Value) (us:List TxV) (tl:Env),us.length≤5→TxsR w v0 us→(∀t∈us,t.Ok∧t.Sz)→Ext w wj→wj.heap[p2]?=some (.cells (bC h v0) 29 (0,0))→
   W Tryz.prog (Ret fun u w'=>u=.bool true∧Ext w w') 3 44 ((1,.int .i64 tries)::(2,.pointer (some ⟨p2,0,none⟩))::tl) wj:=by
  intro wj v0 us tl hn5 hTu hus hk c2
  have b68:=bC_68 ho v0
  have hlu:=hTu.len
  iterate 2 (refine W_at c3_ok ⟨_,rfl,?_⟩;simp (disch:=first|omega|assumption|rfl|(simp only[vcS]<;>omega)|fail) only[↓vcN,vcQ,simprocAttr,c2,b68,hlu])
  refine few_loop w _ p2 h v0 us hTu hus hn5 _ (fun wk vt l tl hl hS=>?_) us.length 0 wj _ [] _ (by omega) rfl ⟨hk,c2,ListN.nil _ _ _ _ _,fun t ht=>by cases ht⟩
  have hv1:=ListN.one hS.t
  have c2k:=hS.c2
  (refine W_at c3_ok ⟨_,rfl,?_⟩;simp (disch:=first|omega|assumption|rfl|(simp only[vcS]<;>omega)|fail) only[↓vcN,vcQ,simprocAttr])
  refine⟨hv1,wr1_of c2k (by rw[bC_size ho];decide),?_⟩
  have k5:Keep (fun g=>g=p2) wk (wk.setCell ⟨p2,68,none⟩ vt):=(Keep.refl _ wk).setCell _ fun _=>rfl
  have c22:(wk.setCell ⟨p2,68,none⟩ vt).heap[p2]?=some (.cells (bC h vt) 29 (0,0)):=by rw[heap_setCell_eq c2k,bC_set68 ho]
  have hT2:TxsG w.heap.size (wk.setCell ⟨p2,68,none⟩ vt) vt l:=hS.t.keepT k5 fun g hg=>⟨bC h v0,29,by rw[show g=p2 from hg];exact c2k,by decide,by decide,by decide,by decide,by decide⟩
  have hk2:Ext w (wk.setCell ⟨p2,68,none⟩ vt):=hS.k.trans k5 fun g hg e=>by have e:g=p2:=e;omega
  generalize World.setCell _ _ _=w2 at c22 hT2 hk2⊢
  (refine W_at c3_ok ⟨_,rfl,?_⟩;simp (disch:=first|omega|assumption|rfl|(simp only[vcS]<;>omega)|fail) only[↓vcN,vcQ,simprocAttr])
  exact carr_nonce w p2 vt l hS.s (by omega) (by omega) tries 20 0 h w2 _ rfl ho hk2 c22 hT2
 have hlT:=hT.len
 (refine W_at c3_ok ⟨_,rfl,?_⟩;simp (disch:=first|omega|assumption|rfl|(simp only[vcS]<;>omega)|fail) only[↓vcN,vcQ,simprocAttr,c1,b68,hlT])
 by_cases hg:((ts.length:Nat):Int)>5
 ·obtain⟨_,_,_,_,⟨q,c,rfl,hc⟩,_⟩:=id hT
  have k1:(0:Int)≤5∧(5:Int)≤(c:Nat):=by omega
  have hT5:TxsR w (.slice q 5 c) (ts.take 5):=ListR.cutTo hT (by omega)
  have h1:(Value.slice q 5 c).oneCell'=true:=rfl
  iterate 2 (refine W_at c3_ok ⟨_,rfl,?_⟩;simp (disch:=first|omega|assumption|rfl|(simp only[vcS]<;>omega)|fail) only[↓vcN,vcQ,simprocAttr,hg,c1,b68,k1,Nat.sub_zero])
  refine⟨wr1_of c1 (by rw[bC_size ho];decide),?_⟩
  have hk2:Ext w (w1.setCell ⟨p2,68,none⟩ (.slice q 5 c)):=hE1.trans ((Keep.refl (fun g=>g=p2) w1).setCell _ fun _=>rfl) fun g hg e=>by have e:g=p2:=e;omega
  have c22:(w1.setCell ⟨p2,68,none⟩ (.slice q 5 c)).heap[p2]?=some (.cells (bC h (.slice q 5 c)) 29 (0,0)):=by rw[heap_setCell_eq c1,bC_set68 ho]
  exact rest _ _ (ts.take 5) _ (by rw[List.length_take];omega) hT5 (fun t ht=>hts t (List.mem_of_mem_take ht)) hk2 c22
 ·(refine W_at c3_ok ⟨_,rfl,?_⟩;simp (disch:=first|omega|assumption|rfl|(simp only[vcS]<;>omega)|fail) only[↓vcN,vcQ,simprocAttr,hg])
  exact rest _ _ ts _ (by omega) hT hts hE1 c1
end Go.Proofs
namespace Go.Proofs
open Go.Vc
set_option maxRecDepth 10000
theorem liesBAll_split {bz:Tys→Nat}{w:World}:∀{s t:Tys} {l:List Value},LiesBAll bz w (s.app t) l→∃a b,l=a++b∧LiesBAll bz w s a∧LiesBAll bz w t b
 | .nil,t,l,h=>⟨[],l,rfl,by simp only[LiesBAll],h⟩
 | .cons u s,t,[],h=>by simp only[Tys.app,LiesBAll] at h
 | .cons u s,t,v::l,h=>by
  simp only[Tys.app,LiesBAll] at h
  obtain⟨a,b,e,h1,h2⟩:=liesBAll_split h.2
  exact⟨v::a,b,by rw[e];rfl,by simp only[LiesBAll];exact⟨h.1,h1⟩,h2⟩
theorem bytes_rep {bz:Tys→Nat}{w:World}:∀(k:Nat) (l:List Value),LiesBAll bz w (Tys.rep k u8T) l→∃bs,l=bv bs∧bs.length=k∧byt bs
 |0,l,h=>by
  simp only[Tys.rep,LiesBAll] at h
  exact⟨[],h,rfl,byt_nil⟩
 |k+1,l,h=>by
  simp only[Tys.rep,u8T,Tys.app] at h
  cases l with
  |nil=>simp only[LiesBAll] at h
  |cons v l=>
   simp only[LiesBAll,LiesB] at h
   obtain⟨⟨n,rfl,hn⟩,h2⟩:=h
   obtain⟨bs,rfl,hl,hb⟩:=bytes_rep k l h2
   have:=wf_int hn
   have e1:IntKind.u8.min=0:=by decide
   have e2:IntKind.u8.max=255:=by decide
   refine⟨n::bs,rfl,by rw[List.length_cons,hl],fun b hx=>?_⟩
   rcases List.mem_cons.1 hx with rfl|hx
   ·omega
   ·exact hb b hx
theorem reach_le:reachBytes≤140737488355328:=by decide
theorem sl_of {w:World}{v:Value}(h:LiesB bzT w (.sl u8T) v):∃bs,Rd w v bs∧byt bs∧bs.length≤140737488355328:=by
 obtain⟨bs,h1,h2⟩:=bytes_of h.lies
 refine⟨bs,h1,h2,?_⟩
 obtain⟨⟨q',c',e,_⟩,_⟩:=h1
 simp only[LiesB] at h
 obtain⟨q,n,c,xs,e2,_,_,h3,_⟩:=h
 rw[e] at e2
 injection e2 with _ e3 _
 have:=reach_le
 rw[bz_u8] at h3
 omega
theorem rows_of {w:World}{v:Value}(h:LiesB bzT w (.sl rowT) v):∃ps,RowR w v ps∧(∀p∈ps,byt p∧p.length≤140737488355328)∧ps.length*24≤140737488355328:=by
 simp only[LiesB] at h
 obtain⟨q,n,c,xs,rfl,h2,h3,hz,h4,h5,h6,h7⟩:=h
 rw[bz_row] at hz
 have hre:=reach_le
 obtain⟨ps,hl,hps⟩:=list_choose (p:=fun (x:Array Value) (b:Value×List Int)=>x=#[b.1]∧Rd w b.1 b.2∧byt b.2∧b.2.length≤140737488355328) xs (fun x hx=>by
  have h:=h7 x hx
  cases hl:x.toList with
  |nil=>rw[hl] at h;simp only[rowT,LiesBAll] at h
  |cons y l=>
   rw[hl] at h
   simp only[rowT,LiesBAll] at h
   obtain⟨h8,rfl⟩:=h
   obtain⟨bs,hr,hb,hz⟩:=sl_of h8
   exact⟨(y,bs),Array.ext' hl,hr,hb,hz⟩)
 have ex:xs=(ps.map (·.1)).map fun v=>#[v]:=by
  apply List.ext_getElem
  ·simp [hl]
  ·intro i a b
   simp only[List.getElem_map]
   exact(hps i a (by omega)).1
 have h5':rdS w 1 (.slice q n c)=some (ps.map (·.1)).toArray:=by
  have e0:rowT.len=1:=rfl
  rw[e0,ex,flat1_list] at h5
  exact h5
 refine⟨ps.map (·.2),⟨ps.map (·.1),h5',by simp,⟨q,c,by rw[List.length_map,hl,h4],by rw[List.length_map];omega⟩,by rw[List.length_map];omega,fun i a b=>?_⟩,fun p hp=>?_,by rw[List.length_map];omega⟩
 ·simp only[List.getElem_map]
  rw[List.length_map] at a
  exact(hps i (by omega) a).2.1
 ·obtain⟨b,hb,rfl⟩:=List.mem_map.1 hp
  obtain⟨i,hi,rfl⟩:=List.getElem_of_mem hb
  exact(hps i (by omega) hi).2.2
theorem int_of {w:World}{k:IntKind}{v:Value}(h:LiesB bzT w (.int k) v):∃n,v=.int k n∧k.min≤n∧n≤k.max:=by
 simp only[LiesB] at h
 obtain⟨n,rfl,hn⟩:=h
 exact⟨n,rfl,wf_int hn⟩
theorem in_of {w:World}{x:Array Value}(h:LiesBAll bzT w inT x.toList):∃y:TxI,InAt w x y∧y.Ok∧y.Sz:=by
 obtain⟨a,b,e,h1,h2⟩:=liesBAll_split h
 obtain⟨prev,rfl,hl,hb⟩:=bytes_rep 32 a h1
 cases b with
 |nil=>simp only[LiesBAll] at h2
 |cons v1 b=>
 simp only[LiesBAll] at h2
 obtain⟨k1,h2⟩:=h2
 cases b with
 |nil=>simp only[] at h2
 |cons v2 b=>
 simp only[] at h2
 obtain⟨k2,h2⟩:=h2
 cases b with
 |nil=>simp only[] at h2
 |cons v3 b=>
 simp only[] at h2
 obtain⟨k3,h2⟩:=h2
 cases b with
 |nil=>simp only[] at h2
 |cons v4 b=>
 simp only[] at h2
 obtain⟨k4,rfl⟩:=h2
 obtain⟨idx,rfl,hi⟩:=int_of k1
 obtain⟨seq,rfl,hs⟩:=int_of k3
 obtain⟨sc,hr,hsb,hsz⟩:=sl_of k2
 obtain⟨ps,hw,hwb,hwz⟩:=rows_of k4
 have e1:IntKind.u32.min=0:=by decide
 have e2:IntKind.u32.max=4294967295:=by decide
 refine⟨⟨prev,idx,sc,seq,ps⟩,⟨v2,v4,?_,hr,hw⟩,⟨hl,hb,by dsimp only;omega,hsb,by dsimp only;omega,fun p hp=>(hwb p hp).1⟩,⟨hsz,hwz,fun p hp=>(hwb p hp).2⟩⟩
 apply Array.ext'
 rw[e];rfl
theorem ou_of {w:World}{x:Array Value}(h:LiesBAll bzT w ouT x.toList):∃y:TxO,OuAt w x y∧y.Ok∧y.script.length≤140737488355328:=by
 unfold ouT at h
 cases e:x.toList with
 |nil=>rw[e] at h;simp only[LiesBAll] at h
 |cons v1 b=>
 rw[e] at h
 simp only[LiesBAll] at h
 obtain⟨k1,h2⟩:=h
 cases b with
 |nil=>simp only[] at h2
 |cons v2 b=>
 simp only[] at h2
 obtain⟨k2,rfl⟩:=h2
 obtain⟨val,rfl,hi⟩:=int_of k1
 obtain⟨sc,hr,hsb,hsz⟩:=sl_of k2
 have e1:IntKind.i64.min= -9223372036854775808:=by decide
 have e2:IntKind.i64.max=9223372036854775807:=by decide
 refine⟨⟨val,sc⟩,⟨v2,?_,hr⟩,⟨by dsimp only;omega,hsb⟩,hsz⟩
 apply Array.ext'
 rw[e];rfl
theorem ls_of {α:Type}{w:World}{v:Value}{T:Tys}{size bytes:Nat}{R:World→Array Value→α→Prop}{φ:α→Prop}(hT:T.len=size)(hB:bzT T=bytes)(h:LiesB bzT w (.sl T) v)(hx:∀x:Array Value,LiesBAll bzT w T x.toList→∃y,R w x y∧φ y):
  ∃l:List α,ListR R size w v l∧(∀y∈l,φ y)∧l.length*bytes≤140737488355328:=by
 simp only[LiesB] at h
 obtain⟨q,n,c,xs,rfl,h2,h3,hz,h4,h5,h6,h7⟩:=h
 have hre:=reach_le
 rw[hT] at h5 h6
 rw[hB] at hz
 obtain⟨l,hl,hps⟩:=list_choose (p:=fun (x:Array Value) (y:α)=>R w x y∧φ y) xs fun x hx'=>hx x (h7 x hx')
 refine⟨l,⟨xs,hl.symm,h6,h5,⟨q,c,by rw[hl,h4],by omega⟩,by omega,fun i a b=>(hps i a b).1⟩,fun y hy=>?_,by rw[hl,h4];omega⟩
 obtain⟨i,hi,rfl⟩:=List.getElem_of_mem hy
 exact(hps i (by omega) hi).2
theorem tx_of {w:World}{x:Array Value}(h:LiesBAll bzT w txT x.toList):∃t iv ov,x=txC t iv ov∧TxR w iv ov t∧t.Ok∧t.Sz:=by
 unfold txT at h
 cases e:x.toList with
 |nil=>rw[e] at h;simp only[LiesBAll] at h
 |cons v1 b=>
 rw[e] at h
 simp only[LiesBAll] at h
 obtain⟨k1,h2⟩:=h
 cases b with
 |nil=>simp only[] at h2
 |cons v2 b=>
 simp only[] at h2
 obtain⟨k2,h2⟩:=h2
 cases b with
 |nil=>simp only[] at h2
 |cons v3 b=>
 simp only[] at h2
 obtain⟨k3,h2⟩:=h2
 cases b with
 |nil=>simp only[] at h2
 |cons v4 b=>
 simp only[] at h2
 obtain⟨k4,rfl⟩:=h2
 obtain⟨ver,rfl,hv⟩:=int_of k1
 obtain⟨lock,rfl,hk⟩:=int_of k4
 obtain⟨ins,a1,a2,a3⟩:=ls_of (size:=36) (bytes:=96) (R:=InAt) (φ:=fun y=>y.Ok∧y.Sz) rfl rfl k2 fun x h=>in_of h
 obtain⟨outs,b1,b2,b3⟩:=ls_of (size:=2) (bytes:=32) (R:=OuAt) (φ:=fun y=>y.Ok∧y.script.length≤140737488355328) rfl rfl k3 fun x h=>ou_of h
 have e1:IntKind.u32.min=0:=by decide
 have e2:IntKind.u32.max=4294967295:=by decide
 have e3:IntKind.i32.min= -2147483648:=by decide
 have e4:IntKind.i32.max=2147483647:=by decide
 refine⟨⟨ver,ins,outs,lock⟩,v2,v3,?_,⟨a1,b1⟩,⟨by dsimp only;omega,fun x hx=>(a2 x hx).1,fun y hy=>(b2 y hy).1,by dsimp only;omega⟩,⟨a3,b3,fun x hx=>(a2 x hx).2,fun y hy=>(b2 y hy).2⟩⟩
 apply Array.ext'
 rw[e];rfl
def blockT:Tys:=.cons (.int .i32) ((Tys.rep 32 u8T).app ((Tys.rep 32 u8T).app (.cons (.int .u32) (.cons (.int .u32) (.cons (.int .u32) (.cons (.sl txT) .nil))))))
theorem bz_block:bzOk Tryz.prog bzT 8 29=true:=by kernel_rfl
theorem ty_block:tyOf Tryz.prog 8 29=some blockT:=by kernel_rfl
theorem block_of {w:World}{x:Array Value}(h:LiesBAll bzT w blockT x.toList):∃hd v ts,x=bC hd v∧hd.Ok∧TxsR w v ts∧∀t∈ts,t.Ok∧t.Sz:=by
 unfold blockT at h
 cases e:x.toList with
 |nil=>rw[e] at h;simp only[LiesBAll] at h
 |cons v1 b=>
 rw[e] at h
 simp only[LiesBAll] at h
 obtain⟨k1,h2⟩:=h
 obtain⟨a1,b1,rfl,h3,h4⟩:=liesBAll_split h2
 obtain⟨prev,rfl,hpl,hpb⟩:=bytes_rep 32 a1 h3
 obtain⟨a2,b2,rfl,h5,h6⟩:=liesBAll_split h4
 obtain⟨merkle,rfl,hml,hmb⟩:=bytes_rep 32 a2 h5
 cases b2 with
 |nil=>simp only[LiesBAll] at h6
 |cons v2 b=>
 simp only[LiesBAll] at h6
 obtain⟨k2,h6⟩:=h6
 cases b with
 |nil=>simp only[] at h6
 |cons v3 b=>
 simp only[] at h6
 obtain⟨k3,h6⟩:=h6
 cases b with
 |nil=>simp only[] at h6
 |cons v4 b=>
 simp only[] at h6
 obtain⟨k4,h6⟩:=h6
 cases b with
 |nil=>simp only[] at h6
 |cons v5 b=>
 simp only[] at h6
 obtain⟨k5,rfl⟩:=h6
 obtain⟨ver,rfl,hv⟩:=int_of k1
 obtain⟨time,rfl,ht⟩:=int_of k2
 obtain⟨bits,rfl,hb⟩:=int_of k3
 obtain⟨nonce,rfl,hn⟩:=int_of k4
 obtain⟨ts,c1,c2,_⟩:=ls_of (size:=4) (bytes:=0) (R:=TxAt) (φ:=fun t=>t.Ok∧t.Sz) rfl rfl k5 fun x h=>by
  obtain⟨t,iv,ov,e,h1,h2⟩:=tx_of h
  exact⟨t,⟨iv,ov,e,h1⟩,h2⟩
 have e1:IntKind.u32.min=0:=by decide
 have e2:IntKind.u32.max=4294967295:=by decide
 have e3:IntKind.i32.min= -2147483648:=by decide
 have e4:IntKind.i32.max=2147483647:=by decide
 refine⟨⟨ver,prev,merkle,time,bits,nonce⟩,v5,ts,?_,⟨by dsimp only;omega,hpl,hpb,hml,hmb,by dsimp only;omega,by dsimp only;omega,by dsimp only;omega⟩,c1,c2⟩
 apply Array.ext'
 rw[e]
 simp [bC]
theorem block_arg {W:World}{v:Value}(h:ArgLiesB bzT Tryz.prog W 29 v):∃hd v' ts,v=.agg (bC hd v')∧hd.Ok∧TxsR W v' ts∧∀t∈ts,t.Ok∧t.Sz:=by
 obtain⟨cs,rfl,_⟩:=argAgg ty_block (.inl ⟨_,Tryz.underlying29⟩) h.1
 obtain⟨hd,v',ts,e,h1⟩:=block_of (h.2 8 blockT bz_block ty_block)
 exact⟨hd,v',ts,congrArg Value.agg e,h1⟩
end Go.Proofs
namespace Go.Proofs.YtmnogjgmkpjpoaaGreat
open Go.Vc Go.ChangeShapes Go.WideShapes Go.ChangeAt Go.RowKit Go.Proofs
set_option maxRecDepth 100000 in
theorem carried_lifted (os:Os)(started:os.Started)(H:Type)(enc:TypeId×Value→H):
  ReturnsInHanded {} Tryz.checked os 3 .any (Rows.strongboxCarriedSpec.pre6 enc Tryz.prog Tryz.f3 Rows.strongboxCarriedRow.domain false) (Rows.strongboxCarriedSpec.post enc Tryz.prog Tryz.f3 false true false false):=by
 refine returnsInHanded_of_change_sized (C:=Tryz.checked) Tryz.own started (by kernel_rfl) Tryz.func3
  (ChangeSpec.witness6 (enc:=enc) (C:=Tryz.checked) false ⟨#[],#[.agg #[.int .i32 0,.int .u8 0,.int .u8 0,.int .u8 0,.int .u8 0,.int .u8 0,.int .u8 0,.int .u8 0,.int .u8 0,.int .u8 0,.int .u8 0,.int .u8 0,.int .u8 0,.int .u8 0,.int .u8 0,.int .u8 0,.int .u8 0,.int .u8 0,.int .u8 0,.int .u8 0,.int .u8 0,.int .u8 0,.int .u8 0,.int .u8 0,.int .u8 0,.int .u8 0,.int .u8 0,.int .u8 0,.int .u8 0,.int .u8 0,.int .u8 0,.int .u8 0,.int .u8 0,.int .u8 0,.int .u8 0,.int .u8 0,.int .u8 0,.int .u8 0,.int .u8 0,.int .u8 0,.int .u8 0,.int .u8 0,.int .u8 0,.int .u8 0,.int .u8 0,.int .u8 0,.int .u8 0,.int .u8 0,.int .u8 0,.int .u8 0,.int .u8 0,.int .u8 0,.int .u8 0,.int .u8 0,.int .u8 0,.int .u8 0,.int .u8 0,.int .u8 0,.int .u8 0,.int .u8 0,.int .u8 0,.int .u8 0,.int .u8 0,.int .u8 0,.int .u8 0,.int .u32 0,.int .u32 0,.int .u32 0,.slice none 0 0],.int .i64 0],[]⟩ 8 (by kernel_rfl) (by kernel_rfl) (by kernel_rfl) (by kernel_rfl)) ?_
 intro W base args ds gs before hval0 hW hcnd hz _
 refine post_trueB bzT Tryz.laidOut rfl rfl (tb:=4) (by kernel_rfl) ?_ ?_ hval0 hW hz ?_
 ·rw[Tryz.params3];intro t ht;simp at ht;rcases ht with rfl|rfl<;>exact⟨by kernel_rfl,of_decide_eq_true (by kernel_rfl)⟩
 ·intro ds hd;rw[Tryz.params3] at hd;match ds,hd with|[_,_],_=>rfl
 ·intro hs ha
  rw[Tryz.params3] at hs ha
  obtain⟨v,u,rfl⟩:=args_2 hs
  obtain⟨hd,vb,ts,rfl,ho,hT,hts⟩:=block_arg (ha 0 29 v rfl rfl)
  obtain⟨n,rfl,_⟩:=argInt (m:=6) (by kernel_rfl) Tryz.underlying3 (ha 1 3 u rfl rfl).1
  exact carried_ok W hd vb ts ho hT hts n
theorem carried_holds:Rows.StrongboxCarriedSaid:=
 OpenClaim.holds_of_wide 3 Tryz.f3 rfl rfl rfl rfl rfl rfl rfl ⟨rfl,rfl,rfl,rfl,rfl⟩ rfl rfl rfl rfl rfl (by kernel_rfl) Tryz.func3 (by kernel_rfl)
  (of_decide_eq_true (by kernel_rfl)) (by unfold Func.isWrapper;first|(rw[if_pos (by decide+kernel)];kernel_rfl)|(rw[if_neg (by decide+kernel)];exact⟨rfl,rfl⟩))
  (fun os started H enc _=>carried_lifted os started H enc)
end Go.Proofs.YtmnogjgmkpjpoaaGreat
