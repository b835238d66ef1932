/- Laws that the last text of this claim uses, part 4: written for it, merged by program. -/
import Derived.Test.YtmnogjgmkpjpoaaGreatR3
set_option linter.unusedSimpArgs false
set_option linter.unusedVariables false
set_option linter.constructorNameAsVariable false
namespace Go.Proofs
open Go.Vc
set_option maxRecDepth 10000
def witB (t:TxV):Bool:=t.ins.any fun x=>decide (0<x.wit.length)
def txtF (p:List Int):List Int:=sizeF p.length++p
def encWi (x:TxI):List Int:=sizeF x.wit.length++x.wit.flatMap txtF
def preW (mk:Bool):List Int:=if mk then [0,1] else []
def endW (t:TxV)(mk:Bool):List Int:=if mk then t.ins.flatMap encWi else []
def encW (t:TxV)(mk:Bool):List Int:=lowF 4 (t.ver%4294967296)++preW mk++sizeF t.ins.length++t.ins.flatMap encI++sizeF t.outs.length++t.outs.flatMap encO++endW t mk++lowF 4 t.lock
structure TxV.Sm3 (t:TxV):Prop where
 ok:t.Ok
 few:t.Few 3 100
 wl:t.WLim
theorem txtF_len {p:List Int}(h:p.length≤100):(txtF p).length≤109:=by
 have:=(sizeF_len (n:=(p.length:Int))).2
 simp only[txtF,List.length_append];omega
theorem flatT_len {l:List (List Int)}(h:∀p∈l,p.length≤100):(l.flatMap txtF).length≤109*l.length:=by
 induction l with
 |nil=>simp
 |cons x l ih=>
  have a:=txtF_len (h x (by simp))
  have c:=ih (fun y hy=>h y (by simp [hy]))
  rw[List.flatMap_cons,List.length_append,List.length_cons,Nat.mul_add]
  omega
theorem flatW_len {l:List TxI}(h:∀x∈l,x.wit.length≤3∧∀p∈x.wit,p.length≤100):(l.flatMap encWi).length≤336*l.length:=by
 induction l with
 |nil=>simp
 |cons x l ih=>
  have a:=flatT_len (h x (by simp)).2
  have b:=(h x (by simp)).1
  have e:=(sizeF_len (n:=(x.wit.length:Int))).2
  have c:=ih (fun y hy=>h y (by simp [hy]))
  have d:(encWi x).length≤336:=by simp only[encWi,List.length_append];omega
  rw[List.flatMap_cons,List.length_append,List.length_cons,Nat.mul_add]
  omega
theorem encW_len {t:TxV}(h:t.Sm3)(mk:Bool):(encW t mk).length≤3000:=by
 have a:=flatI_len (l:=t.ins) (m:=100) (fun x hx=>(h.ok.ins x hx).len) h.few.iscr
 have b:=flatO_len (l:=t.outs) (m:=100) h.few.oscr
 have w:=flatW_len (l:=t.ins) h.wl
 have c:=h.few.ins
 have d:=h.few.outs
 have e:=(sizeF_len (n:=(t.ins.length:Int))).2
 have f:=(sizeF_len (n:=(t.outs.length:Int))).2
 have g:(preW mk).length≤2:=by cases mk<;>decide
 have i:(endW t mk).length≤336*t.ins.length:=by
  cases mk
  ·exact Nat.zero_le _
  ·exact w
 simp only[encW,List.length_append,lowF_len]
 omega
theorem sizeF_byt2 {n:Int}(h:0≤n):byt (sizeF n):=by
 unfold sizeF
 have c:∀(f:Int) (k:Nat),0≤f∧f≤255→byt (f::lowF k n):=fun f k hf x hx=>by
  rcases List.mem_cons.1 hx with rfl|hx
  ·exact hf
  ·exact lowF_byt k n x hx
 split
 ·intro x hx;simp at hx;omega
 ·split
  ·exact c _ _ (by omega)
  ·split
   ·exact c _ _ (by omega)
   ·exact c _ _ (by omega)
theorem flat_byt2 {α:Type}{f:α→List Int}{l:List α}(h:∀x∈l,byt (f x)):byt (l.flatMap f):=fun b hb=>by
 obtain⟨x,hx,hb⟩:=List.mem_flatMap.1 hb
 exact h x hx b hb
theorem txtF_byt {p:List Int}(h:byt p):byt (txtF p):=byt_app (sizeF_byt2 (by omega)) h
theorem encWi_byt {x:TxI}(h:x.Ok):byt (encWi x):=byt_app (sizeF_byt2 (by omega)) (flat_byt2 fun p hp=>txtF_byt (h.wit p hp))
theorem encW_byt {t:TxV}(h:t.Ok)(mk:Bool):byt (encW t mk):=by
 unfold encW
 refine byt_app (byt_app (byt_app (byt_app (byt_app (byt_app (byt_app (lowF_byt _ _) ?_) (sizeF_byt2 (by omega))) (flat_byt2 fun x hx=>?_)) (sizeF_byt2 (by omega))) (flat_byt2 fun y hy=>?_)) ?_) (lowF_byt _ _)
 ·cases mk
  ·exact byt_nil
  ·intro x hx;simp [preW] at hx;omega
 ·have hx:=h.ins x hx
  exact byt_app (byt_app (byt_app hx.prev (lowF_byt _ _)) (byt_app (sizeF_byt2 (by omega)) hx.script)) (lowF_byt _ _)
 ·exact byt_app (lowF_byt _ _) (byt_app (sizeF_byt2 (by omega)) (h.outs y hy).script)
 ·cases mk
  ·exact byt_nil
  ·exact flat_byt2 fun x hx=>encWi_byt (h.ins x hx)
theorem txC_flat2 {t:TxV}{iv ov:Value}{w:World}(hT:TxR w iv ov t):flat (txC t iv ov):=by
 have hi1:=ListR.one hT.ins
 have ho1:=ListR.one hT.outs
 intro y hy;simp only[txC,List.mem_cons,List.not_mem_nil,or_false] at hy;rcases hy with rfl|rfl|rfl|rfl<;>first|rfl|assumption
theorem isW_ok (w:World)(x:TxI)(sv wv:Value)(hx:x.prev.length=32)(h1:sv.oneCell'=true)(hR:RowR w wv x.wit):Calls Tryz.prog 103 #[.agg (iC x sv wv)] w (Ret fun u w'=>u=.bool (decide (0<x.wit.length))∧Ext w w'):=by
 refine calls_of_cfg c103_ok (Nat.le_of_ble_eq_true rfl) ?_
 simp only[argE_nil,argE_cons,Nat.zero_add]
 have hfx:=iC_flat (x:=x) h1 hR.one
 have hcx:(Value.agg (iC x sv wv)).cells=iC x sv wv:=rfl
 have hzx:=iC_size hx sv wv
 have g35:=iC_35 hx sv wv
 have hlen:=hR.len
 (refine W_at c103_ok ⟨_,rfl,?_⟩;simp (disch:=first|omega|assumption|rfl|(simp only[vcS]<;>omega)|fail) only[↓vcN,vcQ,simprocAttr,hcx])
 have c1:(w.alloc (.cells (iC x sv wv) 61)).heap[w.heap.size]?=some (.cells (iC x sv wv) 61 (0,0)):=heap_new _ _ _ rfl
 have hE:Ext w (w.alloc (.cells (iC x sv wv) 61)):=(Keep.refl _ w).alloc _
 generalize World.alloc _ _=w1 at c1 hE⊢
 have hd:decide ((0:Int)< (x.wit.length:Nat))=decide (0<x.wit.length):=by
  by_cases h:0<x.wit.length
  ·rw[decide_eq_true h,decide_eq_true (by omega)]
  ·rw[decide_eq_false h,decide_eq_false (by omega)]
 iterate 2 (refine W_at c103_ok ⟨_,rfl,?_⟩;simp (disch:=first|omega|assumption|rfl|(simp only[vcS]<;>omega)|fail) only[↓vcN,vcQ,simprocAttr,c1,g35,hlen,hd,Ret_returned])
 exact hE
theorem index_ok (w:World)(v:Value)(l:List TxI)(h:InsR w v l)(ho:∀x∈l,x.Ok)(hl:l.length≤1000000):
  Calls Tryz.prog 129 #[v,.func (.func 103) #[] #[]] w (Ret fun u w'=>(∃k:Int,u=.int .i64 k∧decide (k≥0)=l.any fun x=>decide (0<x.wit.length))∧Ext w w'):=by
 refine calls_of_cfg c129_ok (Nat.le_of_ble_eq_true rfl) ?_
 simp only[argE_nil,argE_cons,Nat.reduceAdd,Nat.zero_add]
 have hlen:=h.len
 iterate 2 (refine W_at c129_ok ⟨_,rfl,?_⟩;simp (disch:=first|omega|assumption|rfl|(simp only[vcS]<;>omega)|fail) only[↓vcN,vcQ,simprocAttr,hlen])
 have L:∀(k i:Nat) (wj:World),k+i=l.length→Ext w wj→(l.any fun x=>decide (0<x.wit.length))=((l.drop i).any fun x=>decide (0<x.wit.length))→
   W Tryz.prog (Ret fun u w'=>(∃k:Int,u=.int .i64 k∧decide (k≥0)=l.any fun x=>decide (0<x.wit.length))∧Ext w w') 129 11 [(0,v),(1,.func (.func 103) #[] #[]),(7,.int .i64 (l.length:Nat)),(8,.int .i64 i)] wj:=by
  intro k
  induction k with
  |zero=>
   intro i wj hi hE hb
   have hlt:¬((i:Int)< (l.length:Nat)):=by omega
   rw[List.drop_eq_nil_of_le (by omega)] at hb
   iterate 4 (refine W_at c129_ok ⟨_,rfl,?_⟩;simp (disch:=first|omega|assumption|rfl|(simp only[vcS]<;>omega)|fail) only[↓vcN,vcQ,simprocAttr,hlt,Ret_returned])
   exact⟨⟨-1,rfl,by rw[hb];rfl⟩,hE⟩
  |succ k ih=>
   intro i wj hi hE hb
   have hil:i<l.length:=by omega
   have hlt:(i:Int)< (l.length:Nat):=by omega
   have hi2:0≤(i:Int)∧(i:Int)< (l.length:Nat):=by omega
   have hwi:IntKind.i64.wrap ((i:Int)+1)=((i+1:Nat):Int):=wrap_i64 (by omega) (by omega)
   obtain⟨b,o,c,cs,ev,hr0,hcs,sv,wv,ecs,hsvW,hwvW⟩:=h.at hil
   have hrd:=rdO_ext' hE hr0
   have hok:=ho _ (List.getElem_mem hil)
   rw[List.drop_eq_getElem_cons hil] at hb
   simp only[List.any_cons] at hb
   generalize l[i]=tt at*
   subst ecs
   have ev0:=ev
   iterate 3 (refine W_at c129_ok ⟨_,rfl,?_⟩;simp (disch:=first|omega|assumption|rfl|(simp only[vcS]<;>omega)|fail) only[↓vcN,vcQ,simprocAttr,hlt])
   rw[ev]
   (refine W_at c129_ok ⟨_,rfl,?_⟩;simp (disch:=first|omega|assumption|rfl|(simp only[vcS]<;>omega)|fail) only[↓vcN,vcQ,simprocAttr,hi2,Int.toNat_natCast,hrd])
   refine⟨by kernel_rfl,callV_ret (isW_ok wj tt sv wv hok.len hsvW.one (hwvW.ext hE)) ?_⟩
   rintro _ w2 ⟨rfl,hE2⟩
   first|(simp (disch:=first|omega|assumption|rfl|(simp only[vcS]<;>omega)|fail) only[↓vcN,vcQ,simprocAttr])|skip
   by_cases hbig:0<tt.wit.length
   ·rw[decide_eq_true hbig] at hb⊢
    iterate 3 (refine W_at c129_ok ⟨_,rfl,?_⟩;simp (disch:=first|omega|assumption|rfl|(simp only[vcS]<;>omega)|fail) only[↓vcN,vcQ,simprocAttr,Ret_returned])
    exact⟨⟨i,rfl,by rw[hb,Bool.true_or];exact decide_eq_true (by omega)⟩,hE.ext hE2⟩
   ·rw[decide_eq_false hbig] at hb⊢
    iterate 3 (refine W_at c129_ok ⟨_,rfl,?_⟩;simp (disch:=first|omega|assumption|rfl|(simp only[vcS]<;>omega)|fail) only[↓vcN,vcQ,simprocAttr,hwi])
    rw[←ev]
    exact ih (i+1) w2 (by omega) (hE.ext hE2) (by rw[hb,Bool.false_or])
 exact L l.length 0 w (by omega) (Keep.refl _ w) rfl
theorem contains_ok (w:World)(v:Value)(l:List TxI)(h:InsR w v l)(ho:∀x∈l,x.Ok)(hl:l.length≤1000000):
  Calls Tryz.prog 102 #[v,.func (.func 103) #[] #[]] w (Ret fun u w'=>u=.bool (l.any fun x=>decide (0<x.wit.length))∧Ext w w'):=by
 refine calls_of_cfg c102_ok (Nat.le_of_ble_eq_true rfl) ?_
 simp only[argE_nil,argE_cons,Nat.reduceAdd,Nat.zero_add]
 iterate 2 (refine W_at c102_ok ⟨_,rfl,?_⟩;simp (disch:=first|omega|assumption|rfl|(simp only[vcS]<;>omega)|fail) only[↓vcN,vcQ,simprocAttr])
 refine callV_ret (index_ok w v l h ho hl) ?_
 rintro _ w1 ⟨⟨k,rfl,hk⟩,hE⟩
 simp (disch:=first|omega|assumption|rfl|(simp only[vcS]<;>omega)|fail) only[↓vcN,vcQ,simprocAttr,hk]
 (refine W_at c102_ok ⟨_,rfl,?_⟩;simp (disch:=first|omega|assumption|rfl|(simp only[vcS]<;>omega)|fail) only[↓vcN,vcQ,simprocAttr,Ret_returned])
 exact hE
theorem witnessed_ok (w:World)(iv ov:Value)(t:TxV)(h:TxR w iv ov t)(ht:t.Ok)(hl:t.ins.length≤1000000):
  Calls Tryz.prog 49 #[.agg (txC t iv ov)] w (Ret fun u w'=>u=.bool (witB t)∧Ext w w'):=by
 refine calls_of_cfg c49_ok (Nat.le_of_ble_eq_true rfl) ?_
 simp only[argE_nil,argE_cons,Nat.zero_add]
 have hfx:=txC_flat2 h
 have hcx:(Value.agg (txC t iv ov)).cells=txC t iv ov:=rfl
 have hzx:=txC_sz t iv ov
 have t1:(txC t iv ov)[1]?=some iv:=rfl
 (refine W_at c49_ok ⟨_,rfl,?_⟩;simp (disch:=first|omega|assumption|rfl|(simp only[vcS]<;>omega)|fail) only[↓vcN,vcQ,simprocAttr,hcx])
 have c1:(w.alloc (.cells (txC t iv ov) 33)).heap[w.heap.size]?=some (.cells (txC t iv ov) 33 (0,0)):=heap_new _ _ _ rfl
 have hE:Ext w (w.alloc (.cells (txC t iv ov) 33)):=(Keep.refl _ w).alloc _
 generalize World.alloc _ _=w1 at c1 hE⊢
 (refine W_at c49_ok ⟨_,rfl,?_⟩;simp (disch:=first|omega|assumption|rfl|(simp only[vcS]<;>omega)|fail) only[↓vcN,vcQ,simprocAttr,c1,t1])
 refine callV_ret (contains_ok w1 iv t.ins (h.ext hE).ins ht.ins hl) ?_
 rintro _ w2 ⟨rfl,hE2⟩
 first|(simp (disch:=first|omega|assumption|rfl|(simp only[vcS]<;>omega)|fail) only[↓vcN,vcQ,simprocAttr])|skip
 (refine W_at c49_ok ⟨_,rfl,?_⟩;simp (disch:=first|omega|assumption|rfl|(simp only[vcS]<;>omega)|fail) only[↓vcN,vcQ,simprocAttr,Ret_returned])
 exact⟨rfl,hE.ext hE2⟩
end Go.Proofs
namespace Go.Proofs
open Go.Vc
set_option maxRecDepth 10000
set_option maxHeartbeats 3200000 in
theorem encodeW_ok (w:World)(iv ov:Value)(t:TxV)(b0:Bool)(h:TxR w iv ov t)(h3:t.Sm3):
  Calls Tryz.prog 15 #[.agg (txC t iv ov),.bool b0] w (Ret fun u w'=>New w w' u (encW t (b0&&witB t))):=by
 refine calls_of_cfg c15_ok (Nat.le_of_ble_eq_true rfl) ?_
 simp only[argE_nil,argE_cons,Nat.reduceAdd,Nat.zero_add]
 have ht:=h3.ok
 have hf:=h3.few
 have hi1:=h.ins.one
 have ho1:=h.outs.one
 (refine W_at c15_ok ⟨_,rfl,?_⟩;simp (disch:=first|omega|assumption|rfl|(simp only[vcS]<;>omega)|fail) only[↓vcN,vcQ,simprocAttr])
 have hE0:Ext w (w.alloc (.cells (txC t iv ov) 33)):=(Keep.refl _ w).alloc _
 have hp2:(w.alloc (.cells (txC t iv ov) 33)).heap[w.heap.size]?=some (.cells (txC t iv ov) 33 (0,0)):=heap_new _ _ _ rfl
 generalize World.alloc _ _=w1 at hE0 hp2⊢
 generalize hp2e:w.heap.size=p2 at hp2⊢
 have hw1:=hE0.size
 have h1:=h.ext hE0
 (refine W_at c15_ok ⟨_,rfl,?_⟩;simp (disch:=first|omega|assumption|rfl|(simp only[vcS]<;>omega)|fail) only[↓vcN,vcQ,simprocAttr])
 have hW:=new_writer w1
 have hp22:=hW.ext.at hp2 (fun h=>h)
 have hp2l:=lt_of_heap hp2
 generalize World.alloc _ _=w2 at hW hp22⊢
 generalize hp5e:w1.heap.size=p5 at hW hp2l⊢
 have t0:(txC t iv ov)[0]?=some (.int .i32 t.ver):=rfl
 have t1:(txC t iv ov)[1]?=some iv:=rfl
 have t2:(txC t iv ov)[2]?=some ov:=rfl
 have t3:(txC t iv ov)[3]?=some (.int .u32 t.lock):=rfl
 have r4:rdO (some (.cells (txC t iv ov) 33 (0,0))) 0 4=some (txC t iv ov):=rdO_all _ _ _ _ rfl
 have hv32:IntKind.u32.wrap t.ver=t.ver%4294967296:=wrap_u32 _
 have hlI:=h.ins.len
 have hlO:=h.outs.len
 have huI:IntKind.u64.wrap ((t.ins.length:Nat):Int)=(t.ins.length:Nat):=by have:=hf.ins;rw[wrap_u64];omega
 have huO:IntKind.u64.wrap ((t.outs.length:Nat):Int)=(t.outs.length:Nat):=by have:=hf.outs;rw[wrap_u64];omega
 have main:∀(mk:Bool) (w3:World) (v3:Value) (tl:Env),WMid w1 w3 p5 v3 (lowF 4 (t.ver%4294967296)++preW mk)→
   W Tryz.prog (Ret fun u w'=>New w w' u (encW t mk)) 15 39 ((1,.bool mk)::(2,.pointer (some ⟨p2,0,none⟩))::(5,.pointer (some ⟨p5,0,none⟩))::tl) w3:=by
  intro mk w3 v3 tl hW3
  have hp23:=hW3.ext.at hp2 (fun h=>h)
  have hpre:(preW mk).length≤2:=by cases mk<;>decide
  have hl4:=lowF_len 4 (t.ver%4294967296)
  (refine W_at c15_ok ⟨_,rfl,?_⟩;simp (disch:=first|omega|assumption|rfl|(simp only[vcS]<;>omega)|fail) only[↓vcN,vcQ,simprocAttr,hp23,t1,hlI,huI])
  refine callV_ret (size_ok w3 p5 v3 _ (t.ins.length:Nat) hW3.at' (by simp only[List.length_append];omega) (by omega)) ?_
  intro _ w4 hT
  obtain⟨v4,hW4⟩:=hW3.go hT
  have hp24:=hW4.ext.at hp2 (fun h=>h)
  first|(simp (disch:=first|omega|assumption|rfl|(simp only[vcS]<;>omega)|fail) only[↓vcN,vcQ,simprocAttr])|skip
  (refine W_at c15_ok ⟨_,rfl,?_⟩;simp (disch:=first|omega|assumption|rfl|(simp only[vcS]<;>omega)|fail) only[↓vcN,vcQ,simprocAttr,hp24,t1,hlI])
  have hbI:=flatI_len (l:=t.ins) (m:=100) (fun x hx=>(ht.ins x hx).len) hf.iscr
  have hbO:=flatO_len (l:=t.outs) (m:=100) hf.oscr
  have hnI:=hf.ins
  have hnO:=hf.outs
  have hsI:=(sizeF_len (n:=(t.ins.length:Int))).2
  have hsO:=(sizeF_len (n:=(t.outs.length:Int))).2
  have hl4:=lowF_len 4 (t.ver%4294967296)
  have hpre:(preW mk).length≤2:=by cases mk<;>decide
  have fin3:∀(wj:World) (vj:Value) (tl:Env),WMid w1 wj p5 vj (lowF 4 (t.ver%4294967296)++preW mk++sizeF (t.ins.length:Nat)++t.ins.flatMap encI++sizeF (t.outs.length:Nat)++t.outs.flatMap encO++endW t mk)→
    W Tryz.prog (Ret fun u w'=>New w w' u (encW t mk)) 15 3 ((2,.pointer (some ⟨p2,0,none⟩))::(5,.pointer (some ⟨p5,0,none⟩))::tl) wj:=by
   intro wj vj tl hWj
   have hp2j:=hWj.ext.at hp2 (fun h=>h)
   have hlk:=ht.lock
   have hbE:(endW t mk).length≤336*t.ins.length:=by
    cases mk
    ·exact Nat.zero_le _
    ·exact flatW_len h3.wl
   (refine W_at c15_ok ⟨_,rfl,?_⟩;simp (disch:=first|omega|assumption|rfl|(simp only[vcS]<;>omega)|fail) only[↓vcN,vcQ,simprocAttr,hp2j,t3])
   refine callV_ret (u32_ok wj p5 vj _ t.lock hWj.at' (by simp only[List.length_append];omega) hlk) ?_
   intro _ wk hT
   obtain⟨vk,hWk⟩:=hWj.go hT
   first|(simp (disch:=first|omega|assumption|rfl|(simp only[vcS]<;>omega)|fail) only[↓vcN,vcQ,simprocAttr])|skip
   (refine W_at c15_ok ⟨_,rfl,?_⟩;simp (disch:=first|omega|assumption|rfl|(simp only[vcS]<;>omega)|fail) only[↓vcN,vcQ,simprocAttr])
   refine callV_ret (out_ok wk p5 vk _ hWk.at' (by simp only[List.length_append,lowF_len];omega)) ?_
   rintro u wl ⟨g1,g2,g3⟩
   first|(simp (disch:=first|omega|assumption|rfl|(simp only[vcS]<;>omega)|fail) only[↓vcN,vcQ,simprocAttr])|skip
   (refine W_at c15_ok ⟨_,rfl,?_⟩;simp (disch:=first|omega|assumption|rfl|(simp only[vcS]<;>omega)|fail) only[↓vcN,vcQ,simprocAttr,Ret_returned])
   refine⟨?_,(hE0.ext hWk.ext).ext g2,fun g hg=>?_⟩
   ·unfold encW;exact g1
   ·have:=g3 g hg
    have:=(hE0.ext hWk.ext).size
    omega
  have fin:∀(wj:World) (vj:Value) (tl:Env),WMid w1 wj p5 vj (lowF 4 (t.ver%4294967296)++preW mk++sizeF (t.ins.length:Nat)++t.ins.flatMap encI++sizeF (t.outs.length:Nat)++t.outs.flatMap encO)→
    W Tryz.prog (Ret fun u w'=>New w w' u (encW t mk)) 15 19 ((1,.bool mk)::(2,.pointer (some ⟨p2,0,none⟩))::(5,.pointer (some ⟨p5,0,none⟩))::tl) wj:=by
   intro wj vj tl hWj
   have hp2j:=hWj.ext.at hp2 (fun h=>h)
   cases mk with
   |false=>
    iterate 2 (refine W_at c15_ok ⟨_,rfl,?_⟩;simp (disch:=first|omega|assumption|rfl|(simp only[vcS]<;>omega)|fail) only[↓vcN,vcQ,simprocAttr])
    refine fin3 wj vj _ ?_
    rw[show endW t false=[] from rfl,List.append_nil]
    exact hWj
   |true=>
    iterate 3 (refine W_at c15_ok ⟨_,rfl,?_⟩;simp (disch:=first|omega|assumption|rfl|(simp only[vcS]<;>omega)|fail) only[↓vcN,vcQ,simprocAttr,hp2j,t1,hlI])
    generalize hPRE:lowF 4 (t.ver%4294967296)++preW true++sizeF (t.ins.length:Nat)++t.ins.flatMap encI++sizeF (t.outs.length:Nat)++t.outs.flatMap encO=PRE at*
    have hPl:PRE.length≤2000:=by
     rw[←hPRE]
     simp only[List.length_append];omega
    have LW:∀(k i:Nat) (wj:World) (vj:Value) (tl:Env),i+k=t.ins.length→WMid w1 wj p5 vj (PRE++(t.ins.take i).flatMap encWi)→
      W Tryz.prog (Ret fun u w'=>New w w' u (encW t true)) 15 16 ((2,.pointer (some ⟨p2,0,none⟩))::(5,.pointer (some ⟨p5,0,none⟩))::(75,iv)::(76,.int .i64 (t.ins.length:Nat))::(77,.int .i64 (i:Nat))::tl) wj:=by
     intro k
     induction k with
     |zero=>
      intro i wj vj tl hi hWj
      obtain rfl:i=t.ins.length:=by omega
      rw[List.take_length] at hWj
      have hno:¬((t.ins.length:Nat):Int)< (t.ins.length:Nat):=by omega
      iterate 2 (refine W_at c15_ok ⟨_,rfl,?_⟩;simp (disch:=first|omega|assumption|rfl|(simp only[vcS]<;>omega)|fail) only[↓vcN,vcQ,simprocAttr,hno])
      exact fin3 wj vj _ hWj
     |succ k ih=>
      intro i wj vj tl hi hWj
      have hil:i<t.ins.length:=by omega
      have hlt:((i:Nat):Int)< (t.ins.length:Nat):=by omega
      have b1:0≤((i:Nat):Int)∧((i:Nat):Int)< (t.ins.length:Nat):=by omega
      have hwi:IntKind.i64.wrap (((i:Nat):Int)+1)=((i+1:Nat):Int):=wrap_i64 (by omega) (by omega)
      obtain⟨b,o,c,cs,ev,hr0,hcs,sv,wv,ecs,hsvW,hwvW⟩:=h1.ins.at hil
      have hr:=rdO_ext' hWj.ext hr0
      have hsv1:=hsvW.one
      have hwv1:=hwvW.one
      have hok:=ht.ins _ (List.getElem_mem hil)
      have hwl:=h3.wl _ (List.getElem_mem hil)
      have htk:=take_flat encWi hil
      have hbi:=flatW_len (l:=t.ins.take i) fun x hx=>h3.wl x (List.mem_of_mem_take hx)
      have hbl:(t.ins.take i).length≤3:=by rw[List.length_take];omega
      generalize t.ins[i]=y at hsvW hwvW ecs hok hwl htk
      subst ecs
      have hpl:=hok.len
      have x35:=iC_35 hpl sv wv
      have s36:=iC_size hpl sv wv
      rw[ev]
      iterate 3 (refine W_at c15_ok ⟨_,rfl,?_⟩;simp (disch:=first|omega|assumption|rfl|(simp only[vcS]<;>omega)|fail) only[↓vcN,vcQ,simprocAttr,hlt,b1,Int.toNat_natCast,hr,s36])
      refine⟨iC_flat hsv1 hwv1,by decide,?_⟩
      have hEb:Ext wj ((wj.alloc (.cells (zc [(32,.int .u8 0),(1,.int .u32 0),(1,.slice none 0 0),(1,.int .u32 0),(1,.slice none 0 0)]) 61)).putN wj.heap.size 0 (iC y sv wv)):=((Keep.refl _ wj).alloc _).putN _ (by intro hh;exfalso;omega)
      have h9:((wj.alloc (.cells (zc [(32,.int .u8 0),(1,.int .u32 0),(1,.slice none 0 0),(1,.int .u32 0),(1,.slice none 0 0)]) 61)).putN wj.heap.size 0 (iC y sv wv)).heap[wj.heap.size]?=some (.cells (iC y sv wv) 61 (0,0)):=by
       rw[heap_putN_eq (heap_new _ _ _ rfl),splice_all (by rw[s36];rfl)]
      generalize World.putN _ _ _ _=wa at hEb h9⊢
      generalize wj.heap.size=p9 at h9⊢
      have hWa:=hWj.grow hEb
      have hlw:=hwvW.len
      have huw:IntKind.u64.wrap ((y.wit.length:Nat):Int)=(y.wit.length:Nat):=by rw[wrap_u64];omega
      (refine W_at c15_ok ⟨_,rfl,?_⟩;simp (disch:=first|omega|assumption|rfl|(simp only[vcS]<;>omega)|fail) only[↓vcN,vcQ,simprocAttr,h9,x35,hlw,huw])
      refine callV_ret (size_ok wa p5 vj _ (y.wit.length:Nat) hWa.at' (by simp only[List.length_append];omega) (by omega)) ?_
      intro _ wb hT
      have h9b:=hT.at hWa.at' h9 (by decide) (by decide)
      obtain⟨vb,hWb⟩:=hWa.go hT
      first|(simp (disch:=first|omega|assumption|rfl|(simp only[vcS]<;>omega)|fail) only[↓vcN,vcQ,simprocAttr])|skip
      (refine W_at c15_ok ⟨_,rfl,?_⟩;simp (disch:=first|omega|assumption|rfl|(simp only[vcS]<;>omega)|fail) only[↓vcN,vcQ,simprocAttr,h9b,x35,hlw])
      have hsz:=(sizeF_len (n:=(y.wit.length:Int))).2
      have LI:∀(m j:Nat) (wj:World) (vj:Value) (tl:Env),j+m=y.wit.length→WMid w1 wj p5 vj (PRE++(t.ins.take i).flatMap encWi++sizeF (y.wit.length:Nat)++(y.wit.take j).flatMap txtF)→
        W Tryz.prog (Ret fun u w'=>New w w' u (encW t true)) 15 11 ((2,.pointer (some ⟨p2,0,none⟩))::(5,.pointer (some ⟨p5,0,none⟩))::(75,.slice (some ⟨b,o,none⟩) t.ins.length c)::(76,.int .i64 (t.ins.length:Nat))::(77,.int .i64 (i:Nat))::(87,wv)::(88,.int .i64 (y.wit.length:Nat))::(89,.int .i64 (j:Nat))::tl) wj:=by
       intro m
       induction m with
       |zero=>
        intro j wj vj tl hj hWj
        obtain rfl:j=y.wit.length:=by omega
        rw[List.take_length] at hWj
        have hno:¬((y.wit.length:Nat):Int)< (y.wit.length:Nat):=by omega
        iterate 4 (refine W_at c15_ok ⟨_,rfl,?_⟩;simp (disch:=first|omega|assumption|rfl|(simp only[vcS]<;>omega)|fail) only[↓vcN,vcQ,simprocAttr,hno,hwi])
        rw[←ev]
        refine ih (i+1) wj vj _ (by omega) ?_
        rw[htk,show encWi y=sizeF y.wit.length++y.wit.flatMap txtF from rfl]
        simpa only[List.append_assoc] using hWj
       |succ m ihm=>
        intro j wj vj tl hj hWj
        have hjl:j<y.wit.length:=by omega
        have hlt2:((j:Nat):Int)< (y.wit.length:Nat):=by omega
        have b2:0≤((j:Nat):Int)∧((j:Nat):Int)< (y.wit.length:Nat):=by omega
        have hwj:IntKind.i64.wrap (((j:Nat):Int)+1)=((j+1:Nat):Int):=wrap_i64 (by omega) (by omega)
        obtain⟨b',o',c',x,ew,hcell,hx⟩:=hwvW.at hjl
        have hcw:cellO wj.heap[b']? (o'+j)=some x:=by
         have hr1:rdO w1.heap[b']? (o'+j) 1=some #[x]:=by
          obtain⟨vs,a1,a2,a3,a4,a5⟩:=hwvW
          rw[ew] at a1
          have hf:=flat1_list vs
          rw[←hf] at a1
          obtain⟨b2',o2',hq,h6⟩:=rdS_at (size:=1) (xs:=vs.map fun v=>#[v]) a1 (by rw[List.length_map];exact a2) (fun x hx=>by obtain⟨y,_,rfl⟩:=List.mem_map.1 hx;rfl) hjl
          cases hq
          rw[Nat.mul_one] at h6
          have h7:=rdO_cell h6 (j:=0) (by omega)
          rw[Nat.add_zero,hcell] at h7
          have e9:(List.map (fun v=>(#[v]:Array Value)) vs)[j]'(by rw[List.length_map];omega)=#[x]:=by
           simp only[List.getElem_map] at h7⊢
           have h8:some x=some vs[j]:=h7
           rw[←Option.some.inj h8]
          rw[h6,e9]
         have hr2:=rdO_ext' hWj.ext hr1
         have h7:=rdO_cell hr2 (j:=0) (by omega)
         rw[Nat.add_zero] at h7
         exact h7
        have hpm:=hwl.2 _ (List.getElem_mem hjl)
        have htj:=take_flat txtF hjl
        have hbj:=flatT_len (l:=y.wit.take j) fun p hp=>hwl.2 p (List.mem_of_mem_take hp)
        have hbl2:(y.wit.take j).length≤3:=by rw[List.length_take];omega
        generalize y.wit[j]=p at hx hpm htj
        have hxw:=hx.ext hWj.ext
        subst ew
        iterate 4 (refine W_at c15_ok ⟨_,rfl,?_⟩;simp (disch:=first|omega|assumption|rfl|(simp only[vcS]<;>omega)|fail) only[↓vcN,vcQ,simprocAttr,hlt2,b2,Int.toNat_natCast,Nat.mul_one,hcw])
        refine callV_ret (bytes_ok wj p5 vj _ x p hWj.at' hxw (hWj.rd hx) (by simp only[List.length_append];omega)) ?_
        intro _ wk hT
        obtain⟨vk,hWk⟩:=hWj.go hT
        first|(simp (disch:=first|omega|assumption|rfl|(simp only[vcS]<;>omega)|fail) only[↓vcN,vcQ,simprocAttr])|skip
        iterate 2 (refine W_at c15_ok ⟨_,rfl,?_⟩;simp (disch:=first|omega|assumption|rfl|(simp only[vcS]<;>omega)|fail) only[↓vcN,vcQ,simprocAttr,hwj])
        refine ihm (j+1) wk vk _ (by omega) ?_
        rw[htj,show txtF p=sizeF p.length++p from rfl]
        simpa only[List.append_assoc] using hWk
      exact LI y.wit.length 0 wb vb _ (by omega) (by rw[List.take_zero];simpa using hWb)
    exact LW t.ins.length 0 wj vj _ (by omega) (by rw[List.take_zero];simpa using hWj)
  have outs:∀(wj:World) (vj:Value) (tl:Env),WMid w1 wj p5 vj (lowF 4 (t.ver%4294967296)++preW mk++sizeF (t.ins.length:Nat)++t.ins.flatMap encI)→
    W Tryz.prog (Ret fun u w'=>New w w' u (encW t mk)) 15 28 ((1,.bool mk)::(2,.pointer (some ⟨p2,0,none⟩))::(5,.pointer (some ⟨p5,0,none⟩))::tl) wj:=by
   intro wj vj tl hWj
   have hp2j:=hWj.ext.at hp2 (fun h=>h)
   (refine W_at c15_ok ⟨_,rfl,?_⟩;simp (disch:=first|omega|assumption|rfl|(simp only[vcS]<;>omega)|fail) only[↓vcN,vcQ,simprocAttr,hp2j,t2,hlO,huO])
   refine callV_ret (size_ok wj p5 vj _ (t.outs.length:Nat) hWj.at' (by simp only[List.length_append];omega) (by omega)) ?_
   intro _ wk hT
   obtain⟨vk,hWk⟩:=hWj.go hT
   have hp2k:=hWk.ext.at hp2 (fun h=>h)
   first|(simp (disch:=first|omega|assumption|rfl|(simp only[vcS]<;>omega)|fail) only[↓vcN,vcQ,simprocAttr])|skip
   (refine W_at c15_ok ⟨_,rfl,?_⟩;simp (disch:=first|omega|assumption|rfl|(simp only[vcS]<;>omega)|fail) only[↓vcN,vcQ,simprocAttr,hp2k,t2,hlO])
   have L2:∀(k i:Nat) (wj:World) (vj:Value),i+k=t.outs.length→WMid w1 wj p5 vj (lowF 4 (t.ver%4294967296)++preW mk++sizeF (t.ins.length:Nat)++t.ins.flatMap encI++sizeF (t.outs.length:Nat)++(t.outs.take i).flatMap encO)→
     W Tryz.prog (Ret fun u w'=>New w w' u (encW t mk)) 15 26 [(1,.bool mk),(2,.pointer (some ⟨p2,0,none⟩)),(5,.pointer (some ⟨p5,0,none⟩)),(59,ov),(60,.int .i64 (t.outs.length:Nat)),(61,.int .i64 (i:Nat))] wj:=by
    intro k
    induction k with
    |zero=>
     intro i wj vj hi hWj
     obtain rfl:i=t.outs.length:=by omega
     rw[List.take_length] at hWj
     have hno:¬((t.outs.length:Nat):Int)< (t.outs.length:Nat):=by omega
     iterate 2 (refine W_at c15_ok ⟨_,rfl,?_⟩;simp (disch:=first|omega|assumption|rfl|(simp only[vcS]<;>omega)|fail) only[↓vcN,vcQ,simprocAttr,hno])
     exact fin wj vj _ hWj
    |succ k ih=>
     intro i wj vj hi hWj
     have hil:i<t.outs.length:=by omega
     have hlt:((i:Nat):Int)< (t.outs.length:Nat):=by omega
     have b1:0≤((i:Nat):Int)∧((i:Nat):Int)< (t.outs.length:Nat):=by omega
     have hwi:IntKind.i64.wrap (((i:Nat):Int)+1)=((i+1:Nat):Int):=wrap_i64 (by omega) (by omega)
     obtain⟨b,o,c,cs,ev,hr0,hcs,sv,ecs,hsvW⟩:=h1.outs.at hil
     have hr:=rdO_ext' hWj.ext hr0
     have hsv:=hsvW.ext hWj.ext
     have hsv1:=hsv.one
     have hok:=ht.outs _ (List.getElem_mem hil)
     have hscl:=hf.oscr _ (List.getElem_mem hil)
     have htk:=take_flat encO hil
     have hbi:=flatO_len (l:=t.outs.take i) (m:=100) (fun x hx=>hf.oscr x (List.mem_of_mem_take hx))
     have hbl:(t.outs.take i).length≤3:=by rw[List.length_take];omega
     generalize t.outs[i]=y at hsv hsvW ecs hok hscl htk
     have hov:=ev
     subst ecs
     rw[ev]
     have c0:(oC y sv)[0]?=some (.int .i64 y.val):=rfl
     have c1:(oC y sv)[1]?=some sv:=rfl
     have s2:(oC y sv).size=2:=rfl
     iterate 3 (refine W_at c15_ok ⟨_,rfl,?_⟩;simp (disch:=first|omega|assumption|rfl|(simp only[vcS]<;>omega)|fail) only[↓vcN,vcQ,simprocAttr,hlt,b1,Int.toNat_natCast,hr,s2])
     refine⟨oC_flat hsv1,?_⟩
     have hEb:Ext wj ((wj.alloc (.cells (zc [(1,.int .i64 0),(1,.slice none 0 0)]) 63)).putN wj.heap.size 0 (oC y sv)):=((Keep.refl _ wj).alloc _).putN _ (by intro hh;exfalso;omega)
     have h9:((wj.alloc (.cells (zc [(1,.int .i64 0),(1,.slice none 0 0)]) 63)).putN wj.heap.size 0 (oC y sv)).heap[wj.heap.size]?=some (.cells (oC y sv) 63 (0,0)):=by
      rw[heap_putN_eq (heap_new _ _ _ rfl),splice_all (by rfl)]
     generalize World.putN _ _ _ _=wa at hEb h9⊢
     generalize wj.heap.size=p9 at h9⊢
     have hWa:=hWj.grow hEb
     have hsva:Rd wa sv y.script:=hsv.ext hEb
     have hv64:IntKind.u64.wrap y.val=y.val%18446744073709551616:=wrap_u64 _
     (refine W_at c15_ok ⟨_,rfl,?_⟩;simp (disch:=first|omega|assumption|rfl|(simp only[vcS]<;>omega)|fail) only[↓vcN,vcQ,simprocAttr,h9,c0,hv64])
     refine callV_ret (u64_ok wa p5 vj _ (y.val%18446744073709551616) hWa.at' (by simp only[List.length_append];omega)) ?_
     intro _ wb hT
     have h9b:=hT.at hWa.at' h9 (by decide) (by decide)
     obtain⟨vb,hWb⟩:=hWa.go hT
     first|(simp (disch:=first|omega|assumption|rfl|(simp only[vcS]<;>omega)|fail) only[↓vcN,vcQ,simprocAttr])|skip
     have hsvb:Rd wb sv y.script:=hsvW.ext hWb.ext
     (refine W_at c15_ok ⟨_,rfl,?_⟩;simp (disch:=first|omega|assumption|rfl|(simp only[vcS]<;>omega)|fail) only[↓vcN,vcQ,simprocAttr,h9b,c1])
     refine callV_ret (bytes_ok wb p5 vb _ sv y.script hWb.at' hsvb (hWb.rd hsvW) (by simp only[List.length_append,lowF_len];omega)) ?_
     intro _ wc hT
     obtain⟨vc,hWc⟩:=hWb.go hT
     first|(simp (disch:=first|omega|assumption|rfl|(simp only[vcS]<;>omega)|fail) only[↓vcN,vcQ,simprocAttr])|skip
     iterate 2 (refine W_at c15_ok ⟨_,rfl,?_⟩;simp (disch:=first|omega|assumption|rfl|(simp only[vcS]<;>omega)|fail) only[↓vcN,vcQ,simprocAttr,hwi])
     rw[←ev]
     refine ih (i+1) wc vc (by omega) ?_
     rw[htk,show encO y=lowF 8 (y.val%18446744073709551616)++(sizeF y.script.length++y.script) from rfl]
     simpa only[List.append_assoc] using hWc
   exact L2 t.outs.length 0 wk vk (by omega) (by rw[List.take_zero];simpa using hWk)
  have L1:∀(k i:Nat) (wj:World) (vj:Value),i+k=t.ins.length→WMid w1 wj p5 vj (lowF 4 (t.ver%4294967296)++preW mk++sizeF (t.ins.length:Nat)++(t.ins.take i).flatMap encI)→
    W Tryz.prog (Ret fun u w'=>New w w' u (encW t mk)) 15 37 [(1,.bool mk),(2,.pointer (some ⟨p2,0,none⟩)),(5,.pointer (some ⟨p5,0,none⟩)),(32,iv),(33,.int .i64 (t.ins.length:Nat)),(34,.int .i64 (i:Nat))] wj:=by
   intro k
   induction k with
   |zero=>
    intro i wj vj hi hWj
    obtain rfl:i=t.ins.length:=by omega
    rw[List.take_length] at hWj
    have hno:¬((t.ins.length:Nat):Int)< (t.ins.length:Nat):=by omega
    iterate 2 (refine W_at c15_ok ⟨_,rfl,?_⟩;simp (disch:=first|omega|assumption|rfl|(simp only[vcS]<;>omega)|fail) only[↓vcN,vcQ,simprocAttr,hno])
    exact outs wj vj _ hWj
   |succ k ih=>
    intro i wj vj hi hWj
    have hil:i<t.ins.length:=by omega
    have hlt:((i:Nat):Int)< (t.ins.length:Nat):=by omega
    have b1:0≤((i:Nat):Int)∧((i:Nat):Int)< (t.ins.length:Nat):=by omega
    have hwi:IntKind.i64.wrap (((i:Nat):Int)+1)=((i+1:Nat):Int):=wrap_i64 (by omega) (by omega)
    obtain⟨b,o,c,cs,ev,hr0,hcs,sv,wv,ecs,hsvW,hwvW⟩:=h1.ins.at hil
    have hr:=rdO_ext' hWj.ext hr0
    have hsv:=hsvW.ext hWj.ext
    have hsv1:=hsv.one
    have hwv1:=hwvW.one
    have hok:=ht.ins _ (List.getElem_mem hil)
    have hscl:=hf.iscr _ (List.getElem_mem hil)
    have htk:=take_flat encI hil
    have hbi:=flatI_len (l:=t.ins.take i) (m:=100) (fun x hx=>(ht.ins x (List.mem_of_mem_take hx)).len) (fun x hx=>hf.iscr x (List.mem_of_mem_take hx))
    have hbl:(t.ins.take i).length≤3:=by rw[List.length_take];omega
    generalize t.ins[i]=y at hsv hsvW hwvW ecs hok hscl htk
    subst ecs
    rw[ev]
    have hpl:=hok.len
    have s36:=iC_size hpl sv wv
    have c32:=iC_32 hpl sv wv
    have c33:=iC_33 hpl sv wv
    have c34:=iC_34 hpl sv wv
    iterate 3 (refine W_at c15_ok ⟨_,rfl,?_⟩;simp (disch:=first|omega|assumption|rfl|(simp only[vcS]<;>omega)|fail) only[↓vcN,vcQ,simprocAttr,hlt,b1,Int.toNat_natCast,hr,s36])
    refine⟨iC_flat hsv1 hwv1,by simp [zc,runs],?_⟩
    have hEb:Ext wj ((wj.alloc (.cells (zc [(32,.int .u8 0),(1,.int .u32 0),(1,.slice none 0 0),(1,.int .u32 0),(1,.slice none 0 0)]) 61)).putN wj.heap.size 0 (iC y sv wv)):=((Keep.refl _ wj).alloc _).putN _ (by intro hh;exfalso;omega)
    have h7:((wj.alloc (.cells (zc [(32,.int .u8 0),(1,.int .u32 0),(1,.slice none 0 0),(1,.int .u32 0),(1,.slice none 0 0)]) 61)).putN wj.heap.size 0 (iC y sv wv)).heap[wj.heap.size]?=some (.cells (iC y sv wv) 61 (0,0)):=by
     rw[heap_putN_eq (heap_new _ _ _ rfl),splice_all (by rw[s36];rfl)]
    generalize World.putN _ _ _ _=wa at hEb h7⊢
    generalize wj.heap.size=p7 at h7⊢
    have hWa:=hWj.grow hEb
    have hrp:=iC_rd32 hpl h7
    (refine W_at c15_ok ⟨_,rfl,?_⟩;simp (disch:=first|omega|assumption|rfl|(simp only[vcS]<;>omega)|fail) only[↓vcN,vcQ,simprocAttr,Nat.sub_zero])
    refine callV_ret (raw_ok wa p5 vj _ _ y.prev hWa.at' hrp (by simp only[List.length_append];omega)) ?_
    intro _ wb hT
    have h7b:=hT.at hWa.at' h7 (by decide) (by decide)
    obtain⟨vb,hWb⟩:=hWa.go hT
    first|(simp (disch:=first|omega|assumption|rfl|(simp only[vcS]<;>omega)|fail) only[↓vcN,vcQ,simprocAttr])|skip
    (refine W_at c15_ok ⟨_,rfl,?_⟩;simp (disch:=first|omega|assumption|rfl|(simp only[vcS]<;>omega)|fail) only[↓vcN,vcQ,simprocAttr,h7b,c32])
    refine callV_ret (u32_ok wb p5 vb _ y.idx hWb.at' (by simp only[List.length_append];omega) hok.idx) ?_
    intro _ wc hT
    have h7c:=hT.at hWb.at' h7b (by decide) (by decide)
    obtain⟨vc,hWc⟩:=hWb.go hT
    first|(simp (disch:=first|omega|assumption|rfl|(simp only[vcS]<;>omega)|fail) only[↓vcN,vcQ,simprocAttr])|skip
    (refine W_at c15_ok ⟨_,rfl,?_⟩;simp (disch:=first|omega|assumption|rfl|(simp only[vcS]<;>omega)|fail) only[↓vcN,vcQ,simprocAttr,h7c,c33])
    refine callV_ret (bytes_ok wc p5 vc _ sv y.script hWc.at' (hsvW.ext hWc.ext) (hWc.rd hsvW) (by simp only[List.length_append,lowF_len];omega)) ?_
    intro _ wd hT
    have h7d:=hT.at hWc.at' h7c (by decide) (by decide)
    obtain⟨vd,hWd⟩:=hWc.go hT
    have hsy:=(sizeF_len (n:=(y.script.length:Int))).2
    first|(simp (disch:=first|omega|assumption|rfl|(simp only[vcS]<;>omega)|fail) only[↓vcN,vcQ,simprocAttr])|skip
    (refine W_at c15_ok ⟨_,rfl,?_⟩;simp (disch:=first|omega|assumption|rfl|(simp only[vcS]<;>omega)|fail) only[↓vcN,vcQ,simprocAttr,h7d,c34])
    refine callV_ret (u32_ok wd p5 vd _ y.seq hWd.at' (by simp only[List.length_append,lowF_len];omega) hok.seq) ?_
    intro _ we hT
    obtain⟨ve,hWe⟩:=hWd.go hT
    first|(simp (disch:=first|omega|assumption|rfl|(simp only[vcS]<;>omega)|fail) only[↓vcN,vcQ,simprocAttr])|skip
    iterate 2 (refine W_at c15_ok ⟨_,rfl,?_⟩;simp (disch:=first|omega|assumption|rfl|(simp only[vcS]<;>omega)|fail) only[↓vcN,vcQ,simprocAttr,hwi])
    rw[←ev]
    refine ih (i+1) we ve (by omega) ?_
    rw[htk,show encI y=y.prev++lowF 4 y.idx++(sizeF y.script.length++y.script)++lowF 4 y.seq from rfl]
    simpa only[List.append_assoc] using hWe
  exact L1 t.ins.length 0 w4 v4 (by omega) (by rw[List.take_zero];simpa using hW4)
 have begin43:∀(mk:Bool) (w3:World) (tl:Env),WMid w1 w3 p5 (.slice none 0 0) []→
   W Tryz.prog (Ret fun u w'=>New w w' u (encW t mk)) 15 43 ((1,.bool mk)::(2,.pointer (some ⟨p2,0,none⟩))::(5,.pointer (some ⟨p5,0,none⟩))::tl) w3:=by
  intro mk w3 tl hW
  have hp23:=hW.ext.at hp2 (fun h=>h)
  (refine W_at c15_ok ⟨_,rfl,?_⟩;simp (disch:=first|omega|assumption|rfl|(simp only[vcS]<;>omega)|fail) only[↓vcN,vcQ,simprocAttr,hp23,t0,hv32])
  refine callV_ret (u32_ok w3 p5 _ [] (t.ver%4294967296) hW.at' (by simp) (by omega)) ?_
  intro _ w4 hT
  obtain⟨v4,hW4⟩:=hW.go hT
  rw[List.nil_append] at hW4
  first|(simp (disch:=first|omega|assumption|rfl|(simp only[vcS]<;>omega)|fail) only[↓vcN,vcQ,simprocAttr])|skip
  cases mk with
  |false=>
   iterate 2 (refine W_at c15_ok ⟨_,rfl,?_⟩;simp (disch:=first|omega|assumption|rfl|(simp only[vcS]<;>omega)|fail) only[↓vcN,vcQ,simprocAttr])
   exact main false w4 v4 _ (by rw[show preW false=[] from rfl,List.append_nil];exact hW4)
  |true=>
   iterate 3 (refine W_at c15_ok ⟨_,rfl,?_⟩;simp (disch:=first|omega|assumption|rfl|(simp only[vcS]<;>omega)|fail) only[↓vcN,vcQ,simprocAttr])
   have hN:New w4 (w4.alloc (.cells (bv [0,1]).toArray 5)) (.slice (some ⟨w4.heap.size,0,none⟩) 2 2) [0,1]:=New.lit (by simp [maxLen])
   have eb:([Value.int .u8 0]++([Value.int .u8 1]++[])).toArray=(bv [0,1]).toArray:=rfl
   rw[eb]
   have hW5:=hW4.grow hN.ext
   have hr:=hN.own.rd
   generalize World.alloc _ _=w5 at hN hW5 hr⊢
   refine callV_ret (raw_ok w5 p5 v4 _ _ [0,1] hW5.at' hr (by rw[lowF_len];simp)) ?_
   intro _ w6 hT
   obtain⟨v6,hW6⟩:=hW5.go hT
   first|(simp (disch:=first|omega|assumption|rfl|(simp only[vcS]<;>omega)|fail) only[↓vcN,vcQ,simprocAttr])|skip
   exact main true w6 v6 _ hW6
 have hlt:t.ins.length≤1000000:=by have:=hf.ins;omega
 cases b0 with
 |false=>
  (refine W_at c15_ok ⟨_,rfl,?_⟩;simp (disch:=first|omega|assumption|rfl|(simp only[vcS]<;>omega)|fail) only[↓vcN,vcQ,simprocAttr])
  exact begin43 false w2 _ hW
 |true=>
  (refine W_at c15_ok ⟨_,rfl,?_⟩;simp (disch:=first|omega|assumption|rfl|(simp only[vcS]<;>omega)|fail) only[↓vcN,vcQ,simprocAttr,hp22,r4])
  refine callV_ret (witnessed_ok w2 iv ov t (h1.ext hW.ext) ht hlt) ?_
  rintro _ w3 ⟨rfl,hE3⟩
  first|(simp (disch:=first|omega|assumption|rfl|(simp only[vcS]<;>omega)|fail) only[↓vcN,vcQ,simprocAttr])|skip
  exact begin43 (witB t) w3 _ (hW.grow hE3)
end Go.Proofs
namespace Go.Proofs
open Go.Vc
set_option maxRecDepth 10000
theorem TxV.Sm3.few2 {t:TxV}(h:t.Sm3):t.Few 100 1000:=⟨by have:=h.few.ins;omega,by have:=h.few.outs;omega,fun x hx=>by have:=h.few.iscr x hx;omega,fun y hy=>by have:=h.few.oscr y hy;omega⟩
theorem RowR.cell {w w':World}{v:Value}{ps:List (List Int)}(h:RowR w v ps){i:Nat}(hi:i<ps.length):∃b o c x,v=.slice (some ⟨b,o,none⟩) ps.length c∧(∀w',Ext w w'→cellO w'.heap[b]? (o+i)=some x)∧Rd w x ps[i]:=by
 obtain⟨b,o,c,x,ew,hcell,hx⟩:=h.at hi
 refine⟨b,o,c,x,ew,fun w' k=>?_,hx⟩
 have hr1:rdO w.heap[b]? (o+i) 1=some #[x]:=by
  obtain⟨vs,a1,a2,a3,a4,a5⟩:=h
  rw[ew] at a1
  have hf:=flat1_list vs
  rw[←hf] at a1
  obtain⟨b2',o2',hq,h6⟩:=rdS_at (size:=1) (xs:=vs.map fun v=>#[v]) a1 (by rw[List.length_map];exact a2) (fun x hx=>by obtain⟨y,_,rfl⟩:=List.mem_map.1 hx;rfl) hi
  cases hq
  rw[Nat.mul_one] at h6
  have h7:=rdO_cell h6 (j:=0) (by omega)
  rw[Nat.add_zero,hcell] at h7
  have e9:(List.map (fun v=>(#[v]:Array Value)) vs)[i]'(by rw[List.length_map];omega)=#[x]:=by
   simp only[List.getElem_map] at h7⊢
   have h8:some x=some vs[i]:=h7
   rw[←Option.some.inj h8]
  rw[h6,e9]
 have h7:=rdO_cell (rdO_ext' k hr1) (j:=0) (by omega)
 rw[Nat.add_zero] at h7
 exact h7
theorem rwitnessed_ok (w:World)(iv ov:Value)(t:TxV)(h:TxR w iv ov t)(ht:t.Ok)(hl:t.ins.length≤1000000):
  Calls Tryz.prog 113 #[.agg (txC t iv ov)] w (Ret fun u w'=>u=.bool (witB t)∧Ext w w'):=by
 refine calls_of_cfg c113_ok (Nat.le_of_ble_eq_true rfl) ?_
 simp only[argE_nil,argE_cons,Nat.zero_add]
 have hfx:=txC_flat2 h
 have hcx:(Value.agg (txC t iv ov)).cells=txC t iv ov:=rfl
 have hzx:=txC_sz t iv ov
 have t1:(txC t iv ov)[1]?=some iv:=rfl
 (refine W_at c113_ok ⟨_,rfl,?_⟩;simp (disch:=first|omega|assumption|rfl|(simp only[vcS]<;>omega)|fail) only[↓vcN,vcQ,simprocAttr,hcx])
 have c1:(w.alloc (.cells (txC t iv ov) 33)).heap[w.heap.size]?=some (.cells (txC t iv ov) 33 (0,0)):=heap_new _ _ _ rfl
 have hE:Ext w (w.alloc (.cells (txC t iv ov) 33)):=(Keep.refl _ w).alloc _
 generalize World.alloc _ _=w1 at c1 hE⊢
 generalize w.heap.size=p1 at*
 (refine W_at c113_ok ⟨_,rfl,?_⟩;simp (disch:=first|omega|assumption|rfl|(simp only[vcS]<;>omega)|fail) only[↓vcN,vcQ,simprocAttr])
 have h1:=h.ext hE
 have hlen:=h.ins.len
 have L:∀(k i:Nat) (tl:Env),k+i=t.ins.length→witB t=((t.ins.drop i).any fun x=>decide (0<x.wit.length))→
   W Tryz.prog (Ret fun u w'=>u=.bool (witB t)∧Ext w w') 113 10 ((1,.pointer (some ⟨p1,0,none⟩))::(3,.int .i64 (i:Nat))::tl) w1:=by
  intro k
  induction k with
  |zero=>
   intro i tl hi hb
   have hlt:¬((i:Int)< (t.ins.length:Nat)):=by omega
   rw[List.drop_eq_nil_of_le (by omega)] at hb
   rw[hb]
   iterate 4 (refine W_at c113_ok ⟨_,rfl,?_⟩;simp (disch:=first|omega|assumption|rfl|(simp only[vcS]<;>omega)|fail) only[↓vcN,vcQ,simprocAttr,c1,t1,hlen,hlt,Ret_returned])
   exact⟨rfl,hE⟩
  |succ k ih=>
   intro i tl hi hb
   have hil:i<t.ins.length:=by omega
   have hlt:(i:Int)< (t.ins.length:Nat):=by omega
   have hi2:0≤(i:Int)∧(i:Int)< (t.ins.length:Nat):=by omega
   have hwi:IntKind.i64.wrap ((i:Int)+1)=((i+1:Nat):Int):=wrap_i64 (by omega) (by omega)
   obtain⟨b,o,c,cs,ev,hrd,hcs,sv,wv,ecs,hsvW,hwvW⟩:=h1.ins.at hil
   have hok:=ht.ins _ (List.getElem_mem hil)
   rw[List.drop_eq_getElem_cons hil] at hb
   simp only[List.any_cons] at hb
   have ih':=ih (i+1)
   generalize t.ins[i]=y at*
   subst ecs
   have c35:=rdO_cell hrd (j:=35) (by omega)
   rw[iC_35 hok.len sv wv] at c35
   have hlw:=hwvW.len
   have t1':(txC t iv ov)[1]?=some (.slice (some ⟨b,o,none⟩) t.ins.length c):=by rw[←ev];rfl
   have hlen':lenR (.slice (some ⟨b,o,none⟩) t.ins.length c)=some (.int .i64 (t.ins.length:Nat)):=rfl
   iterate 2 (refine W_at c113_ok ⟨_,rfl,?_⟩;simp (disch:=first|omega|assumption|rfl|(simp only[vcS]<;>omega)|fail) only[↓vcN,vcQ,simprocAttr,c1,t1',hlen',hlt])
   by_cases hbig:0<y.wit.length
   ·have hbi:(0:Int)< (y.wit.length:Nat):=by omega
    rw[decide_eq_true hbig,Bool.true_or] at hb
    rw[hb]
    iterate 4 (refine W_at c113_ok ⟨_,rfl,?_⟩;simp (disch:=first|omega|assumption|rfl|(simp only[vcS]<;>omega)|fail) only[↓vcN,vcQ,simprocAttr,c1,t1',hi2,Int.toNat_natCast,c35,hlw,hbi,Ret_returned])
    exact hE
   ·have hbi:¬((0:Int)< (y.wit.length:Nat)):=by omega
    rw[decide_eq_false hbig,Bool.false_or] at hb
    iterate 4 (refine W_at c113_ok ⟨_,rfl,?_⟩;simp (disch:=first|omega|assumption|rfl|(simp only[vcS]<;>omega)|fail) only[↓vcN,vcQ,simprocAttr,c1,t1',hi2,Int.toNat_natCast,c35,hlw,hbi,hwi])
    exact ih' _ (by omega) hb
 exact L t.ins.length 0 _ (by omega) rfl
set_option maxHeartbeats 3200000 in
theorem rencodeW_ok (w:World)(iv ov:Value)(t:TxV)(b0:Bool)(h:TxR w iv ov t)(h3:t.Sm3):
  Calls Tryz.prog 70 #[.agg (txC t iv ov),.bool b0] w (Ret fun u w'=>New w w' u (encW t (b0&&witB t))):=by
 refine calls_of_cfg c70_ok (Nat.le_of_ble_eq_true rfl) ?_
 simp only[argE_nil,argE_cons,Nat.reduceAdd,Nat.zero_add]
 have ht:=h3.ok
 have hf:=h3.few
 have hi1:=h.ins.one
 have ho1:=h.outs.one
 (refine W_at c70_ok ⟨_,rfl,?_⟩;simp (disch:=first|omega|assumption|rfl|(simp only[vcS]<;>omega)|fail) only[↓vcN,vcQ,simprocAttr])
 have hE0:Ext w (w.alloc (.cells (txC t iv ov) 33)):=(Keep.refl _ w).alloc _
 have hp2:(w.alloc (.cells (txC t iv ov) 33)).heap[w.heap.size]?=some (.cells (txC t iv ov) 33 (0,0)):=heap_new _ _ _ rfl
 generalize World.alloc _ _=w1 at hE0 hp2⊢
 generalize hp2e:w.heap.size=p2 at hp2⊢
 have h1:=h.ext hE0
 have t0:(txC t iv ov)[0]?=some (.int .i32 t.ver):=rfl
 have t1:(txC t iv ov)[1]?=some iv:=rfl
 have t3:(txC t iv ov)[3]?=some (.int .u32 t.lock):=rfl
 have hv32:IntKind.u32.wrap t.ver=t.ver%4294967296:=wrap_u32 _
 have hv64:IntKind.u64.wrap (t.ver%4294967296)=t.ver%4294967296:=by rw[wrap_u64];omega
 have hlk:IntKind.u64.wrap t.lock=t.lock:=by have:=ht.lock;rw[wrap_u64];omega
 have hlI:=h.ins.len
 have hnI:=hf.ins
 have hnO:=hf.outs
 have hbI:=flatI_len (l:=t.ins) (m:=100) (fun x hx=>(ht.ins x hx).len) hf.iscr
 have hbO:=flatO_len (l:=t.outs) (m:=100) hf.oscr
 have hsI:=(sizeF_len (n:=(t.ins.length:Int))).2
 have hsO:=(sizeF_len (n:=(t.outs.length:Int))).2
 have hr4:rdO (some (.cells (txC t iv ov) 33 (0,0))) 0 4=some (txC t iv ov):=rdO_all _ _ _ _ rfl
 have hlt:t.ins.length≤1000000:=by omega
 (refine W_at c70_ok ⟨_,rfl,?_⟩;simp (disch:=first|omega|assumption|rfl|(simp only[vcS]<;>omega)|fail) only[↓vcN,vcQ,simprocAttr,hp2,t0,hv32,hv64])
 refine callV_ret (low_ok w1 (t.ver%4294967296) 4 (by omega) (by omega)) ?_
 intro v2 w2 hN2
 first|(simp (disch:=first|omega|assumption|rfl|(simp only[vcS]<;>omega)|fail) only[↓vcN,vcQ,simprocAttr])|skip
 have hl4:=lowF_len 4 (t.ver%4294967296)
 have fin:∀(mk:Bool) (w6:World) (v6:Value) (tl:Env),New w1 w6 v6 (lowF 4 (t.ver%4294967296)++preW mk++sizeF (t.ins.length:Nat)++t.ins.flatMap encI++sizeF (t.outs.length:Nat)++t.outs.flatMap encO++endW t mk)→
   W Tryz.prog (Ret fun u w'=>New w w' u (encW t mk)) 70 2 ((1,.bool mk)::(2,.pointer (some ⟨p2,0,none⟩))::(5,v6)::tl) w6:=by
  intro mk w6 v6 tl hN6
  have hp26:=hN6.ext.at hp2 (fun h=>h)
  have hpre:(preW mk).length≤2:=by cases mk<;>decide
  have hbE:(endW t mk).length≤336*t.ins.length:=by
   cases mk
   ·exact Nat.zero_le _
   ·exact flatW_len h3.wl
  (refine W_at c70_ok ⟨_,rfl,?_⟩;simp (disch:=first|omega|assumption|rfl|(simp only[vcS]<;>omega)|fail) only[↓vcN,vcQ,simprocAttr,hp26,t3,hlk])
  refine callV_ret (low_ok w6 t.lock 4 (by have:=ht.lock;omega) (by omega)) ?_
  intro v7 w7 hL7
  refine appN (hN6.keep hL7.ext) hL7.own.rd (by simp only[List.length_append,lowF_len];omega) fun v8 w8 hN8 _ _=>?_
  first|(simp (disch:=first|omega|assumption|rfl|(simp only[vcS]<;>omega)|fail) only[↓vcN,vcQ,simprocAttr])|skip
  (refine W_at c70_ok ⟨_,rfl,?_⟩;simp (disch:=first|omega|assumption|rfl|(simp only[vcS]<;>omega)|fail) only[↓vcN,vcQ,simprocAttr,Ret_returned])
  have:=hN8.pre hE0
  unfold encW
  exact this
 have wits:∀(mk:Bool) (w6:World) (v6:Value) (tl:Env),New w1 w6 v6 (lowF 4 (t.ver%4294967296)++preW mk++sizeF (t.ins.length:Nat)++t.ins.flatMap encI++sizeF (t.outs.length:Nat)++t.outs.flatMap encO)→
   W Tryz.prog (Ret fun u w'=>New w w' u (encW t mk)) 70 15 ((1,.bool mk)::(2,.pointer (some ⟨p2,0,none⟩))::(5,v6)::tl) w6:=by
  intro mk w6 v6 tl hN6
  have hp26:=hN6.ext.at hp2 (fun h=>h)
  (refine W_at c70_ok ⟨_,rfl,?_⟩;simp (disch:=first|omega|assumption|rfl|(simp only[vcS]<;>omega)|fail) only[↓vcN,vcQ,simprocAttr])
  cases mk with
  |false=>
   by_cases hz:(0:Int)< (t.ins.length:Nat)
   ·(refine W_at c70_ok ⟨_,rfl,?_⟩;simp (disch:=first|omega|assumption|rfl|(simp only[vcS]<;>omega)|fail) only[↓vcN,vcQ,simprocAttr,hp26,t1,hlI,hz])
    (refine W_at c70_ok ⟨_,rfl,?_⟩;simp (disch:=first|omega|assumption|rfl|(simp only[vcS]<;>omega)|fail) only[↓vcN,vcQ,simprocAttr])
    exact fin false w6 v6 _ (by rw[show endW t false=[] from rfl,List.append_nil];exact hN6)
   ·(refine W_at c70_ok ⟨_,rfl,?_⟩;simp (disch:=first|omega|assumption|rfl|(simp only[vcS]<;>omega)|fail) only[↓vcN,vcQ,simprocAttr,hp26,t1,hlI,hz])
    (refine W_at c70_ok ⟨_,rfl,?_⟩;simp (disch:=first|omega|assumption|rfl|(simp only[vcS]<;>omega)|fail) only[↓vcN,vcQ,simprocAttr])
    exact fin false w6 v6 _ (by rw[show endW t false=[] from rfl,List.append_nil];exact hN6)
  |true=>
   generalize hPRE:lowF 4 (t.ver%4294967296)++preW true++sizeF (t.ins.length:Nat)++t.ins.flatMap encI++sizeF (t.outs.length:Nat)++t.outs.flatMap encO=PRE at*
   have hpre:(preW true).length≤2:=by decide
   have hPl:PRE.length≤2000:=by
    rw[←hPRE]
    simp only[List.length_append];omega
   have LW:∀(k i:Nat) (wj:World) (vj:Value) (tl:Env),k+i=t.ins.length→New w1 wj vj (PRE++(t.ins.take i).flatMap encWi)→
     W Tryz.prog (Ret fun u w'=>New w w' u (encW t true)) 70 14 ((1,.bool true)::(2,.pointer (some ⟨p2,0,none⟩))::(5,vj)::(6,.int .i64 (i:Nat))::tl) wj:=by
    intro k
    induction k with
    |zero=>
     intro i wj vj tl hi hN
     obtain rfl:i=t.ins.length:=by omega
     rw[List.take_length] at hN
     have hno:¬((t.ins.length:Nat):Int)< (t.ins.length:Nat):=by omega
     have hp2j:=hN.ext.at hp2 (fun h=>h)
     iterate 2 (refine W_at c70_ok ⟨_,rfl,?_⟩;simp (disch:=first|omega|assumption|rfl|(simp only[vcS]<;>omega)|fail) only[↓vcN,vcQ,simprocAttr,hp2j,t1,hlI,hno])
     exact fin true wj vj _ (by rw[hPRE];exact hN)
    |succ k ih=>
     intro i wj vj tl hi hN
     have hil:i<t.ins.length:=by omega
     have hlt:((i:Nat):Int)< (t.ins.length:Nat):=by omega
     have b1:0≤((i:Nat):Int)∧((i:Nat):Int)< (t.ins.length:Nat):=by omega
     have hwi:IntKind.i64.wrap (((i:Nat):Int)+1)=((i+1:Nat):Int):=wrap_i64 (by omega) (by omega)
     obtain⟨b,o,c,cs,ev,hr0,hcs,sv,wv,ecs,hsvW,hwvW⟩:=h1.ins.at hil
     have hr:=rdO_ext' hN.ext hr0
     have hok:=ht.ins _ (List.getElem_mem hil)
     have hwl:=h3.wl _ (List.getElem_mem hil)
     have htk:=take_flat encWi hil
     have hbi:=flatW_len (l:=t.ins.take i) fun x hx=>h3.wl x (List.mem_of_mem_take hx)
     have hbl:(t.ins.take i).length≤3:=by rw[List.length_take];omega
     generalize t.ins[i]=y at hsvW hwvW ecs hok hwl htk
     subst ecs
     have c35:=rdO_cell hr (j:=35) (by omega)
     rw[iC_35 hok.len sv wv] at c35
     have t1':(txC t iv ov)[1]?=some (.slice (some ⟨b,o,none⟩) t.ins.length c):=by rw[←ev];rfl
     have hlI':lenR (.slice (some ⟨b,o,none⟩) t.ins.length c)=some (.int .i64 (t.ins.length:Nat)):=rfl
     have hp2j:=hN.ext.at hp2 (fun h=>h)
     have hlw:=hwvW.len
     have huw:IntKind.u64.wrap ((y.wit.length:Nat):Int)=(y.wit.length:Nat):=by rw[wrap_u64];omega
     iterate 4 (refine W_at c70_ok ⟨_,rfl,?_⟩;simp (disch:=first|omega|assumption|rfl|(simp only[vcS]<;>omega)|fail) only[↓vcN,vcQ,simprocAttr,hp2j,t1',hlI',hlt,b1,Int.toNat_natCast,c35,hlw,huw])
     refine callV_ret (rsize_ok wj (y.wit.length:Nat) (by omega)) ?_
     intro va wa hA
     have hsz:=(sizeF_len (n:=(y.wit.length:Int))).2
     refine appN (hN.keep hA.ext) hA.own.rd (by simp only[List.length_append];omega) fun vb wb hNb _ _=>?_
     first|(simp (disch:=first|omega|assumption|rfl|(simp only[vcS]<;>omega)|fail) only[↓vcN,vcQ,simprocAttr])|skip
     (refine W_at c70_ok ⟨_,rfl,?_⟩;simp (disch:=first|omega|assumption|rfl|(simp only[vcS]<;>omega)|fail) only[↓vcN,vcQ,simprocAttr])
     have LI:∀(m j:Nat) (wj:World) (vj:Value) (tl:Env),j+m=y.wit.length→New w1 wj vj (PRE++(t.ins.take i).flatMap encWi++sizeF (y.wit.length:Nat)++(y.wit.take j).flatMap txtF)→
       W Tryz.prog (Ret fun u w'=>New w w' u (encW t true)) 70 9 ((1,.bool true)::(2,.pointer (some ⟨p2,0,none⟩))::(5,vj)::(6,.int .i64 (i:Nat))::(7,wv)::(8,.int .i64 (j:Nat))::tl) wj:=by
      intro m
      induction m with
      |zero=>
       intro j wj vj tl hj hN
       obtain rfl:j=y.wit.length:=by omega
       rw[List.take_length] at hN
       have hno:¬((y.wit.length:Nat):Int)< (y.wit.length:Nat):=by omega
       iterate 4 (refine W_at c70_ok ⟨_,rfl,?_⟩;simp (disch:=first|omega|assumption|rfl|(simp only[vcS]<;>omega)|fail) only[↓vcN,vcQ,simprocAttr,hlw,hno,hwi])
       refine ih (i+1) wj vj _ (by omega) ?_
       rw[htk,show encWi y=sizeF y.wit.length++y.wit.flatMap txtF from rfl]
       simpa only[List.append_assoc] using hN
      |succ m ihm=>
       intro j wj vj tl hj hN
       have hjl:j<y.wit.length:=by omega
       have hlt2:((j:Nat):Int)< (y.wit.length:Nat):=by omega
       have b2:0≤((j:Nat):Int)∧((j:Nat):Int)< (y.wit.length:Nat):=by omega
       have hwj:IntKind.i64.wrap (((j:Nat):Int)+1)=((j+1:Nat):Int):=wrap_i64 (by omega) (by omega)
       obtain⟨b',o',c',x,ew,hcell,hx⟩:=RowR.cell (w':=wj) hwvW hjl
       have hcw:=hcell wj hN.ext
       have hpm:=hwl.2 _ (List.getElem_mem hjl)
       have htj:=take_flat txtF hjl
       have hbj:=flatT_len (l:=y.wit.take j) fun p hp=>hwl.2 p (List.mem_of_mem_take hp)
       have hbl2:(y.wit.take j).length≤3:=by rw[List.length_take];omega
       generalize y.wit[j]=p at hx hpm htj
       have hxw:=hx.ext hN.ext
       have hsp:=(sizeF_len (n:=(p.length:Int))).2
       subst ew
       iterate 3 (refine W_at c70_ok ⟨_,rfl,?_⟩;simp (disch:=first|omega|assumption|rfl|(simp only[vcS]<;>omega)|fail) only[↓vcN,vcQ,simprocAttr,hlw,hlt2,b2,Int.toNat_natCast,Nat.mul_one,hcw])
       refine callV_ret (text_ok wj x p hxw (by omega)) ?_
       intro vk wk hK
       refine appN (hN.keep hK.ext) hK.own.rd (by simp only[List.length_append];omega) fun vm wm hNm _ _=>?_
       first|(simp (disch:=first|omega|assumption|rfl|(simp only[vcS]<;>omega)|fail) only[↓vcN,vcQ,simprocAttr])|skip
       iterate 2 (refine W_at c70_ok ⟨_,rfl,?_⟩;simp (disch:=first|omega|assumption|rfl|(simp only[vcS]<;>omega)|fail) only[↓vcN,vcQ,simprocAttr,hwj])
       refine ihm (j+1) wm vm _ (by omega) ?_
       rw[htj,show txtF p=sizeF p.length++p from rfl]
       simpa only[List.append_assoc] using hNm
     exact LI y.wit.length 0 wb vb _ (by omega) (by rw[List.take_zero];simpa using hNb)
   exact LW t.ins.length 0 w6 v6 _ (by omega) (by rw[List.take_zero];simpa using hN6)
 have mid:∀(mk:Bool) (w2:World) (v2:Value) (tl:Env),New w1 w2 v2 (lowF 4 (t.ver%4294967296)++preW mk)→
   W Tryz.prog (Ret fun u w'=>New w w' u (encW t mk)) 70 16 ((1,.bool mk)::(2,.pointer (some ⟨p2,0,none⟩))::(5,v2)::tl) w2:=by
  intro mk w2 v2 tl hN2
  have hp22:=hN2.ext.at hp2 (fun h=>h)
  have hpre:(preW mk).length≤2:=by cases mk<;>decide
  have hEd:Ext w2 w2.drew:=(Keep.refl _ w2).drew
  have hNd:=hN2.keep hEd
  (refine W_at c70_ok ⟨_,rfl,?_⟩;simp (disch:=first|omega|assumption|rfl|(simp only[vcS]<;>omega)|fail) only[↓vcX,ptS2_eq,vcQ,simprocAttr,hp22,hr4])
  refine callV_ret (inputs_ok w2.drew iv ov t (h1.ext hNd.ext) ht h3.few2) ?_
  intro v3 w3 hL
  have hN3:=hNd.keep hL.ext
  have hp23:=hN3.ext.at hp2 (fun h=>h)
  simp (disch:=first|omega|assumption|rfl|(simp only[vcS]<;>omega)|fail) only[↓vcY,ptS1_eq,vcQ,simprocAttr,hp23,hr4]
  refine appN hN3 hL.own.rd (by simp only[List.length_append];omega) fun v4 w4 hN4 _ _=>?_
  have hp24:=hN4.ext.at hp2 (fun h=>h)
  simp (disch:=first|omega|assumption|rfl|(simp only[vcS]<;>omega)|fail) only[↓vcX,ptS2_eq,vcQ,simprocAttr,hp24,hr4]
  refine callV_ret (outputs_ok w4 iv ov t (h1.ext hN4.ext) ht h3.few2) ?_
  intro v5 w5 hL5
  have hN5:=hN4.keep hL5.ext
  simp (disch:=first|omega|assumption|rfl|(simp only[vcS]<;>omega)|fail) only[↓vcY,ptS1_eq,vcQ,simprocAttr]
  refine appN hN5 hL5.own.rd (by simp only[List.length_append];omega) fun v6 w6 hN6 _ _=>?_
  first|(simp (disch:=first|omega|assumption|rfl|(simp only[vcS]<;>omega)|fail) only[↓vcX,ptS2_eq,vcQ,simprocAttr])|skip
  refine wits mk w6 v6 _ ?_
  simpa only[List.append_assoc] using hN6
 have after:∀(mk:Bool) (w2:World) (v2:Value) (tl:Env),New w1 w2 v2 (lowF 4 (t.ver%4294967296))→
   W Tryz.prog (Ret fun u w'=>New w w' u (encW t mk)) 70 19 ((1,.bool mk)::(2,.pointer (some ⟨p2,0,none⟩))::(5,v2)::tl) w2:=by
  intro mk w2 v2 tl hN2
  cases mk with
  |false=>
   iterate 2 (refine W_at c70_ok ⟨_,rfl,?_⟩;simp (disch:=first|omega|assumption|rfl|(simp only[vcS]<;>omega)|fail) only[↓vcN,vcQ,simprocAttr])
   exact mid false w2 v2 _ (by rw[show preW false=[] from rfl,List.append_nil];exact hN2)
  |true=>
   iterate 3 (refine W_at c70_ok ⟨_,rfl,?_⟩;simp (disch:=first|omega|assumption|rfl|(simp only[vcS]<;>omega)|fail) only[↓vcN,vcQ,simprocAttr])
   have hN:New w2 (w2.alloc (.cells (bv [0,1]).toArray 5)) (.slice (some ⟨w2.heap.size,0,none⟩) 2 2) [0,1]:=New.lit (by simp [maxLen])
   have eb:([Value.int .u8 0]++([Value.int .u8 1]++[])).toArray=(bv [0,1]).toArray:=rfl
   rw[eb]
   refine appN (hN2.keep hN.ext) hN.own.rd (by rw[lowF_len];simp) fun v6 w6 hN6 _ _=>?_
   first|(simp (disch:=first|omega|assumption|rfl|(simp only[vcS]<;>omega)|fail) only[↓vcN,vcQ,simprocAttr])|skip
   exact mid true w6 v6 _ hN6
 have hp22:=hN2.ext.at hp2 (fun h=>h)
 cases b0 with
 |false=>
  (refine W_at c70_ok ⟨_,rfl,?_⟩;simp (disch:=first|omega|assumption|rfl|(simp only[vcS]<;>omega)|fail) only[↓vcN,vcQ,simprocAttr])
  exact after false w2 v2 _ hN2
 |true=>
  (refine W_at c70_ok ⟨_,rfl,?_⟩;simp (disch:=first|omega|assumption|rfl|(simp only[vcS]<;>omega)|fail) only[↓vcN,vcQ,simprocAttr,hp22,hr4])
  refine callV_ret (rwitnessed_ok w2 iv ov t (h1.ext hN2.ext) ht hlt) ?_
  rintro _ w3 ⟨rfl,hE3⟩
  first|(simp (disch:=first|omega|assumption|rfl|(simp only[vcS]<;>omega)|fail) only[↓vcN,vcQ,simprocAttr])|skip
  exact after (witB t) w3 v2 _ (hN2.keep hE3)
end Go.Proofs
namespace Go.Proofs
open Go.Vc
set_option maxRecDepth 10000
structure HdV where
 ver:Int
 prev:List Int
 merkle:List Int
 time:Int
 bits:Int
 nonce:Int
structure HdV.Ok (h:HdV):Prop where
 ver: -2147483648≤h.ver∧h.ver≤2147483647
 plen:h.prev.length=32
 prev:byt h.prev
 mlen:h.merkle.length=32
 merkle:byt h.merkle
 time:0≤h.time∧h.time≤4294967295
 bits:0≤h.bits∧h.bits≤4294967295
 nonce:0≤h.nonce∧h.nonce≤4294967295
def hC (h:HdV):Array Value:=(Value.int .i32 h.ver::(bv h.prev++(bv h.merkle++[Value.int .u32 h.time,Value.int .u32 h.bits,Value.int .u32 h.nonce]))).toArray
def encH (h:HdV):List Int:=lowF 4 (h.ver%4294967296)++h.prev++h.merkle++lowF 4 h.time++lowF 4 h.bits++lowF 4 h.nonce
theorem hC_size {h:HdV}(ho:h.Ok):(hC h).size=68:=by simp [hC,bv_len,ho.plen,ho.mlen]
theorem hC_flat (h:HdV):flat (hC h):=by
 intro v hv
 simp only[hC,List.mem_append,List.mem_cons,List.not_mem_nil,or_false] at hv
 rcases hv with rfl|hv|hv|rfl|rfl|rfl
 ·rfl
 ·exact bv_flat h.prev v (by simpa using hv)
 ·exact bv_flat h.merkle v (by simpa using hv)
 ·rfl
 ·rfl
 ·rfl
theorem hC_0 (h:HdV):(hC h)[0]?=some (.int .i32 h.ver):=by simp [hC]
theorem hC_65 {h:HdV}(ho:h.Ok):(hC h)[65]?=some (.int .u32 h.time):=by
 simp [hC,bv_len,ho.plen,ho.mlen]
theorem hC_66 {h:HdV}(ho:h.Ok):(hC h)[66]?=some (.int .u32 h.bits):=by
 simp [hC,bv_len,ho.plen,ho.mlen]
theorem hC_67 {h:HdV}(ho:h.Ok):(hC h)[67]?=some (.int .u32 h.nonce):=by
 simp [hC,bv_len,ho.plen,ho.mlen]
theorem hC_rd1 {w:World}{g:Nat}{h:HdV}{T:TypeId}(ho:h.Ok)(hg:w.heap[g]?=some (.cells (hC h) T (0,0))):Rd w (.slice (some ⟨g,1,none⟩) 32 32) h.prev:=by
 refine⟨⟨_,32,by rw[ho.plen],by rw[ho.plen];omega⟩,by rw[ho.plen];decide,?_⟩
 simp only[rdS]
 rw[if_neg (by omega),rdN_heap,hg,rdO_some _ _ _ _ _ (by rw[hC_size ho];omega)]
 congr 1
 apply Array.ext'
 simp [hC,bv_len,ho.plen]
theorem hC_rd33 {w:World}{g:Nat}{h:HdV}{T:TypeId}(ho:h.Ok)(hg:w.heap[g]?=some (.cells (hC h) T (0,0))):Rd w (.slice (some ⟨g,33,none⟩) 32 32) h.merkle:=by
 refine⟨⟨_,32,by rw[ho.mlen],by rw[ho.mlen];omega⟩,by rw[ho.mlen];decide,?_⟩
 simp only[rdS]
 rw[if_neg (by omega),rdN_heap,hg,rdO_some _ _ _ _ _ (by rw[hC_size ho];omega)]
 congr 1
 apply Array.ext'
 simp [hC,bv_len,ho.plen,ho.mlen]
def bC (h:HdV)(v:Value):Array Value:=(Value.int .i32 h.ver::(bv h.prev++(bv h.merkle++[Value.int .u32 h.time,Value.int .u32 h.bits,Value.int .u32 h.nonce,v]))).toArray
theorem bC_size {h:HdV}(ho:h.Ok)(v:Value):(bC h v).size=69:=by simp [bC,bv_len,ho.plen,ho.mlen]
theorem bC_flat (h:HdV){u:Value}(hu:u.oneCell'=true):flat (bC h u):=by
 intro v hv
 simp only[bC,List.mem_append,List.mem_cons,List.not_mem_nil,or_false] at hv
 rcases hv with rfl|hv|hv|rfl|rfl|rfl|rfl
 ·rfl
 ·exact bv_flat h.prev v (by simpa using hv)
 ·exact bv_flat h.merkle v (by simpa using hv)
 ·rfl
 ·rfl
 ·rfl
 ·exact hu
theorem bC_67 {h:HdV}(ho:h.Ok)(v:Value):(bC h v)[67]?=some (.int .u32 h.nonce):=by
 simp [bC,bv_len,ho.plen,ho.mlen]
theorem bC_68 {h:HdV}(ho:h.Ok)(v:Value):(bC h v)[68]?=some v:=by
 simp [bC,bv_len,ho.plen,ho.mlen]
theorem bC_set67 {h:HdV}(ho:h.Ok)(v:Value)(n:Int):(bC h v).setIfInBounds 67 (.int .u32 n)=bC {h with nonce:=n} v:=by
 simp [bC,List.set_append_right,bv_len,ho.plen,ho.mlen]
theorem bC_set68 {h:HdV}(ho:h.Ok)(v u:Value):(bC h v).setIfInBounds 68 u=bC h u:=by
 simp [bC,List.set_append_right,bv_len,ho.plen,ho.mlen]
theorem bC_eq (h:HdV)(v:Value):(bC h v).toList=(hC h).toList++[v]:=by simp [bC,hC]
theorem bC_head {h:HdV}(ho:h.Ok)(v:Value)(T:TypeId)(m:Nat×Nat):rdO (some (.cells (bC h v) T m)) 0 68=some (hC h):=by
 rw[rdO_some _ _ _ _ _ (by rw[bC_size ho];omega)]
 congr 1
 apply Array.ext'
 rw[Array.toList_extract,bC_eq,List.extract_eq_take_drop,List.drop_zero,List.take_left' (by rw[Array.length_toList,hC_size ho])]
theorem bC_all {h:HdV}(ho:h.Ok)(v:Value)(T:TypeId)(m:Nat×Nat):rdO (some (.cells (bC h v) T m)) 0 69=some (bC h v):=rdO_all _ _ _ _ (bC_size ho v)
theorem bC_mrk {h:HdV}(ho:h.Ok)(v:Value)(T:TypeId)(m:Nat×Nat):rdO (some (.cells (bC h v) T m)) 33 32=some (bv h.merkle).toArray:=by
 rw[rdO_some _ _ _ _ _ (by rw[bC_size ho];omega)]
 congr 1
 apply Array.ext'
 simp [bC,bv_len,ho.plen,ho.mlen]
theorem encH_len {h:HdV}(ho:h.Ok):(encH h).length=80:=by
 simp only[encH,List.length_append,lowF_len,ho.plen,ho.mlen]
theorem encodeHeader_ok (w:World)(h:HdV)(ho:h.Ok):Calls Tryz.prog 10 #[.agg (hC h)] w (Ret fun u w'=>New w w' u (encH h)):=by
 refine calls_of_cfg c10_ok (Nat.le_of_ble_eq_true rfl) ?_
 simp only[argE_nil,argE_cons,Nat.zero_add]
 have hcs:=hC_size ho
 have hcf:=hC_flat h
 (refine W_at c10_ok ⟨_,rfl,?_⟩;simp (disch:=first|omega|assumption|rfl|(simp only[vcS]<;>omega)|fail) only[↓vcN,vcQ,simprocAttr])
 have hE0:Ext w (w.alloc (.cells (hC h) 26)):=(Keep.refl _ w).alloc _
 have hp1:(w.alloc (.cells (hC h) 26)).heap[w.heap.size]?=some (.cells (hC h) 26 (0,0)):=heap_new _ _ _ rfl
 generalize World.alloc _ _=w1 at hE0 hp1⊢
 generalize hpe:w.heap.size=p1 at hp1⊢
 have hw1:=hE0.size
 (refine W_at c10_ok ⟨_,rfl,?_⟩;simp (disch:=first|omega|assumption|rfl|(simp only[vcS]<;>omega)|fail) only[↓vcN,vcQ,simprocAttr])
 have hW:=new_writer w1
 have hp2:=hW.ext.at hp1 (fun h=>h)
 generalize World.alloc _ _=w2 at hW hp2⊢
 generalize hp5e:w1.heap.size=p5 at hW⊢
 have hv32:IntKind.u32.wrap h.ver=h.ver%4294967296:=wrap_u32 _
 have t0:=hC_0 h
 have t65:=hC_65 ho
 have t66:=hC_66 ho
 have t67:=hC_67 ho
 (refine W_at c10_ok ⟨_,rfl,?_⟩;simp (disch:=first|omega|assumption|rfl|(simp only[vcS]<;>omega)|fail) only[↓vcN,vcQ,simprocAttr,hp2,t0,hv32])
 refine callV_ret (u32_ok w2 p5 _ [] (h.ver%4294967296) hW.at' (by simp) (by omega)) ?_
 intro _ w3 hT
 obtain⟨v3,hW3⟩:=hW.go hT
 rw[List.nil_append] at hW3
 first|(simp (disch:=first|omega|assumption|rfl|(simp only[vcS]<;>omega)|fail) only[↓vcN,vcQ,simprocAttr])|skip
 have hp3:=hW3.ext.at hp1 (fun h=>h)
 (refine W_at c10_ok ⟨_,rfl,?_⟩;simp (disch:=first|omega|assumption|rfl|(simp only[vcS]<;>omega)|fail) only[↓vcN,vcQ,simprocAttr])
 refine callV_ret (raw_ok w3 p5 v3 _ _ h.prev hW3.at' (hC_rd1 ho hp3) (by rw[lowF_len,ho.plen];omega)) ?_
 intro _ w4 hT
 obtain⟨v4,hW4⟩:=hW3.go hT
 first|(simp (disch:=first|omega|assumption|rfl|(simp only[vcS]<;>omega)|fail) only[↓vcN,vcQ,simprocAttr])|skip
 have hp4:=hW4.ext.at hp1 (fun h=>h)
 (refine W_at c10_ok ⟨_,rfl,?_⟩;simp (disch:=first|omega|assumption|rfl|(simp only[vcS]<;>omega)|fail) only[↓vcN,vcQ,simprocAttr])
 refine callV_ret (raw_ok w4 p5 v4 _ _ h.merkle hW4.at' (hC_rd33 ho hp4) (by simp only[List.length_append,lowF_len,ho.plen,ho.mlen];omega)) ?_
 intro _ w5 hT
 obtain⟨v5,hW5⟩:=hW4.go hT
 first|(simp (disch:=first|omega|assumption|rfl|(simp only[vcS]<;>omega)|fail) only[↓vcN,vcQ,simprocAttr])|skip
 have hp5:=hW5.ext.at hp1 (fun h=>h)
 (refine W_at c10_ok ⟨_,rfl,?_⟩;simp (disch:=first|omega|assumption|rfl|(simp only[vcS]<;>omega)|fail) only[↓vcN,vcQ,simprocAttr,hp5,t65])
 refine callV_ret (u32_ok w5 p5 v5 _ h.time hW5.at' (by simp only[List.length_append,lowF_len,ho.plen,ho.mlen];omega) ho.time) ?_
 intro _ w6 hT
 obtain⟨v6,hW6⟩:=hW5.go hT
 first|(simp (disch:=first|omega|assumption|rfl|(simp only[vcS]<;>omega)|fail) only[↓vcN,vcQ,simprocAttr])|skip
 have hp6:=hW6.ext.at hp1 (fun h=>h)
 (refine W_at c10_ok ⟨_,rfl,?_⟩;simp (disch:=first|omega|assumption|rfl|(simp only[vcS]<;>omega)|fail) only[↓vcN,vcQ,simprocAttr,hp6,t66])
 refine callV_ret (u32_ok w6 p5 v6 _ h.bits hW6.at' (by simp only[List.length_append,lowF_len,ho.plen,ho.mlen];omega) ho.bits) ?_
 intro _ w7 hT
 obtain⟨v7,hW7⟩:=hW6.go hT
 first|(simp (disch:=first|omega|assumption|rfl|(simp only[vcS]<;>omega)|fail) only[↓vcN,vcQ,simprocAttr])|skip
 have hp7:=hW7.ext.at hp1 (fun h=>h)
 (refine W_at c10_ok ⟨_,rfl,?_⟩;simp (disch:=first|omega|assumption|rfl|(simp only[vcS]<;>omega)|fail) only[↓vcN,vcQ,simprocAttr,hp7,t67])
 refine callV_ret (u32_ok w7 p5 v7 _ h.nonce hW7.at' (by simp only[List.length_append,lowF_len,ho.plen,ho.mlen];omega) ho.nonce) ?_
 intro _ w8 hT
 obtain⟨v8,hW8⟩:=hW7.go hT
 first|(simp (disch:=first|omega|assumption|rfl|(simp only[vcS]<;>omega)|fail) only[↓vcN,vcQ,simprocAttr])|skip
 (refine W_at c10_ok ⟨_,rfl,?_⟩;simp (disch:=first|omega|assumption|rfl|(simp only[vcS]<;>omega)|fail) only[↓vcN,vcQ,simprocAttr])
 refine callV_ret (out_ok w8 p5 v8 _ hW8.at' (by simp only[List.length_append,lowF_len,ho.plen,ho.mlen];omega)) ?_
 rintro u w9 ⟨h1,h2,h3⟩
 first|(simp (disch:=first|omega|assumption|rfl|(simp only[vcS]<;>omega)|fail) only[↓vcN,vcQ,simprocAttr])|skip
 (refine W_at c10_ok ⟨_,rfl,?_⟩;simp (disch:=first|omega|assumption|rfl|(simp only[vcS]<;>omega)|fail) only[↓vcN,vcQ,simprocAttr,Ret_returned])
 refine⟨?_,(hE0.ext hW8.ext).ext h2,fun g hg=>?_⟩
 ·unfold encH;exact h1
 ·have:=h3 g hg
  have:=(hE0.ext hW8.ext).size
  omega
theorem rencodeHeader_ok (w:World)(h:HdV)(ho:h.Ok):Calls Tryz.prog 21 #[.agg (hC h)] w (Ret fun u w'=>New w w' u (encH h)):=by
 refine calls_of_cfg c21_ok (Nat.le_of_ble_eq_true rfl) ?_
 simp only[argE_nil,argE_cons,Nat.zero_add]
 have hcs:=hC_size ho
 have hcf:=hC_flat h
 (refine W_at c21_ok ⟨_,rfl,?_⟩;simp (disch:=first|omega|assumption|rfl|(simp only[vcS]<;>omega)|fail) only[↓vcN,vcQ,simprocAttr])
 have hE0:Ext w (w.alloc (.cells (hC h) 26)):=(Keep.refl _ w).alloc _
 have hp1:(w.alloc (.cells (hC h) 26)).heap[w.heap.size]?=some (.cells (hC h) 26 (0,0)):=heap_new _ _ _ rfl
 generalize World.alloc _ _=w1 at hE0 hp1⊢
 generalize hpe:w.heap.size=p1 at hp1⊢
 have hw1:=hE0.size
 have hv32:IntKind.u32.wrap h.ver=h.ver%4294967296:=wrap_u32 _
 have wv:IntKind.u64.wrap (h.ver%4294967296)=h.ver%4294967296:=by rw[wrap_u64];omega
 have wt:IntKind.u64.wrap h.time=h.time:=by have:=ho.time;rw[wrap_u64];omega
 have wb:IntKind.u64.wrap h.bits=h.bits:=by have:=ho.bits;rw[wrap_u64];omega
 have wn:IntKind.u64.wrap h.nonce=h.nonce:=by have:=ho.nonce;rw[wrap_u64];omega
 have ht:=ho.time
 have hbt:=ho.bits
 have hn:=ho.nonce
 have t0:=hC_0 h
 have t65:=hC_65 ho
 have t66:=hC_66 ho
 have t67:=hC_67 ho
 (refine W_at c21_ok ⟨_,rfl,?_⟩;simp (disch:=first|omega|assumption|rfl|(simp only[vcS]<;>omega)|fail) only[↓vcN,vcQ,simprocAttr,hp1,t0,hv32,wv])
 refine callV_ret (low_ok w1 (h.ver%4294967296) 4 (by omega) (by decide)) ?_
 rintro v2 w2 hN2
 first|(simp (disch:=first|omega|assumption|rfl|(simp only[vcS]<;>omega)|fail) only[↓vcN,vcQ,simprocAttr])|skip
 have hp2:=hN2.ext.at hp1 (fun h=>h)
 (refine W_at c21_ok ⟨_,rfl,?_⟩;simp (disch:=first|omega|assumption|rfl|(simp only[vcS]<;>omega)|fail) only[↓vcN,vcQ,simprocAttr])
 refine appN hN2 (hC_rd1 ho hp2) (by rw[lowF_len,ho.plen];omega) fun v3 w3 hN3 _ _=>?_
 first|(simp (disch:=first|omega|assumption|rfl|(simp only[vcS]<;>omega)|fail) only[↓vcN,vcQ,simprocAttr])|skip
 have hp3:=hN3.ext.at hp1 (fun h=>h)
 (refine W_at c21_ok ⟨_,rfl,?_⟩;simp (disch:=first|omega|assumption|rfl|(simp only[vcS]<;>omega)|fail) only[↓vcN,vcQ,simprocAttr])
 refine appN hN3 (hC_rd33 ho hp3) (by simp only[List.length_append,lowF_len,ho.plen,ho.mlen];omega) fun v4 w4 hN4 _ _=>?_
 first|(simp (disch:=first|omega|assumption|rfl|(simp only[vcS]<;>omega)|fail) only[↓vcN,vcQ,simprocAttr])|skip
 have hp4:=hN4.ext.at hp1 (fun h=>h)
 (refine W_at c21_ok ⟨_,rfl,?_⟩;simp (disch:=first|omega|assumption|rfl|(simp only[vcS]<;>omega)|fail) only[↓vcN,vcQ,simprocAttr,hp4,t65,wt])
 refine callV_ret (low_ok w4 h.time 4 (by omega) (by decide)) ?_
 rintro x5 w5 hN5
 first|(simp (disch:=first|omega|assumption|rfl|(simp only[vcS]<;>omega)|fail) only[↓vcN,vcQ,simprocAttr])|skip
 refine appN (hN4.keep hN5.ext) hN5.own.rd (by simp only[List.length_append,lowF_len,ho.plen,ho.mlen];omega) fun v6 w6 hN6 _ _=>?_
 first|(simp (disch:=first|omega|assumption|rfl|(simp only[vcS]<;>omega)|fail) only[↓vcN,vcQ,simprocAttr])|skip
 have hp6:=hN6.ext.at hp1 (fun h=>h)
 (refine W_at c21_ok ⟨_,rfl,?_⟩;simp (disch:=first|omega|assumption|rfl|(simp only[vcS]<;>omega)|fail) only[↓vcN,vcQ,simprocAttr,hp6,t66,wb])
 refine callV_ret (low_ok w6 h.bits 4 (by omega) (by decide)) ?_
 rintro x7 w7 hN7
 first|(simp (disch:=first|omega|assumption|rfl|(simp only[vcS]<;>omega)|fail) only[↓vcN,vcQ,simprocAttr])|skip
 refine appN (hN6.keep hN7.ext) hN7.own.rd (by simp only[List.length_append,lowF_len,ho.plen,ho.mlen];omega) fun v8 w8 hN8 _ _=>?_
 first|(simp (disch:=first|omega|assumption|rfl|(simp only[vcS]<;>omega)|fail) only[↓vcN,vcQ,simprocAttr])|skip
 have hp8:=hN8.ext.at hp1 (fun h=>h)
 (refine W_at c21_ok ⟨_,rfl,?_⟩;simp (disch:=first|omega|assumption|rfl|(simp only[vcS]<;>omega)|fail) only[↓vcN,vcQ,simprocAttr,hp8,t67,wn])
 refine callV_ret (low_ok w8 h.nonce 4 (by omega) (by decide)) ?_
 rintro x9 w9 hN9
 first|(simp (disch:=first|omega|assumption|rfl|(simp only[vcS]<;>omega)|fail) only[↓vcN,vcQ,simprocAttr])|skip
 refine appN (hN8.keep hN9.ext) hN9.own.rd (by simp only[List.length_append,lowF_len,ho.plen,ho.mlen];omega) fun va wa hNa _ _=>?_
 first|(simp (disch:=first|omega|assumption|rfl|(simp only[vcS]<;>omega)|fail) only[↓vcN,vcQ,simprocAttr])|skip
 (refine W_at c21_ok ⟨_,rfl,?_⟩;simp (disch:=first|omega|assumption|rfl|(simp only[vcS]<;>omega)|fail) only[↓vcN,vcQ,simprocAttr,Ret_returned])
 exact hNa.pre hE0
end Go.Proofs
namespace Go.Proofs
open Go.Vc
set_option maxRecDepth 10000
structure RAt (w:World)(r B:Nat)(v:Value)(bs:List Int)(e:Int):Prop where
 at':w.heap[r]?=some (.cells #[v,.int .i64 e] 130 (0,0))
 rd:Rd w v bs
 bb:∀q n c,v=.slice (some q) n c→q.block=B∧B<w.heap.size∧B≠r
theorem RAt.keep {S:Nat→Prop}{w w':World}{r B:Nat}{v:Value}{bs:List Int}{e:Int}(h:RAt w r B v bs e)(k:Keep S w w')(hr:¬S r)(hB:B<w.heap.size→¬S B):RAt w' r B v bs e:=
 ⟨k.at h.at' hr,h.rd.keep k fun q n c hv=>by obtain⟨h1,h2,_⟩:=h.bb q n c hv;rw[h1];exact hB h2,fun q n c hv=>by obtain⟨h1,h2,h3⟩:=h.bb q n c hv;exact⟨h1,Nat.lt_of_lt_of_le h2 k.size,h3⟩⟩
theorem RAt.ext {w w':World}{r B:Nat}{v:Value}{bs:List Int}{e:Int}(h:RAt w r B v bs e)(k:Ext w w'):RAt w' r B v bs e:=h.keep k (fun h=>h) fun _ h=>h
theorem RAt.lt {w:World}{r B:Nat}{v:Value}{bs:List Int}{e:Int}(h:RAt w r B v bs e):r<w.heap.size:=lt_of_heap h.at'
theorem RAt.set {w w':World}{r B:Nat}{v v':Value}{bs bs':List Int}{e e':Int}(h:RAt w r B v bs e)(hk:Keep (fun i=>i=r) w w')(ha:w'.heap[r]?=some (.cells #[v',.int .i64 e'] 130 (0,0)))(hv:Rd w v' bs')(hb:∀q n c,v'=.slice (some q) n c→∃q' n' c',v=.slice (some q') n' c'∧q.block=q'.block):
  RAt w' r B v' bs' e':=by
 have hbb:∀q n c,v'=.slice (some q) n c→q.block=B∧B<w.heap.size∧B≠r:=fun q n c hq=>by
  obtain⟨q',n',c',hv,hq'⟩:=hb q n c hq
  obtain⟨h1,h2,h3⟩:=h.bb q' n' c' hv
  exact⟨by rw[hq',h1],h2,h3⟩
 exact⟨ha,hv.keep hk fun q n c hq=>by obtain⟨h1,_,h3⟩:=hbb q n c hq;rw[h1];exact h3,fun q n c hq=>by obtain⟨h1,h2,h3⟩:=hbb q n c hq;exact⟨h1,Nat.lt_of_lt_of_le h2 hk.size,h3⟩⟩
def REnd (w:World)(r B:Nat)(e:Int)(ok:Option (List Int×(Value→World→Prop)))(er:Int)(en:Ending)(w':World):Prop:=
 Keep (fun i=>i=r) w w'∧match ok with
  |some (rest,φ)=> ∃u v',en=.returned u∧φ u w'∧RAt w' r B v' rest e
  |none=>en=.panicked [{v:=.iface 135 (.int .i64 er),recovered:=false}]∧∃v' bs',RAt w' r B v' bs' e
def cTry (ty:Nat)(z:Value)(cl:Nat):List Vc.Node:=[
 .ret [.c1 4],
 .ret [.c1 4],
 .reg (.q (some 16) none (.mov (.tmp 1)) (.q (some 17) none (.ld1 (.tmp 2)) (.l (some 18) none (.callv (.tmp 16) [(.tmp 17)]) [] (.l none none (.st1 (.tmp 4) (.tmp 18)) [] .done)))) false 1 [4],
 .ret [.c1 4],
 .cnd (.tmp 15) 3 2,
 .reg (.q (some 11) none (.ld1 (.tmp 2)) (.q (some 12) none (.nc (.tmp 11)) (.q (some 13) none (.fadr 1 (.tmp 12)) (.q (some 14) none (.ld1 (.tmp 13)) (.q (some 15) none (.bin .neq (.tmp 14) (.const (.int .i64 0))) .done))))) false 4 [1,2,4,15],
 .dfr 10 cl [(.tmp 5),(.tmp 2),(.tmp 4)] 5 [1,2,4],
 .reg (.q (some 6) none (.ld1 (.tmp 2)) (.q (some 7) none (.nc (.tmp 6)) (.q (some 8) none (.fadr 0 (.tmp 7)) (.q (some 9) none (.ld1 (.tmp 8)) (.l (some 5) none (.alloc 41 [(1,(.slice none 0 0))]) [] (.l none none (.st1 (.tmp 5) (.tmp 9)) [] .done)))))) false 6 [1,2,4,5],
 .reg (.l (some 2) none (.box 84 (.tmp 0)) [] (.l (some 4) none (.alloc ty [(1,z)]) [] .done)) false 7 [1,2,4]]
def cClo (z:Value):List Vc.Node:=[
 .ret [],
 .reg (.q (some 18) none (.ld1 (.tmp 1)) (.q (some 19) none (.ld1 (.tmp 1)) (.q (some 20) none (.ld1 (.tmp 0)) (.q (some 21) none (.mov (.tmp 4)) (.q (some 22) none (.mov (.tmp 6)) (.q (some 23) none (.nc (.tmp 18)) (.q (some 24) none (.fadr 0 (.tmp 23)) (.l none none (.st1 (.tmp 24) (.tmp 20)) [] (.q (some 25) none (.nc (.tmp 19)) (.q (some 26) none (.fadr 1 (.tmp 25)) (.l none none (.st1 (.tmp 26) (.tmp 21)) [] (.l none none (.st1 (.tmp 2) (.tmp 22)) [] .done)))))))))))) false 0 [],
 .reg (.q (some 6) none (.mov (.const z)) .done) false 1 [0,1,2,4,6],
 .reg (.q (some 17) none (.mov (.tmp 3)) (.l none none (.pan (.tmp 17)) [] .done)) false 2 [0,1,2,4],
 .cnd (.tmp 16) 3 2,
 .reg (.q (some 15) none (.mov (.tmp 5)) (.q (some 16) none (.not (.tmp 15)) .done)) false 4 [0,1,2,3,4,16],
 .reg (.q (some 11) none (.mov (.tmp 3)) (.q (some 12) none (.tas 135 .i64 (.tmp 11)) (.q (some 10) none (.mov (.tmp 12)) (.q (some 13) none (.ext 0 (.tmp 10)) (.q (some 14) none (.ext 1 (.tmp 10)) (.q (some 4) none (.mov (.tmp 13)) (.q (some 5) none (.mov (.tmp 14)) .done))))))) false 5 [0,1,2,3,4,5],
 .cnd (.tmp 9) 6 0,
 .reg (.q (some 8) none (.mov (.tmp 3)) (.q (some 9) none (.eqI true (.tmp 8) (.const .nilIface)) .done)) false 7 [0,1,2,3,9],
 .rcv 7 3 8 [0,1,2,3]]
section
variable {cl:Nat} {z:Value} (hD:cfgL Tryz.prog cl=some (27,9,(cClo z).map Vc.Node.bare))
include hD
theorem clo_idle (a b c:Value)(w:World):CallsD Tryz.prog cl #[a,b,c] .returning w (fun en u' w'=>(∃v,en=.returned v)∧u'=.returning∧w'=w):=by
 refine callsD_of_cfg hD rfl (Nat.le_of_ble_eq_true rfl) ?_
 simp only[argE_nil,argE_cons,Nat.reduceAdd,Nat.zero_add]
 simp (disch:=first|omega|assumption|rfl|(simp only[vcS]<;>omega)|fail) only[↓vcN,vcQ,simprocAttr,rcvM]
 iterate 3 (refine V_at hD rfl (by simp) ⟨_,rfl,?_⟩;simp (disch:=first|omega|assumption|rfl|(simp only[vcS]<;>omega)|fail) only[↓vcN,vcQ,simprocAttr,LV_nil])
 exact⟨_,rfl⟩
theorem clo_catch (b5 b2 b4 r:Nat)(ty:Nat)(er e:Int)(was v o:Value)(w:World)(h5:w.heap[b5]?=some (.cells #[was] 41 (0,0)))(h2:w.heap[b2]?=some (.cells #[.pointer (some ⟨r,0,none⟩)] 84 (0,0)))
  (h4:w.heap[b4]?=some (.cells #[o] ty (0,0))) (hr:w.heap[r]?=some (.cells #[v,.int .i64 e] 130 (0,0))) (hr4:r≠b4) (hw:was.oneCell'=true) (hz:z.oneCell'=true):
  CallsD Tryz.prog cl #[.pointer (some ⟨b5,0,none⟩),.pointer (some ⟨b2,0,none⟩),.pointer (some ⟨b4,0,none⟩)] (.panicking [{v:=.iface 135 (.int .i64 er),recovered:=false}]) w
   (fun en u' w'=>(∃v,en=.returned v)∧settle u'=.returning∧w'=((w.setCell ⟨r,0,none⟩ was).setCell ⟨r,1,none⟩ (.int .i64 er)).setCell ⟨b4,0,none⟩ z):=by
 refine callsD_of_cfg hD rfl (Nat.le_of_ble_eq_true rfl) ?_
 simp only[argE_nil,argE_cons,Nat.reduceAdd,Nat.zero_add]
 simp (disch:=first|omega|assumption|rfl|(simp only[vcS]<;>omega)|fail) only[↓vcN,vcQ,simprocAttr,rcvM]
 iterate 6 (refine V_at hD rfl (by simp) ⟨_,rfl,?_⟩;simp (disch:=first|omega|assumption|rfl|(simp only[vcS]<;>omega)|fail) only[↓vcN,vcQ,simprocAttr])
 have hr1:(w.setCell ⟨r,0,none⟩ was).heap[r]?=some (.cells #[was,.int .i64 e] 130 (0,0)):=by rw[heap_setCell_eq hr];rfl
 have h41:((w.setCell ⟨r,0,none⟩ was).setCell ⟨r,1,none⟩ (.int .i64 er)).heap[b4]?=some (.cells #[o] ty (0,0)):=by rw[heap_setCell_ne _ _ _ _ _ _ (Ne.symm hr4),heap_setCell_ne _ _ _ _ _ _ (Ne.symm hr4)];exact h4
 have g1:wr1 w r 0:=wr1_of hr (by simp)
 have g2:wr1 (w.setCell ⟨r,0,none⟩ was) r 1:=wr1_of hr1 (by simp)
 have g3:wr1 ((w.setCell ⟨r,0,none⟩ was).setCell ⟨r,1,none⟩ (.int .i64 er)) b4 0:=wr1_of h41 (by simp)
 iterate 2 (refine V_at hD rfl (by simp) ⟨_,rfl,?_⟩;simp (disch:=first|omega|assumption|rfl|(simp only[vcS]<;>omega)|fail) only[↓vcN,vcQ,simprocAttr,h2,h5,hw,hz,g1,g2,g3,LV_nil])
 exact⟨⟨_,rfl⟩,rfl⟩
end
theorem try_gen {f cl ty:Nat}{z:Value}(hC:cfgL Tryz.prog f=some (19,8,(cTry ty z cl).map Vc.Node.bare))(hD:cfgL Tryz.prog cl=some (27,9,(cClo z).map Vc.Node.bare))(hpc:plainF Tryz.prog cl=true)(hz:z.oneCell'=true)(hty:ty≠130)
  (w:World) (g:Nat) (cap:Array Value) (hpg:plainF Tryz.prog g=true) (r B:Nat) (v:Value) (bs:List Int) (e:Int) (h:RAt w r B v bs e) (hBw:B<w.heap.size) (ok:Option (List Int×(Value→World→Prop))) (er:Int)
  (hread:e=0→∀w1,Ext w w1→Calls Tryz.prog g (#[.pointer (some ⟨r,0,none⟩)]++cap) w1 (REnd w1 r B 0 ok er))
  (hφ1:∀rest φ,ok=some (rest,φ)→∀u w',φ u w'→u.oneCell'=true)
  (hφ2:∀rest φ,ok=some (rest,φ)→∀u w' w'' p c,w.heap.size≤p→w'.heap[p]?=some (.cells c ty (0,0))→Keep (fun i=>i=p) w' w''→φ u w'→φ u w'')
  (Q:Value→World→Prop) (q0:e≠0→∀w',Ext w w'→RAt w' r B v bs e→Q z w') (q1:e=0→∀rest φ,ok=some (rest,φ)→∀u w' v',Keep (fun i=>i=r) w w'→φ u w'→RAt w' r B v' rest 0→Q u w')
  (q2:e=0→ok=none→∀w',Keep (fun i=>i=r) w w'→RAt w' r B v bs er→Q z w'):
  Calls Tryz.prog f #[.pointer (some ⟨r,0,none⟩),.func (.func g) #[] cap] w (Ret Q):=by
 refine calls_of_cfgD hC (Nat.le_of_ble_eq_true rfl) ?_
 simp only[argE_nil,argE_cons,Nat.reduceAdd,Nat.zero_add]
 have hz1:zc [(1,z)]=#[z]:=rfl
 have hat:=h.at'
 have hlt:=h.lt
 have hv1:=h.rd.one
 (refine V_at hC rfl (by simp) ⟨_,rfl,?_⟩;simp (disch:=first|omega|assumption|rfl|(simp only[vcS]<;>omega)|fail) only[↓vcN,vcQ,simprocAttr,hz1])
 have h2:((w.alloc (Obj.cells #[Value.pointer (some ⟨r,0,none⟩)] 84)).alloc (Obj.cells #[z] ty)).heap[w.heap.size]?=some (.cells #[.pointer (some ⟨r,0,none⟩)] 84 (0,0)):=by simp (disch:=first|omega|assumption|rfl|(simp only[vcS]<;>omega)|fail) only[↓vcN,vcQ,simprocAttr]
 have h4:((w.alloc (Obj.cells #[Value.pointer (some ⟨r,0,none⟩)] 84)).alloc (Obj.cells #[z] ty)).heap[w.heap.size+1]?=some (.cells #[z] ty (0,0)):=by simp (disch:=first|omega|assumption|rfl|(simp only[vcS]<;>omega)|fail) only[↓vcN,vcQ,simprocAttr]
 have hE1:Ext w ((w.alloc (Obj.cells #[Value.pointer (some ⟨r,0,none⟩)] 84)).alloc (Obj.cells #[z] ty)):=by (repeat' first|exact Keep.refl _ _|assumption|refine Keep.drew ?_|refine Keep.alloc ?_ _|refine Keep.putN ?_ _ ?_|refine Keep.setCell ?_ _ ?_|refine Keep.setO ?_ _ ?_|exact fun _=>Or.inl rfl|exact fun _=>Or.inr rfl|exact fun _=>rfl|(intro hh;exfalso;((try simp only[vcS] at hh)<;>omega)))
 have hs1:((w.alloc (Obj.cells #[Value.pointer (some ⟨r,0,none⟩)] 84)).alloc (Obj.cells #[z] ty)).heap.size=w.heap.size+2:=by simp only[size_alloc]
 generalize World.alloc (World.alloc _ _) _=w1 at h2 h4 hE1 hs1⊢
 generalize hb2:w.heap.size=b2 at h2 h4 hs1⊢
 have hat1:=hE1.at hat fun h=>h
 (refine V_at hC rfl (by simp) ⟨_,rfl,?_⟩;simp (disch:=first|omega|assumption|rfl|(simp only[vcS]<;>omega)|fail) only[↓vcN,vcQ,simprocAttr,h2,hat1])
 have h5:(w1.alloc (Obj.cells (zc [(1,.slice none 0 0)]) 41)).heap[w1.heap.size]?=some (.cells #[.slice none 0 0] 41 (0,0)):=heap_new _ _ _ rfl
 refine⟨hv1,wr1_of h5 (by simp),?_⟩
 have h5':((w1.alloc (Obj.cells (zc [(1,.slice none 0 0)]) 41)).setCell ⟨w1.heap.size,0,none⟩ v).heap[w1.heap.size]?=some (.cells #[v] 41 (0,0)):=by rw[heap_setCell_eq h5];rfl
 have hE2:Ext w1 ((w1.alloc (Obj.cells (zc [(1,.slice none 0 0)]) 41)).setCell ⟨w1.heap.size,0,none⟩ v):=by (repeat' first|exact Keep.refl _ _|assumption|refine Keep.drew ?_|refine Keep.alloc ?_ _|refine Keep.putN ?_ _ ?_|refine Keep.setCell ?_ _ ?_|refine Keep.setO ?_ _ ?_|exact fun _=>Or.inl rfl|exact fun _=>Or.inr rfl|exact fun _=>rfl|(intro hh;exfalso;((try simp only[vcS] at hh)<;>omega)))
 have hb5:b2+2=w1.heap.size:=hs1.symm
 generalize World.setCell _ _ _=w2 at h5' hE2⊢
 generalize w1.heap.size=b5 at h5' hb5⊢
 have hE02:=hE1.ext hE2
 have h2':=hE2.at h2 fun h=>h
 have h4':=hE2.at h4 fun h=>h
 have hat2:=hE02.at hat fun h=>h
 have hR2:=h.ext hE02
 have hrb4:r≠b2+1:=by omega
 iterate 2 (refine V_at hC rfl (by simp) ⟨_,rfl,?_⟩;simp (disch:=first|omega|assumption|rfl|(simp only[vcS]<;>omega)|fail) only[↓vcN,vcQ,simprocAttr,h2',hat2])
 by_cases he:e=0
 ·subst he
  iterate 2 (refine V_at hC rfl (by simp) ⟨_,rfl,?_⟩;simp (disch:=first|omega|assumption|rfl|(simp only[vcS]<;>omega)|fail) only[↓vcN,vcQ,simprocAttr,h2'])
  refine⟨hpg,?_⟩
  have hcall:=hread rfl w2 hE02
  unfold callV
  have ea:(([]:List Value)++[Value.pointer (some ⟨r,0,none⟩)]++cap.toList).toArray=#[Value.pointer (some ⟨r,0,none⟩)]++cap:=by apply Array.ext';simp
  rw[ea]
  refine Calls.mono hcall fun en w3 hR=>?_
  obtain⟨hk,hm⟩:=hR
  have h23:=hk.at h2' (by show¬b2=r;omega)
  have h43:=hk.at h4' (by show¬b2+1=r;omega)
  have h53:=hk.at h5' (by show¬b5=r;omega)
  have hk03:Keep (fun i=>i=r) w w3:=(hE02.mono fun _ h=>h.elim).trans hk fun _ _ h=>h
  cases hok:ok with
  |some p=>
   obtain⟨rest,φ⟩:=p
   rw[hok] at hm
   obtain⟨u,v',rfl,hu,hR3⟩:=hm
   refine⟨hφ1 rest φ hok u w3 hu,wr1_of h43 (by simp),?_⟩
   have h44:(w3.setCell ⟨b2+1,0,none⟩ u).heap[b2+1]?=some (.cells #[u] ty (0,0)):=by rw[heap_setCell_eq h43];rfl
   have hk4:Keep (fun i=>i=b2+1) w3 (w3.setCell ⟨b2+1,0,none⟩ u):=(Keep.refl _ w3).setCell _ fun _=>rfl
   have hu4:=hφ2 rest φ hok u w3 _ (b2+1) _ (by omega) h43 hk4 hu
   have hk04:=hk03.trans hk4 (T:=fun i=>i=b2+1) fun i hi (e:i=b2+1)=>by omega
   have hR4:RAt (w3.setCell ⟨b2+1,0,none⟩ u) r B v' rest 0:=by
    exact hR3.keep hk4 hrb4 fun _ (e:B=b2+1)=>by omega
   generalize World.setCell _ _ _=w4 at h44 hu4 hk04 hR4⊢
   (refine V_at hC rfl (by simp) ⟨_,rfl,?_⟩;simp (disch:=first|omega|assumption|rfl|(simp only[vcS]<;>omega)|fail) only[↓vcN,vcQ,simprocAttr])
   refine LV_cons hpc (by simp) (clo_idle hD _ _ _ w4) ?_
   rintro en u' w5 ⟨hv,rfl,rfl⟩
   refine⟨hv.choose,hv.choose_spec,?_⟩
   simp (disch:=first|omega|assumption|rfl|(simp only[vcS]<;>omega)|fail) only[↓vcN,vcQ,simprocAttr,settle,LV_nil,h44,Ret_returned]
   exact q1 rfl rest φ hok _ _ v' hk04 hu4 hR4
  |none=>
   rw[hok] at hm
   obtain⟨rfl,v',bs',hR3⟩:=hm
   refine⟨rfl,?_,?_⟩
   ·intro rr hrr;simp at hrr;subst hrr;simp [rvSlot,dstsPT]
   ·refine LV_cons hpc (by simp) (clo_catch hD b5 b2 (b2+1) r ty er 0 v v' z w3 h53 h23 h43 hR3.at' hrb4 hv1 hz) ?_
    rintro en u' w5 ⟨hv,hse,rfl⟩
    refine⟨hv.choose,hv.choose_spec,?_⟩
    rw[hse]
    have hw3:w3.heap[r]?=some (.cells #[v',.int .i64 0] 130 (0,0)):=hR3.at'
    have hr1:(w3.setCell ⟨r,0,none⟩ v).heap[r]?=some (.cells #[v,.int .i64 0] 130 (0,0)):=by rw[heap_setCell_eq hw3];rfl
    have hr2:((w3.setCell ⟨r,0,none⟩ v).setCell ⟨r,1,none⟩ (.int .i64 er)).heap[r]?=some (.cells #[v,.int .i64 er] 130 (0,0)):=by rw[heap_setCell_eq hr1];rfl
    have hr3:(((w3.setCell ⟨r,0,none⟩ v).setCell ⟨r,1,none⟩ (.int .i64 er)).setCell ⟨b2+1,0,none⟩ z).heap[r]?=some (.cells #[v,.int .i64 er] 130 (0,0)):=by rw[heap_setCell_ne _ _ _ _ _ _ hrb4];exact hr2
    have h41:((w3.setCell ⟨r,0,none⟩ v).setCell ⟨r,1,none⟩ (.int .i64 er)).heap[b2+1]?=some (.cells #[z] ty (0,0)):=by rw[heap_setCell_ne _ _ _ _ _ _ (Ne.symm hrb4),heap_setCell_ne _ _ _ _ _ _ (Ne.symm hrb4)];exact h43
    have h44:(((w3.setCell ⟨r,0,none⟩ v).setCell ⟨r,1,none⟩ (.int .i64 er)).setCell ⟨b2+1,0,none⟩ z).heap[b2+1]?=some (.cells #[z] ty (0,0)):=by rw[heap_setCell_eq h41];rfl
    have hk5:Keep (fun i=>i=r) w (((w3.setCell ⟨r,0,none⟩ v).setCell ⟨r,1,none⟩ (.int .i64 er)).setCell ⟨b2+1,0,none⟩ z):=
     ((hk03.setCell v fun _=>rfl).setCell (.int .i64 er) fun _=>rfl).setCell z fun hlt=>by omega
    generalize World.setCell _ _ _=w4 at hr3 h44 hk5⊢
    simp (disch:=first|omega|assumption|rfl|(simp only[vcS]<;>omega)|fail) only[↓vcN,vcQ,simprocAttr,LV_nil,h44,Ret_returned]
    exact q2 rfl hok _ hk5 (h.set hk5 hr3 h.rd fun q n c hq=>⟨q,n,c,hq,rfl⟩)
 ·(refine V_at hC rfl (by simp) ⟨_,rfl,?_⟩;simp (disch:=first|omega|assumption|rfl|(simp only[vcS]<;>omega)|fail) only[↓vcN,vcQ,simprocAttr,he])
  (refine V_at hC rfl (by simp) ⟨_,rfl,?_⟩;simp (disch:=first|omega|assumption|rfl|(simp only[vcS]<;>omega)|fail) only[↓vcN,vcQ,simprocAttr])
  refine LV_cons hpc (by simp) (clo_idle hD _ _ _ w2) ?_
  rintro en u' w5 ⟨hv,rfl,rfl⟩
  refine⟨hv.choose,hv.choose_spec,?_⟩
  simp (disch:=first|omega|assumption|rfl|(simp only[vcS]<;>omega)|fail) only[↓vcN,vcQ,simprocAttr,settle,LV_nil,h4',Ret_returned]
  exact q0 he _ hE02 hR2
end Go.Proofs
namespace Go.Proofs
open Go.Vc
set_option maxRecDepth 10000
theorem callV_all {P:Program}{R:Ending→World→Prop}{f:FuncId}{vs:List Value}{w:World}{K:Value→World→Prop}{φ:Ending→World→Prop}
  (h:Calls P f vs.toArray w φ) (h1:∀v w',φ (.returned v) w'→K v w') (h2:∀c w',φ (.panicked c) w'→R (.panicked c) w') (h3:∀w',φ .outgrown w'→R .outgrown w'):callV P R f vs w K:=by
 unfold callV
 refine Calls.mono h fun en w' hp=>?_
 cases en with
 |returned v=>exact h1 v w' hp
 |panicked c=>exact h2 c w' hp
 |outgrown=>exact h3 w' hp
theorem REnd.no_out {w w':World}{r B:Nat}{e:Int}{ok:Option (List Int×(Value→World→Prop))}{er:Int}(h:REnd w r B e ok er .outgrown w'):False:=by
 obtain⟨_,h⟩:=h
 split at h
 ·obtain⟨_,_,h,_⟩:=h;cases h
 ·cases h.1
theorem callR {P:Program}{f:FuncId}{vs:List Value}{w w0:World}{K:Value→World→Prop}{r B:Nat}{e:Int}{ok ok':Option (List Int×(Value→World→Prop))}{er er':Int}
  (h:Calls P f vs.toArray w (REnd w r B e ok er)) (hk0:Keep (fun i=>i=r) w0 w)
  (h1:∀rest φ,ok=some (rest,φ)→∀u w' v',Keep (fun i=>i=r) w w'→φ u w'→RAt w' r B v' rest e→K u w') (h2:ok=none→ok'=none∧er'=er):callV P (REnd w0 r B e ok' er') f vs w K:=by
 refine callV_all h (fun v w' hp=>?_) (fun c w' hp=>?_) fun w' hp=>(REnd.no_out hp).elim
 ·obtain⟨hk,hp⟩:=hp
  cases hok:ok with
  |some p=>
   obtain⟨rest,φ⟩:=p
   rw[hok] at hp
   obtain⟨u,v',hu,hφ,hR⟩:=hp
   cases hu
   exact h1 rest φ hok _ w' v' hk hφ hR
  |none=>rw[hok] at hp;cases hp.1
 ·obtain⟨hk,hp⟩:=hp
  cases hok:ok with
  |some p=>rw[hok] at hp;obtain⟨_,_,hu,_⟩:=hp;cases hu
  |none=>
   rw[hok] at hp
   obtain⟨e1,e2⟩:=h2 hok
   subst e1 e2
   exact⟨hk0.trans hk fun _ _ h=>h,hp⟩
def valF:List Int→Int
 |[]=>0
 |b::bs=>b+256*valF bs
theorem valF_lt:∀{bs:List Int},byt bs→0≤valF bs∧valF bs<256^bs.length
 |[],_=>by simp [valF]
 |b::bs,h=>by
  have h1:=h b (by simp)
  have h2:=valF_lt (bs:=bs) fun x hx=>h x (by simp [hx])
  simp only[valF,List.length_cons,Int.pow_succ]
  omega
theorem valF_snoc:∀(bs:List Int) (b:Int),valF (bs++[b])=valF bs+b*256^bs.length
 |[],b=>by simp [valF]
 |x::bs,b=>by
  have ih:=valF_snoc bs b
  simp only[List.cons_append,valF,ih,List.length_cons,Int.pow_succ]
  rw[Int.mul_add,←Int.mul_assoc,←Int.mul_assoc,Int.mul_comm 256 b,Int.mul_assoc b 256,Int.mul_comm 256 (256^bs.length)]
  rw[Int.mul_assoc];omega
theorem valF_lowF:∀(n:Nat) (x:Int),0≤x→x<256^n→valF (lowF n x)=x
 |0,x,h0,h1=>by simp at h1;simp [lowF,valF];omega
 |n+1,x,h0,h1=>by
  rw[Int.pow_succ] at h1
  have ih:=valF_lowF n (x/256) (by omega) (by omega)
  simp only[lowF,valF,ih];omega
theorem or_add {x c:Int}{i:Nat}(hx:0≤x∧x<256^i)(hc:0≤c∧c≤255)(hi:i<8):
  IntKind.u64.wrap (((BitVec.ofInt IntKind.u64.bits x|||BitVec.ofInt IntKind.u64.bits (c*256^i)).toNat:Nat):Int)=x+c*256^i:=by
 show IntKind.u64.wrap (((BitVec.ofInt 64 x|||BitVec.ofInt 64 (c*256^i)).toNat:Nat):Int)=_
 obtain⟨X,rfl⟩:=Int.eq_ofNat_of_zero_le hx.1
 obtain⟨C,rfl⟩:=Int.eq_ofNat_of_zero_le hc.1
 have e1:((256:Int)^i)=((2^(8*i):Nat):Int):=by rw[Nat.pow_mul];simp
 rw[e1] at hx⊢
 have hX:X<2^(8*i):=by omega
 have hle:2^(8*i)≤2^56:=Nat.pow_le_pow_right (by decide) (by omega)
 have hC:C≤255:=by omega
 have hm:C*2^(8*i)≤255*2^56:=Nat.mul_le_mul hC hle
 have e2:((C:Int)*((2^(8*i):Nat):Int))=((C*2^(8*i):Nat):Int):=by simp
 rw[e2,BitVec.toNat_or]
 have t:∀n:Nat,n<2^64→(BitVec.ofInt 64 (n:Int)).toNat=n:=fun n hn=>by
  rw[BitVec.toNat_ofInt]
  have:((n:Int)% ((2^64:Nat):Int)).toNat=n:=by
   rw[Int.emod_eq_of_lt (by omega) (by omega)];simp
  exact this
 rw[t X (by omega),t _ (by omega)]
 have e3:X|||C*2^(8*i)=X+C*2^(8*i):=by
  have:=Nat.two_pow_add_eq_or_of_lt hX C
  rw[Nat.mul_comm (2^(8*i)) C] at this
  rw[Nat.or_comm,←this,Nat.add_comm]
 rw[e3,wrap_u64]
 omega
theorem advA_blk {s c l:Nat}{q:Option Addr}{a:Addr}(h:advA s q c l=some a):∃a',q=some a'∧a.block=a'.block:=by
 unfold advA at h
 split at h
 ·exact⟨a,h,rfl⟩
 ·cases q with
  |none=>cases h
  |some a'=>
   simp only[Option.map_some,Option.some.injEq] at h
   refine⟨a',rfl,?_⟩
   rw[←h];unfold Addr.add;split<;>rfl
theorem take_ok (w:World)(r B:Nat)(v:Value)(bs:List Int)(e:Int)(n:Nat)(h:RAt w r B v bs e):
  Calls Tryz.prog 86 #[.pointer (some ⟨r,0,none⟩),.int .i64 n] w (REnd w r B e (if n≤bs.length then some (bs.drop n,fun u w'=>Rd w' u (bs.take n)) else none) 4):=by
 refine calls_of_cfg c86_ok (Nat.le_of_ble_eq_true rfl) ?_
 simp only[argE_nil,argE_cons,Nat.reduceAdd,Nat.zero_add]
 have hat:=h.at'
 have hlen:=h.rd.len
 have h0:=h.rd
 (refine W_at c86_ok ⟨_,rfl,?_⟩;simp (disch:=first|omega|assumption|rfl|(simp only[vcS]<;>omega)|fail) only[↓vcN,vcQ,simprocAttr])
 by_cases hn:(bs.length:Int)<n
 ·rw[if_neg (by omega)]
  iterate 3 (refine W_at c86_ok ⟨_,rfl,?_⟩;simp (disch:=first|omega|assumption|rfl|(simp only[vcS]<;>omega)|fail) only[↓vcN,vcQ,simprocAttr,hat,hlen,hn])
  exact⟨Keep.refl _ w,rfl,v,bs,h⟩
 ·rw[if_pos (by omega)]
  obtain⟨⟨q,c,rfl,hc⟩,hm,hr⟩:=h.rd
  have hh:0≤(n:Int)∧(n:Int)≤c:=by omega
  have hl:0≤(n:Int)∧(n:Int)≤bs.length:=by omega
  iterate 4 (refine W_at c86_ok ⟨_,rfl,?_⟩;simp (disch:=first|omega|assumption|rfl|(simp only[vcS]<;>omega)|fail) only[↓vcN,vcQ,simprocAttr,hat,hlen,hn,hh,Int.toNat_natCast,Nat.sub_zero,hl])
  have h1:=h0.cut (l:=0) (j:=n) (by omega) (by omega)
  have h2:=h0.cut (l:=n) (j:=bs.length) (by omega) (by omega)
  rw[advA_0,Nat.sub_zero,Nat.sub_zero,List.drop_zero] at h1
  rw[List.take_length] at h2
  refine⟨wr1_of hat (by simp),?_⟩
  have hk:Keep (fun i=>i=r) w (w.setCell ⟨r,0,none⟩ (.slice (advA 1 q c n) (bs.length - n) (c - n))):=(Keep.refl _ w).setCell _ fun _=>rfl
  have ha:(w.setCell ⟨r,0,none⟩ (.slice (advA 1 q c n) (bs.length - n) (c - n))).heap[r]?=some (.cells #[.slice (advA 1 q c n) (bs.length - n) (c - n),.int .i64 e] 130 (0,0)):=by rw[heap_setCell_eq hat];rfl
  have hR:=h.set hk ha h2 (fun q' n' c' hq=>by
   cases hq':advA 1 q c n with
   |none=>rw[hq'] at hq;cases hq
   |some a=>
    rw[hq'] at hq;cases hq
    obtain⟨a',h3,h4⟩:=advA_blk hq'
    exact⟨a',_,_,by rw[h3],h4⟩)
  have hu:Rd (w.setCell ⟨r,0,none⟩ (.slice (advA 1 q c n) (bs.length - n) (c - n))) (.slice q n c) (bs.take n):=h1.keep hk fun q' n' c' hq=>by
   cases hq
   obtain⟨h3,_,h4⟩:=h.bb q' _ _ rfl
   rw[h3];exact h4
  generalize World.setCell _ _ _=w1 at hk hR hu⊢
  iterate 2 (refine W_at c86_ok ⟨_,rfl,?_⟩;simp (disch:=first|omega|assumption|rfl|(simp only[vcS]<;>omega)|fail) only[↓vcN,vcQ,simprocAttr])
  exact⟨hk,_,_,rfl,hu,hR⟩
theorem numb_ok (w:World)(r B:Nat)(v:Value)(bs:List Int)(e:Int)(n:Nat)(h:RAt w r B v bs e)(hb:byt bs)(hn:n≤8):
  Calls Tryz.prog 121 #[.pointer (some ⟨r,0,none⟩),.int .i64 n] w (REnd w r B e (if n≤bs.length then some (bs.drop n,fun u _=>u=.int .u64 (valF (bs.take n))) else none) 4):=by
 refine calls_of_cfg c121_ok (Nat.le_of_ble_eq_true rfl) ?_
 simp only[argE_nil,argE_cons,Nat.reduceAdd,Nat.zero_add]
 iterate 3 (refine W_at c121_ok ⟨_,rfl,?_⟩;simp (disch:=first|omega|assumption|rfl|(simp only[vcS]<;>omega)|fail) only[↓vcN,vcQ,simprocAttr])
 refine callR (take_ok w r B v bs e n h) (Keep.refl _ w) ?_ ?_
 ·intro rest φ hok u w1 v1 hk hφ hR
  by_cases hl:n≤bs.length
  ·rw[if_pos hl] at hok⊢
   simp only[Option.some.injEq,Prod.mk.injEq] at hok
   obtain⟨rfl,rfl⟩:=hok
   have hlen:(bs.take n).length=n:=by rw[List.length_take];omega
   have hbt:=byt_take hb n
   have hul:=hφ.len
   rw[hlen] at hul
   generalize bs.take n=ts at hφ hlen hbt⊢
   simp (disch:=first|omega|assumption|rfl|(simp only[vcS]<;>omega)|fail) only[↓vcN,vcQ,simprocAttr,hul]
   have L:∀(k i:Nat),k+i=n→W Tryz.prog (REnd w r B e (some (bs.drop n,fun u _=>u=.int .u64 (valF ts))) 4) 121 8 [(5,.int .u64 (valF (ts.take i))),(10,u),(11,.int .i64 n),(12,.int .i64 i)] w1:=by
    intro k
    induction k with
    |zero=>
     intro i hi
     have hlt:¬((i:Int)<n):=by omega
     have ei:ts.take i=ts:=List.take_of_length_le (by omega)
     rw[ei]
     iterate 4 (refine W_at c121_ok ⟨_,rfl,?_⟩;simp (disch:=first|omega|assumption|rfl|(simp only[vcS]<;>omega)|fail) only[↓vcN,vcQ,simprocAttr,hlt])
     exact⟨hk,_,v1,rfl,rfl,hR⟩
    |succ k ih=>
     intro i hi
     have hlt:((i:Int)<n):=by omega
     have hi2:0≤(i:Int)∧(i:Int)<n:=by omega
     have hwi:IntKind.i64.wrap ((i:Int)+1)=((i+1:Nat):Int):=wrap_i64 (by omega) (by omega)
     have hil:i<ts.length:=by omega
     obtain⟨b,o,c,hu,hcell⟩:=hφ.at hil
     subst hu
     have hbi:=hbt _ (List.getElem_mem hil)
     have hx:=valF_lt (byt_take hbt i)
     have hlen2:(ts.take i).length=i:=by rw[List.length_take];omega
     rw[hlen2] at hx
     have hc1:IntKind.u64.wrap ts[i]=ts[i]:=by rw[wrap_u64];omega
     have hm8:IntKind.i64.wrap (8*(i:Int))=8*(i:Int):=wrap_i64 (by omega) (by omega)
     have h8:0≤8*(i:Int):=by omega
     have hsh:IntKind.u64.wrap (ts[i]*2^Nat.min (8*(i:Int)).toNat IntKind.u64.bits)=ts[i]*256^i:=by
      have e1:Nat.min (8*(i:Int)).toNat IntKind.u64.bits=8*i:=by
       show Nat.min (8*(i:Int)).toNat 64=8*i
       rw[show (8*(i:Int)).toNat=8*i by omega];exact Nat.min_eq_left (by omega)
      rw[e1]
      have e2:(2:Int)^(8*i)=256^i:=by rw[Int.pow_mul];rfl
      rw[e2,wrap_u64]
      have h3:(256:Int)^i≤256^7:=by
       have:(256:Nat)^i≤256^7:=Nat.pow_le_pow_right (by decide) (by omega)
       have e3:((256^i:Nat):Int)=(256:Int)^i:=by simp
       omega
      have h4:ts[i]*256^i≤255*256^7:=Int.mul_le_mul hbi.2 h3 (Int.le_of_lt (Int.pow_pos (by decide))) (by decide)
      have h5:0≤ts[i]*(256:Int)^i:=Int.mul_nonneg hbi.1 (Int.le_of_lt (Int.pow_pos (by decide)))
      omega
     have hor:=or_add hx hbi (by omega:i<8)
     have hnx:valF (ts.take i)+ts[i]*256^i=valF (ts.take (i+1)):=by
      rw[List.take_succ_eq_append_getElem hil,valF_snoc,hlen2]
     rw[hnx] at hor
     rw[hlen]
     iterate 6 (refine W_at c121_ok ⟨_,rfl,?_⟩;simp (disch:=first|omega|assumption|rfl|(simp only[vcS]<;>omega)|fail) only[↓vcN,vcQ,simprocAttr,hlt,hi2,Int.toNat_natCast,Nat.mul_one,hcell,hc1,hm8,h8,hsh,hor,hwi])
     have:=ih (i+1) (by omega)
     rw[hlen] at this
     exact this
   have h0:=L n 0 (by omega)
   exact h0
  ·rw[if_neg hl] at hok;cases hok
 ·intro hok
  split at hok
  ·cases hok
  ·rename_i hl;exact⟨by rw[if_neg hl],rfl⟩
end Go.Proofs
namespace Go.Proofs
open Go.Vc
set_option maxRecDepth 10000
def toOk {α:Type}(x:Except Int (α×List Int))(φ:α→Value→World→Prop):Option (List Int×(Value→World→Prop)):=
 match x with
 | .ok (a,rest)=>some (rest,φ a)
 | .error _=>none
def toEr {α:Type}(x:Except Int (α×List Int)):Int:=
 match x with
 | .ok _=>0
 | .error e=>e
def numR (n:Nat)(bs:List Int):Except Int (Int×List Int):=if n≤bs.length then .ok (valF (bs.take n),bs.drop n) else .error 4
def szK (f:Int):Nat:=if f=253 then 2 else if f=254 then 4 else 8
def szR:List Int→Except Int (Int×List Int)
 |[]=>.error 4
 |f::t=>if f<253 then .ok (f,t) else if t.length<szK f then .error 4 else if wideF (valF (t.take (szK f)))≠szK f then .error 3
  else if 33554432<valF (t.take (szK f)) then .error 2 else .ok (valF (t.take (szK f)),t.drop (szK f))
theorem REnd.of_er {w w':World}{r B:Nat}{e:Int}{ok:Option (List Int×(Value→World→Prop))}{er er':Int}{en:Ending}(h:REnd w r B e ok er en w')(hk:ok=none→er'=er):REnd w r B e ok er' en w':=by
 refine⟨h.1,?_⟩
 have h2:=h.2
 cases ok with
 |some p=>exact h2
 |none=>rw[hk rfl];exact h2
theorem num_ok (w:World)(r B:Nat)(v:Value)(bs:List Int)(e:Int)(n:Nat)(h:RAt w r B v bs e)(hb:byt bs)(hn:n≤8):
  Calls Tryz.prog 121 #[.pointer (some ⟨r,0,none⟩),.int .i64 n] w (REnd w r B e (toOk (numR n bs) fun x u _=>u=.int .u64 x) (toEr (numR n bs))):=by
 refine(numb_ok w r B v bs e n h hb hn).mono fun en w' hR=>?_
 unfold numR
 by_cases hl:n≤bs.length
 ·rw[if_pos hl] at hR⊢
  exact hR.of_er fun h=>by cases h
 ·rw[if_neg hl] at hR⊢
  exact hR
theorem szK_is {f:Int}(h1:253≤f)(h2:f≤255):IntKind.i64.wrap (2*2^Nat.min (f - 253).toNat IntKind.i64.bits)=(szK f:Nat)∧(szK f≤8):=by
 have:f=253∨f=254∨f=255:=by omega
 rcases this with rfl|rfl|rfl<;>exact⟨rfl,by decide⟩
theorem rsz_ok (w:World)(r B:Nat)(v:Value)(bs:List Int)(e:Int)(h:RAt w r B v bs e)(hb:byt bs):
  Calls Tryz.prog 83 #[.pointer (some ⟨r,0,none⟩)] w (REnd w r B e (toOk (szR bs) fun x u _=>u=.int .u64 x) (toEr (szR bs))):=by
 refine calls_of_cfg c83_ok (Nat.le_of_ble_eq_true rfl) ?_
 simp only[argE_nil,argE_cons,Nat.zero_add]
 iterate 2 (refine W_at c83_ok ⟨_,rfl,?_⟩;simp (disch:=first|omega|assumption|rfl|(simp only[vcS]<;>omega)|fail) only[↓vcN,vcQ,simprocAttr])
 refine callR (num_ok w r B v bs e 1 h hb (by omega)) (Keep.refl _ w) ?_ ?_
 ·intro rest φ hok u w1 v1 hk hφ hR
  cases bs with
  |nil=>cases hok
  |cons f t=>
   have hn1:numR 1 (f::t)=.ok (f,t):=by simp [numR,valF]
   rw[hn1] at hok
   simp only[toOk,Option.some.injEq,Prod.mk.injEq] at hok
   obtain⟨rfl,rfl⟩:=hok
   subst hφ
   have hf:=hb f (by simp)
   have hbt:byt t:=fun x hx=>hb x (by simp [hx])
   by_cases h1:f<253
   ·have hs:szR (f::t)=.ok (f,t):=by simp only[szR,if_pos h1]
    rw[hs]
    iterate 4 (refine W_at c83_ok ⟨_,rfl,?_⟩;simp (disch:=first|omega|assumption|rfl|(simp only[vcS]<;>omega)|fail) only[↓vcN,vcQ,simprocAttr,h1])
    exact⟨hk,_,v1,rfl,rfl,hR⟩
   ·obtain⟨hsk,hs8⟩:=szK_is (by omega:253≤f) hf.2
    have hsub:IntKind.u64.wrap (f - 253)=f - 253:=by rw[wrap_u64];omega
    have h0:0≤f - 253:=by omega
    iterate 3 (refine W_at c83_ok ⟨_,rfl,?_⟩;simp (disch:=first|omega|assumption|rfl|(simp only[vcS]<;>omega)|fail) only[↓vcN,vcQ,simprocAttr,h1,hsub,h0,hsk])
    refine callR (num_ok w1 r B v1 t e (szK f) hR hbt hs8) hk ?_ ?_
    ·intro rest2 φ2 hok2 u2 w2 v2 hk2 hφ2 hR2
     have hk02:=hk.trans hk2 fun _ _ h=>h
     by_cases hl:szK f≤t.length
     ·have hn2:numR (szK f) t=.ok (valF (t.take (szK f)),t.drop (szK f)):=by simp only[numR,if_pos hl]
      rw[hn2] at hok2
      simp only[toOk,Option.some.injEq,Prod.mk.injEq] at hok2
      obtain⟨rfl,rfl⟩:=hok2
      subst hφ2
      have hs:szR (f::t)=if wideF (valF (t.take (szK f)))≠szK f then .error 3 else if 33554432<valF (t.take (szK f)) then .error 2 else .ok (valF (t.take (szK f)),t.drop (szK f)):=by
       simp only[szR,if_neg h1,if_neg (by omega:¬t.length<szK f)]
      rw[hs]
      generalize hx:valF (t.take (szK f))=x
      have hwa:IntKind.i64.wrap (1+(szK f:Nat))=((1+szK f:Nat):Int):=wrap_i64 (by omega) (by omega)
      (refine W_at c83_ok ⟨_,rfl,?_⟩;simp (disch:=first|omega|assumption|rfl|(simp only[vcS]<;>omega)|fail) only[↓vcN,vcQ,simprocAttr])
      refine callV_ret (length_ok w2 x) ?_
      rintro _ w3 ⟨rfl,hw⟩
      obtain rfl:w2=w3:=hw.symm
      by_cases h2:wideF x=szK f
      ·have h2':((wideF x+1:Nat):Int)=((1+szK f:Nat):Int):=by omega
       rw[if_neg (show¬wideF x≠szK f by simp [h2])]
       simp (disch:=first|omega|assumption|rfl|(simp only[vcS]<;>omega)|fail) only[↓vcN,vcQ,simprocAttr,hsub,h0,hsk,hwa,h2']
       (refine W_at c83_ok ⟨_,rfl,?_⟩;simp (disch:=first|omega|assumption|rfl|(simp only[vcS]<;>omega)|fail) only[↓vcN,vcQ,simprocAttr])
       by_cases h3:33554432<x
       ·rw[if_pos h3]
        iterate 3 (refine W_at c83_ok ⟨_,rfl,?_⟩;simp (disch:=first|omega|assumption|rfl|(simp only[vcS]<;>omega)|fail) only[↓vcN,vcQ,simprocAttr,h3])
        exact⟨hk02,rfl,v2,_,hR2⟩
       ·rw[if_neg h3]
        iterate 4 (refine W_at c83_ok ⟨_,rfl,?_⟩;simp (disch:=first|omega|assumption|rfl|(simp only[vcS]<;>omega)|fail) only[↓vcN,vcQ,simprocAttr,h3])
        exact⟨hk02,_,v2,rfl,rfl,hR2⟩
      ·have h2':¬((wideF x+1:Nat):Int)=((1+szK f:Nat):Int):=by omega
       rw[if_pos (show wideF x≠szK f from h2)]
       simp (disch:=first|omega|assumption|rfl|(simp only[vcS]<;>omega)|fail) only[↓vcN,vcQ,simprocAttr,hsub,h0,hsk,hwa,h2']
       iterate 2 (refine W_at c83_ok ⟨_,rfl,?_⟩;simp (disch:=first|omega|assumption|rfl|(simp only[vcS]<;>omega)|fail) only[↓vcN,vcQ,simprocAttr])
       exact⟨hk02,rfl,v2,_,hR2⟩
     ·rw[numR,if_neg hl] at hok2;cases hok2
    ·intro hok2
     have hl:¬szK f≤t.length:=by
      intro hl;rw[numR,if_pos hl] at hok2;cases hok2
     have hs:szR (f::t)=.error 4:=by simp only[szR,if_neg h1,if_pos (by omega:t.length<szK f)]
     rw[hs,numR,if_neg hl];exact⟨rfl,rfl⟩
 ·intro hok
  cases bs with
  |nil=>exact⟨rfl,rfl⟩
  |cons f t=>simp [numR,toOk] at hok
end Go.Proofs
namespace Go.Proofs
open Go.Vc
set_option maxRecDepth 10000
structure RTo {α:Type}(w w':World)(r B:Nat)(v:Value)(bs:List Int)(e:Int)(x:Except Int (α×List Int))(φ:α→Value→World→Prop)(z u:Value):Prop where
 keep:Keep (fun i=>i=r) w w'
 was:e≠0→u=z∧RAt w' r B v bs e
 ok:e=0→∀a rest,x=.ok (a,rest)→φ a u w'∧∃v',RAt w' r B v' rest 0
 er:e=0→∀n,x=.error n→u=z∧RAt w' r B v bs n
theorem try_ok {α:Type}{f cl ty:Nat}{z:Value}(hC:cfgL Tryz.prog f=some (19,8,(cTry ty z cl).map Vc.Node.bare))(hD:cfgL Tryz.prog cl=some (27,9,(cClo z).map Vc.Node.bare))(hpc:plainF Tryz.prog cl=true)(hz:z.oneCell'=true)(hty:ty≠130)
  (w:World) (g:Nat) (cap:Array Value) (hpg:plainF Tryz.prog g=true) (r B:Nat) (v:Value) (bs:List Int) (e:Int) (h:RAt w r B v bs e) (hBw:B<w.heap.size) (x:Except Int (α×List Int)) (φ:α→Value→World→Prop)
  (hread:e=0→∀w1,Ext w w1→Calls Tryz.prog g (#[.pointer (some ⟨r,0,none⟩)]++cap) w1 (REnd w1 r B 0 (toOk x φ) (toEr x)))
  (hφ1:∀a u w',φ a u w'→u.oneCell'=true)
  (hφ2:∀a u w' w'' p c,w.heap.size≤p→w'.heap[p]?=some (.cells c ty (0,0))→Keep (fun i=>i=p) w' w''→φ a u w'→φ a u w''):
  Calls Tryz.prog f #[.pointer (some ⟨r,0,none⟩),.func (.func g) #[] cap] w (Ret fun u w'=>RTo w w' r B v bs e x φ z u):=by
 refine try_gen hC hD hpc hz hty w g cap hpg r B v bs e h hBw (toOk x φ) (toEr x) hread ?_ ?_ _ ?_ ?_ ?_
 ·intro rest ψ hok
  cases x with
  |ok p=>simp only[toOk,Option.some.injEq,Prod.mk.injEq] at hok;obtain⟨_,rfl⟩:=hok;exact hφ1 _
  |error n=>cases hok
 ·intro rest ψ hok
  cases x with
  |ok p=>simp only[toOk,Option.some.injEq,Prod.mk.injEq] at hok;obtain⟨_,rfl⟩:=hok;exact hφ2 _
  |error n=>cases hok
 ·intro he w' hk hR
  exact⟨hk.mono fun _ h=>h.elim,fun _=>⟨rfl,hR⟩,fun h=>absurd h he,fun h=>absurd h he⟩
 ·intro he rest ψ hok u w' v' hk hu hR
  cases x with
  |ok p=>
   simp only[toOk,Option.some.injEq,Prod.mk.injEq] at hok
   obtain⟨rfl,rfl⟩:=hok
   exact⟨hk,fun h=>absurd he h,fun _ a rest hx=>(by cases hx;exact⟨hu,v',hR⟩),fun _ n hx=>(by cases hx)⟩
  |error n=>cases hok
 ·intro he hok w' hk hR
  cases x with
  |ok p=>cases hok
  |error n=>exact⟨hk,fun h=>absurd he h,fun _ a rest hx=>(by cases hx),fun _ m hx=>(by cases hx;exact⟨rfl,hR⟩)⟩
theorem u81_ok (w:World)(r B:Nat)(v:Value)(bs:List Int)(e:Int)(h:RAt w r B v bs e)(hb:byt bs):
  Calls Tryz.prog 127 #[.pointer (some ⟨r,0,none⟩)] w (REnd w r B e (toOk (numR 1 bs) fun x u _=>u=.int .u8 x) (toEr (numR 1 bs))):=by
 refine calls_of_cfg c127_ok (Nat.le_of_ble_eq_true rfl) ?_
 simp only[argE_nil,argE_cons,Nat.zero_add]
 iterate 2 (refine W_at c127_ok ⟨_,rfl,?_⟩;simp (disch:=first|omega|assumption|rfl|(simp only[vcS]<;>omega)|fail) only[↓vcN,vcQ,simprocAttr])
 refine callR (num_ok w r B v bs e 1 h hb (by omega)) (Keep.refl _ w) ?_ ?_
 ·intro rest φ hok u w1 v1 hk hφ hR
  have hok':=hok
  unfold numR at hok⊢
  split at hok
  ·rename_i hl
   rw[if_pos hl]
   simp only[toOk,Option.some.injEq,Prod.mk.injEq] at hok
   obtain⟨rfl,rfl⟩:=hok
   subst hφ
   have hv:=valF_lt (byt_take hb 1)
   have hlen:(bs.take 1).length=1:=by rw[List.length_take];omega
   rw[hlen] at hv
   have hcv:IntKind.u8.wrap (valF (bs.take 1))=valF (bs.take 1):=by rw[wrap_u8];omega
   simp (disch:=first|omega|assumption|rfl|(simp only[vcS]<;>omega)|fail) only[↓vcN,vcQ,simprocAttr,hcv]
   (refine W_at c127_ok ⟨_,rfl,?_⟩;simp (disch:=first|omega|assumption|rfl|(simp only[vcS]<;>omega)|fail) only[↓vcN,vcQ,simprocAttr])
   exact⟨hk,_,v1,rfl,rfl,hR⟩
  ·cases hok
 ·intro hok;exact⟨by
   unfold numR at hok⊢
   split at hok
   ·cases hok
   ·rename_i hl;rw[if_neg hl];rfl,rfl⟩
theorem ru8_ok (w:World)(r B:Nat)(v:Value)(bs:List Int)(e:Int)(h:RAt w r B v bs e)(hBw:B<w.heap.size)(hb:byt bs):
  Calls Tryz.prog 92 #[.pointer (some ⟨r,0,none⟩)] w (Ret fun u w'=>RTo w w' r B v bs e (numR 1 bs) (fun x u _=>u=.int .u8 x) (.int .u8 0) u):=by
 refine calls_of_cfg c92_ok (Nat.le_of_ble_eq_true rfl) ?_
 simp only[argE_nil,argE_cons,Nat.zero_add]
 iterate 2 (refine W_at c92_ok ⟨_,rfl,?_⟩;simp (disch:=first|omega|assumption|rfl|(simp only[vcS]<;>omega)|fail) only[↓vcN,vcQ,simprocAttr])
 refine callV_ret (try_ok (ty:=5) c126_ok c136_ok (by kernel_rfl) rfl (by decide) w 127 #[] (by kernel_rfl) r B v bs e h hBw (numR 1 bs) (fun x u _=>u=.int .u8 x)
  (fun he w1 hE=>?_) (fun a u w' hu=>by subst hu;rfl) (fun a u w' w'' p c _ _ _ hu=>hu)) ?_
 ·subst he
  rw[Array.append_empty]
  exact u81_ok w1 r B v bs 0 (h.ext hE) hb
 ·intro u w1 hT
  (refine W_at c92_ok ⟨_,rfl,?_⟩;simp (disch:=first|omega|assumption|rfl|(simp only[vcS]<;>omega)|fail) only[↓vcN,vcQ,simprocAttr,Ret_returned])
  exact hT
theorem u321_ok (w:World)(r B:Nat)(v:Value)(bs:List Int)(e:Int)(h:RAt w r B v bs e)(hb:byt bs):
  Calls Tryz.prog 120 #[.pointer (some ⟨r,0,none⟩)] w (REnd w r B e (toOk (numR 4 bs) fun x u _=>u=.int .u32 x) (toEr (numR 4 bs))):=by
 refine calls_of_cfg c120_ok (Nat.le_of_ble_eq_true rfl) ?_
 simp only[argE_nil,argE_cons,Nat.zero_add]
 iterate 2 (refine W_at c120_ok ⟨_,rfl,?_⟩;simp (disch:=first|omega|assumption|rfl|(simp only[vcS]<;>omega)|fail) only[↓vcN,vcQ,simprocAttr])
 refine callR (num_ok w r B v bs e 4 h hb (by omega)) (Keep.refl _ w) ?_ ?_
 ·intro rest φ hok u w1 v1 hk hφ hR
  have hok':=hok
  unfold numR at hok⊢
  split at hok
  ·rename_i hl
   rw[if_pos hl]
   simp only[toOk,Option.some.injEq,Prod.mk.injEq] at hok
   obtain⟨rfl,rfl⟩:=hok
   subst hφ
   have hv:=valF_lt (byt_take hb 4)
   have hlen:(bs.take 4).length=4:=by rw[List.length_take];omega
   rw[hlen] at hv
   have hcv:IntKind.u32.wrap (valF (bs.take 4))=valF (bs.take 4):=by rw[wrap_u32];omega
   simp (disch:=first|omega|assumption|rfl|(simp only[vcS]<;>omega)|fail) only[↓vcN,vcQ,simprocAttr,hcv]
   (refine W_at c120_ok ⟨_,rfl,?_⟩;simp (disch:=first|omega|assumption|rfl|(simp only[vcS]<;>omega)|fail) only[↓vcN,vcQ,simprocAttr])
   exact⟨hk,_,v1,rfl,rfl,hR⟩
  ·cases hok
 ·intro hok;exact⟨by
   unfold numR at hok⊢
   split at hok
   ·cases hok
   ·rename_i hl;rw[if_neg hl];rfl,rfl⟩
theorem ru32_ok (w:World)(r B:Nat)(v:Value)(bs:List Int)(e:Int)(h:RAt w r B v bs e)(hBw:B<w.heap.size)(hb:byt bs):
  Calls Tryz.prog 80 #[.pointer (some ⟨r,0,none⟩)] w (Ret fun u w'=>RTo w w' r B v bs e (numR 4 bs) (fun x u _=>u=.int .u32 x) (.int .u32 0) u):=by
 refine calls_of_cfg c80_ok (Nat.le_of_ble_eq_true rfl) ?_
 simp only[argE_nil,argE_cons,Nat.zero_add]
 iterate 2 (refine W_at c80_ok ⟨_,rfl,?_⟩;simp (disch:=first|omega|assumption|rfl|(simp only[vcS]<;>omega)|fail) only[↓vcN,vcQ,simprocAttr])
 refine callV_ret (try_ok (ty:=24) c119_ok c135_ok (by kernel_rfl) rfl (by decide) w 120 #[] (by kernel_rfl) r B v bs e h hBw (numR 4 bs) (fun x u _=>u=.int .u32 x)
  (fun he w1 hE=>?_) (fun a u w' hu=>by subst hu;rfl) (fun a u w' w'' p c _ _ _ hu=>hu)) ?_
 ·subst he
  rw[Array.append_empty]
  exact u321_ok w1 r B v bs 0 (h.ext hE) hb
 ·intro u w1 hT
  (refine W_at c80_ok ⟨_,rfl,?_⟩;simp (disch:=first|omega|assumption|rfl|(simp only[vcS]<;>omega)|fail) only[↓vcN,vcQ,simprocAttr,Ret_returned])
  exact hT
theorem u641_ok (w:World)(r B:Nat)(v:Value)(bs:List Int)(e:Int)(h:RAt w r B v bs e)(hb:byt bs):
  Calls Tryz.prog 137 #[.pointer (some ⟨r,0,none⟩)] w (REnd w r B e (toOk (numR 8 bs) fun x u _=>u=.int .u64 x) (toEr (numR 8 bs))):=by
 refine calls_of_cfg c137_ok (Nat.le_of_ble_eq_true rfl) ?_
 simp only[argE_nil,argE_cons,Nat.zero_add]
 iterate 2 (refine W_at c137_ok ⟨_,rfl,?_⟩;simp (disch:=first|omega|assumption|rfl|(simp only[vcS]<;>omega)|fail) only[↓vcN,vcQ,simprocAttr])
 refine callR (num_ok w r B v bs e 8 h hb (by omega)) (Keep.refl _ w) ?_ ?_
 ·intro rest φ hok u w1 v1 hk hφ hR
  have hok':=hok
  unfold numR at hok⊢
  split at hok
  ·rename_i hl
   rw[if_pos hl]
   simp only[toOk,Option.some.injEq,Prod.mk.injEq] at hok
   obtain⟨rfl,rfl⟩:=hok
   subst hφ
   have hv:=valF_lt (byt_take hb 8)
   have hlen:(bs.take 8).length=8:=by rw[List.length_take];omega
   rw[hlen] at hv
   (refine W_at c137_ok ⟨_,rfl,?_⟩;simp (disch:=first|omega|assumption|rfl|(simp only[vcS]<;>omega)|fail) only[↓vcN,vcQ,simprocAttr])
   exact⟨hk,_,v1,rfl,rfl,hR⟩
  ·cases hok
 ·intro hok;exact⟨by
   unfold numR at hok⊢
   split at hok
   ·cases hok
   ·rename_i hl;rw[if_neg hl];rfl,rfl⟩
theorem ru64_ok (w:World)(r B:Nat)(v:Value)(bs:List Int)(e:Int)(h:RAt w r B v bs e)(hBw:B<w.heap.size)(hb:byt bs):
  Calls Tryz.prog 128 #[.pointer (some ⟨r,0,none⟩)] w (Ret fun u w'=>RTo w w' r B v bs e (numR 8 bs) (fun x u _=>u=.int .u64 x) (.int .u64 0) u):=by
 refine calls_of_cfg c128_ok (Nat.le_of_ble_eq_true rfl) ?_
 simp only[argE_nil,argE_cons,Nat.zero_add]
 iterate 2 (refine W_at c128_ok ⟨_,rfl,?_⟩;simp (disch:=first|omega|assumption|rfl|(simp only[vcS]<;>omega)|fail) only[↓vcN,vcQ,simprocAttr])
 refine callV_ret (try_ok (ty:=75) c82_ok c123_ok (by kernel_rfl) rfl (by decide) w 137 #[] (by kernel_rfl) r B v bs e h hBw (numR 8 bs) (fun x u _=>u=.int .u64 x)
  (fun he w1 hE=>?_) (fun a u w' hu=>by subst hu;rfl) (fun a u w' w'' p c _ _ _ hu=>hu)) ?_
 ·subst he
  rw[Array.append_empty]
  exact u641_ok w1 r B v bs 0 (h.ext hE) hb
 ·intro u w1 hT
  (refine W_at c128_ok ⟨_,rfl,?_⟩;simp (disch:=first|omega|assumption|rfl|(simp only[vcS]<;>omega)|fail) only[↓vcN,vcQ,simprocAttr,Ret_returned])
  exact hT
end Go.Proofs
