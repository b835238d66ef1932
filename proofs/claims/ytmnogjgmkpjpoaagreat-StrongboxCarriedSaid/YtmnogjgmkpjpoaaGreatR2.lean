/- Laws that the last text of this claim uses, part 2: written for it, merged by program. -/
import Derived.Test.YtmnogjgmkpjpoaaGreatR1
set_option linter.unusedSimpArgs false
set_option linter.unusedVariables false
set_option linter.constructorNameAsVariable false
namespace Go.Proofs
open Go.Vc
set_option maxRecDepth 10000
theorem eqS_some (neg:Bool)(a:Addr)(n c m d:Nat):eqSR neg (.slice (some a) n c) (.slice none m d)=some (.bool neg):=by simp [eqSR]
theorem eqS_none (neg:Bool)(n c m d:Nat):eqSR neg (.slice none n c) (.slice none m d)=some (.bool (!neg)):=by simp [eqSR]
theorem clone_ok (w:World)(v:Value)(bs:List Int)(h:Rd w v bs)(hn:bs.length≤1000000000):
  Calls Tryz.prog 79 #[v] w (Ret fun u w'=>Own1 w' u bs∧Ext w w'∧∀g,blk u g→w.heap.size≤g):=by
 refine calls_of_cfg c79_ok (Nat.le_of_ble_eq_true rfl) ?_
 simp only[argE_nil,argE_cons,Nat.zero_add]
 have h0:=h
 obtain⟨⟨q,c,rfl,hc⟩,hm,hr⟩:=h
 (refine W_at c79_ok ⟨_,rfl,?_⟩;simp (disch:=first|omega|assumption|rfl|(simp only[vcS]<;>omega)|fail) only[↓vcN,vcQ,simprocAttr])
 cases q with
 |none=>
  have hb0:bs=[]:=by
   cases bs with
   |nil=>rfl
   |cons b bs=>
    simp only[rdS,List.length_cons] at hr
    rw[if_neg (by omega)] at hr;cases hr
  subst hb0
  iterate 4 (refine W_at c79_ok ⟨_,rfl,?_⟩;simp (disch:=first|omega|assumption|rfl|(simp only[vcS]<;>omega)|fail) only[↓vcN,vcQ,simprocAttr,Ret_returned])
  exact⟨Own1.nil w,Keep.refl _ w,fun g hg=>by cases hg⟩
 |some a=>
  iterate 3 (refine W_at c79_ok ⟨_,rfl,?_⟩;simp (disch:=first|omega|assumption|rfl|(simp only[vcS]<;>omega)|fail) only[↓vcN,vcQ,simprocAttr])
  have hE:Ext w (w.alloc (.cells #[] 5)):=by (repeat' first|exact Keep.refl _ _|assumption|refine Keep.drew ?_|refine Keep.alloc ?_ _|refine Keep.putN ?_ _ ?_|refine Keep.setCell ?_ _ ?_|refine Keep.setO ?_ _ ?_|exact fun _=>Or.inl rfl|exact fun _=>Or.inr rfl|exact fun _=>rfl|(intro hh;exfalso;((try simp only[vcS] at hh)<;>omega)))
  have ho:Own1 (w.alloc (.cells #[] 5)) (.slice (some ⟨w.heap.size,0,none⟩) 0 0) []:=own_lit1 (bs:=[]) (Nat.zero_le _)
  refine appB ho (h0.ext hE) (by simp;omega) fun v' w' h1 h2 h3=>?_
  (refine W_at c79_ok ⟨_,rfl,?_⟩;simp (disch:=first|omega|assumption|rfl|(simp only[vcS]<;>omega)|fail) only[↓vcN,vcQ,simprocAttr,Ret_returned])
  refine⟨h1,hE.trans h2 fun i hi hb=>?_,fun g hg=>?_⟩
  ·cases hb;exact absurd hi (Nat.lt_irrefl _)
  ·rcases h3 g hg with hb|hb
   ·cases hb;exact Nat.le_refl _
   ·rw[size_alloc] at hb;omega
structure WAt (w:World)(p:Nat)(v:Value)(bs:List Int):Prop where
 at':w.heap[p]?=some (.cells #[v] 81 (0,0))
 own:Own1 w v bs
theorem WAt.keep {S:Nat→Prop}{w w':World}{p:Nat}{v:Value}{bs:List Int}(h:WAt w p v bs)(k:Keep S w w')(hp:¬S p)(hS:∀g,blk v g→¬S g):WAt w' p v bs:=⟨k.at h.at' hp,h.own.keep k hS⟩
theorem WAt.ne {w:World}{p:Nat}{v:Value}{bs:List Int}(h:WAt w p v bs):¬blk v p:=fun hb=>by
 obtain⟨cur,hc⟩:=row_type h.own hb
 rw[h.at'] at hc;cases hc
def WS (p:Nat)(v:Value)(i:Nat):Prop:=i=p∨blk v i
structure WTo (w w':World)(p:Nat)(v:Value)(bs:List Int):Prop where
 to:∃v',WAt w' p v' bs∧∀g,blk v' g→blk v g∨w.heap.size≤g
 keep:Keep (WS p v) w w'
theorem WTo.trans {w w1 w2:World}{p:Nat}{v v1:Value}{bs:List Int}(h1:Keep (WS p v) w w1)(hb:∀g,blk v1 g→blk v g∨w.heap.size≤g)(h2:WTo w1 w2 p v1 bs):WTo w w2 p v bs:=by
 obtain⟨⟨v2,ha,hg⟩,hk⟩:=h2
 refine⟨⟨v2,ha,fun g h=>?_⟩,h1.trans hk fun i hi hs=>?_⟩
 ·rcases hg g h with h|h
  ·exact hb g h
  ·exact .inr (Nat.le_trans h1.size h)
 ·rcases hs with rfl|hs
  ·exact .inl rfl
  ·rcases hb i hs with h|h
   ·exact .inr h
   ·omega
theorem WAt.lt {w:World}{p:Nat}{v:Value}{bs:List Int}(h:WAt w p v bs):p<w.heap.size:=lt_of_heap h.at'
theorem WAt.store {w w1:World}{p:Nat}{v v':Value}{bs bs':List Int}(h:WAt w p v bs)(ho:Own1 w1 v' bs')(hk:Keep (blk v) w w1)(hb:∀g,blk v' g→blk v g∨w.heap.size≤g):
  w1.heap[p]?=some (.cells #[v] 81 (0,0))∧WAt (w1.setCell ⟨p,0,none⟩ v') p v' bs'∧Keep (WS p v) w (w1.setCell ⟨p,0,none⟩ v'):=by
 have hp:=hk.at h.at' h.ne
 refine⟨hp,⟨?_,?_⟩,?_⟩
 ·rw[heap_setCell_eq hp];rfl
 ·refine ho.keep (S:=fun i=>i=p) ((Keep.refl _ w1).setCell _ fun _=>rfl) ?_
  rintro g hg rfl
  rcases hb _ hg with hb|hb
  ·exact h.ne hb
  ·have:=h.lt;omega
 ·exact(hk.mono fun _ h=>.inr h).setCell _ fun _=>.inl rfl
def lowF:Nat→Int→List Int
 |0,_=>[]
 |n+1,x=>x%256::lowF n (x/256)
theorem lowF_len:∀(n:Nat) (x:Int),(lowF n x).length=n
 |0,_=>rfl
 |n+1,x=>by simp [lowF,lowF_len n]
theorem lowF_byt:∀(n:Nat) (x:Int),byt (lowF n x)
 |0,_=>byt_nil
 |n+1,x=>by
  intro b hb
  simp only[lowF,List.mem_cons] at hb
  rcases hb with rfl|hb
  ·omega
  ·exact lowF_byt n _ b hb
theorem shr_8 (x:Int):x.fdiv (2^Nat.min 8 IntKind.u64.bits)=x/256:=by
 show x.fdiv (2^(Nat.min 8 64))=x/256
 rw[show Nat.min 8 64=8 from rfl,Int.fdiv_eq_ediv_of_nonneg _ (by decide)]
 rfl
theorem number_ok (w:World)(p:Nat)(v:Value)(bs:List Int)(x:Int)(n:Nat)(h:WAt w p v bs)(hn:n≤8)(hl:bs.length≤100000000):
  Calls Tryz.prog 78 #[.pointer (some ⟨p,0,none⟩),.int .u64 x,.int .i64 n] w (Ret fun _ w'=>WTo w w' p v (bs++lowF n x)):=by
 refine calls_of_cfg c78_ok (Nat.le_of_ble_eq_true rfl) ?_
 simp only[argE_nil,argE_cons,Nat.reduceAdd,Nat.zero_add]
 (refine W_at c78_ok ⟨_,rfl,?_⟩;simp (disch:=first|omega|assumption|rfl|(simp only[vcS]<;>omega)|fail) only[↓vcN,vcQ,simprocAttr])
 generalize hT:bs++lowF n x=T
 have L:∀(k i:Nat) (x:Int) (wj:World) (vj:Value) (bj:List Int),k+i=n→WAt wj p vj bj→Keep (WS p v) w wj→(∀g,blk vj g→blk v g∨w.heap.size≤g)→bj.length+k≤1000000000→bj++lowF k x=T→
   W Tryz.prog (Ret fun _ w'=>WTo w w' p v T) 78 6 [(0,.pointer (some ⟨p,0,none⟩)),(1,.int .u64 x),(6,.int .i64 n),(7,.int .i64 i)] wj:=by
  intro k
  induction k with
  |zero=>
   intro i x wj vj bj hk hW hK hB hl hT
   have hlt:¬((i:Int)<n):=by omega
   iterate 3 (refine W_at c78_ok ⟨_,rfl,?_⟩;simp (disch:=first|omega|assumption|rfl|(simp only[vcS]<;>omega)|fail) only[↓vcN,vcQ,simprocAttr,hlt,Ret_returned])
   rw[lowF,List.append_nil] at hT
   rw[←hT]
   exact⟨⟨vj,hW,hB⟩,hK⟩
  |succ k ih=>
   intro i x wj vj bj hk hW hK hB hl hT
   have hlt:((i:Int)<n):=by omega
   have hwi:IntKind.i64.wrap ((i:Int)+1)=((i+1:Nat):Int):=wrap_i64 (by omega) (by omega)
   have hat:=hW.at'
   iterate 3 (refine W_at c78_ok ⟨_,rfl,?_⟩;simp (disch:=first|omega|assumption|rfl|(simp only[vcS]<;>omega)|fail) only[↓vcN,vcQ,simprocAttr,hlt,hat,wrap_u8])
   refine appL (news:=[x%256]) hW.own (by simp;omega) fun v' w' h1 h2 h3=>?_
   obtain⟨hp,hW',hK'⟩:=hW.store h1 h2 h3
   refine⟨one_row h1,wr1_of hp (by simp),?_⟩
   generalize w'.setCell _ _=w'' at hW' hK'⊢
   iterate 3 (refine W_at c78_ok ⟨_,rfl,?_⟩;simp (disch:=first|omega|assumption|rfl|(simp only[vcS]<;>omega)|fail) only[↓vcN,vcQ,simprocAttr,shr_8,hwi])
   refine ih (i+1) (x/256) w'' v' _ (by omega) hW' (hK.trans hK' fun j hj hs=>?_) (fun g hg=>?_) (by simp;omega) (by rw[←hT];simp [lowF])
   ·rcases hs with rfl|hs
    ·exact .inl rfl
    ·rcases hB j hs with h|h
     ·exact .inr h
     ·omega
   ·rcases h3 g hg with h|h
    ·exact hB g h
    ·exact .inr (Nat.le_trans hK.size h)
 exact L n 0 x w v bs (by omega) h (Keep.refl _ w) (fun g h=>.inl h) (by omega) hT
theorem u8_ok (w:World)(p:Nat)(v:Value)(bs:List Int)(x:Int)(h:WAt w p v bs)(hl:bs.length≤100000000)(hx:0≤x∧x≤255):
  Calls Tryz.prog 88 #[.pointer (some ⟨p,0,none⟩),.int .u8 x] w (Ret fun _ w'=>WTo w w' p v (bs++lowF 1 x)):=by
 refine calls_of_cfg c88_ok (Nat.le_of_ble_eq_true rfl) ?_
 simp only[argE_nil,argE_cons,Nat.reduceAdd,Nat.zero_add]
 have hw:IntKind.u64.wrap x=x:=by rw[wrap_u64];omega
 (refine W_at c88_ok ⟨_,rfl,?_⟩;simp (disch:=first|omega|assumption|rfl|(simp only[vcS]<;>omega)|fail) only[↓vcN,vcQ,simprocAttr,hw])
 refine callV_ret (number_ok w p v bs x 1 h (by omega) hl) ?_
 intro _ w1 hT
 (refine W_at c88_ok ⟨_,rfl,?_⟩;simp (disch:=first|omega|assumption|rfl|(simp only[vcS]<;>omega)|fail) only[↓vcN,vcQ,simprocAttr,Ret_returned])
 exact hT
theorem u32_ok (w:World)(p:Nat)(v:Value)(bs:List Int)(x:Int)(h:WAt w p v bs)(hl:bs.length≤100000000)(hx:0≤x∧x≤4294967295):
  Calls Tryz.prog 35 #[.pointer (some ⟨p,0,none⟩),.int .u32 x] w (Ret fun _ w'=>WTo w w' p v (bs++lowF 4 x)):=by
 refine calls_of_cfg c35_ok (Nat.le_of_ble_eq_true rfl) ?_
 simp only[argE_nil,argE_cons,Nat.reduceAdd,Nat.zero_add]
 have hw:IntKind.u64.wrap x=x:=by rw[wrap_u64];omega
 (refine W_at c35_ok ⟨_,rfl,?_⟩;simp (disch:=first|omega|assumption|rfl|(simp only[vcS]<;>omega)|fail) only[↓vcN,vcQ,simprocAttr,hw])
 refine callV_ret (number_ok w p v bs x 4 h (by omega) hl) ?_
 intro _ w1 hT
 (refine W_at c35_ok ⟨_,rfl,?_⟩;simp (disch:=first|omega|assumption|rfl|(simp only[vcS]<;>omega)|fail) only[↓vcN,vcQ,simprocAttr,Ret_returned])
 exact hT
theorem u64_ok (w:World)(p:Nat)(v:Value)(bs:List Int)(x:Int)(h:WAt w p v bs)(hl:bs.length≤100000000):
  Calls Tryz.prog 50 #[.pointer (some ⟨p,0,none⟩),.int .u64 x] w (Ret fun _ w'=>WTo w w' p v (bs++lowF 8 x)):=by
 refine calls_of_cfg c50_ok (Nat.le_of_ble_eq_true rfl) ?_
 simp only[argE_nil,argE_cons,Nat.reduceAdd,Nat.zero_add]
 (refine W_at c50_ok ⟨_,rfl,?_⟩;simp (disch:=first|omega|assumption|rfl|(simp only[vcS]<;>omega)|fail) only[↓vcN,vcQ,simprocAttr])
 refine callV_ret (number_ok w p v bs x 8 h (by omega) hl) ?_
 intro _ w1 hT
 (refine W_at c50_ok ⟨_,rfl,?_⟩;simp (disch:=first|omega|assumption|rfl|(simp only[vcS]<;>omega)|fail) only[↓vcN,vcQ,simprocAttr,Ret_returned])
 exact hT
def wideF (n:Int):Nat:=if n<253 then 0 else if n<65536 then 2 else if n<4294967296 then 4 else 8
theorem wide_ok (w:World)(n:Int):Calls Tryz.prog 87 #[.int .u64 n] w (Ret fun u w'=>u=.int .i64 (wideF n)∧w'=w):=by
 refine calls_of_cfg c87_ok (Nat.le_of_ble_eq_true rfl) ?_
 simp only[argE_nil,argE_cons,Nat.zero_add]
 (refine W_at c87_ok ⟨_,rfl,?_⟩;simp (disch:=first|omega|assumption|rfl|(simp only[vcS]<;>omega)|fail) only[↓vcN,vcQ,simprocAttr])
 unfold wideF
 by_cases h1:n<253
 ·rw[if_pos h1]
  (refine W_at c87_ok ⟨_,rfl,?_⟩;simp (disch:=first|omega|assumption|rfl|(simp only[vcS]<;>omega)|fail) only[↓vcN,vcQ,simprocAttr,h1]);(refine W_at c87_ok ?_;refine⟨_,rfl,?_⟩;simp (disch:=first|omega|assumption|rfl|(simp only[vcS]<;>omega)|fail) only[↓vcN,vcQ,simprocAttr]);(refine W_at c87_ok ?_;refine⟨_,rfl,?_⟩;simp (disch:=first|omega|assumption|rfl|(simp only[vcS]<;>omega)|fail) only[↓vcN,vcQ,simprocAttr]);(refine W_at c87_ok ?_;refine⟨_,rfl,?_⟩;simp (disch:=first|omega|assumption|rfl|(simp only[vcS]<;>omega)|fail) only[↓vcN,vcQ,simprocAttr,Ret_returned])
 rw[if_neg h1]
 by_cases h2:n<65536
 ·rw[if_pos h2]
  (refine W_at c87_ok ⟨_,rfl,?_⟩;simp (disch:=first|omega|assumption|rfl|(simp only[vcS]<;>omega)|fail) only[↓vcN,vcQ,simprocAttr,h1]);(refine W_at c87_ok ?_;refine⟨_,rfl,?_⟩;simp (disch:=first|omega|assumption|rfl|(simp only[vcS]<;>omega)|fail) only[↓vcN,vcQ,simprocAttr]);(refine W_at c87_ok ?_;refine⟨_,rfl,?_⟩;simp (disch:=first|omega|assumption|rfl|(simp only[vcS]<;>omega)|fail) only[↓vcN,vcQ,simprocAttr,h2]);(refine W_at c87_ok ?_;refine⟨_,rfl,?_⟩;simp (disch:=first|omega|assumption|rfl|(simp only[vcS]<;>omega)|fail) only[↓vcN,vcQ,simprocAttr]);(refine W_at c87_ok ?_;refine⟨_,rfl,?_⟩;simp (disch:=first|omega|assumption|rfl|(simp only[vcS]<;>omega)|fail) only[↓vcN,vcQ,simprocAttr]);(refine W_at c87_ok ?_;refine⟨_,rfl,?_⟩;simp (disch:=first|omega|assumption|rfl|(simp only[vcS]<;>omega)|fail) only[↓vcN,vcQ,simprocAttr,Ret_returned])
 rw[if_neg h2]
 by_cases h3:n<4294967296
 ·rw[if_pos h3]
  (refine W_at c87_ok ⟨_,rfl,?_⟩;simp (disch:=first|omega|assumption|rfl|(simp only[vcS]<;>omega)|fail) only[↓vcN,vcQ,simprocAttr,h1]);(refine W_at c87_ok ?_;refine⟨_,rfl,?_⟩;simp (disch:=first|omega|assumption|rfl|(simp only[vcS]<;>omega)|fail) only[↓vcN,vcQ,simprocAttr]);(refine W_at c87_ok ?_;refine⟨_,rfl,?_⟩;simp (disch:=first|omega|assumption|rfl|(simp only[vcS]<;>omega)|fail) only[↓vcN,vcQ,simprocAttr,h2]);(refine W_at c87_ok ?_;refine⟨_,rfl,?_⟩;simp (disch:=first|omega|assumption|rfl|(simp only[vcS]<;>omega)|fail) only[↓vcN,vcQ,simprocAttr]);(refine W_at c87_ok ?_;refine⟨_,rfl,?_⟩;simp (disch:=first|omega|assumption|rfl|(simp only[vcS]<;>omega)|fail) only[↓vcN,vcQ,simprocAttr,h3]);(refine W_at c87_ok ?_;refine⟨_,rfl,?_⟩;simp (disch:=first|omega|assumption|rfl|(simp only[vcS]<;>omega)|fail) only[↓vcN,vcQ,simprocAttr]);(refine W_at c87_ok ?_;refine⟨_,rfl,?_⟩;simp (disch:=first|omega|assumption|rfl|(simp only[vcS]<;>omega)|fail) only[↓vcN,vcQ,simprocAttr]);(refine W_at c87_ok ?_;refine⟨_,rfl,?_⟩;simp (disch:=first|omega|assumption|rfl|(simp only[vcS]<;>omega)|fail) only[↓vcN,vcQ,simprocAttr,Ret_returned])
 rw[if_neg h3]
 (refine W_at c87_ok ⟨_,rfl,?_⟩;simp (disch:=first|omega|assumption|rfl|(simp only[vcS]<;>omega)|fail) only[↓vcN,vcQ,simprocAttr,h1]);(refine W_at c87_ok ?_;refine⟨_,rfl,?_⟩;simp (disch:=first|omega|assumption|rfl|(simp only[vcS]<;>omega)|fail) only[↓vcN,vcQ,simprocAttr]);(refine W_at c87_ok ?_;refine⟨_,rfl,?_⟩;simp (disch:=first|omega|assumption|rfl|(simp only[vcS]<;>omega)|fail) only[↓vcN,vcQ,simprocAttr,h2]);(refine W_at c87_ok ?_;refine⟨_,rfl,?_⟩;simp (disch:=first|omega|assumption|rfl|(simp only[vcS]<;>omega)|fail) only[↓vcN,vcQ,simprocAttr]);(refine W_at c87_ok ?_;refine⟨_,rfl,?_⟩;simp (disch:=first|omega|assumption|rfl|(simp only[vcS]<;>omega)|fail) only[↓vcN,vcQ,simprocAttr,h3]);(refine W_at c87_ok ?_;refine⟨_,rfl,?_⟩;simp (disch:=first|omega|assumption|rfl|(simp only[vcS]<;>omega)|fail) only[↓vcN,vcQ,simprocAttr]);(refine W_at c87_ok ?_;refine⟨_,rfl,?_⟩;simp (disch:=first|omega|assumption|rfl|(simp only[vcS]<;>omega)|fail) only[↓vcN,vcQ,simprocAttr]);(refine W_at c87_ok ?_;refine⟨_,rfl,?_⟩;simp (disch:=first|omega|assumption|rfl|(simp only[vcS]<;>omega)|fail) only[↓vcN,vcQ,simprocAttr,Ret_returned])
theorem length_ok (w:World)(n:Int):Calls Tryz.prog 124 #[.int .u64 n] w (Ret fun u w'=>u=.int .i64 (wideF n+1:Nat)∧w'=w):=by
 refine calls_of_cfg c124_ok (Nat.le_of_ble_eq_true rfl) ?_
 simp only[argE_nil,argE_cons,Nat.zero_add]
 iterate 2 (refine W_at c124_ok ⟨_,rfl,?_⟩;simp (disch:=first|omega|assumption|rfl|(simp only[vcS]<;>omega)|fail) only[↓vcN,vcQ,simprocAttr])
 refine callV_ret (wide_ok w n) ?_
 rintro _ w1 ⟨rfl,hw⟩
 obtain rfl:w=w1:=hw.symm
 have h8:wideF n≤8:=by unfold wideF;split<;>(try split)<;>(try split)<;>omega
 have hw:IntKind.i64.wrap ((wideF n:Nat)+1:Int)=((wideF n+1:Nat):Int):=wrap_i64 (by omega) (by omega)
 simp (disch:=first|omega|assumption|rfl|(simp only[vcS]<;>omega)|fail) only[↓vcN,vcQ,simprocAttr,hw]
 (refine W_at c124_ok ⟨_,rfl,?_⟩;simp (disch:=first|omega|assumption|rfl|(simp only[vcS]<;>omega)|fail) only[↓vcN,vcQ,simprocAttr,Ret_returned])
end Go.Proofs
namespace Go.Proofs
open Go.Vc
set_option maxRecDepth 10000
abbrev IE:=Int×Value
def MapI (w:World)(r:Nat)(l:List IE):Prop:=∃es c,w.heap[r]?=some (.map es c)∧es.toList.map (fun e=>(e.key,e.val))=l.map fun p=>(Value.int .i64 p.1,p.2)
theorem kOK_int (n:Int):kOK (skR [(1,.i .i64)]) false (.int .i64 n)=true:=by simp [kOK,skR,conf,SK.ok]
theorem MapI.mapE {w:World}{r:Nat}{l:List IE}{es:Array MapEntry}{c:Nat}(h1:w.heap[r]?=some (.map es c))(h2:es.toList.map (fun e=>(e.key,e.val))=l.map fun p=>(Value.int .i64 p.1,p.2)):
  mapE (skR [(1,.i .i64)]) false w r=some (es,c):=by
 unfold Vc.mapE
 rw[h1]
 have hall:es.toList.all (fun e=>kOK (skR [(1,.i .i64)]) false e.key)=true:=by
  rw[List.all_eq_true]
  intro e he
  have h3:(e.key,e.val)∈es.toList.map (fun e=>(e.key,e.val)):=List.mem_map_of_mem he
  rw[h2] at h3
  obtain⟨p,_,hp⟩:=List.mem_map.1 h3
  have hk:e.key=.int .i64 p.1:=(congrArg Prod.fst hp).symm
  rw[hk,kOK_int]
 simp only[hall,if_true]
def idxM (k:Int):List IE→Option Nat
 |[]=>none
 |p::l=>if k=p.1 then some 0 else (idxM k l).map (· +1)
theorem fnd_int {k:Int}:∀{l:List IE} {es:List MapEntry} (j:Nat),es.map (fun e=>(e.key,e.val))=l.map (fun p=>(Value.int .i64 p.1,p.2))→
  fnd (.int .i64 k) es j=match idxM k l with
   |some i=>(l[i]?).map fun p=>(j+i,p.2)
   |none=>none
 |[],es,j,h=>by simp at h;subst h;simp [fnd,idxM]
 |p::l,[],j,h=>by simp at h
 |p::l,m::es,j,h=>by
  simp only[List.map_cons,List.cons.injEq,Prod.mk.injEq] at h
  obtain⟨⟨h1,h2⟩,h3⟩:=h
  have ih:=fnd_int (k:=k) (j+1) h3
  have h1':m.key=.int .i64 p.1:=h1
  simp only[fnd,idxM]
  rw[h1']
  by_cases hk:k=p.1
  ·rw[hk,if_pos rfl];simp [h2]
  ·have hne:¬(Value.int .i64 k=Value.int .i64 p.1):=by intro h;cases h;exact hk rfl
   rw[if_neg hne,ih,if_neg hk]
   cases hq:idxM k l with
   |none=>simp
   |some i=>simp [Nat.add_assoc,Nat.add_comm 1 i]
theorem idxM_lt {k:Int}:∀{l:List IE} {i:Nat},idxM k l=some i→∃p,l[i]?=some p∧p.1=k
 |[],i,h=>by simp [idxM] at h
 |p::l,i,h=>by
  simp only[idxM] at h
  split at h
  ·rename_i hk;simp at h;subst h;exact⟨p,by simp,hk.symm⟩
  ·cases hq:idxM k l with
   |none=>simp [hq] at h
   |some j=>simp [hq] at h;subst h;obtain⟨p',h1,h2⟩:=idxM_lt hq;exact⟨p',by simpa using h1,h2⟩
def getM (k:Int)(l:List IE):Option Value:=(idxM k l).bind fun i=>(l[i]?).map (·.2)
def putM (k:Int)(v:Value)(l:List IE):List IE:=match idxM k l with
 |some i=>l.set i (k,v)
 |none=>l++[(k,v)]
theorem MapI.lkp {w:World}{r:Nat}{l:List IE}(h:MapI w r l)(z:Value)(k:Int)(ok:Bool):
  lkpR (skR [(1,.i .i64)]) false z ok w (.map (some r)) (.int .i64 k)=some (match getM k l with|some v=>packL ok v true|none=>packL ok z false):=by
 obtain⟨es,c,h1,h2⟩:=h
 unfold lkpR
 rw[if_pos (kOK_int k)]
 simp only[MapI.mapE h1 h2,Option.map_some]
 rw[fnd_int 0 h2]
 unfold getM
 cases hq:idxM k l with
 |none=>rfl
 |some i=>obtain⟨p,h3,_⟩:=idxM_lt hq;simp [h3]
theorem MapI.put {w:World}{r:Nat}{l:List IE}{K:World→Prop}(h:MapI w r l)(k:Int)(v:Value)(hk:∀w',MapI w' r (putM k v l)→Keep (fun i=>i=r) w w'→K w'):
  mapUV (skR [(1,.i .i64)]) false (.map (some r)) (.int .i64 k) v w K:=by
 obtain⟨es,c,h1,h2⟩:=h
 refine⟨kOK_int k,?_⟩
 rw[MapI.mapE h1 h2,getV_some]
 have hlt:=lt_of_heap h1
 refine hk _ ?_ ((Keep.refl _ w).setO _ fun _=>rfl)
 unfold putE
 rw[fnd_int 0 h2]
 unfold putM
 cases hq:idxM k l with
 |none=>
  refine⟨_,_,heap_setO_eq _ _ _ hlt,?_⟩
  simp [h2]
 |some i=>
  obtain⟨p,h3,h4⟩:=idxM_lt hq
  simp only[h3,Option.map_some,Nat.zero_add]
  refine⟨_,_,heap_setO_eq _ _ _ hlt,?_⟩
  have hlen:es.toList.length=l.length:=by simpa using congrArg List.length h2
  apply List.ext_getElem?
  intro j
  have h5:=congrArg (fun x=>x[j]?) h2
  simp only[List.getElem?_map,Array.toList_modify,List.getElem?_modify,List.getElem?_set] at h5⊢
  by_cases hij:i=j
  ·subst hij
   have hil:i<l.length:=(List.getElem?_eq_some_iff.1 h3).1
   have hie:i<es.size:=by rw[←Array.length_toList];omega
   simp [hil,hie]
  ·simp only[hij,if_false]
   rw[←h5]
   cases es.toList[j]?<;>simp
theorem MapI.empty (w:World):MapI (w.alloc (.map #[] 0)) w.heap.size []:=⟨#[],0,heap_new _ _ _ rfl,rfl⟩
end Go.Proofs
namespace Go.Proofs
open Go.Vc
set_option maxRecDepth 10000
theorem raw_ok (w:World)(p:Nat)(v:Value)(bs:List Int)(x:Value)(news:List Int)(h:WAt w p v bs)(hx:Rd w x news)(hl:bs.length+news.length≤100000000):
  Calls Tryz.prog 36 #[.pointer (some ⟨p,0,none⟩),x] w (Ret fun _ w'=>WTo w w' p v (bs++news)):=by
 refine calls_of_cfg c36_ok (Nat.le_of_ble_eq_true rfl) ?_
 simp only[argE_nil,argE_cons,Nat.reduceAdd,Nat.zero_add]
 have hat:=h.at'
 (refine W_at c36_ok ⟨_,rfl,?_⟩;simp (disch:=first|omega|assumption|rfl|(simp only[vcS]<;>omega)|fail) only[↓vcN,vcQ,simprocAttr,hat])
 refine appB h.own hx (by omega) fun v' w' h1 h2 h3=>?_
 obtain⟨hp,hW',hK'⟩:=h.store h1 h2 h3
 refine⟨one_row h1,wr1_of hp (by simp),?_⟩
 (refine W_at c36_ok ⟨_,rfl,?_⟩;simp (disch:=first|omega|assumption|rfl|(simp only[vcS]<;>omega)|fail) only[↓vcN,vcQ,simprocAttr,Ret_returned])
 exact⟨⟨v',hW',h3⟩,hK'⟩
theorem out_ok (w:World)(p:Nat)(v:Value)(bs:List Int)(h:WAt w p v bs)(hl:bs.length≤100000000):
  Calls Tryz.prog 37 #[.pointer (some ⟨p,0,none⟩)] w (Ret fun u w'=>Own1 w' u bs∧Ext w w'∧∀g,blk u g→w.heap.size≤g):=by
 refine calls_of_cfg c37_ok (Nat.le_of_ble_eq_true rfl) ?_
 simp only[argE_nil,argE_cons,Nat.zero_add]
 have hat:=h.at'
 iterate 2 (refine W_at c37_ok ⟨_,rfl,?_⟩;simp (disch:=first|omega|assumption|rfl|(simp only[vcS]<;>omega)|fail) only[↓vcN,vcQ,simprocAttr,hat])
 refine callV_ret (clone_ok w v bs h.own.rd (by omega)) ?_
 rintro u w1 ⟨h1,h2,h3⟩
 (refine W_at c37_ok ⟨_,rfl,?_⟩;simp (disch:=first|omega|assumption|rfl|(simp only[vcS]<;>omega)|fail) only[↓vcN,vcQ,simprocAttr,Ret_returned])
 exact⟨h1,h2,h3⟩
def sizeF (n:Int):List Int:=if n<253 then [n] else if n<65536 then 253::lowF 2 n else if n<4294967296 then 254::lowF 4 n else 255::lowF 8 n
theorem size_ok (w:World)(p:Nat)(v:Value)(bs:List Int)(n:Int)(h:WAt w p v bs)(hl:bs.length≤1000000)(hn:0≤n):
  Calls Tryz.prog 44 #[.pointer (some ⟨p,0,none⟩),.int .u64 n] w (Ret fun _ w'=>WTo w w' p v (bs++sizeF n)):=by
 refine calls_of_cfg c44_ok (Nat.le_of_ble_eq_true rfl) ?_
 simp only[argE_nil,argE_cons,Nat.reduceAdd,Nat.zero_add]
 (refine W_at c44_ok ⟨_,rfl,?_⟩;simp (disch:=first|omega|assumption|rfl|(simp only[vcS]<;>omega)|fail) only[↓vcN,vcQ,simprocAttr])
 refine callV_ret (wide_ok w n) ?_
 rintro _ w1 ⟨rfl,hw⟩
 obtain rfl:w=w1:=hw.symm
 by_cases h1:n<253
 ·have hwd:wideF n=0:=by unfold wideF;rw[if_pos h1]
  have hc:IntKind.u8.wrap n=n:=by rw[wrap_u8];omega
  rw[hwd]
  iterate 4 (refine W_at c44_ok ⟨_,rfl,?_⟩;simp (disch:=first|omega|assumption|rfl|(simp only[vcS]<;>omega)|fail) only[↓vcN,vcQ,simprocAttr,hc])
  refine callV_ret (u8_ok w p v bs n h (by omega) (by omega)) ?_
  intro _ w1 hT
  (refine W_at c44_ok ⟨_,rfl,?_⟩;simp (disch:=first|omega|assumption|rfl|(simp only[vcS]<;>omega)|fail) only[↓vcN,vcQ,simprocAttr,Ret_returned])
  have e:sizeF n=lowF 1 n:=by unfold sizeF;rw[if_pos h1];simp only[lowF];congr 1;omega
  rw[e];exact hT
 ·have hkey:∀(k:Nat) (b:Int),(k=2∧b=253)∨(k=4∧b=254)∨(k=8∧b=255)→wideF n=k→sizeF n=b::lowF k n→W Tryz.prog (Ret fun x w'=>WTo w w' p v (bs++sizeF n)) 44 6
    [(0,.pointer (some ⟨p,0,none⟩)),(1,.int .u64 n),(4,.int .i64 (wideF n))] w:=by
   intro k b hkb hw hsz
   rw[hw]
   have hk0:¬((k:Int)=0):=by omega
   iterate 4 (refine W_at c44_ok ⟨_,rfl,?_⟩;simp (disch:=first|omega|assumption|rfl|(simp only[vcS]<;>omega)|fail) only[↓vcN,vcQ,simprocAttr,hk0])
   have hE0:Ext w (w.alloc (Obj.map #[] 0)):=by (repeat' first|exact Keep.refl _ _|assumption|refine Keep.drew ?_|refine Keep.alloc ?_ _|refine Keep.putN ?_ _ ?_|refine Keep.setCell ?_ _ ?_|refine Keep.setO ?_ _ ?_|exact fun _=>Or.inl rfl|exact fun _=>Or.inr rfl|exact fun _=>rfl|(intro hh;exfalso;((try simp only[vcS] at hh)<;>omega)))
   have hm0:=MapI.empty w
   have hrs:w.heap.size< (w.alloc (Obj.map #[] 0)).heap.size:=by rw[size_alloc];omega
   generalize hr:w.heap.size=r at hm0 hrs⊢
   generalize World.alloc _ _=w1 at hE0 hm0 hrs⊢
   have kp:∀(wx wy:World),Ext w wx→Keep (fun i=>i=r) wx wy→Ext w wy:=fun wx wy h k=>h.trans k fun i hi (e:i=r)=>by omega
   refine hm0.put 2 _ fun w2 hm2 hk2=>?_
   have hE2:=kp _ _ hE0 hk2
   refine hm2.put 4 _ fun w3 hm3 hk3=>?_
   have hE3:=kp _ _ hE2 hk3
   refine hm3.put 8 _ fun w4 hm4 hk4=>?_
   have hE4:=kp _ _ hE3 hk4
   rw[hm4.lkp]
   have hg:getM k (putM 8 (Value.int .u8 255) (putM 4 (Value.int .u8 254) (putM 2 (Value.int .u8 253) [])))=some (.int .u8 b):=by
    rcases hkb with ⟨rfl,rfl⟩|⟨rfl,rfl⟩|⟨rfl,rfl⟩<;>rfl
   rw[hg]
   simp (disch:=first|omega|assumption|rfl|(simp only[vcS]<;>omega)|fail) only[↓vcN,vcQ,simprocAttr,packL]
   have hW4:=h.keep hE4 (fun h=>h) fun _ _ h=>h
   refine callV_ret (u8_ok w4 p v bs b hW4 (by omega) (by omega)) ?_
   intro _ w5 hT
   obtain⟨⟨v',hW5,hb5⟩,hk5⟩:=hT
   (refine W_at c44_ok ⟨_,rfl,?_⟩;simp (disch:=first|omega|assumption|rfl|(simp only[vcS]<;>omega)|fail) only[↓vcN,vcQ,simprocAttr])
   refine callV_ret (number_ok w5 p v' _ n k hW5 (by omega) (by simp [lowF];omega)) ?_
   intro _ w6 hT
   (refine W_at c44_ok ⟨_,rfl,?_⟩;simp (disch:=first|omega|assumption|rfl|(simp only[vcS]<;>omega)|fail) only[↓vcN,vcQ,simprocAttr,Ret_returned])
   rw[hsz]
   have e:bs++b::lowF k n=bs++lowF 1 b++lowF k n:=by
    have:b%256=b:=by omega
    simp only[lowF,this,List.append_assoc,List.cons_append,List.nil_append]
   rw[e]
   refine WTo.trans ((hE4.mono fun _ h=>h.elim).trans hk5 fun i _ h=>h) (fun g hg=>?_) hT
   rcases hb5 g hg with h|h
   ·exact .inl h
   ·exact .inr (Nat.le_trans hE4.size h)
  by_cases h2:n<65536
  ·exact hkey 2 253 (.inl ⟨rfl,rfl⟩) (by unfold wideF;rw[if_neg h1,if_pos h2]) (by unfold sizeF;rw[if_neg h1,if_pos h2])
  by_cases h3:n<4294967296
  ·exact hkey 4 254 (.inr (.inl ⟨rfl,rfl⟩)) (by unfold wideF;rw[if_neg h1,if_neg h2,if_pos h3]) (by unfold sizeF;rw[if_neg h1,if_neg h2,if_pos h3])
  ·exact hkey 8 255 (.inr (.inr ⟨rfl,rfl⟩)) (by unfold wideF;rw[if_neg h1,if_neg h2,if_neg h3]) (by unfold sizeF;rw[if_neg h1,if_neg h2,if_neg h3])
theorem sizeF_len {n:Int}:1≤(sizeF n).length∧(sizeF n).length≤9:=by
 unfold sizeF;split<;>(try split)<;>(try split)<;>simp [lowF_len]
theorem bytes_ok (w:World)(p:Nat)(v:Value)(bs:List Int)(x:Value)(news:List Int)(h:WAt w p v bs)(hx:Rd w x news)(hxs:∀w',Keep (WS p v) w w'→Rd w' x news)(hl:bs.length+news.length≤900000):
  Calls Tryz.prog 45 #[.pointer (some ⟨p,0,none⟩),x] w (Ret fun _ w'=>WTo w w' p v (bs++(sizeF news.length++news))):=by
 refine calls_of_cfg c45_ok (Nat.le_of_ble_eq_true rfl) ?_
 simp only[argE_nil,argE_cons,Nat.reduceAdd,Nat.zero_add]
 have hlen:=hx.len
 have hw:IntKind.u64.wrap (news.length:Int)=news.length:=by rw[wrap_u64];omega
 (refine W_at c45_ok ⟨_,rfl,?_⟩;simp (disch:=first|omega|assumption|rfl|(simp only[vcS]<;>omega)|fail) only[↓vcN,vcQ,simprocAttr,hlen,hw])
 refine callV_ret (size_ok w p v bs news.length h (by omega) (by omega)) ?_
 intro _ w1 hT
 obtain⟨⟨v',hW,hb⟩,hk⟩:=hT
 (refine W_at c45_ok ⟨_,rfl,?_⟩;simp (disch:=first|omega|assumption|rfl|(simp only[vcS]<;>omega)|fail) only[↓vcN,vcQ,simprocAttr])
 have hsl:=@sizeF_len news.length
 refine callV_ret (raw_ok w1 p v' _ x news hW (hxs w1 hk) (by simp;omega)) ?_
 intro _ w2 hT
 (refine W_at c45_ok ⟨_,rfl,?_⟩;simp (disch:=first|omega|assumption|rfl|(simp only[vcS]<;>omega)|fail) only[↓vcN,vcQ,simprocAttr,Ret_returned])
 rw[←List.append_assoc]
 exact WTo.trans hk hb hT
end Go.Proofs
namespace Go.Proofs
open Go.Vc
set_option maxRecDepth 10000
structure New (w w':World)(u:Value)(bs:List Int):Prop where
 own:Own1 w' u bs
 ext:Ext w w'
 new:∀g,blk u g→w.heap.size≤g
theorem New.nil (w:World):New w w (.slice none 0 0) []:=⟨Own1.nil w,Keep.refl _ w,fun g h=>by cases h⟩
theorem New.keep {w w' w2:World}{u:Value}{bs:List Int}(h:New w w' u bs)(k:Ext w' w2):New w w2 u bs:=⟨h.own.ext k,h.ext.ext k,h.new⟩
theorem New.pre {w0 w w':World}{u:Value}{bs:List Int}(h:New w w' u bs)(k:Ext w0 w):New w0 w' u bs:=⟨h.own,k.ext h.ext,fun g hg=>Nat.le_trans k.size (h.new g hg)⟩
theorem New.lit {w:World}{bs:List Int}(hn:bs.length≤maxLen):New w (w.alloc (.cells (bv bs).toArray 5)) (.slice (some ⟨w.heap.size,0,none⟩) bs.length bs.length) bs:=
 ⟨own_lit1 hn,(Keep.refl _ w).alloc _,fun g hg=>by cases hg;exact Nat.le_refl _⟩
theorem appN {w0 w:World}{v x:Value}{bs news:List Int}{K:Value→World→Prop}(h:New w0 w v bs)(hx:Rd w x news)(hlen:bs.length+news.length≤1000000000)
  (hk:∀v' w',New w0 w' v' (bs++news)→Keep (blk v) w w'→(∀g,blk v' g→blk v g∨w.heap.size≤g)→K v' w'):appV 5 1 1 [.int .u8 0] v x w K:=by
 refine appB h.own hx hlen fun v' w' h1 h2 h3=>hk v' w' ⟨h1,?_,fun g hg=>?_⟩ h2 h3
 ·exact h.ext.trans h2 fun i hi hb=>by have:=h.new i hb;omega
 ·rcases h3 g hg with h4|h4
  ·exact h.new g h4
  ·exact Nat.le_trans h.ext.size h4
theorem appNL {w0 w:World}{v:Value}{bs news:List Int}{K:Value→World→Prop}(h:New w0 w v bs)(hlen:bs.length+news.length≤1000000000)
  (hk:∀v' w',New w0 w' v' (bs++news)→Keep (blk v) w w'→(∀g,blk v' g→blk v g∨w.heap.size≤g)→K v' w'):
  appV 5 1 1 [.int .u8 0] v (.slice (some ⟨w.heap.size,0,none⟩) news.length news.length) (w.alloc (.cells (bv news).toArray 5)) K:=by
 refine appL h.own hlen fun v' w' h1 h2 h3=>hk v' w' ⟨h1,?_,fun g hg=>?_⟩ h2 h3
 ·exact h.ext.trans h2 fun i hi hb=>by have:=h.new i hb;omega
 ·rcases h3 g hg with h4|h4
  ·exact h.new g h4
  ·exact Nat.le_trans h.ext.size h4
theorem low_ok (w:World)(x:Int)(n:Nat)(hx:0≤x∧x<18446744073709551616)(hn:n≤8):
  Calls Tryz.prog 59 #[.int .u64 x,.int .i64 n] w (Ret fun u w'=>New w w' u (lowF n x)):=by
 refine calls_of_cfg c59_ok (Nat.le_of_ble_eq_true rfl) ?_
 simp only[argE_nil,argE_cons,Nat.reduceAdd,Nat.zero_add]
 iterate 3 (refine W_at c59_ok ⟨_,rfl,?_⟩;simp (disch:=first|omega|assumption|rfl|(simp only[vcS]<;>omega)|fail) only[↓vcN,vcQ,simprocAttr])
 generalize hT:lowF n x=T
 have L:∀(k i:Nat) (x:Int) (wj:World) (vj:Value) (bj:List Int),k+i=n→0≤x∧x<18446744073709551616→New w wj vj bj→bj.length+k≤1000000000→bj++lowF k x=T→
   W Tryz.prog (Ret fun u w'=>New w w' u T) 59 8 [(0,.int .u64 x),(1,.int .i64 n),(5,vj),(6,.int .i64 i)] wj:=by
  intro k
  induction k with
  |zero=>
   intro i x wj vj bj hk hx hN hl hT
   have hlt:¬((i:Int)<n):=by omega
   iterate 4 (refine W_at c59_ok ⟨_,rfl,?_⟩;simp (disch:=first|omega|assumption|rfl|(simp only[vcS]<;>omega)|fail) only[↓vcN,vcQ,simprocAttr,hlt,Ret_returned])
   rw[lowF,List.append_nil] at hT
   rw[←hT];exact hN
  |succ k ih=>
   intro i x wj vj bj hk hx hN hl hT
   have hlt:((i:Int)<n):=by omega
   have hwi:IntKind.i64.wrap ((i:Int)+1)=((i+1:Nat):Int):=wrap_i64 (by omega) (by omega)
   have hm:Int.tmod x 256=x%256:=Int.tmod_eq_emod_of_nonneg hx.1
   have hc:IntKind.u8.wrap (x%256)=x%256:=by rw[wrap_u8];omega
   have hd:IntKind.u64.wrap (Int.tdiv x 256)=x/256:=by rw[Int.tdiv_eq_ediv_of_nonneg hx.1,wrap_u64];omega
   iterate 3 (refine W_at c59_ok ⟨_,rfl,?_⟩;simp (disch:=first|omega|assumption|rfl|(simp only[vcS]<;>omega)|fail) only[↓vcN,vcQ,simprocAttr,hlt,hm,hc])
   refine appNL (news:=[x%256]) hN (by simp;omega) fun v' w' h1 _ _=>?_
   iterate 3 (refine W_at c59_ok ⟨_,rfl,?_⟩;simp (disch:=first|omega|assumption|rfl|(simp only[vcS]<;>omega)|fail) only[↓vcN,vcQ,simprocAttr,hd,hwi])
   exact ih (i+1) (x/256) w' v' _ (by omega) (by omega) h1 (by simp;omega) (by rw[←hT];simp [lowF])
 exact L n 0 x w _ [] (by omega) hx (New.nil w) (by simp;omega) hT
theorem rsize_ok (w:World)(n:Int)(hn:0≤n∧n<18446744073709551616):
  Calls Tryz.prog 68 #[.int .u64 n] w (Ret fun u w'=>New w w' u (sizeF n)):=by
 refine calls_of_cfg c68_ok (Nat.le_of_ble_eq_true rfl) ?_
 simp only[argE_nil,argE_cons,Nat.zero_add]
 (refine W_at c68_ok ⟨_,rfl,?_⟩;simp (disch:=first|omega|assumption|rfl|(simp only[vcS]<;>omega)|fail) only[↓vcN,vcQ,simprocAttr])
 unfold sizeF
 have hml:maxLen=9223372036854775807:=rfl
 by_cases h1:n<253
 ·have h1':n≤252:=by omega
  have hc:IntKind.u8.wrap n=n:=by rw[wrap_u8];omega
  rw[if_pos h1]
  iterate 4 (refine W_at c68_ok ⟨_,rfl,?_⟩;simp (disch:=first|omega|assumption|rfl|(simp only[vcS]<;>omega)|fail) only[↓vcN,vcQ,simprocAttr,h1',hc,Ret_returned])
  exact New.lit (bs:=[n]) (by simp;omega)
 have h1':¬n≤252:=by omega
 rw[if_neg h1]
 iterate 2 (refine W_at c68_ok ⟨_,rfl,?_⟩;simp (disch:=first|omega|assumption|rfl|(simp only[vcS]<;>omega)|fail) only[↓vcN,vcQ,simprocAttr,h1'])
 by_cases h2:n<65536
 ·have h2':n≤65535:=by omega
  rw[if_pos h2]
  iterate 3 (refine W_at c68_ok ⟨_,rfl,?_⟩;simp (disch:=first|omega|assumption|rfl|(simp only[vcS]<;>omega)|fail) only[↓vcN,vcQ,simprocAttr,h2'])
  have hL:=New.lit (w:=w) (bs:=[253]) (by simp;omega)
  refine callV_ret (low_ok _ n 2 hn (by omega)) ?_
  intro u w1 hu
  refine appN (hL.keep hu.ext) hu.own.rd (by simp [lowF_len]) fun v' w' h3 _ _=>?_
  (refine W_at c68_ok ⟨_,rfl,?_⟩;simp (disch:=first|omega|assumption|rfl|(simp only[vcS]<;>omega)|fail) only[↓vcN,vcQ,simprocAttr,Ret_returned])
  exact h3
 have h2':¬n≤65535:=by omega
 rw[if_neg h2]
 iterate 2 (refine W_at c68_ok ⟨_,rfl,?_⟩;simp (disch:=first|omega|assumption|rfl|(simp only[vcS]<;>omega)|fail) only[↓vcN,vcQ,simprocAttr,h2'])
 by_cases h3:n<4294967296
 ·have h3':n≤4294967295:=by omega
  rw[if_pos h3]
  iterate 3 (refine W_at c68_ok ⟨_,rfl,?_⟩;simp (disch:=first|omega|assumption|rfl|(simp only[vcS]<;>omega)|fail) only[↓vcN,vcQ,simprocAttr,h3'])
  have hL:=New.lit (w:=w) (bs:=[254]) (by simp;omega)
  refine callV_ret (low_ok _ n 4 hn (by omega)) ?_
  intro u w1 hu
  refine appN (hL.keep hu.ext) hu.own.rd (by simp [lowF_len]) fun v' w' h3 _ _=>?_
  (refine W_at c68_ok ⟨_,rfl,?_⟩;simp (disch:=first|omega|assumption|rfl|(simp only[vcS]<;>omega)|fail) only[↓vcN,vcQ,simprocAttr,Ret_returned])
  exact h3
 have h3':¬n≤4294967295:=by omega
 rw[if_neg h3]
 iterate 3 (refine W_at c68_ok ⟨_,rfl,?_⟩;simp (disch:=first|omega|assumption|rfl|(simp only[vcS]<;>omega)|fail) only[↓vcN,vcQ,simprocAttr,h3'])
 have hL:=New.lit (w:=w) (bs:=[255]) (by simp;omega)
 refine callV_ret (low_ok _ n 8 hn (by omega)) ?_
 intro u w1 hu
 refine appN (hL.keep hu.ext) hu.own.rd (by simp [lowF_len]) fun v' w' h3 _ _=>?_
 (refine W_at c68_ok ⟨_,rfl,?_⟩;simp (disch:=first|omega|assumption|rfl|(simp only[vcS]<;>omega)|fail) only[↓vcN,vcQ,simprocAttr,Ret_returned])
 exact h3
theorem text_ok (w:World)(x:Value)(bs:List Int)(hx:Rd w x bs)(hl:bs.length≤1000000):
  Calls Tryz.prog 69 #[x] w (Ret fun u w'=>New w w' u (sizeF bs.length++bs)):=by
 refine calls_of_cfg c69_ok (Nat.le_of_ble_eq_true rfl) ?_
 simp only[argE_nil,argE_cons,Nat.zero_add]
 have hlen:=hx.len
 have hw:IntKind.u64.wrap (bs.length:Int)=bs.length:=by rw[wrap_u64];omega
 iterate 2 (refine W_at c69_ok ⟨_,rfl,?_⟩;simp (disch:=first|omega|assumption|rfl|(simp only[vcS]<;>omega)|fail) only[↓vcN,vcQ,simprocAttr,hlen,hw])
 refine callV_ret (rsize_ok w bs.length (by omega)) ?_
 intro u w1 hu
 have hsl:=@sizeF_len bs.length
 refine appN hu (hx.ext hu.ext) (by omega) fun v' w' h3 _ _=>?_
 (refine W_at c69_ok ⟨_,rfl,?_⟩;simp (disch:=first|omega|assumption|rfl|(simp only[vcS]<;>omega)|fail) only[↓vcN,vcQ,simprocAttr,Ret_returned])
 exact h3
theorem equal_ok (w:World)(x y:Value)(a b:List Int)(hx:Rd w x a)(hy:Rd w y b)(ha:byt a)(hb:byt b):
  Calls Tryz.prog 20 #[x,y] w (Ret fun u w'=>u=.bool (decide (a=b))∧w'=w):=by
 refine calls_of_cfg c20_ok (Nat.le_of_ble_eq_true rfl) ?_
 simp only[argE_nil,argE_cons,Nat.reduceAdd,Nat.zero_add]
 have h1:=hx.b2s
 have h2:=hy.b2s
 have h3:=strOf_inj ha hb
 iterate 3 (refine W_at c20_ok ⟨_,rfl,?_⟩;simp (disch:=first|omega|assumption|rfl|(simp only[vcS]<;>omega)|fail) only[↓vcN,vcQ,simprocAttr,h1,h2,h3,Ret_returned])
end Go.Proofs
namespace Go.Proofs
open Go.Vc
set_option maxRecDepth 10000
theorem bv_set (bs:List Int)(i:Nat)(x:Int):bv (bs.set i x)=(bv bs).set i (.int .u8 x):=by
 simp [bv,List.map_set]
theorem Own1.set {w:World}{v:Value}{bs:List Int}(h:Own1 w v bs){i:Nat}(hi:i<bs.length)(x:Int):
  ∃g c,v=.slice (some ⟨g,0,none⟩) bs.length c∧wr1 w g i∧Own1 (w.setCell ⟨g,i,none⟩ (.int .u8 x)) v (bs.set i x):=by
 obtain⟨hl,⟨rfl,h0⟩|⟨g,cap,cur,rfl,hb,hh,hn,hm,hs,ht⟩⟩:=h
 ·omega
 ·refine⟨g,cap,rfl,wr1_of hh (by omega),⟨by rw[bv_len,Nat.mul_one],.inr ⟨g,cap,cur.setIfInBounds i (.int .u8 x),?_,hb,heap_setCell_eq hh,?_,hm,by rw[Array.size_setIfInBounds];exact hs,?_⟩⟩⟩
  ·rw[List.length_set]
  ·rw[List.length_set];exact hn
  ·rw[List.length_set,Array.toList_setIfInBounds,List.take_set,ht,bv_set]
end Go.Proofs
namespace Go.Proofs
open Go.Vc
set_option maxRecDepth 10000
theorem Own1.set1 {w:World}{g n c:Nat}{bs:List Int}(h:Own1 w (.slice (some ⟨g,0,none⟩) n c) bs){i:Nat}(hi:i<bs.length)(x:Int):
  wr1 w g i∧Own1 (w.setCell ⟨g,i,none⟩ (.int .u8 x)) (.slice (some ⟨g,0,none⟩) n c) (bs.set i x):=by
 obtain⟨g',c',e,h1,h2⟩:=h.set hi x
 injection e with e1 e2 e3
 cases e1
 exact⟨h1,h2⟩
theorem mkB {w:World}{m:Nat}{K:Value→World→Prop}(hm:m≤1000000000)(hk:∀w',Own1 w' (.slice (some ⟨w.heap.size,0,none⟩) m m) (List.replicate m 0)→Ext w w'→K (.slice (some ⟨w.heap.size,0,none⟩) m m) w'):
  mkSV 5 1 1 (runs [(1,Value.int .u8 0)]) (.int .i64 (m:Nat)) (.int .i64 (m:Nat)) w K:=by
 refine⟨by omega,by omega,by omega,by omega,rfl,?_⟩
 have hml:maxLen=9223372036854775807:=rfl
 rw[Int.toNat_natCast]
 refine hk _ ?_ ((Keep.refl _ w).alloc _)
 have h:=own_lit1 (w:=w) (bs:=List.replicate m 0) (by simp;omega)
 have e1:bv (List.replicate m 0)=zrep m (runs [(1,Value.int .u8 0)]):=by
  rw[show runs [(1,Value.int .u8 0)]=[Value.int .u8 0] from rfl,zrep_one,bv,List.map_replicate]
 rw[e1] at h
 simpa using h
end Go.Proofs
namespace Go.Proofs
open Go.Vc
set_option maxRecDepth 10000
theorem args_2 {args:Array Value}(h:args.size=2):∃v u,args=#[v,u]:=by
 obtain⟨l⟩:=args
 match l,h with
 |[v,u],_=>exact⟨v,u,rfl⟩
theorem flat_ones {k:IntKind}:∀{xs:List (Array Value)} {bs:List Int},bs.length=xs.length→(∀i (h:i<xs.length) (h':i<bs.length),xs[i]=#[Value.int k bs[i]])→xs.flatMap Array.toList=bs.map (.int k)
 |[],[],_,_=>rfl
 |[],_::_,h,_=>by simp at h
 |_::_,[],h,_=>by simp at h
 |x::xs,b::bs,h,hx=>by
  have h0:=hx 0 (by simp) (by simp)
  simp only[List.getElem_cons_zero] at h0
  have ih:=flat_ones (k:=k) (xs:=xs) (bs:=bs) (by simpa using h) fun i h1 h2=>by
   have:=hx (i+1) (by simpa using h1) (by simpa using h2)
   simpa using this
  rw[List.flatMap_cons,h0,ih];rfl
theorem ints_of {k:IntKind}{w:World}{q:Option Addr}{n c:Nat}(h:Lies w (.sl (.cons (.int k) .nil)) (.slice q n c)):n≤maxLen∧∃bs:List Int,bs.length=n∧rdS w 1 (.slice q n c)=some (bs.map (.int k)).toArray∧∀b∈bs,k.min≤b∧b≤k.max:=by
 simp only[Lies] at h
 obtain⟨q',n',c',xs,h1,h2,h3,h4,h5,h6,h7⟩:=h
 cases h1
 have hx:∀x∈xs,∃b:Int,x=#[Value.int k b]∧k.min≤b∧b≤k.max:=by
  intro x hx
  have h:=h7 x hx
  cases hl:x.toList with
  |nil=>rw[hl] at h;simp [LiesAll] at h
  |cons y l=>
   rw[hl] at h
   simp only[LiesAll,Lies] at h
   obtain⟨⟨b,rfl,hb⟩,rfl⟩:=h
   exact⟨b,Array.ext' hl,wf_int hb⟩
 obtain⟨bs,hl,hbs⟩:=list_choose xs hx
 refine⟨Nat.le_trans h2 h3,bs,by omega,?_,?_⟩
 ·rw[show (1:Nat)=Tys.len (.cons (.int k) .nil) from rfl,h5,flat_ones hl fun i h h'=>(hbs i h h').1]
 ·intro b hb
  obtain⟨i,hi,rfl⟩:=List.getElem_of_mem hb
  exact(hbs i (by omega) hi).2
theorem bytes_of {w:World}{v:Value}(h:Lies w (.sl (.cons (.int .u8) .nil)) v):∃bs,Rd w v bs∧byt bs:=by
 have h0:=h
 simp only[Lies] at h
 obtain⟨q,n,c,_,rfl,h2,_⟩:=h
 obtain⟨hm,bs,hl,hr,hb⟩:=ints_of h0
 subst hl
 refine⟨bs,⟨⟨q,c,rfl,h2⟩,hm,hr⟩,fun b hx=>?_⟩
 have h1:IntKind.u8.min=0:=by decide
 have h2:IntKind.u8.max=255:=by decide
 have:=hb b hx
 rw[h1,h2] at this;exact this
end Go.Proofs
namespace Go.Proofs
open Go.Vc
def t130:CT:=
 (.seq (.reg (.q (some 4) none (.mov (.const (.int .i64 0))) .done) false)
 (.blk 0 (.loop (.seq (.seq (.reg (.q (some 6) none (.mov (.tmp 4)) (.q (some 7) none (.ld1 (.tmp 1)) (.q (some 8) none (.len (.tmp 7)) (.q (some 9) none (.bin .lss (.tmp 6) (.tmp 8)) .done)))) false)
 (.cnd (.tmp 9) .skip
 (.exit 0)))
 (.seq (.blk 1 (.seq (.reg (.q (some 13) none (.ld1 (.tmp 2)) (.q (some 14) none (.ld1 (.tmp 1)) (.q (some 15) none (.mov (.tmp 4)) (.q (some 16) none (.slcS 32 (.tmp 14) (some (.tmp 15)) none) (.q (some 17) none (.len (.tmp 16)) (.q (some 18) none (.min [(.tmp 13),(.tmp 17)]) (.q (some 5) none (.mov (.tmp 18)) .done))))))) true)
 (.seq (.yld (.q (some 19) none (.mov (.tmp 0)) (.q (some 20) none (.ld1 (.tmp 1)) (.q (some 21) none (.mov (.tmp 4)) (.q (some 22) none (.mov (.tmp 4)) (.q (some 23) none (.mov (.tmp 5)) (.q (some 24) none (.bin .add (.tmp 22) (.tmp 23)) (.q (some 25) none (.mov (.tmp 4)) (.q (some 26) none (.mov (.tmp 5)) (.q (some 27) none (.bin .add (.tmp 25) (.tmp 26)) (.q (some 28) none (.slc3 32 (.tmp 20) (some (.tmp 21)) (.tmp 24) (.tmp 27)) .done)))))))))) (some 29) (.tmp 19) [(.tmp 28)] (.q (some 30) none (.not (.tmp 29)) .done))
 (.cnd (.tmp 30) .ret
 .skip))))
 (.reg (.q (some 10) none (.mov (.tmp 4)) (.q (some 11) none (.ld1 (.tmp 2)) (.q (some 12) none (.bin .add (.tmp 10) (.tmp 11)) (.q (some 4) none (.mov (.tmp 12)) .done)))) false))))))
theorem t130_ok:ctOf Tryz.prog 130 true=some (31,[],t130):=by kernel_rfl
def t58:CT:=
 (.seq (.reg (.l (some 2) none (.alloc 23 [(32,(.int .u8 0))]) [] .done) false)
 (.seq (.seq (.reg (.q (some 7) none (.mov (.tmp 0)) (.q (some 8) none (.len (.tmp 7)) (.q (some 9) none (.bin .eql (.tmp 8) (.const (.int .i64 0))) .done))) false)
 (.cnd (.tmp 9) (.seq (.reg (.q (some 10) none (.bld [.z [(32,(.int .u8 0))]]) (.l none none (.stN 32 (.tmp 2) (.tmp 10)) [] .done)) false)
 .ret)
 .skip))
 (.seq (.reg (.q (some 11) none (.mov (.tmp 0)) (.l (some 12) none (.call 107 [(.tmp 11)]) [] (.q (some 3) none (.mov (.tmp 12)) .done))) false)
 (.seq (.blk 0 (.loop (.seq (.seq (.reg (.q (some 13) none (.mov (.tmp 3)) (.q (some 14) none (.len (.tmp 13)) (.q (some 15) none (.bin .gtr (.tmp 14) (.const (.int .i64 1))) .done))) false)
 (.cnd (.tmp 15) .skip
 (.exit 0)))
 (.blk 1 (.seq (.reg (.l (some 4) none (.alloc 105 [(1,(.slice none 0 0))]) [] .done) false)
 (.seq (.seq (.reg (.q (some 16) none (.mov (.tmp 3)) (.l (some 17) none (.call 108 [(.tmp 16),(.const (.int .i64 2))]) [] .done)) false)
 (.blk 2 (.rng (.tmp 17) [18] (.reg (.q (some 5) none (.mov (.tmp 18)) .done) false)
 (.blk 3 (.seq (.reg (.l (some 6) none (.alloc 77 [(8,(.int .u32 0)),(1,(.slice none 0 0)),(1,(.int .u64 0)),(1,(.bool false))]) [] .done) false)
 (.seq (.reg (.q (some 19) none (.mov (.tmp 5)) (.q (some 20) none (.iadrS 32 (.tmp 19) (.const (.int .i64 0))) (.q (some 21) none (.slcA 32 1 (.tmp 20) none none) (.l (some 22) none (.call 33 [(.tmp 6),(.tmp 21)]) [] .done)))) false)
 (.seq (.reg (.q (some 23) none (.mov (.tmp 5)) (.q (some 24) none (.mov (.tmp 5)) (.q (some 25) none (.len (.tmp 24)) (.q (some 26) none (.bin .sub (.tmp 25) (.const (.int .i64 1))) (.q (some 27) none (.iadrS 32 (.tmp 23) (.tmp 26)) (.q (some 28) none (.slcA 32 1 (.tmp 27) none none) (.l (some 29) none (.call 33 [(.tmp 6),(.tmp 28)]) [] .done))))))) false)
 (.reg (.q (some 30) none (.ld1 (.tmp 4)) (.l (some 31) none (.call 34 [(.tmp 6)]) [⟨30,none,(.ld1 (.tmp 4))⟩] (.l (some 32) none (.bldS 23 32 [(.tmp 31)]) [⟨30,none,(.ld1 (.tmp 4))⟩] (.l (some 33) none (.app 23 32 32 [(32,(.int .u8 0))] (.tmp 30) (.tmp 32)) [] (.l none none (.st1 (.tmp 4) (.tmp 33)) [] .done))))) true))))))))
 (.reg (.q (some 34) none (.ld1 (.tmp 4)) (.q (some 3) none (.mov (.tmp 34)) .done)) false)))))))
 (.seq (.reg (.q (some 35) none (.mov (.tmp 3)) (.q (some 36) none (.iadrS 32 (.tmp 35) (.const (.int .i64 0))) (.q (some 37) none (.ldN 32 (.tmp 36)) (.l none none (.stN 32 (.tmp 2) (.tmp 37)) [] .done)))) false)
 .ret)))))
theorem t58_ok:ctOf Tryz.prog 58 false=some (38,[.cN 2 32],t58):=by kernel_rfl
end Go.Proofs
namespace Go.Proofs
open Go.Vc
set_option maxRecDepth 10000
theorem rdS_at {w:World}{q:Option Addr}{n c size:Nat}{xs:List (Array Value)}(h:rdS w size (.slice q n c)=some (xs.flatMap Array.toList).toArray)(hl:xs.length=n)(hs:∀x∈xs,x.size=size){i:Nat}(hi:i<n):
  ∃b o,q=some ⟨b,o,none⟩∧rdO w.heap[b]? (o+i*size) size=some xs[i]:=by
 simp only[rdS] at h
 rw[if_neg (by omega)] at h
 split at h
 ·rename_i b o
  refine⟨b,o,rfl,?_⟩
  rw[rdN_heap] at h
  cases hb:w.heap[b]? with
  |none=>rw[hb] at h;cases h
  |some x=>
   rw[hb] at h
   cases x with
   |cells d t fr=>
    simp only[rdO] at h
    split at h
    ·rename_i hle
     simp only[Option.some.injEq] at h
     have hle1:(i+1)*size≤n*size:=Nat.mul_le_mul_right _ hi
     rw[Nat.add_mul,Nat.one_mul] at hle1
     rw[rdO_some _ _ _ _ _ (by omega)]
     congr 1
     apply Array.ext'
     have ht:((xs.flatMap Array.toList).drop (i*size)).take size=xs[i].toList:=by
      rw[flat_drop i hs,List.drop_eq_getElem_cons (by omega),List.flatMap_cons,List.take_append_of_le_length (by simp [hs _ (List.getElem_mem (show i<xs.length by omega))]),List.take_of_length_le (by simp [hs _ (List.getElem_mem (show i<xs.length by omega))])]
     have h2:(d.extract o (o+n*size)).toList=xs.flatMap Array.toList:=by rw[h]
     rw[←ht,←h2]
     simp only[Array.toList_extract,List.extract_eq_take_drop,List.drop_take,List.take_take,List.drop_drop]
     congr 1;omega
    ·cases h
   |_=>cases h
 ·cases h
theorem rdO_cell {o:Option Obj}{a n:Nat}{cs:Array Value}(h:rdO o a n=some cs){j:Nat}(hj:j<n):cellO o (a+j)=cs[j]?:=by
 cases o with
 |none=>cases h
 |some x=>
  cases x with
  |cells d t fr=>
   simp only[rdO] at h
   split at h
   ·simp only[Option.some.injEq] at h
    subst h
    rw[cellO_some,Array.getElem?_extract]
    rw[if_pos (by omega)]
   ·cases h
  |_=>cases h
structure OwnO (w:World)(base el size:Nat)(v:Value)(ids:List (Array Value)):Prop where
 sz:∀k∈ids,k.size=size
 at':(v=.slice none 0 0∧ids=[])∨ ∃g o cap cur,v=.slice (some ⟨g,o,none⟩) ids.length cap∧base≤g∧w.heap[g]?=some (.cells cur el (0,0))∧ids.length≤cap∧cap≤maxLen∧o+cap*size≤cur.size∧
  (cur.toList.drop o).take (ids.length*size)=ids.flatMap Array.toList
theorem OwnO.nil (w:World)(base el size:Nat):OwnO w base el size (.slice none 0 0) []:=⟨fun _ h=>(by cases h),.inl ⟨rfl,rfl⟩⟩
theorem OwnO.keep {S:Nat→Prop}{w w':World}{base el size:Nat}{v:Value}{ids:List (Array Value)}(h:OwnO w base el size v ids)(k:Keep S w w')(hS:∀g,blk v g→¬S g):OwnO w' base el size v ids:=by
 obtain⟨hs,h|⟨g,o,cap,cur,rfl,hb,hg,r⟩⟩:=h
 ·exact⟨hs,.inl h⟩
 ·exact⟨hs,.inr ⟨g,o,cap,cur,rfl,hb,k.at hg (hS g rfl),r⟩⟩
theorem OwnO.ext {w w':World}{base el size:Nat}{v:Value}{ids:List (Array Value)}(h:OwnO w base el size v ids)(k:Ext w w'):OwnO w' base el size v ids:=h.keep k fun _ _ h=>h
theorem OwnO.len {w:World}{base el size:Nat}{v:Value}{ids:List (Array Value)}(h:OwnO w base el size v ids):lenR v=some (.int .i64 (ids.length:Nat)):=by
 obtain⟨_,⟨rfl,rfl⟩|⟨g,o,cap,cur,rfl,_⟩⟩:=h<;>rfl
theorem OwnO.one {w:World}{base el size:Nat}{v:Value}{ids:List (Array Value)}(h:OwnO w base el size v ids):v.oneCell'=true:=by
 obtain⟨_,⟨rfl,rfl⟩|⟨g,o,cap,cur,rfl,_⟩⟩:=h<;>rfl
theorem OwnO.is {w:World}{base el size:Nat}{v:Value}{ids:List (Array Value)}(h:OwnO w base el size v ids):∃q c,v=.slice q ids.length c∧ids.length≤c:=by
 obtain⟨_,⟨rfl,rfl⟩|⟨g,o,cap,cur,rfl,_,_,h,_⟩⟩:=h
 ·exact⟨_,_,rfl,Nat.le_refl _⟩
 ·exact⟨_,_,rfl,h⟩
theorem OwnO.blk {w:World}{base el size:Nat}{v:Value}{ids:List (Array Value)}(h:OwnO w base el size v ids){g:Nat}(hg:blk v g):base≤g∧∃c,w.heap[g]?=some (.cells c el (0,0)):=by
 obtain⟨_,⟨rfl,rfl⟩|⟨g',o,cap,cur,rfl,hb,hh,_⟩⟩:=h
 ·cases hg
 ·cases hg;exact⟨hb,_,hh⟩
theorem OwnO.base {w:World}{base b el size:Nat}{v:Value}{ids:List (Array Value)}(h:OwnO w base el size v ids)(hb:b≤base):OwnO w b el size v ids:=by
 obtain⟨hs,h|⟨g,o,cap,cur,rfl,hbg,r⟩⟩:=h
 ·exact⟨hs,.inl h⟩
 ·exact⟨hs,.inr ⟨g,o,cap,cur,rfl,Nat.le_trans hb hbg,r⟩⟩
theorem OwnO.rd {w:World}{base el size:Nat}{v:Value}{ids:List (Array Value)}(h:OwnO w base el size v ids):rdS w size v=some (ids.flatMap Array.toList).toArray:=by
 obtain⟨hs,⟨rfl,rfl⟩|⟨g,o,cap,cur,rfl,hb,hg,hn,hcm,hle,htake⟩⟩:=h
 ·rfl
 ·have hle2:ids.length*size≤cap*size:=Nat.mul_le_mul_right _ hn
  simp only[rdS]
  split
  ·rename_i h0
   have:ids=[]:=List.eq_nil_of_length_eq_zero h0
   subst this;rfl
  ·rw[rdN_heap,hg,rdO_some _ _ _ _ _ (by omega)]
   congr 1
   apply Array.ext'
   rw[←htake]
   simp only[Array.toList_extract,List.extract_eq_take_drop]
   congr 1;omega
theorem OwnO.at {w:World}{base el size:Nat}{v:Value}{ids:List (Array Value)}(h:OwnO w base el size v ids){j:Nat}(hj:j<ids.length):
  ∃g o cap cur,v=.slice (some ⟨g,o,none⟩) ids.length cap∧w.heap[g]?=some (.cells cur el (0,0))∧rdO (w.heap[g]?) (o+j*size) size=some ids[j]:=by
 obtain⟨q,c,e,_⟩:=h.is
 obtain⟨b,o,hq,h1⟩:=rdS_at (size:=size) (xs:=ids) (q:=q) (n:=ids.length) (c:=c) (by rw[←e];exact h.rd) rfl h.sz hj
 subst hq
 obtain⟨hs,⟨rfl,rfl⟩|⟨g',o',cap,cur,e',hb,hg,_⟩⟩:=h
 ·cases hj
 ·rw[e] at e'
  injection e' with e1 e2 e3
  injection e1 with e1
  injection e1 with e4 e5
  subst e4 e5 e
  exact⟨_,_,_,_,rfl,hg,h1⟩
theorem OwnO.drop {w:World}{base el size:Nat}{v:Value}{ids:List (Array Value)}(h:OwnO w base el size v ids){l:Nat}(hl:l≤ids.length):
  ∃q c,v=.slice q ids.length c∧ids.length≤c∧OwnO w base el size (.slice (advA size q c l) (ids.length - l) (c - l)) (ids.drop l):=by
 obtain⟨hs,⟨rfl,rfl⟩|⟨g,o,cap,cur,rfl,hb,hg,hn,hcm,hle,htake⟩⟩:=h
 ·have:l=0:=by simpa using hl
  subst this
  exact⟨none,0,rfl,Nat.le_refl _,OwnO.nil w base el size⟩
 ·refine⟨_,_,rfl,hn,fun k hk=>hs k (List.mem_of_mem_drop hk),.inr ?_⟩
  have hd:(ids.drop l).length=ids.length - l:=List.length_drop
  unfold advA
  by_cases hc:cap=l
  ·rw[if_pos hc]
   have h0:ids.drop l=[]:=List.drop_eq_nil_of_le (by omega)
   refine⟨g,o,cap - l,cur,by rw[hd],hb,hg,by omega,by omega,?_,?_⟩
   ·have:(cap - l)*size=0:=by rw[hc,Nat.sub_self,Nat.zero_mul]
    rw[this];have:=Nat.zero_le (cap*size);omega
   ·rw[h0];simp
  ·rw[if_neg hc]
   have e1:cap*size=l*size+(cap - l)*size:=by rw[←Nat.add_mul];congr 1;omega
   have e2:ids.length*size=l*size+(ids.length - l)*size:=by rw[←Nat.add_mul];congr 1;omega
   refine⟨g,o+l*size,cap - l,cur,by rw[hd];simp [Addr.add],hb,hg,by omega,by omega,by omega,?_⟩
   rw[hd,←flat_drop l hs,←htake,List.drop_take,List.drop_drop]
   congr 1;omega
end Go.Proofs
namespace Go.Proofs
open Go.Vc
set_option maxRecDepth 10000
def b32 (v:Int):BitVec 32:=BitVec.ofNat 32 v.toNat
def rotF (n:Nat)(x:BitVec 32):BitVec 32:=(x<<< (32 - n))|||(x>>>n)
def sg0 (x:BitVec 32):BitVec 32:=rotF 7 x^^^rotF 18 x^^^x>>>3
def sg1 (x:BitVec 32):BitVec 32:=rotF 17 x^^^rotF 19 x^^^x>>>10
def SG0 (x:BitVec 32):BitVec 32:=rotF 2 x^^^rotF 13 x^^^rotF 22 x
def SG1 (x:BitVec 32):BitVec 32:=rotF 6 x^^^rotF 11 x^^^rotF 25 x
def chF (e f g:BitVec 32):BitVec 32:=(e&&& f)^^^(~~~e&&& g)
def majF (a b c:BitVec 32):BitVec 32:=(a&&& b)^^^(a&&& c)^^^(b&&& c)
def wordF (a b c d:Int):BitVec 32:=b32 a<<<24|||b32 b<<<16|||b32 c<<<8|||b32 d
def kL:List (BitVec 32):=[0x428a2f98,0x71374491,0xb5c0fbcf,0xe9b5dba5,0x3956c25b,0x59f111f1,0x923f82a4,0xab1c5ed5,0xd807aa98,0x12835b01,0x243185be,0x550c7dc3,0x72be5d74,0x80deb1fe,0x9bdc06a7,0xc19bf174,0xe49b69c1,0xefbe4786,0x0fc19dc6,0x240ca1cc,0x2de92c6f,0x4a7484aa,0x5cb0a9dc,0x76f988da,0x983e5152,0xa831c66d,0xb00327c8,0xbf597fc7,0xc6e00bf3,0xd5a79147,0x06ca6351,0x14292967,0x27b70a85,0x2e1b2138,0x4d2c6dfc,0x53380d13,0x650a7354,0x766a0abb,0x81c2c92e,0x92722c85,0xa2bfe8a1,0xa81a664b,0xc24b8b70,0xc76c51a3,0xd192e819,0xd6990624,0xf40e3585,0x106aa070,0x19a4c116,0x1e376c08,0x2748774c,0x34b0bcb5,0x391c0cb3,0x4ed8aa4a,0x5b9cca4f,0x682e6ff3,0x748f82ee,0x78a5636f,0x84c87814,0x8cc70208,0x90befffa,0xa4506ceb,0xbef9a3f7,0xc67178f2]
def w16 (blk:List Int):List (BitVec 32):=(List.range 16).map fun t=>wordF (blk.getD (4*t) 0) (blk.getD (4*t+1) 0) (blk.getD (4*t+2) 0) (blk.getD (4*t+3) 0)
def nxtW (l:List (BitVec 32)):BitVec 32:=l.getD (l.length - 16) 0+l.getD (l.length - 7) 0+sg0 (l.getD (l.length - 15) 0)+sg1 (l.getD (l.length - 2) 0)
def sch:Nat→List (BitVec 32)→List (BitVec 32)
 |0,l=>l
 |k+1,l=>sch k (l++[nxtW l])
def wsF (blk:List Int):List (BitVec 32):=sch 48 (w16 blk)
structure S8 where
 a:BitVec 32
 b:BitVec 32
 c:BitVec 32
 d:BitVec 32
 e:BitVec 32
 f:BitVec 32
 g:BitVec 32
 h:BitVec 32
def S8.list (s:S8):List (BitVec 32):=[s.a,s.b,s.c,s.d,s.e,s.f,s.g,s.h]
def S8.add (s v:S8):S8:=⟨s.a+v.a,s.b+v.b,s.c+v.c,s.d+v.d,s.e+v.e,s.f+v.f,s.g+v.g,s.h+v.h⟩
def t1F (s:S8)(k x:BitVec 32):BitVec 32:=s.h+SG1 s.e+chF s.e s.f s.g+k+x
def t2F (s:S8):BitVec 32:=SG0 s.a+majF s.a s.b s.c
def rnd (s:S8)(k x:BitVec 32):S8:=⟨t1F s k x+t2F s,s.a,s.b,s.c,s.d+t1F s k x,s.e,s.f,s.g⟩
def rndN:Nat→S8→List (BitVec 32)→List (BitVec 32)→S8
 |n+1,s,k::ks,x::xs=>rndN n (rnd s k x) ks xs
 |_,s,_,_=>s
def compF (s:S8)(blk:List Int):S8:=s.add (rndN 64 s kL (wsF blk))
def iv:S8:=⟨0x6a09e667,0xbb67ae85,0x3c6ef372,0xa54ff53a,0x510e527f,0x9b05688c,0x1f83d9ab,0x5be0cd19⟩
def runN:Nat→S8→List Int→S8
 |0,s,_=>s
 |k+1,s,m=>runN k (compF s (m.take 64)) (m.drop 64)
def bytesW (x:BitVec 32):List Int:=[(((x>>>24).toNat%256:Nat):Int),(((x>>>16).toNat%256:Nat):Int),(((x>>>8).toNat%256:Nat):Int),((x.toNat%256:Nat):Int)]
def outF (s:S8):List Int:=s.list.flatMap bytesW
def be8 (n:Nat):List Int:=(List.range 8).map fun i=>((n/256^(7 - i)%256:Nat):Int)
def padF (n:Nat):List Int:=128::(List.replicate (63 - (n+8)%64) 0++be8 (8*n))
def allF (m:List Int):List Int:=m++padF m.length
def shaF (m:List Int):List Int:=outF (runN ((allF m).length/64) iv (allF m))
def dblF (m:List Int):List Int:=shaF (shaF m)
theorem sch_len:∀(k:Nat) (l:List (BitVec 32)),(sch k l).length=l.length+k
 |0,_=>rfl
 |k+1,l=>by rw[sch,sch_len k];simp;omega
theorem sch_snoc:∀(k:Nat) (l:List (BitVec 32)),sch (k+1) l=sch k l++[nxtW (sch k l)]
 |0,_=>rfl
 |k+1,l=>by
  show sch (k+1) (l++[nxtW l])=_
  rw[sch_snoc k]
  rfl
theorem sch_pre:∀(k:Nat) (l:List (BitVec 32)),l<+:sch k l
 |0,l=>List.prefix_refl _
 |k+1,l=>(List.prefix_append _ _).trans (sch_pre k (l++[nxtW l]))
theorem w16_len (blk:List Int):(w16 blk).length=16:=by simp [w16]
theorem wsF_len (blk:List Int):(wsF blk).length=64:=by unfold wsF;rw[sch_len,w16_len]
theorem kL_len:kL.length=64:=by decide+kernel
theorem outF_len (s:S8):(outF s).length=32:=by simp [outF,S8.list,bytesW]
theorem outF_byt (s:S8):byt (outF s):=by
 intro x hx
 simp only[outF,List.mem_flatMap] at hx
 obtain⟨y,_,hx⟩:=hx
 simp only[bytesW,List.mem_cons,List.not_mem_nil,or_false] at hx
 rcases hx with rfl|rfl|rfl|rfl<;>omega
theorem shaF_len (m:List Int):(shaF m).length=32:=outF_len _
theorem shaF_byt (m:List Int):byt (shaF m):=outF_byt _
theorem dblF_len (m:List Int):(dblF m).length=32:=outF_len _
theorem dblF_byt (m:List Int):byt (dblF m):=outF_byt _
theorem be8_len (n:Nat):(be8 n).length=8:=by simp [be8]
theorem padF_len (n:Nat):(padF n).length=72 - (n+8)%64:=by
 simp only[padF,List.length_cons,List.length_append,List.length_replicate,be8_len]
 omega
theorem allF_len (m:List Int):∃k,(allF m).length=64*(k+1):=by
 refine⟨(m.length+8)/64,?_⟩
 unfold allF
 rw[List.length_append,padF_len]
 omega
theorem padF_byt (n:Nat):byt (padF n):=by
 intro x hx
 simp only[padF,List.mem_cons,List.mem_append,be8,List.mem_map] at hx
 rcases hx with rfl|hx|⟨i,_,rfl⟩
 ·omega
 ·have:=List.eq_of_mem_replicate hx;omega
 ·omega
theorem runN_add:∀(a b:Nat) (s:S8) (m:List Int),runN (a+b) s m=runN b (runN a s m) (m.drop (64*a))
 |0,b,s,m=>by rw[Nat.zero_add];rfl
 |a+1,b,s,m=>by
  rw[show a+1+b=(a+b)+1 by omega]
  show runN (a+b) _ _=_
  rw[runN_add a b,List.drop_drop]
  have e:64+64*a=64*(a+1):=by omega
  rw[e]
  rfl
theorem runN_pre:∀(k:Nat) (s:S8) (m x:List Int),64*k≤m.length→runN k s (m++x)=runN k s m
 |0,_,_,_,_=>rfl
 |k+1,s,m,x,h=>by
  show runN k (compF s ((m++x).take 64)) ((m++x).drop 64)=runN k (compF s (m.take 64)) (m.drop 64)
  rw[List.take_append_of_le_length (by omega),List.drop_append_of_le_length (by omega),runN_pre k _ _ _ (by rw[List.length_drop];omega)]
def fullN (m:List Int):Nat:=m.length/64
def curS (m:List Int):S8:=runN (fullN m) iv m
def waitL (m:List Int):List Int:=m.drop (64*fullN m)
theorem waitL_len (m:List Int):(waitL m).length=m.length%64:=by
 unfold waitL fullN;rw[List.length_drop];omega
theorem runN_step (m:List Int)(j:Nat):runN (j+1) iv m=compF (runN j iv m) ((m.drop (64*j)).take 64):=by
 rw[runN_add j 1]
 rfl
end Go.Proofs
namespace Go.Proofs
open Go.Vc
set_option maxRecDepth 10000
theorem and31 (n:Nat)(h1:1≤n)(h2:n≤31):binR .and (.int .u64 (IntKind.u64.wrap (-(n:Int)))) (.int .u64 31)=some (.int .u64 ((32 - n:Nat):Int)):=by
 rw[bin_and]
 have h:∀k:Fin 32,1≤k.val→IntKind.u64.wrap ((BitVec.ofInt IntKind.u64.bits (IntKind.u64.wrap (-((k.val:Nat):Int)))&&& BitVec.ofInt IntKind.u64.bits 31).toNat:Int)=((32 - k.val:Nat):Int):=by decide+kernel
 have:=h ⟨n,by omega⟩ h1
 simp only at this
 rw[this]
theorem rotl_ok (w:World)(x:BitVec 32)(n:Nat)(h1:1≤n)(h2:n≤31):
  Calls Tryz.prog 134 #[U32 x,.int .i64 (-(n:Int))] w (Ret fun u w'=>u=U32 (rotF n x)∧w'=w):=by
 refine calls_of_cfg c134_ok (Nat.le_of_ble_eq_true rfl) ?_
 simp only[argE_nil,argE_cons,Nat.reduceAdd,Nat.zero_add]
 have hs:=and31 n h1 h2
 have e1:binR .shl (U32 x) (.int .u64 ((32 - n:Nat):Int))=some (U32 (x<<< (32 - n))):=U32_shl x .u64 (32 - n) (by omega)
 have hw:IntKind.u64.wrap (32 - ((32 - n:Nat):Int))=((n:Nat):Int):=by rw[wrap_u64];omega
 have e2:binR .shr (U32 x) (.int .u64 ((n:Nat):Int))=some (U32 (x>>>n)):=U32_shr x .u64 n (by omega)
 have e3:=U32_or (x<<< (32 - n)) (x>>>n)
 iterate 4 (refine W_at c134_ok ⟨_,rfl,?_⟩;simp (disch:=first|omega|assumption|rfl|(simp only[vcS]<;>omega)|fail) only[↓vcN,vcQ,simprocAttr,hs,e1,hw,e2,e3,Ret_returned])
 rfl
theorem right_ok (w:World)(x:BitVec 32)(n:Nat)(h1:1≤n)(h2:n≤31):
  Calls Tryz.prog 116 #[U32 x,.int .i64 n] w (Ret fun u w'=>u=U32 (rotF n x)∧w'=w):=by
 refine calls_of_cfg c116_ok (Nat.le_of_ble_eq_true rfl) ?_
 simp only[argE_nil,argE_cons,Nat.reduceAdd,Nat.zero_add]
 have hw:IntKind.i64.wrap (0 - (n:Int))= -(n:Int):=by rw[wrap_i64 (by omega) (by omega)];omega
 iterate 2 (refine W_at c116_ok ⟨_,rfl,?_⟩;simp (disch:=first|omega|assumption|rfl|(simp only[vcS]<;>omega)|fail) only[↓vcN,vcQ,simprocAttr,hw])
 refine callV_ret (rotl_ok w x n h1 h2) ?_
 rintro _ w1 ⟨rfl,hw⟩
 obtain rfl:w=w1:=hw.symm
 first|(simp (disch:=first|omega|assumption|rfl|(simp only[vcS]<;>omega)|fail) only[↓vcN,vcQ,simprocAttr])|skip
 (refine W_at c116_ok ⟨_,rfl,?_⟩;simp (disch:=first|omega|assumption|rfl|(simp only[vcS]<;>omega)|fail) only[↓vcN,vcQ,simprocAttr,Ret_returned])
theorem rrot_ok (w:World)(x:BitVec 32)(m n:Nat)(h1:1≤n)(hn:m+n=32)(hm:1≤m):
  Calls Tryz.prog 132 #[U32 x,.int .i64 m] w (Ret fun u w'=>u=U32 (rotF n x)∧w'=w):=by
 refine calls_of_cfg c132_ok (Nat.le_of_ble_eq_true rfl) ?_
 simp only[argE_nil,argE_cons,Nat.reduceAdd,Nat.zero_add]
 have hm2:m=32 - n:=by omega
 subst hm2
 have e1:binR .shl (U32 x) (.int .u64 ((32 - n:Nat):Int))=some (U32 (x<<< (32 - n))):=U32_shl x .u64 (32 - n) (by omega)
 have hw:IntKind.i64.wrap (32 - ((32 - n:Nat):Int))=((n:Nat):Int):=by rw[wrap_i64 (by omega) (by omega)];omega
 have hw1:IntKind.u64.wrap ((32 - n:Nat):Int)=((32 - n:Nat):Int):=by rw[wrap_u64];omega
 have hw2:IntKind.u64.wrap ((n:Nat):Int)=((n:Nat):Int):=by rw[wrap_u64];omega
 have e2:binR .shr (U32 x) (.int .u64 ((n:Nat):Int))=some (U32 (x>>>n)):=U32_shr x .u64 n (by omega)
 have e3:=U32_or (x<<< (32 - n)) (x>>>n)
 iterate 3 (refine W_at c132_ok ⟨_,rfl,?_⟩;simp (disch:=first|omega|assumption|rfl|(simp only[vcS]<;>omega)|fail) only[↓vcN,vcQ,simprocAttr,e1,hw,hw1,hw2,e2,e3,Ret_returned])
 rfl
def wcs (l:List (BitVec 32)):Array Value:=(l.map U32).toArray
theorem wcs_size (l:List (BitVec 32)):(wcs l).size=l.length:=by simp [wcs]
theorem wcs_flat (l:List (BitVec 32)):flat (wcs l):=by
 intro v hv
 simp only[wcs,List.mem_map] at hv
 obtain⟨x,_,rfl⟩:=hv
 rfl
theorem begin_ok (w:World):Calls Tryz.prog 73 #[] w (Ret fun u w'=>u=.agg (wcs iv.list)∧Ext w w'):=by
 refine calls_of_cfg c73_ok (Nat.le_of_ble_eq_true rfl) ?_
 simp only[argE_nil]
 (refine W_at c73_ok ⟨_,rfl,?_⟩;simp (disch:=first|omega|assumption|rfl|(simp only[vcS]<;>omega)|fail) only[↓vcN,vcQ,simprocAttr])
 have hE0:Ext w (w.alloc (.cells (zc [(8,.int .u32 0)]) 74)):=(Keep.refl _ w).alloc _
 have hc0:(w.alloc (.cells (zc [(8,.int .u32 0)]) 74)).heap[w.heap.size]?=some (.cells (zc [(8,.int .u32 0)]) 74 (0,0)):=heap_new _ _ _ rfl
 generalize World.alloc _ _=w1 at hE0 hc0⊢
 generalize hg:w.heap.size=g at hc0⊢
 (refine W_at c73_ok ⟨_,rfl,?_⟩;simp (disch:=first|omega|assumption|rfl|(simp only[vcS]<;>omega)|fail) only[↓vcN,vcQ,simprocAttr])
 have e8:(#[Value.int .u32 1779033703]++(#[Value.int .u32 3144134277]++(#[Value.int .u32 1013904242]++(#[Value.int .u32 2773480762]++(#[Value.int .u32 1359893119]++(#[Value.int .u32 2600822924]++(#[Value.int .u32 528734635,Value.int .u32 1541459225])))))):Array Value)=wcs iv.list:=by kernel_rfl
 rw[e8]
 have k1:Keep (fun x=>x=g) w1 (w1.putN g 0 (wcs iv.list)):=(Keep.refl _ w1).putN _ fun _=>rfl
 have hc1:(w1.putN g 0 (wcs iv.list)).heap[g]?=some (.cells (wcs iv.list) 74 (0,0)):=by
  rw[heap_putN_eq hc0,splice_all (by rfl)]
 refine⟨rfl,wcs_flat _,by rw[hc0];simp [okO,zc,runs],?_⟩
 have hE1:Ext w (w1.putN g 0 (wcs iv.list)):=hE0.trans k1 fun i hi e=>by omega
 generalize World.putN _ _ _ _=w2 at hc1 hE1⊢
 have hx:(wcs iv.list).extract 0 (0+8)=wcs iv.list:=by rfl
 have s8:(wcs iv.list).size=8:=rfl
 (refine W_at c73_ok ⟨_,rfl,?_⟩;simp (disch:=first|omega|assumption|rfl|(simp only[vcS]<;>omega)|fail) only[↓vcN,vcQ,simprocAttr,Ret_returned,hc1,hx])
 exact hE1
theorem k256_ok (w:World):Calls Tryz.prog 74 #[] w (Ret fun u w'=>u=.agg (wcs kL)∧Ext w w'):=by
 refine calls_of_cfg c74_ok (Nat.le_of_ble_eq_true rfl) ?_
 simp only[argE_nil]
 (refine W_at c74_ok ⟨_,rfl,?_⟩;simp (disch:=first|omega|assumption|rfl|(simp only[vcS]<;>omega)|fail) only[↓vcN,vcQ,simprocAttr])
 have hE0:Ext w (w.alloc (.cells (zc [(64,.int .u32 0)]) 123)):=(Keep.refl _ w).alloc _
 have hc0:(w.alloc (.cells (zc [(64,.int .u32 0)]) 123)).heap[w.heap.size]?=some (.cells (zc [(64,.int .u32 0)]) 123 (0,0)):=heap_new _ _ _ rfl
 have hgl:w.heap.size≤w.heap.size:=Nat.le_refl _
 generalize World.alloc _ _=w1 at hE0 hc0⊢
 generalize hg:w.heap.size=g at hc0 hgl⊢
 (refine W_at c74_ok ⟨_,rfl,?_⟩;simp (disch:=first|omega|assumption|rfl|(simp only[vcS]<;>omega)|fail) only[↓vcN,vcQ,simprocAttr])
 have e64:(#[Value.int .u32 1116352408]++(#[Value.int .u32 1899447441]++(#[Value.int .u32 3049323471]++(#[Value.int .u32 3921009573]++(#[Value.int .u32 961987163]++(#[Value.int .u32 1508970993]++(#[Value.int .u32 2453635748]++(#[Value.int .u32 2870763221]++(#[Value.int .u32 3624381080]++(#[Value.int .u32 310598401]++(#[Value.int .u32 607225278]++(#[Value.int .u32 1426881987]++(#[Value.int .u32 1925078388]++(#[Value.int .u32 2162078206]++(#[Value.int .u32 2614888103]++(#[Value.int .u32 3248222580]++(#[Value.int .u32 3835390401]++(#[Value.int .u32 4022224774]++(#[Value.int .u32 264347078]++(#[Value.int .u32 604807628]++(#[Value.int .u32 770255983]++(#[Value.int .u32 1249150122]++(#[Value.int .u32 1555081692]++(#[Value.int .u32 1996064986]++(#[Value.int .u32 2554220882]++(#[Value.int .u32 2821834349]++(#[Value.int .u32 2952996808]++(#[Value.int .u32 3210313671]++(#[Value.int .u32 3336571891]++(#[Value.int .u32 3584528711]++(#[Value.int .u32 113926993]++(#[Value.int .u32 338241895]++(#[Value.int .u32 666307205]++(#[Value.int .u32 773529912]++(#[Value.int .u32 1294757372]++(#[Value.int .u32 1396182291]++(#[Value.int .u32 1695183700]++(#[Value.int .u32 1986661051]++(#[Value.int .u32 2177026350]++(#[Value.int .u32 2456956037]++(#[Value.int .u32 2730485921]++(#[Value.int .u32 2820302411]++(#[Value.int .u32 3259730800]++(#[Value.int .u32 3345764771]++(#[Value.int .u32 3516065817]++(#[Value.int .u32 3600352804]++(#[Value.int .u32 4094571909]++(#[Value.int .u32 275423344]++(#[Value.int .u32 430227734]++(#[Value.int .u32 506948616]++(#[Value.int .u32 659060556]++(#[Value.int .u32 883997877]++(#[Value.int .u32 958139571]++(#[Value.int .u32 1322822218]++(#[Value.int .u32 1537002063]++(#[Value.int .u32 1747873779]++(#[Value.int .u32 1955562222]++(#[Value.int .u32 2024104815]++(#[Value.int .u32 2227730452]++(#[Value.int .u32 2361852424]++(#[Value.int .u32 2428436474]++(#[Value.int .u32 2756734187]++(#[Value.int .u32 3204031479,Value.int .u32 3329325298])))))))))))))))))))))))))))))))))))))))))))))))))))))))))))))):Array Value)=wcs kL:=by kernel_rfl
 rw[e64]
 have k1:Keep (fun x=>x=g) w1 (w1.putN g 0 (wcs kL)):=(Keep.refl _ w1).putN _ fun _=>rfl
 have s64:(wcs kL).size=64:=by rw[wcs_size,kL_len]
 have z64:(zc [(64,Value.int .u32 0)]).size=64:=by simp [zc,runs]
 have hc1:(w1.putN g 0 (wcs kL)).heap[g]?=some (.cells (wcs kL) 123 (0,0)):=by
  rw[heap_putN_eq hc0,splice_all (by rw[s64,z64])]
 refine⟨s64,wcs_flat _,by rw[hc0];simp [okO,z64],?_⟩
 have hE1:Ext w (w1.putN g 0 (wcs kL)):=hE0.trans k1 fun i hi e=>by omega
 generalize World.putN _ _ _ _=w2 at hc1 hE1⊢
 have hx:(wcs kL).extract 0 (0+64)=wcs kL:=by rw[Nat.zero_add];exact ext_all _ _ s64
 (refine W_at c74_ok ⟨_,rfl,?_⟩;simp (disch:=first|omega|assumption|rfl|(simp only[vcS]<;>omega)|fail) only[↓vcN,vcQ,simprocAttr,Ret_returned,hc1,hx])
 exact hE1
end Go.Proofs
namespace Go.Proofs
open Go.Vc
set_option maxRecDepth 10000
theorem sch_le (j k:Nat)(l:List (BitVec 32))(h:j≤k):sch j l<+:sch k l:=by
 induction k with
 |zero=>rw[show j=0 by omega];exact List.prefix_refl _
 |succ k ih=>
  by_cases e:j=k+1
  ·rw[e];exact List.prefix_refl _
  ·rw[sch_snoc]
   exact(ih (by omega)).trans (List.prefix_append _ _)
theorem ws_take (blk:List Int)(i:Nat)(h1:16≤i)(h2:i≤64):(wsF blk).take i=sch (i - 16) (w16 blk):=by
 have h:=sch_le (i - 16) 48 (w16 blk) (by omega)
 have e:=List.prefix_iff_eq_take.1 h
 rw[sch_len,w16_len,show 16+(i - 16)=i by omega] at e
 exact e.symm
theorem ws_rec (blk:List Int)(i:Nat)(h1:16≤i)(h2:i<64):(wsF blk)[i]?=some (nxtW ((wsF blk).take i)):=by
 have h:=ws_take blk (i+1) (by omega) (by omega)
 rw[show i+1 - 16=(i - 16)+1 by omega,sch_snoc,←ws_take blk i h1 (by omega)] at h
 have h3:((wsF blk).take (i+1))[i]?=(wsF blk)[i]?:=List.getElem?_take_of_lt (by omega)
 have hl:((wsF blk).take i).length=i:=by rw[List.length_take,wsF_len];omega
 rw[←h3,h,List.getElem?_append_right (by omega),hl,Nat.sub_self]
 rfl
theorem ws_16 (blk:List Int)(i:Nat)(h:i<16):(wsF blk)[i]?=some (wordF (blk.getD (4*i) 0) (blk.getD (4*i+1) 0) (blk.getD (4*i+2) 0) (blk.getD (4*i+3) 0)):=by
 obtain⟨t,ht⟩:=sch_pre 48 (w16 blk)
 unfold wsF
 rw[←ht,List.getElem?_append_left (by rw[w16_len];exact h)]
 unfold w16
 rw[List.getElem?_map,List.getElem?_range h]
 rfl
def arrW (ws:List (BitVec 32))(i:Nat):Array Value:=(((ws.take i).map U32)++List.replicate (64 - i) (U32 0#32)).toArray
theorem arrW_0 (ws:List (BitVec 32)):arrW ws 0=zc [(64,.int .u32 0)]:=by
 unfold arrW;rw[List.take_zero];simp [zc,runs,U32]
theorem arrW_size (ws:List (BitVec 32))(i:Nat)(hl:ws.length=64)(hi:i≤64):(arrW ws i).size=64:=by simp [arrW,hl];omega
theorem arrW_at (ws:List (BitVec 32))(i k:Nat)(hl:ws.length=64)(hk:k<i)(hi:i≤64):(arrW ws i)[k]?=some (U32 (ws.getD k 0)):=by
 unfold arrW
 rw[List.getElem?_toArray,List.getElem?_append_left (by simp [hl];omega),List.getElem?_map,List.getElem?_take_of_lt hk,List.getElem?_eq_getElem (by omega)]
 simp [List.getD,List.getElem?_eq_getElem (show k<ws.length by omega)]
theorem arrW_set (ws:List (BitVec 32))(i:Nat)(x:BitVec 32)(hl:ws.length=64)(hi:i<64)(hx:ws[i]?=some x):(arrW ws i).setIfInBounds i (U32 x)=arrW ws (i+1):=by
 unfold arrW
 rw[List.setIfInBounds_toArray]
 congr 1
 have hlt:((ws.take i).map U32).length=i:=by simp [hl];omega
 rw[show 64 - i=(64 - (i+1))+1 by omega,List.replicate_succ,List.set_append_right _ _ (by omega),hlt,Nat.sub_self,List.set_cons_zero,List.take_add_one,hx]
 simp
theorem arrW_all (ws:List (BitVec 32))(hl:ws.length=64):arrW ws 64=wcs ws:=by
 unfold arrW wcs
 rw[List.take_of_length_le (by omega)]
 simp
theorem rndN_snoc:∀(i:Nat) (s:S8) (ks xs:List (BitVec 32)) (hk:i<ks.length) (hx:i<xs.length),rndN (i+1) s ks xs=rnd (rndN i s ks xs) ks[i] xs[i]
 |0,s,k::ks,x::xs,_,_=>by cases ks<;>cases xs<;>rfl
 |i+1,s,k::ks,x::xs,hk,hx=>by
  show rndN (i+1) (rnd s k x) ks xs=rnd (rndN i (rnd s k x) ks xs) _ _
  rw[rndN_snoc i _ ks xs (by simpa using hk) (by simpa using hx)]
  rfl
 |_,_,[],_,hk,_=>by simp at hk
 |_,_,_::_,[],_,hx=>by simp at hx
def addA (s v:S8)(rest:List Value)(i:Nat):Array Value:=((((s.add v).list.take i++s.list.drop i).map U32)++rest).toArray
theorem addA_0 (s v:S8)(rest:List Value):addA s v rest 0=(s.list.map U32++rest).toArray:=rfl
theorem addA_8 (s v:S8)(rest:List Value):addA s v rest 8=((s.add v).list.map U32++rest).toArray:=by simp [addA,S8.list]
theorem addA_at (s v:S8)(rest:List Value)(i:Nat)(h:i<8):(addA s v rest i)[i]?=some (U32 (s.list.getD i 0)):=by
 match i,h with
 |0,_=>rfl
 |1,_=>rfl
 |2,_=>rfl
 |3,_=>rfl
 |4,_=>rfl
 |5,_=>rfl
 |6,_=>rfl
 |7,_=>rfl
theorem addA_set (s v:S8)(rest:List Value)(i:Nat)(h:i<8):(addA s v rest i).setIfInBounds i (U32 (s.list.getD i 0+v.list.getD i 0))=addA s v rest (i+1):=by
 unfold addA
 rw[List.setIfInBounds_toArray]
 match i,h with
 |0,_=>rfl
 |1,_=>rfl
 |2,_=>rfl
 |3,_=>rfl
 |4,_=>rfl
 |5,_=>rfl
 |6,_=>rfl
 |7,_=>rfl
theorem addA_size (s v:S8)(rest:List Value)(i:Nat)(h:i≤8):(addA s v rest i).size=8+rest.length:=by
 simp [addA,S8.list,S8.add];omega
theorem wcs8_at (s:S8)(i:Nat)(h:i<8):(wcs s.list)[i]?=some (U32 (s.list.getD i 0)):=by
 match i,h with
 |0,_=>rfl
 |1,_=>rfl
 |2,_=>rfl
 |3,_=>rfl
 |4,_=>rfl
 |5,_=>rfl
 |6,_=>rfl
 |7,_=>rfl
theorem ext8 (s:S8)(rest:List Value):((s.list.map U32++rest).toArray).extract 0 (0+8)=wcs s.list:=by
 apply Array.ext'
 simp [wcs,S8.list]
theorem rd8 (s:S8)(rest:List Value)(T:TypeId):rdO (some (.cells ((s.list.map U32++rest).toArray) T (0,0))) 0 8=some (wcs s.list):=by
 rw[rdO_some _ _ _ _ _ (by simp [S8.list]),ext8]
end Go.Proofs
namespace Go.Proofs
open Go.Vc
set_option maxRecDepth 10000
theorem b32_of {v:Int}(h:0≤v∧v≤255):Value.int .u32 (IntKind.u32.wrap v)=U32 (b32 v):=by
 unfold U32 b32
 rw[BitVec.toNat_ofNat,wrap_u32,Nat.mod_eq_of_lt (by omega)]
 congr 1
 omega
theorem U32_shl24 (x:BitVec 32):binR .shl (U32 x) (.int .u64 24)=some (U32 (x<<<24)):=U32_shl x .u64 24 (by decide)
theorem U32_shl16 (x:BitVec 32):binR .shl (U32 x) (.int .u64 16)=some (U32 (x<<<16)):=U32_shl x .u64 16 (by decide)
theorem U32_shl8 (x:BitVec 32):binR .shl (U32 x) (.int .u64 8)=some (U32 (x<<<8)):=U32_shl x .u64 8 (by decide)
theorem U32_shr3 (x:BitVec 32):binR .shr (U32 x) (.int .u64 3)=some (U32 (x>>>3)):=U32_shr x .u64 3 (by decide)
theorem U32_shr10 (x:BitVec 32):binR .shr (U32 x) (.int .u64 10)=some (U32 (x>>>10)):=U32_shr x .u64 10 (by decide)
theorem rd_byte {w:World}{x:Value}{bs:List Int}(h:Rd w x bs)(hb:byt bs){i:Nat}(hi:i<bs.length):∃b o c,x=.slice (some ⟨b,o,none⟩) bs.length c∧cellO w.heap[b]? (o+i)=some (.int .u8 (bs.getD i 0))∧0≤bs.getD i 0∧bs.getD i 0≤255:=by
 obtain⟨b,o,c,e,hc⟩:=h.at hi
 have e2:bs.getD i 0=bs[i]:=by simp [List.getD,List.getElem?_eq_getElem hi]
 have:=hb _ (List.getElem_mem hi)
 exact⟨b,o,c,e,by rw[e2];exact hc,by rw[e2];omega,by rw[e2];omega⟩
set_option maxHeartbeats 3200000 in
theorem step_ok (w:World)(g pk:Nat)(x:Value)(blk:List Int)(s:S8)(rest:List Value)(T T2:TypeId)(hg:w.heap[g]?=some (.cells ((s.list.map U32++rest).toArray) T (0,0)))(hk:w.heap[pk]?=some (.cells (wcs kL) T2 (0,0)))(hne:pk≠g)
  (hx:Rd w x blk) (hl:blk.length=64) (hb:byt blk):
  Calls Tryz.prog 75 #[.pointer (some ⟨g,0,none⟩),.pointer (some ⟨pk,0,none⟩),x] w (Ret fun _ w'=>w'.heap[g]?=some (.cells (((compF s blk).list.map U32++rest).toArray) T (0,0))∧Keep (fun y=>y=g) w w'):=by
 refine calls_of_cfg c75_ok (Nat.le_of_ble_eq_true rfl) ?_
 simp only[argE_nil,argE_cons,Nat.reduceAdd,Nat.zero_add]
 have hws:=wsF_len blk
 generalize hwsd:wsF blk=ws at hws
 (refine W_at c75_ok ⟨_,rfl,?_⟩;simp (disch:=first|omega|assumption|rfl|(simp only[vcS]<;>omega)|fail) only[↓vcN,vcQ,simprocAttr])
 have hE0:Ext w (w.alloc (.cells (zc [(64,.int .u32 0)]) 123)):=(Keep.refl _ w).alloc _
 have hp6:(w.alloc (.cells (zc [(64,.int .u32 0)]) 123)).heap[w.heap.size]?=some (.cells (arrW ws 0) 123 (0,0)):=by rw[arrW_0];exact heap_new _ _ _ rfl
 have hgl:=lt_of_heap hg
 have hkl:=lt_of_heap hk
 have hp6g:w.heap.size≤w.heap.size:=Nat.le_refl _
 generalize World.alloc _ _=w1 at hE0 hp6⊢
 generalize hp6e:w.heap.size=p6 at hp6 hgl hkl hp6g⊢
 (refine W_at c75_ok ⟨_,rfl,?_⟩;simp (disch:=first|omega|assumption|rfl|(simp only[vcS]<;>omega)|fail) only[↓vcN,vcQ,simprocAttr])
 have L1:∀(k i:Nat) (wj:World),i+k=64→wj.heap[p6]?=some (.cells (arrW ws i) 123 (0,0))→Ext w wj→
   W Tryz.prog (Ret fun _ w'=>w'.heap[g]?=some (.cells (((compF s blk).list.map U32++rest).toArray) T (0,0))∧Keep (fun y=>y=g) w w') 75 30 [(0,.pointer (some ⟨g,0,none⟩)),(1,.pointer (some ⟨pk,0,none⟩)),(2,x),(6,.pointer (some ⟨p6,0,none⟩)),(18,.int .i64 (i:Nat))] wj:=by
  intro k
  induction k with
  |zero=>
   intro i wj hi h6 hE
   obtain rfl:i=64:=by omega
   have hno:¬(((64:Nat):Int))<64:=by omega
   rw[arrW_all ws hws] at h6
   have hgj:=hE.at hg (fun h=>h)
   have hkj:=hE.at hk (fun h=>h)
   have hr8:rdO (some (.cells ((s.list.map U32++rest).toArray) T (0,0))) 0 8=some (wcs s.list):=rd8 s rest T
   have s8:(wcs s.list).size=8:=wcs_size _
   have hs64:(wcs ws).size=64:=by rw[wcs_size];exact hws
   have hr64:rdO (some (.cells (wcs ws) 123 (0,0))) 0 64=some (wcs ws):=rdO_all _ _ _ _ hs64
   iterate 3 (refine W_at c75_ok ⟨_,rfl,?_⟩;simp (disch:=first|omega|assumption|rfl|(simp only[vcS]<;>omega)|fail) only[↓vcN,vcQ,simprocAttr,hgj,hr8,s8])
   try refine⟨wcs_flat _,?_⟩
   have hp10:((wj.alloc (.cells (zc [(8,.int .u32 0)]) 74)).putN wj.heap.size 0 (wcs s.list)).heap[wj.heap.size]?=some (.cells (wcs s.list) 74 (0,0)):=by
    rw[heap_putN_eq (heap_new _ _ _ rfl),splice_all (by rfl)]
   have hE10:Ext wj ((wj.alloc (.cells (zc [(8,.int .u32 0)]) 74)).putN wj.heap.size 0 (wcs s.list)):=((Keep.refl _ wj).alloc _).putN _ (by intro hh;exfalso;omega)
   have h6lt:=lt_of_heap h6
   generalize World.putN _ _ _ _=wa at hp10 hE10⊢
   generalize wj.heap.size=p10 at hp10 h6lt⊢
   have h6a:=hE10.at h6 (fun h=>h)
   have hka:=hE10.at hkj (fun h=>h)
   have hga:=hE10.at hgj (fun h=>h)
   have hEa:=hE.ext hE10
   (refine W_at c75_ok ⟨_,rfl,?_⟩;simp (disch:=first|omega|assumption|rfl|(simp only[vcS]<;>omega)|fail) only[↓vcN,vcQ,simprocAttr,h6a,hr64])
   have L2:∀(k i:Nat) (wj:World),i+k=64→wj.heap[p10]?=some (.cells (wcs (rndN i s kL ws).list) 74 (0,0))→Ext w wj→
     W Tryz.prog (Ret fun _ w'=>w'.heap[g]?=some (.cells (((compF s blk).list.map U32++rest).toArray) T (0,0))∧Keep (fun y=>y=g) w w') 75 18 [(0,.pointer (some ⟨g,0,none⟩)),(1,.pointer (some ⟨pk,0,none⟩)),(10,.pointer (some ⟨p10,0,none⟩)),(99,.agg (wcs ws)),(100,.int .i64 (i:Nat))] wj:=by
    intro k
    induction k with
    |zero=>
     intro i wj hi h10 hE
     obtain rfl:i=64:=by omega
     have hgk:=hE.at hg (fun h=>h)
     have hcF:compF s blk=s.add (rndN 64 s kL ws):=by unfold compF;rw[hwsd]
     rw[hcF]
     generalize rndN 64 s kL ws=v at h10⊢
     iterate 3 (refine W_at c75_ok ⟨_,rfl,?_⟩;simp (disch:=first|omega|assumption|rfl|(simp only[vcS]<;>omega)|fail) only[↓vcN,vcQ,simprocAttr])
     rw[←addA_0 s v rest] at hgk
     have L3:∀(k i:Nat) (wz:World),i+k=8→wz.heap[g]?=some (.cells (addA s v rest i) T (0,0))→wz.heap[p10]?=some (.cells (wcs v.list) 74 (0,0))→Keep (fun y=>y=g) w wz→
       W Tryz.prog (Ret fun _ w'=>w'.heap[g]?=some (.cells (((s.add v).list.map U32++rest).toArray) T (0,0))∧Keep (fun y=>y=g) w w') 75 6 [(0,.pointer (some ⟨g,0,none⟩)),(10,.pointer (some ⟨p10,0,none⟩)),(175,.int .i64 (i:Nat))] wz:=by
      intro k
      induction k with
      |zero=>
       intro i wz hi hgz hpz hKz
       obtain rfl:i=8:=by omega
       rw[addA_8] at hgz
       iterate 3 (refine W_at c75_ok ⟨_,rfl,?_⟩;simp (disch:=first|omega|assumption|rfl|(simp only[vcS]<;>omega)|fail) only[↓vcN,vcQ,simprocAttr,Ret_returned])
       exact⟨hgz,hKz⟩
      |succ k ih=>
       intro i wz hi hgz hpz hKz
       have hlt:((i:Nat):Int)<8:=by omega
       have b1:0≤((i:Nat):Int)∧((i:Nat):Int)<8:=by omega
       have hwi:IntKind.i64.wrap (((i:Nat):Int)+1)=((i+1:Nat):Int):=wrap_i64 (by omega) (by omega)
       have e1:=addA_at s v rest i (by omega)
       have e2:=wcs8_at v i (by omega)
       have e3:=addA_set s v rest i (by omega)
       have hsz:=addA_size s v rest i (by omega)
       iterate 4 (refine W_at c75_ok ⟨_,rfl,?_⟩;simp (disch:=first|omega|assumption|rfl|(simp only[vcS]<;>omega)|fail) only[↓vcN,vcQ,simprocAttr,hlt,hgz,hpz,b1,Int.toNat_natCast,Nat.mul_one,e1,e2,U32_add])
       have hgz:wz.drew.heap[g]?=some (.cells (addA s v rest i) T (0,0)):=hgz
       have hpz:wz.drew.heap[p10]?=some (.cells (wcs v.list) 74 (0,0)):=hpz
       have hKz:=hKz.drew
       generalize wz.drew=wz at hgz hpz hKz⊢
       refine⟨rfl,wr1_of hgz (by rw[hsz];omega),?_⟩
       have hgy:(wz.setCell ⟨g,i,none⟩ (U32 (s.list.getD i 0+v.list.getD i 0))).heap[g]?=some (.cells (addA s v rest (i+1)) T (0,0)):=by rw[heap_setCell_eq hgz,e3]
       have ky:Keep (fun x=>x=g) wz (wz.setCell ⟨g,i,none⟩ (U32 (s.list.getD i 0+v.list.getD i 0))):=(Keep.refl _ wz).setCell _ fun _=>rfl
       have hpy:=ky.at hpz (by omega)
       generalize World.setCell _ _ _=wy at hgy ky hpy⊢
       iterate 2 (refine W_at c75_ok ⟨_,rfl,?_⟩;simp (disch:=first|omega|assumption|rfl|(simp only[vcS]<;>omega)|fail) only[↓vcN,vcQ,simprocAttr,hwi])
       exact ih (i+1) wy (by omega) hgy hpy (hKz.trans ky fun _ _ h=>h)
     exact L3 8 0 wj (by omega) hgk h10 (hE.mono fun _ h=>h.elim)
    |succ k ih=>
     intro i wj hi h10 hE
     have hlt:((i:Nat):Int)<64:=by omega
     have b1:0≤((i:Nat):Int)∧((i:Nat):Int)<64:=by omega
     have hwi:IntKind.i64.wrap (((i:Nat):Int)+1)=((i+1:Nat):Int):=wrap_i64 (by omega) (by omega)
     have hkl64:=kL_len
     have hrs:=rndN_snoc i s kL ws (by omega) (by omega)
     have hwsi:(wcs ws)[i]?=some (U32 (ws[i]'(by omega))):=by simp [wcs,List.getElem?_eq_getElem (show i<ws.length by omega)]
     have hki:(wcs kL)[i]?=some (U32 (kL[i]'(by omega))):=by simp [wcs,List.getElem?_eq_getElem (show i<kL.length by omega)]
     have hkj:=hE.at hk (fun h=>h)
     generalize ws[i]'(by omega)=xi at hrs hwsi
     generalize kL[i]'(by omega)=ki at hrs hki
     generalize rndN i s kL ws=st at hrs h10
     have v0:(wcs st.list)[0]?=some (U32 st.a):=rfl
     have v1:(wcs st.list)[1]?=some (U32 st.b):=rfl
     have v2:(wcs st.list)[2]?=some (U32 st.c):=rfl
     have v4:(wcs st.list)[4]?=some (U32 st.e):=rfl
     have v5:(wcs st.list)[5]?=some (U32 st.f):=rfl
     have v6:(wcs st.list)[6]?=some (U32 st.g):=rfl
     have v7:(wcs st.list)[7]?=some (U32 st.h):=rfl
     iterate 4 (refine W_at c75_ok ⟨_,rfl,?_⟩;simp (disch:=first|omega|assumption|rfl|(simp only[vcS]<;>omega)|fail) only[↓vcN,vcQ,simprocAttr,hlt,b1,Int.toNat_natCast,Nat.mul_one,hwsi,h10,v4,v0])
     (refine W_at c75_ok ⟨_,rfl,?_⟩;simp (disch:=first|omega|assumption|rfl|(simp only[vcS]<;>omega)|fail) only[↓vcX,ptS2_eq,vcQ,simprocAttr,h10,hkj,v5,v6,v7,b1,Int.toNat_natCast,Nat.mul_one,hki,U32_and,U32_xor,U32_not])
     have hEd:Ext wj wj.drew.drew:=((Keep.refl _ wj).drew).drew
     have h10d:=hEd.at h10 (fun h=>h)
     have hkd:=hEd.at hkj (fun h=>h)
     generalize wj.drew.drew=wd at hEd h10d hkd⊢
     refine callV_ret (right_ok wd st.e 6 (by decide) (by decide)) ?_
     rintro _ wq ⟨rfl,hw⟩
     obtain rfl:wd=wq:=hw.symm
     simp (disch:=first|omega|assumption|rfl|(simp only[vcS]<;>omega)|fail) only[↓vcY,ptS1_eq,vcQ,simprocAttr,h10d,hkd,v5,v6,v7,hki]
     refine callV_ret (right_ok wd st.e 11 (by decide) (by decide)) ?_
     rintro _ wq ⟨rfl,hw⟩
     obtain rfl:wd=wq:=hw.symm
     simp (disch:=first|omega|assumption|rfl|(simp only[vcS]<;>omega)|fail) only[↓vcX,ptS2_eq,vcQ,simprocAttr,h10d,hkd,v5,v6,v7,hki,U32_xor]
     refine callV_ret (right_ok wd st.e 25 (by decide) (by decide)) ?_
     rintro _ wq ⟨rfl,hw⟩
     obtain rfl:wd=wq:=hw.symm
     simp (disch:=first|omega|assumption|rfl|(simp only[vcS]<;>omega)|fail) only[↓vcY,ptS1_eq,vcQ,simprocAttr,h10d,hkd,v5,v6,v7,hki,U32_xor,U32_add]
     first|(simp (disch:=first|omega|assumption|rfl|(simp only[vcS]<;>omega)|fail) only[↓vcY,ptS1_eq,vcQ,simprocAttr,h10d,hkd,v5,v6,v7,hki,U32_xor,U32_add])|skip
     have et:t1F st ki xi=st.h+(rotF 6 st.e^^^rotF 11 st.e^^^rotF 25 st.e)+(st.e&&& st.f^^^~~~st.e&&& st.g)+ki+xi:=rfl
     rw[←et]
     have eu:t2F st=(rotF 2 st.a^^^rotF 13 st.a^^^rotF 22 st.a)+(st.a&&& st.b^^^st.a&&& st.c^^^st.b&&& st.c):=rfl
     (refine W_at c75_ok ⟨_,rfl,?_⟩;simp (disch:=first|omega|assumption|rfl|(simp only[vcS]<;>omega)|fail) only[↓vcX,ptS2_eq,vcQ,simprocAttr,h10d,v1,v2,U32_and,U32_xor])
     have hEd2:Ext wd wd.drew:=(Keep.refl _ wd).drew
     have h10e:=hEd2.at h10d (fun h=>h)
     generalize wd.drew=we at hEd2 h10e⊢
     refine callV_ret (right_ok we st.a 2 (by decide) (by decide)) ?_
     rintro _ wq ⟨rfl,hw⟩
     obtain rfl:we=wq:=hw.symm
     simp (disch:=first|omega|assumption|rfl|(simp only[vcS]<;>omega)|fail) only[↓vcY,ptS1_eq,vcQ,simprocAttr,h10e,v1,v2]
     refine callV_ret (right_ok we st.a 13 (by decide) (by decide)) ?_
     rintro _ wq ⟨rfl,hw⟩
     obtain rfl:we=wq:=hw.symm
     simp (disch:=first|omega|assumption|rfl|(simp only[vcS]<;>omega)|fail) only[↓vcX,ptS2_eq,vcQ,simprocAttr,h10e,v1,v2,U32_xor]
     refine callV_ret (right_ok we st.a 22 (by decide) (by decide)) ?_
     rintro _ wq ⟨rfl,hw⟩
     obtain rfl:we=wq:=hw.symm
     simp (disch:=first|omega|assumption|rfl|(simp only[vcS]<;>omega)|fail) only[↓vcY,ptS1_eq,vcQ,simprocAttr,h10e,v1,v2,U32_xor,U32_add]
     rw[←eu]
     unfold rnd at hrs
     generalize t1F st ki xi=tt at hrs⊢
     generalize t2F st=uu at hrs⊢
     (refine W_at c75_ok ⟨_,rfl,?_⟩;simp (disch:=first|omega|assumption|rfl|(simp only[vcS]<;>omega)|fail) only[↓vcN,vcQ,simprocAttr])
     have h10f:we.drew.heap[p10]?=some (.cells (wcs st.list) 74 (0,0)):=h10e
     have hEf:Ext w we.drew:=((hE.ext hEd).ext hEd2).drew
     generalize we.drew=wf at h10f hEf⊢
     have hrds:rdS wf 1 (.slice (some ⟨p10,0,none⟩) 7 8)=some ((wcs st.list).extract 0 (0+7)):=by
      simp only[rdS]
      rw[if_neg (by omega),rdN_heap,h10f,rdO_some _ _ _ _ _ (by rw[wcs_size];simp [S8.list])]
     show cpyV 1 (.slice (some ⟨p10,1,none⟩) 7 7) (.slice (some ⟨p10,0,none⟩) 7 8) wf _
     unfold cpyV
     show getV (rdS wf 1 (.slice (some ⟨p10,0,none⟩) 7 8)) _
     rw[hrds,getV_some]
     have hnews:(wcs st.list).extract 0 (0+7)=#[U32 st.a,U32 st.b,U32 st.c,U32 st.d,U32 st.e,U32 st.f,U32 st.g]:=rfl
     rw[hnews]
     refine⟨?_,fun h=>absurd h (by decide),fun _=>⟨p10,1,rfl,okN_of h10f (by rw[wcs_size];simp [S8.list]),?_⟩⟩
     ·intro y hy
      simp at hy
      rcases hy with rfl|rfl|rfl|rfl|rfl|rfl|rfl<;>rfl
     have h10g:(wf.putN p10 1 #[U32 st.a,U32 st.b,U32 st.c,U32 st.d,U32 st.e,U32 st.f,U32 st.g]).heap[p10]?=some (.cells #[U32 st.a,U32 st.a,U32 st.b,U32 st.c,U32 st.d,U32 st.e,U32 st.f,U32 st.g] 74 (0,0)):=by
      rw[heap_putN_eq h10f];rfl
     have hp10l:w.heap.size≤p10:=by omega
     have hEg:Ext w (wf.putN p10 1 #[U32 st.a,U32 st.b,U32 st.c,U32 st.d,U32 st.e,U32 st.f,U32 st.g]):=hEf.trans ((Keep.refl _ wf).putN (S:=fun x=>x=p10) _ fun _=>rfl) fun x hx e=>by omega
     generalize World.putN _ _ _ _=wg at h10g hEg⊢
     (refine W_at c75_ok ⟨_,rfl,?_⟩;simp (disch:=first|omega|assumption|rfl|(simp only[vcS]<;>omega)|fail) only[↓vcN,vcQ,simprocAttr,h10g,U32_add])
     refine⟨rfl,wr1_of h10g (by simp),?_⟩
     have h10h:(wg.setCell ⟨p10,4,none⟩ (U32 (st.d+tt))).heap[p10]?=some (.cells #[U32 st.a,U32 st.a,U32 st.b,U32 st.c,U32 (st.d+tt),U32 st.e,U32 st.f,U32 st.g] 74 (0,0)):=by
      rw[heap_setCell_eq h10g];rfl
     have hEh:Ext w (wg.setCell ⟨p10,4,none⟩ (U32 (st.d+tt))):=hEg.trans ((Keep.refl _ wg).setCell (S:=fun x=>x=p10) _ fun _=>rfl) fun x hx e=>by omega
     generalize World.setCell _ _ _=wh at h10h hEh⊢
     (refine W_at c75_ok ⟨_,rfl,?_⟩;simp (disch:=first|omega|assumption|rfl|(simp only[vcS]<;>omega)|fail) only[↓vcN,vcQ,simprocAttr,U32_add])
     refine⟨rfl,wr1_of h10h (by simp),?_⟩
     have h10i:(wh.setCell ⟨p10,0,none⟩ (U32 (tt+uu))).heap[p10]?=some (.cells (wcs (rndN (i+1) s kL ws).list) 74 (0,0)):=by
      rw[heap_setCell_eq h10h,hrs];rfl
     have hEi:Ext w (wh.setCell ⟨p10,0,none⟩ (U32 (tt+uu))):=hEh.trans ((Keep.refl _ wh).setCell (S:=fun x=>x=p10) _ fun _=>rfl) fun x hx e=>by omega
     generalize World.setCell _ _ _=wi at h10i hEi⊢
     iterate 2 (refine W_at c75_ok ⟨_,rfl,?_⟩;simp (disch:=first|omega|assumption|rfl|(simp only[vcS]<;>omega)|fail) only[↓vcN,vcQ,simprocAttr,hwi])
     exact ih (i+1) wi (by omega) h10i hEi
   exact L2 64 0 wa (by omega) hp10 hEa
  |succ k ih=>
   intro i wj hi h6 hE
   have hlt:((i:Nat):Int)<64:=by omega
   have b1:0≤((i:Nat):Int)∧((i:Nat):Int)<64:=by omega
   have hwi:IntKind.i64.wrap (((i:Nat):Int)+1)=((i+1:Nat):Int):=wrap_i64 (by omega) (by omega)
   have fin:∀(wz:World) (y:BitVec 32),ws[i]?=some y→wz.heap[p6]?=some (.cells (arrW ws i) 123 (0,0))→Ext w wz→
     W Tryz.prog (Ret fun _ w'=>w'.heap[g]?=some (.cells (((compF s blk).list.map U32++rest).toArray) T (0,0))∧Keep (fun y=>y=g) w w') 75 22 [(0,.pointer (some ⟨g,0,none⟩)),(1,.pointer (some ⟨pk,0,none⟩)),(2,x),(6,.pointer (some ⟨p6,0,none⟩)),(18,.int .i64 (i:Nat))] (wz.setCell ⟨p6,i,none⟩ (U32 y)):=by
    intro wz y hy h6z hEz
    have h6y:(wz.setCell ⟨p6,i,none⟩ (U32 y)).heap[p6]?=some (.cells (arrW ws (i+1)) 123 (0,0)):=by rw[heap_setCell_eq h6z,arrW_set ws i y hws (by omega) hy]
    have hEy:Ext w (wz.setCell ⟨p6,i,none⟩ (U32 y)):=hEz.trans ((Keep.refl _ wz).setCell (S:=fun x=>x=p6) _ fun _=>rfl) fun x hx e=>by omega
    generalize World.setCell _ _ _=wy at h6y hEy⊢
    iterate 2 (refine W_at c75_ok ⟨_,rfl,?_⟩;simp (disch:=first|omega|assumption|rfl|(simp only[vcS]<;>omega)|fail) only[↓vcN,vcQ,simprocAttr,hwi])
    exact ih (i+1) wy (by omega) h6y hEy
   have hsz:=arrW_size ws i hws (by omega)
   iterate 3 (refine W_at c75_ok ⟨_,rfl,?_⟩;simp (disch:=first|omega|assumption|rfl|(simp only[vcS]<;>omega)|fail) only[↓vcN,vcQ,simprocAttr,hlt])
   by_cases h16:i<16
   ·have h16':((i:Nat):Int)<16:=by omega
    have w0:IntKind.i64.wrap (4*((i:Nat):Int))=((4*i:Nat):Int):=by rw[wrap_i64 (by omega) (by omega)];omega
    have w1:IntKind.i64.wrap (((4*i:Nat):Int)+1)=((4*i+1:Nat):Int):=by rw[wrap_i64 (by omega) (by omega)];omega
    have w2:IntKind.i64.wrap (((4*i:Nat):Int)+2)=((4*i+2:Nat):Int):=by rw[wrap_i64 (by omega) (by omega)];omega
    have w3:IntKind.i64.wrap (((4*i:Nat):Int)+3)=((4*i+3:Nat):Int):=by rw[wrap_i64 (by omega) (by omega)];omega
    obtain⟨bb,oo,cc,ex,c0,r0⟩:=rd_byte (hx.ext hE) hb (i:=4*i) (by omega)
    obtain⟨bb1,oo1,cc1,ex1,c1,r1⟩:=rd_byte (hx.ext hE) hb (i:=4*i+1) (by omega)
    obtain⟨bb2,oo2,cc2,ex2,c2,r2⟩:=rd_byte (hx.ext hE) hb (i:=4*i+2) (by omega)
    obtain⟨bb3,oo3,cc3,ex3,c3,r3⟩:=rd_byte (hx.ext hE) hb (i:=4*i+3) (by omega)
    rw[ex] at ex1 ex2 ex3
    cases ex1;cases ex2;cases ex3
    subst ex
    rw[hl] at*
    have i0:0≤((4*i:Nat):Int)∧((4*i:Nat):Int)<64:=by omega
    have i1:0≤((4*i+1:Nat):Int)∧((4*i+1:Nat):Int)<64:=by omega
    have i2:0≤((4*i+2:Nat):Int)∧((4*i+2:Nat):Int)<64:=by omega
    have i3:0≤((4*i+3:Nat):Int)∧((4*i+3:Nat):Int)<64:=by omega
    have hy:=ws_16 blk i h16
    rw[hwsd] at hy
    have v0:=b32_of r0
    have v1:=b32_of r1
    have v2:=b32_of r2
    have v3:=b32_of r3
    iterate 3 (refine W_at c75_ok ⟨_,rfl,?_⟩;simp (disch:=first|omega|assumption|rfl|(simp only[vcS]<;>omega)|fail) only[↓vcN,vcQ,simprocAttr,h16',w0,w1,w2,w3,i0,i1,i2,i3,b1,Int.toNat_natCast,Nat.mul_one,c0,c1,c2,c3,v0,v1,v2,v3,U32_shl24,U32_shl16,U32_shl8,U32_or])
    exact⟨rfl,wr1_of (show wj.drew.heap[p6]?=_ from h6) (by rw[hsz];omega),fin wj.drew _ hy h6 hE.drew⟩
   ·have h16':¬((i:Nat):Int)<16:=by omega
    have hy:=ws_rec blk i (by omega) (by omega)
    rw[hwsd] at hy
    have hnx:nxtW (ws.take i)=ws.getD (i - 16) 0+ws.getD (i - 7) 0+sg0 (ws.getD (i - 15) 0)+sg1 (ws.getD (i - 2) 0):=by
     have hlt:(ws.take i).length=i:=by rw[List.length_take];omega
     have hg:∀k,k<i→(ws.take i).getD k 0=ws.getD k 0:=fun k hk=>by simp [List.getD,List.getElem?_take_of_lt hk]
     unfold nxtW
     rw[hlt,hg _ (by omega),hg _ (by omega),hg _ (by omega),hg _ (by omega)]
    rw[hnx] at hy
    have s15:IntKind.i64.wrap (((i:Nat):Int) - 15)=((i - 15:Nat):Int):=by rw[wrap_i64 (by omega) (by omega)];omega
    have s2:IntKind.i64.wrap (((i:Nat):Int) - 2)=((i - 2:Nat):Int):=by rw[wrap_i64 (by omega) (by omega)];omega
    have s16:IntKind.i64.wrap (((i:Nat):Int) - 16)=((i - 16:Nat):Int):=by rw[wrap_i64 (by omega) (by omega)];omega
    have s7:IntKind.i64.wrap (((i:Nat):Int) - 7)=((i - 7:Nat):Int):=by rw[wrap_i64 (by omega) (by omega)];omega
    have i15:0≤((i - 15:Nat):Int)∧((i - 15:Nat):Int)<64:=by omega
    have i2:0≤((i - 2:Nat):Int)∧((i - 2:Nat):Int)<64:=by omega
    have i16:0≤((i - 16:Nat):Int)∧((i - 16:Nat):Int)<64:=by omega
    have i7:0≤((i - 7:Nat):Int)∧((i - 7:Nat):Int)<64:=by omega
    have a15:=arrW_at ws i (i - 15) hws (by omega) (by omega)
    have a2:=arrW_at ws i (i - 2) hws (by omega) (by omega)
    have a16:=arrW_at ws i (i - 16) hws (by omega) (by omega)
    have a7:=arrW_at ws i (i - 7) hws (by omega) (by omega)
    generalize ws.getD (i - 15) 0=x15 at hy a15
    generalize ws.getD (i - 2) 0=x2 at hy a2
    generalize ws.getD (i - 16) 0=x16 at hy a16
    generalize ws.getD (i - 7) 0=x7 at hy a7
    have hEd:Ext wj wj.drew:=(Keep.refl _ wj).drew
    have h6d:wj.drew.heap[p6]?=some (.cells (arrW ws i) 123 (0,0)):=h6
    iterate 3 (refine W_at c75_ok ⟨_,rfl,?_⟩;simp (disch:=first|omega|assumption|rfl|(simp only[vcS]<;>omega)|fail) only[↓vcN,vcQ,simprocAttr,h16',h6,s15,s2,i15,i2,Int.toNat_natCast,Nat.mul_one,a15,a2])
    (refine W_at c75_ok ⟨_,rfl,?_⟩;simp (disch:=first|omega|assumption|rfl|(simp only[vcS]<;>omega)|fail) only[↓vcX,ptS2_eq,vcQ,simprocAttr,h6,s16,s7,i16,i7,Int.toNat_natCast,Nat.mul_one,a16,a7,U32_shr3,U32_shr10,U32_add])
    have hEdd:Ext wj wj.drew.drew:=hEd.drew
    have h6dd:wj.drew.drew.heap[p6]?=some (.cells (arrW ws i) 123 (0,0)):=h6
    generalize wj.drew.drew=wd at hEdd h6dd⊢
    refine callV_ret (right_ok wd x15 7 (by decide) (by decide)) ?_
    rintro _ wq ⟨rfl,hw⟩
    obtain rfl:wd=wq:=hw.symm
    simp (disch:=first|omega|assumption|rfl|(simp only[vcS]<;>omega)|fail) only[↓vcY,ptS1_eq,vcQ,simprocAttr,h6dd,a16,a7]
    refine callV_ret (right_ok wd x15 18 (by decide) (by decide)) ?_
    rintro _ wq ⟨rfl,hw⟩
    obtain rfl:wd=wq:=hw.symm
    simp (disch:=first|omega|assumption|rfl|(simp only[vcS]<;>omega)|fail) only[↓vcX,ptS2_eq,vcQ,simprocAttr,h6dd,a16,a7,U32_xor,U32_add]
    refine callV_ret (right_ok wd x2 17 (by decide) (by decide)) ?_
    rintro _ wq ⟨rfl,hw⟩
    obtain rfl:wd=wq:=hw.symm
    simp (disch:=first|omega|assumption|rfl|(simp only[vcS]<;>omega)|fail) only[↓vcY,ptS1_eq,vcQ,simprocAttr,h6dd,a16,a7]
    refine callV_ret (right_ok wd x2 19 (by decide) (by decide)) ?_
    rintro _ wq ⟨rfl,hw⟩
    obtain rfl:wd=wq:=hw.symm
    simp (disch:=first|omega|assumption|rfl|(simp only[vcS]<;>omega)|fail) only[↓vcX,ptS2_eq,vcQ,simprocAttr,h6dd,a16,a7,U32_xor,U32_add,b1,Int.toNat_natCast,Nat.mul_one]
    exact⟨rfl,wr1_of h6dd (by rw[hsz];omega),fin wd _ hy h6dd (hE.ext hEdd)⟩
 exact L1 64 0 w1 (by omega) hp6 hE0
end Go.Proofs
namespace Go.Proofs
open Go.Vc
set_option maxRecDepth 10000
theorem appO2 {w:World}{base el size bytes:Nat}{z:List Value}{v:Value}{ids ids2:List (Array Value)}{q:Option Addr}{m c2:Nat}{K:Value→World→Prop}(h:OwnO w base el size v ids)
  (hr:rdS w size (.slice q m c2)=some (ids2.flatMap Array.toList).toArray) (hm:ids2.length=m) (hs2:∀k∈ids2,k.size=size) (hf:∀k∈ids2,flat k)
  (hlen:ids.length+m≤1000000000) (hb:(ids.length+m)*bytes≤140737488355328) (hz:z.length=size) (hbase:base≤w.heap.size) (hs:0<size)
  (hk:∀v' w',OwnO w' base el size v' (ids++ids2)→Keep (Go.Proofs.blk v) w w'→(∀g,Go.Proofs.blk v' g→Go.Proofs.blk v g∨w.heap.size≤g)→K v' w'):
  appV el size bytes z v (.slice q m c2) w K:=by
 have hml:maxLen=9223372036854775807:=rfl
 have hs3:∀k∈ids++ids2,k.size=size:=fun k hk=>by
  rcases List.mem_append.1 hk with hk|hk
  ·exact h.sz k hk
  ·exact hs2 k hk
 have hfl:(ids++ids2).flatMap Array.toList=ids.flatMap Array.toList++ids2.flatMap Array.toList:=by simp
 have hfll:(ids.flatMap Array.toList).length=ids.length*size:=flat_len h.sz
 have hfl2:(ids2.flatMap Array.toList).length=m*size:=by rw[flat_len hs2,hm]
 have hro:=h.rd
 have hl2:(ids++ids2).length=ids.length+m:=by rw[List.length_append,hm]
 have hmul:(ids.length+m)*size=ids.length*size+m*size:=Nat.add_mul _ _ _
 have grow:∀c',ids.length+m≤c'→c'≤maxLen→K (.slice (some ⟨w.heap.size,0,none⟩) (ids.length+m) c')
   (w.drew.alloc (.cells (ids.flatMap Array.toList++ids2.flatMap Array.toList++zrep (c' - (ids.length+m)) z).toArray el)):=by
  intro c' h1 h2
  refine hk _ _ ⟨hs3,.inr ⟨_,0,c',_,by rw[hl2],hbase,heap_new w.drew _ _ rfl,by rw[hl2];exact h1,h2,?_,?_⟩⟩ ?_ ?_
  ·simp only[List.size_toArray,List.length_append,hfll,hfl2,length_zrep,hz]
   rw[Nat.zero_add,←hmul,←Nat.add_mul]
   exact Nat.mul_le_mul_right _ (by omega)
  ·rw[hl2,List.drop_zero,hfl]
   rw[List.take_left']
   rw[List.length_append,hfll,hfl2,hmul]
  ·exact((Keep.refl _ w).drew).alloc _
  ·intro g hg;cases hg;exact .inr (Nat.le_refl _)
 have keep0:∀(q:Option Addr) (c:Nat),v=.slice q ids.length c→m*size=0→K (.slice q (ids.length+m) c) w:=by
  intro q c hv h0
  have hm0:m=0:=by rcases Nat.mul_eq_zero.1 h0 with h|h;exact h;omega
  subst hm0
  have:ids2=[]:=List.eq_nil_of_length_eq_zero hm
  subst this
  rw[Nat.add_zero,←hv]
  refine hk v w ?_ (Keep.refl _ w) fun g hg=>.inl hg
  rw[List.append_nil];exact h
 unfold appV
 obtain⟨q',c,rfl,hcap⟩:=h.is
 simp only[hro,hr,getV_some]
 refine⟨flat_flat hf,by omega,hb,hz,fun hc'=>⟨fun h0=>keep0 _ _ rfl h0,fun h0 b o' hp=>?_⟩,fun hc' h0=>?_,fun _=>grow⟩
 ·subst hp
  obtain⟨_,⟨e,_⟩|⟨g,o,cap,cur,e,hbg,hg,hn,hcm,hle,htake⟩⟩:=h
  ·cases e
  ·injection e with e1 e2 e3
   injection e1 with e1
   injection e1 with e4 e5
   subst e3 e4 e5
   have e6:(ids.length+m)*size≤c*size:=Nat.mul_le_mul_right _ hc'
   rw[hmul] at e6
   refine⟨okN_of hg (by omega),hk _ _ ⟨hs3,.inr ⟨_,_,c,_,by rw[hl2],hbg,heap_putN_eq hg,by rw[hl2];exact hc',hcm,?_,?_⟩⟩ ?_ fun g' hg'=>.inl hg'⟩
   ·simp only[spliceA,List.size_toArray,List.length_append,List.length_take,List.length_drop,Array.length_toList (xs:=cur),hfl2]
    omega
   ·rw[hl2,hfl,←htake]
    simp only[spliceA]
    rw[hmul]
    have hlen1:(cur.toList.take (o'+ids.length*size)).length=o'+ids.length*size:=by rw[List.length_take,Array.length_toList (xs:=cur)];omega
    rw[List.append_assoc,List.drop_append_of_le_length (by rw[hlen1];omega),List.drop_take,Nat.add_sub_cancel_left]
    have hlen2:((cur.toList.drop o').take (ids.length*size)).length=ids.length*size:=by rw[htake,hfll]
    rw[List.take_append,hlen2,List.take_of_length_le (by rw[hlen2];omega),Nat.add_sub_cancel_left,List.take_left' hfl2]
   ·exact(Keep.refl _ w).putN _ fun _=>rfl
 ·obtain⟨_,⟨e,_⟩|⟨g,o,cap,cur,e,_⟩⟩:=h
  ·injection e with e1 e2 e3
   subst e3
   exfalso
   have hm0:m=0:=by omega
   rw[hm0,Nat.zero_mul] at h0
   exact h0 rfl
  ·injection e with e1
   exact⟨_,_,e1⟩
theorem Rd.any {w w':World}{x:Value}(h:Rd w x []):Rd w' x []:=by
 obtain⟨⟨q,c,e,hc⟩,hm,_⟩:=h
 subst e
 exact⟨⟨q,c,rfl,hc⟩,hm,by simp only[rdS,List.length_nil,if_true];rfl⟩
theorem Rd.keep0 {S:Nat→Prop}{w w':World}{x:Value}{bs:List Int}(h:Rd w x bs)(k:Keep S w w')(hS:bs≠[]→∀q n c,x=.slice (some q) n c→¬S q.block):Rd w' x bs:=by
 by_cases h0:bs=[]
 ·subst h0;exact h.any
 ·exact h.keep k (hS h0)
theorem Rd.lt {w:World}{x:Value}{bs:List Int}(h:Rd w x bs)(h0:bs≠[]):∀q n c,x=.slice (some q) n c→q.block<w.heap.size:=fun q n c e=>by
 obtain⟨b,o,c',e',hc⟩:=h.at (i:=0) (List.length_pos_iff.2 h0)
 rw[e] at e'
 cases e'
 show b<w.heap.size
 cases hh:w.heap[b]? with
 |none=>rw[hh] at hc;cases hc
 |some y=>exact lt_of_heap hh
def u8s (bs:List Int):List (Array Value):=bs.map fun x=>#[Value.int .u8 x]
theorem u8s_len (bs:List Int):(u8s bs).length=bs.length:=List.length_map _
theorem u8s_flat (bs:List Int):(u8s bs).flatMap Array.toList=bv bs:=by
 unfold u8s bv
 induction bs with
 |nil=>rfl
 |cons x bs ih=>simp only[List.map_cons,List.flatMap_cons,ih];rfl
def ByO (w:World)(v:Value)(bs:List Int):Prop:=OwnO w 0 5 1 v (u8s bs)
theorem ByO.rd {w:World}{v:Value}{bs:List Int}(h:ByO w v bs):Rd w v bs:=by
 have h1:=OwnO.rd h
 rw[u8s_flat] at h1
 obtain⟨q,c,e,hc⟩:=OwnO.is h
 rw[u8s_len] at e hc
 refine⟨⟨q,c,e,hc⟩,?_,h1⟩
 obtain⟨_,⟨_,h2⟩|⟨g,o,cap,cur,e2,_,_,h3,h4,_⟩⟩:=h
 ·have:bs.length=0:=by rw[←u8s_len,h2];rfl
  omega
 ·rw[u8s_len] at h3;omega
theorem ByO.nil (w:World):ByO w (.slice none 0 0) []:=OwnO.nil _ _ _ _
theorem ByO.keep {S:Nat→Prop}{w w':World}{v:Value}{bs:List Int}(h:ByO w v bs)(k:Keep S w w')(hS:∀g,blk v g→¬S g):ByO w' v bs:=OwnO.keep h k hS
theorem ByO.ext {w w':World}{v:Value}{bs:List Int}(h:ByO w v bs)(k:Ext w w'):ByO w' v bs:=h.keep k fun _ _ h=>h
theorem ByO.blk {w:World}{v:Value}{bs:List Int}(h:ByO w v bs){g:Nat}(hg:Go.Proofs.blk v g):∃c,w.heap[g]?=some (.cells c 5 (0,0)):=(OwnO.blk h hg).2
theorem ByO.drop {w:World}{v:Value}{bs:List Int}(h:ByO w v bs){l:Nat}(hl:l≤bs.length):∃q c,v=.slice q bs.length c∧bs.length≤c∧ByO w (.slice (advA 1 q c l) (bs.length - l) (c - l)) (bs.drop l):=by
 obtain⟨q,c,e,hc,h2⟩:=OwnO.drop h (l:=l) (by rw[u8s_len];exact hl)
 rw[u8s_len] at e hc h2
 refine⟨q,c,e,hc,?_⟩
 unfold ByO
 rw[show u8s (bs.drop l)=(u8s bs).drop l from List.map_drop]
 exact h2
theorem ByO.app {w:World}{v x:Value}{bs news:List Int}{K:Value→World→Prop}(h:ByO w v bs)(hx:Rd w x news)(hl:bs.length+news.length≤1000000000)
  (hk:∀v' w',ByO w' v' (bs++news)→Keep (Go.Proofs.blk v) w w'→(∀g,Go.Proofs.blk v' g→Go.Proofs.blk v g∨w.heap.size≤g)→K v' w'):appV 5 1 1 [.int .u8 0] v x w K:=by
 obtain⟨q,c,e,hc⟩:=hx.is
 have hr:=hx.rd
 subst e
 have hfl:∀k∈u8s news,flat k:=fun k hk=>by
  obtain⟨y,_,rfl⟩:=List.mem_map.1 hk
  rw[flat_1];rfl
 refine appO2 (ids2:=u8s news) h (by rw[u8s_flat];exact hr) (u8s_len _) (fun k hk=>by obtain⟨y,_,rfl⟩:=List.mem_map.1 hk;rfl) hfl (by rw[u8s_len];exact hl) (by rw[u8s_len];omega) rfl (Nat.zero_le _) (by decide) fun v' w' h1 h2 h3=>hk v' w' ?_ h2 h3
 unfold ByO
 rw[show u8s (bs++news)=u8s bs++u8s news from List.map_append]
 exact h1
def zs:S8:=⟨0,0,0,0,0,0,0,0⟩
def stF (m:List Int)(b:Bool):S8:=if b then curS m else zs
def sumC (m:List Int)(b:Bool)(wv:Value):Array Value:=((stF m b).list.map U32++[wv,.int .u64 (m.length:Nat),.bool b]).toArray
structure SumAt (w:World)(g:Nat)(wv:Value)(m:List Int)(b:Bool):Prop where
 obj:w.heap[g]?=some (.cells (sumC m b wv) 77 (0,0))
 wait:ByO w wv (waitL m)
 zero:b=false→m=[]
theorem SumAt.keep {S:Nat→Prop}{w w':World}{g:Nat}{wv:Value}{m:List Int}{b:Bool}(h:SumAt w g wv m b)(k:Keep S w w')(h1:¬S g)(h2:∀x,blk wv x→¬S x):SumAt w' g wv m b:=⟨k.at h.obj h1,h.wait.keep k h2,h.zero⟩
theorem SumAt.ext {w w':World}{g:Nat}{wv:Value}{m:List Int}{b:Bool}(h:SumAt w g wv m b)(k:Ext w w'):SumAt w' g wv m b:=h.keep k (fun h=>h) fun _ _ h=>h
theorem SumAt.ne {w:World}{g:Nat}{wv:Value}{m:List Int}{b:Bool}(h:SumAt w g wv m b){x:Nat}(hx:blk wv x):x≠g:=fun e=>by
 obtain⟨c,hc⟩:=h.wait.blk hx
 rw[e,h.obj] at hc;cases hc
end Go.Proofs
namespace Go.Proofs
open Go.Vc
set_option maxRecDepth 10000
def sumG (st:S8)(wv:Value)(n:Nat)(b:Bool):Array Value:=(st.list.map U32++[wv,.int .u64 (n:Nat),.bool b]).toArray
theorem sumG_8 (st:S8)(wv:Value)(n:Nat)(b:Bool):(sumG st wv n b)[8]?=some wv:=rfl
theorem sumG_9 (st:S8)(wv:Value)(n:Nat)(b:Bool):(sumG st wv n b)[9]?=some (.int .u64 (n:Nat)):=rfl
theorem sumG_10 (st:S8)(wv:Value)(n:Nat)(b:Bool):(sumG st wv n b)[10]?=some (.bool b):=rfl
theorem sumG_size (st:S8)(wv:Value)(n:Nat)(b:Bool):(sumG st wv n b).size=11:=rfl
theorem sumG_set8 (st:S8)(wv v:Value)(n:Nat)(b:Bool):(sumG st wv n b).setIfInBounds 8 v=sumG st v n b:=rfl
theorem sumG_set9 (st:S8)(wv:Value)(n k:Nat)(b:Bool):(sumG st wv n b).setIfInBounds 9 (.int .u64 (k:Nat))=sumG st wv k b:=rfl
theorem sumG_set10 (st:S8)(wv:Value)(n:Nat)(b c:Bool):(sumG st wv n b).setIfInBounds 10 (.bool c)=sumG st wv n c:=rfl
theorem sumG_put (st st':S8)(wv:Value)(n:Nat)(b:Bool):spliceA (sumG st wv n b) 0 (wcs st'.list)=sumG st' wv n b:=rfl
theorem sumC_G (m:List Int)(b:Bool)(wv:Value):sumC m b wv=sumG (stF m b) wv m.length b:=rfl
def SumB (g:Nat)(wv:Value)(x:Nat):Prop:=x=g∨blk wv x
set_option maxHeartbeats 1600000 in
theorem add_ok (w:World)(g:Nat)(wv x:Value)(m bs:List Int)(b:Bool)(h:SumAt w g wv m b)(hx:Rd w x bs)(hxb:bs≠[]→∀q n c,x=.slice (some q) n c→q.block≠g)(hbs:byt bs)(hm:byt m)(hl:m.length+bs.length≤500000000):
  Calls Tryz.prog 33 #[.pointer (some ⟨g,0,none⟩),x] w (Ret fun _ w'=> ∃wv',SumAt w' g wv' (m++bs) true∧Keep (SumB g wv) w w'∧∀y,blk wv' y→blk wv y∨w.heap.size≤y):=by
 refine calls_of_cfg c33_ok (Nat.le_of_ble_eq_true rfl) ?_
 simp only[argE_nil,argE_cons,Nat.reduceAdd,Nat.zero_add]
 have ho:=h.obj
 have hgl:=lt_of_heap ho
 rw[sumC_G] at ho
 have hlen:=hx.len
 have hwaitl:(waitL m).length≤500000000:=by rw[waitL_len];omega
 have cont:∀(w1:World) (tl:Env),w1.heap[g]?=some (.cells (sumG (curS m) wv m.length true) 77 (0,0))→Keep (fun y=>y=g) w w1→
   W Tryz.prog (Ret fun _ w'=> ∃wv',SumAt w' g wv' (m++bs) true∧Keep (SumB g wv) w w'∧∀y,blk wv' y→blk wv y∨w.heap.size≤y) 33 8 ((0,.pointer (some ⟨g,0,none⟩))::(1,x)::tl) w1:=by
  intro w1 tl ho1 hk1
  have hw1:IntKind.u64.wrap ((bs.length:Nat):Int)=((bs.length:Nat):Int):=by rw[wrap_u64];omega
  have hw2:IntKind.u64.wrap (((m.length:Nat):Int)+((bs.length:Nat):Int))=(((m++bs).length:Nat):Int):=by rw[wrap_u64,List.length_append];omega
  have hwt1:=h.wait.keep hk1 fun y hy e=>h.ne hy e
  have hx1:=hx.keep0 hk1 hxb
  (refine W_at c33_ok ⟨_,rfl,?_⟩;simp (disch:=first|omega|assumption|rfl|(simp only[vcS]<;>omega)|fail) only[↓vcN,vcQ,simprocAttr,ho1,sumG_9,hlen,hw1,hw2])
  refine⟨wr1_of ho1 (by rw[sumG_size];omega),?_⟩
  have ho2:(w1.setCell ⟨g,9,none⟩ (.int .u64 ((m++bs).length:Nat))).heap[g]?=some (.cells (sumG (curS m) wv (m++bs).length true) 77 (0,0)):=by rw[heap_setCell_eq ho1,sumG_set9]
  have k2:Keep (fun y=>y=g) w1 (w1.setCell ⟨g,9,none⟩ (.int .u64 ((m++bs).length:Nat))):=(Keep.refl _ w1).setCell _ fun _=>rfl
  have hwt2:=hwt1.keep k2 fun y hy e=>h.ne hy e
  have hx2:=hx1.keep0 k2 hxb
  have hk2:Keep (fun y=>y=g) w _:=hk1.trans k2 fun _ _ h=>h
  generalize World.setCell _ _ _=w2 at ho2 k2 hwt2 hx2 hk2⊢
  (refine W_at c33_ok ⟨_,rfl,?_⟩;simp (disch:=first|omega|assumption|rfl|(simp only[vcS]<;>omega)|fail) only[↓vcN,vcQ,simprocAttr,ho2,sumG_8])
  refine hwt2.app hx2 (by omega) fun wv3 w3 hwt3 hk3 hb3=>?_
  have nwg:¬blk wv g:=fun hb=>h.ne hb rfl
  have ho3:=hk3.at ho2 nwg
  refine⟨hwt3.rd.one,wr1_of ho3 (by rw[sumG_size];omega),?_⟩
  have ho4:(w3.setCell ⟨g,8,none⟩ wv3).heap[g]?=some (.cells (sumG (curS m) wv3 (m++bs).length true) 77 (0,0)):=by rw[heap_setCell_eq ho3,sumG_set8]
  have k4:Keep (fun y=>y=g) w3 (w3.setCell ⟨g,8,none⟩ wv3):=(Keep.refl _ w3).setCell _ fun _=>rfl
  have ng3:∀y,blk wv3 y→¬y=g:=fun y hy e=>by
   obtain⟨c,hc⟩:=hwt3.blk hy
   rw[e,ho3] at hc;cases hc
  have hwt4:=hwt3.keep k4 ng3
  have hK4:Keep (SumB g wv) w _:=((hk2.mono fun _ h=>.inl h).trans hk3 fun _ _ h=>.inr h).trans k4 fun _ _ h=>.inl h
  have hb4:∀y,blk wv3 y→blk wv y∨w.heap.size≤y:=fun y hy=>(hb3 y hy).elim .inl fun h=>.inr (Nat.le_trans hk2.size h)
  generalize World.setCell _ _ _=w4 at ho4 k4 hwt4 hK4⊢
  (refine W_at c33_ok ⟨_,rfl,?_⟩;simp (disch:=first|omega|assumption|rfl|(simp only[vcS]<;>omega)|fail) only[↓vcN,vcQ,simprocAttr])
  refine callV_ret (k256_ok w4) ?_
  rintro _ w5 ⟨rfl,hE5⟩
  have s64:(wcs kL).size=64:=by rw[wcs_size,kL_len]
  have z64:(zc [(64,Value.int .u32 0)]).size=64:=by simp [zc,runs]
  have hfl:=wcs_flat kL
  simp (disch:=first|omega|assumption|rfl|(simp only[vcS]<;>omega)|fail) only[↓vcN,vcQ,simprocAttr,s64]
  first|refine⟨hfl,by rw[z64],?_⟩|refine⟨hfl,?_⟩|skip
  have hp4:((w5.alloc (.cells (zc [(64,.int .u32 0)]) 123)).putN w5.heap.size 0 (wcs kL)).heap[w5.heap.size]?=some (.cells (wcs kL) 123 (0,0)):=by
   rw[heap_putN_eq (heap_new _ _ _ rfl),splice_all (by rw[s64,z64])]
  have hE6:Ext w5 ((w5.alloc (.cells (zc [(64,.int .u32 0)]) 123)).putN w5.heap.size 0 (wcs kL)):=((Keep.refl _ w5).alloc _).putN _ (by intro hh;exfalso;omega)
  have ho5:=hE5.at ho4 (fun h=>h)
  have hgl5:=lt_of_heap ho5
  generalize World.putN _ _ _ _=w6 at hp4 hE6⊢
  generalize w5.heap.size=p4 at hp4 hgl5⊢
  have ho6:=hE6.at ho5 (fun h=>h)
  have hwt6:=(hwt4.ext hE5).ext hE6
  have hK6:Keep (SumB g wv) w w6:=(hK4.trans hE5 fun _ _ h=>h.elim).trans hE6 fun _ _ h=>h.elim
  generalize htot:m++bs=tot at ho6
  have htb:byt tot:=by rw[←htot];exact byt_app hm hbs
  have hcur:curS m=runN (fullN m) iv tot:=by rw[←htot];unfold curS;exact(runN_pre _ _ _ _ (by unfold fullN;omega)).symm
  have hwl:waitL m++bs=tot.drop (64*fullN m):=by rw[←htot];unfold waitL;rw[List.drop_append_of_le_length (by unfold fullN;omega)]
  have hle:fullN m≤fullN tot:=by rw[←htot];unfold fullN;rw[List.length_append];omega
  rw[hcur] at ho6
  rw[hwl] at hwt6
  have hpg:p4≠g:=by omega
  have htl:tot.length≤500000000:=by rw[←htot,List.length_append];exact hl
  have L:∀(k j:Nat) (wj:World) (wvj:Value),j+k=fullN tot→wj.heap[g]?=some (.cells (sumG (runN j iv tot) wvj tot.length true) 77 (0,0))→ByO wj wvj (tot.drop (64*j))→wj.heap[p4]?=some (.cells (wcs kL) 123 (0,0))→Keep (SumB g wv) w wj→(∀y,blk wvj y→blk wv y∨w.heap.size≤y)→
    W Tryz.prog (Ret fun _ w'=> ∃wv',SumAt w' g wv' tot true∧Keep (SumB g wv) w w'∧∀y,blk wv' y→blk wv y∨w.heap.size≤y) 33 5 [(0,.pointer (some ⟨g,0,none⟩)),(4,.pointer (some ⟨p4,0,none⟩))] wj:=by
   intro k
   induction k with
   |zero=>
    intro j wj wvj hj hoj hwj h4 hK hB
    obtain rfl:j=fullN tot:=by omega
    have hlw:=hwj.rd.len
    have hno:¬(((tot.drop (64*fullN tot)).length:Nat):Int)≥64:=by rw[List.length_drop];unfold fullN;omega
    iterate 3 (refine W_at c33_ok ⟨_,rfl,?_⟩;simp (disch:=first|omega|assumption|rfl|(simp only[vcS]<;>omega)|fail) only[↓vcN,vcQ,simprocAttr,hoj,sumG_8,hlw,hno,Ret_returned])
    exact⟨wvj,⟨hoj,hwj,fun h=>by cases h⟩,hK,hB⟩
   |succ k ih=>
    intro j wj wvj hj hoj hwj h4 hK hB
    have hlw:=hwj.rd.len
    have hdl:64≤(tot.drop (64*j)).length:=by rw[List.length_drop];unfold fullN at hj;omega
    have hyes:(((tot.drop (64*j)).length:Nat):Int)≥64:=by omega
    obtain⟨q,cc,e,hcc,hdrop⟩:=hwj.drop (l:=64) hdl
    have hcut:=hwj.rd
    rw[e] at hcut
    have hcut:=hcut.cut (l:=0) (j:=64) (by omega) hdl
    rw[advA_0,Nat.sub_zero,Nat.sub_zero,List.drop_zero] at hcut
    have ngj:∀y,blk wvj y→¬y=g:=fun y hy e=>by
     obtain⟨c,hc⟩:=hwj.blk hy
     rw[e,hoj] at hc;cases hc
    have hqb:∀y,blk (.slice (advA 1 q cc 64) ((tot.drop (64*j)).length - 64) (cc - 64)) y→blk wvj y:=fun y hy=>by
     rw[e]
     unfold advA at hy
     cases q with
     |none=>split at hy<;>cases hy
     |some a=>
      split at hy
      ·exact hy
      ·skip
       have h8:some (a.add (64*1)).block=some y:=hy
       have h9:(a.add (64*1)).block=a.block:=by unfold Addr.add;split<;>rfl
       rw[h9] at h8
       exact h8
    have b64:(64:Int)≤((cc:Nat):Int):=by omega
    have b65:(64:Int)≤(((tot.drop (64*j)).length:Nat):Int):=by omega
    subst e
    iterate 3 (refine W_at c33_ok ⟨_,rfl,?_⟩;simp (disch:=first|omega|assumption|rfl|(simp only[vcS]<;>omega)|fail) only[↓vcN,vcQ,simprocAttr,hoj,sumG_8,hlw,hyes,b64,Nat.sub_zero])
    have hEd:Ext wj wj.drew:=(Keep.refl _ wj).drew
    have hod:=hEd.at hoj (fun h=>h)
    have h4d:=hEd.at h4 (fun h=>h)
    refine callV_ret (step_ok wj.drew g p4 _ _ (runN j iv tot) [.slice q (tot.drop (64*j)).length cc,.int .u64 (tot.length:Nat),.bool true] 77 123 hod h4d hpg (hcut.ext hEd) (by rw[List.length_take];omega) (byt_take (byt_drop htb _) _)) ?_
    rintro _ wa ⟨hoa,hka⟩
    rw[←runN_step] at hoa
    have hoa:wa.heap[g]?=some (.cells (sumG (runN (j+1) iv tot) (.slice q (tot.drop (64*j)).length cc) tot.length true) 77 (0,0)):=hoa
    have hka':Keep (fun y=>y=g) wj wa:=(hEd.mono fun _ h=>h.elim).trans hka fun _ _ h=>h
    have h4a:=hka'.at h4 hpg
    have hdra:=hdrop.keep hka' fun y hy=>ngj y (hqb y hy)
    first|(simp (disch:=first|omega|assumption|rfl|(simp only[vcS]<;>omega)|fail) only[↓vcN,vcQ,simprocAttr])|skip
    (refine W_at c33_ok ⟨_,rfl,?_⟩;simp (disch:=first|omega|assumption|rfl|(simp only[vcS]<;>omega)|fail) only[↓vcN,vcQ,simprocAttr,hoa,sumG_8,b65])
    refine⟨wr1_of hoa (by rw[sumG_size];omega),?_⟩
    have hob:(wa.setCell ⟨g,8,none⟩ (.slice (advA 1 q cc 64) ((tot.drop (64*j)).length - 64) (cc - 64))).heap[g]?=some (.cells (sumG (runN (j+1) iv tot) (.slice (advA 1 q cc 64) ((tot.drop (64*j)).length - 64) (cc - 64)) tot.length true) 77 (0,0)):=by rw[heap_setCell_eq hoa,sumG_set8]
    have kb:Keep (fun y=>y=g) wa (wa.setCell ⟨g,8,none⟩ (.slice (advA 1 q cc 64) ((tot.drop (64*j)).length - 64) (cc - 64))):=(Keep.refl _ wa).setCell _ fun _=>rfl
    generalize World.setCell _ _ _=wb at hob kb⊢
    have hkb:Keep (fun y=>y=g) wj wb:=hka'.trans kb fun _ _ h=>h
    have hdrb:=hdra.keep kb fun y hy=>ngj y (hqb y hy)
    rw[List.drop_drop] at hdrb
    (refine W_at c33_ok ⟨_,rfl,?_⟩;simp (disch:=first|omega|assumption|rfl|(simp only[vcS]<;>omega)|fail) only[↓vcN,vcQ,simprocAttr])
    refine ih (j+1) wb _ (by omega) hob (by rw[show 64*(j+1)=64*j+64 by omega];exact hdrb) (hkb.at h4 hpg) (hK.trans hkb fun _ _ h=>.inl h) fun y hy=>hB y (hqb y hy)
  exact L (fullN tot - fullN m) (fullN m) w6 wv3 (by omega) ho6 hwt6 hp4 hK6 hb4
 cases b with
 |true=>
  iterate 2 (refine W_at c33_ok ⟨_,rfl,?_⟩;simp (disch:=first|omega|assumption|rfl|(simp only[vcS]<;>omega)|fail) only[↓vcN,vcQ,simprocAttr,ho,sumG_10])
  exact cont w _ ho (Keep.refl _ w)
 |false=>
  obtain rfl:=h.zero rfl
  iterate 3 (refine W_at c33_ok ⟨_,rfl,?_⟩;simp (disch:=first|omega|assumption|rfl|(simp only[vcS]<;>omega)|fail) only[↓vcN,vcQ,simprocAttr,ho,sumG_10])
  refine callV_ret (begin_ok w) ?_
  rintro _ w1 ⟨rfl,hE1⟩
  have ho1:=hE1.at ho (fun h=>h)
  have s8:(wcs iv.list).size=8:=wcs_size _
  have hf8:=wcs_flat iv.list
  have hok:okO (some (.cells (sumG (stF [] false) wv ([]:List Int).length false) 77 (0,0))) 0 8=True:=by simp [okO,sumG_size]
  simp (disch:=first|omega|assumption|rfl|(simp only[vcS]<;>omega)|fail) only[↓vcN,vcQ,simprocAttr,s8,ho1]
  have ho2:(w1.putN g 0 (wcs iv.list)).heap[g]?=some (.cells (sumG iv wv 0 false) 77 (0,0)):=by rw[heap_putN_eq ho1,sumG_put];rfl
  have k2:Keep (fun y=>y=g) w1 (w1.putN g 0 (wcs iv.list)):=(Keep.refl _ w1).putN _ fun _=>rfl
  refine⟨hf8,by rw[sumG_size];omega,wr1_of ho2 (by rw[sumG_size];omega),?_⟩
  generalize World.putN _ _ _ _=w2 at ho2 k2⊢
  have ho3:(w2.setCell ⟨g,10,none⟩ (.bool true)).heap[g]?=some (.cells (sumG iv wv 0 true) 77 (0,0)):=by rw[heap_setCell_eq ho2,sumG_set10]
  have k3:Keep (fun y=>y=g) w1 (w2.setCell ⟨g,10,none⟩ (.bool true)):=k2.setCell _ fun _=>rfl
  exact cont _ [] ho3 ((hE1.mono fun _ h=>h.elim).trans k3 fun _ _ h=>h)
end Go.Proofs
namespace Go.Proofs
open Go.Vc
set_option maxRecDepth 10000
theorem bclone_ok (w:World)(x:Value)(bs:List Int)(h:Rd w x bs)(hn:x=.slice none 0 0∨ ∃a n c,x=.slice (some a) n c)(hl:bs.length≤500000000):
  Calls Tryz.prog 117 #[x] w (Ret fun u w'=>ByO w' u bs∧Ext w w'∧∀y,blk u y→w.heap.size≤y):=by
 refine calls_of_cfg c117_ok (Nat.le_of_ble_eq_true rfl) ?_
 simp only[argE_nil,argE_cons,Nat.zero_add]
 (refine W_at c117_ok ⟨_,rfl,?_⟩;simp (disch:=first|omega|assumption|rfl|(simp only[vcS]<;>omega)|fail) only[↓vcN,vcQ,simprocAttr])
 rcases hn with rfl|⟨a,n,c,rfl⟩
 ·have e:bs=[]:=by
   obtain⟨⟨q,c,e,_⟩,_,_⟩:=h
   injection e with _ e _
   exact List.eq_nil_of_length_eq_zero e.symm
  subst e
  iterate 4 (refine W_at c117_ok ⟨_,rfl,?_⟩;simp (disch:=first|omega|assumption|rfl|(simp only[vcS]<;>omega)|fail) only[↓vcN,vcQ,simprocAttr,Ret_returned])
  exact⟨ByO.nil w,Keep.refl _ w,fun y hy=>by cases hy⟩
 ·(refine W_at c117_ok ⟨_,rfl,?_⟩;simp (disch:=first|omega|assumption|rfl|(simp only[vcS]<;>omega)|fail) only[↓vcN,vcQ,simprocAttr])
  iterate 2 (refine W_at c117_ok ⟨_,rfl,?_⟩;simp (disch:=first|omega|assumption|rfl|(simp only[vcS]<;>omega)|fail) only[↓vcN,vcQ,simprocAttr])
  have hE:Ext w (w.alloc (.cells [].toArray 5)):=(Keep.refl _ w).alloc _
  have hO:ByO (w.alloc (.cells [].toArray 5)) (.slice (some ⟨w.heap.size,0,none⟩) 0 0) []:=
   ⟨fun _ h=>(by cases h),.inr ⟨_,0,0,_,rfl,Nat.zero_le _,heap_new _ _ _ rfl,Nat.le_refl _,Nat.zero_le _,by simp,by simp [u8s]⟩⟩
  refine hO.app (h.ext hE) (by simp;omega) fun v' w' k1 k2 k3=>?_
  rw[List.nil_append] at k1
  first|(simp (disch:=first|omega|assumption|rfl|(simp only[vcS]<;>omega)|fail) only[↓vcN,vcQ,simprocAttr])|skip
  (refine W_at c117_ok ⟨_,rfl,?_⟩;simp (disch:=first|omega|assumption|rfl|(simp only[vcS]<;>omega)|fail) only[↓vcN,vcQ,simprocAttr,Ret_returned])
  refine⟨k1,hE.trans k2 fun i hi e=>?_,fun y hy=>?_⟩
  ·have e':w.heap.size=i:=Option.some.inj e
   omega
  ·rcases k3 y hy with e|e
   ·have e':w.heap.size=y:=Option.some.inj e
    omega
   ·rw[size_alloc] at e;omega
theorem tail_shift (n i:Nat)(hn:n≤1000000000)(hi:i<8):cviR .u8 (U64 ((BitVec.ofNat 64 n<<<3)>>>(8*i)))=some (.int .u8 ((8*n/256^i%256:Nat):Int)):=by
 have e:((BitVec.ofNat 64 n<<<3)>>>(8*i)).toNat=8*n/256^i:=by
  rw[BitVec.toNat_ushiftRight,BitVec.toNat_shiftLeft,BitVec.toNat_ofNat,Nat.mod_eq_of_lt (by omega),Nat.shiftLeft_eq,Nat.mod_eq_of_lt (by omega),Nat.shiftRight_eq_div_pow,Nat.pow_mul,Nat.mul_comm n]
 unfold U64
 rw[cvi_i,e,wrap_u8]
 congr 2
theorem be8_get (n i:Nat)(h:i<8):(be8 n)[i]?=some ((n/256^(7 - i)%256:Nat):Int):=by
 unfold be8
 rw[List.getElem?_map,List.getElem?_range h]
 rfl
def tailT (n i:Nat):List Int:=128::(List.replicate (63 - (n+8)%64+(8 - i)) 0++(be8 (8*n)).drop (8 - i))
theorem tailT_8 (n:Nat):tailT n 8=padF n:=rfl
theorem tailT_len (n i:Nat)(h:i≤8):(tailT n i).length=72 - (n+8)%64:=by
 simp only[tailT,List.length_cons,List.length_append,List.length_replicate,List.length_drop,be8_len];omega
theorem tailT_set (n i:Nat)(h:i<8):(tailT n i).set (71 - (n+8)%64 - i) ((8*n/256^i%256:Nat):Int)=tailT n (i+1):=by
 unfold tailT
 have e1:71 - (n+8)%64 - i=(63 - (n+8)%64+(7 - i))+1:=by omega
 have e2:63 - (n+8)%64+(8 - i)=(63 - (n+8)%64+(7 - i))+1:=by omega
 have e3:8 - (i+1)=7 - i:=by omega
 have hd:(be8 (8*n)).drop (7 - i)=((8*n/256^i%256:Nat):Int)::(be8 (8*n)).drop (8 - i):=by
  have hg:=be8_get (8*n) (7 - i) (by omega)
  have hlt:7 - i< (be8 (8*n)).length:=by rw[be8_len];omega
  rw[List.drop_eq_getElem_cons hlt]
  rw[List.getElem?_eq_getElem hlt] at hg
  rw[Option.some.inj hg]
  have e4:7 - (7 - i)=i:=by omega
  have e5:7 - i+1=8 - i:=by omega
  rw[e4,e5]
 rw[e1,e2,e3,hd,List.set_cons_succ,List.replicate_succ',List.append_assoc,List.set_append_right _ _ (by rw[List.length_replicate];exact Nat.le_refl _),List.length_replicate,Nat.sub_self]
 rfl
set_option maxHeartbeats 1600000 in
theorem tail_ok (w:World)(n:Nat)(hn:n≤1000000000):
  Calls Tryz.prog 118 #[.int .u64 (n:Nat),.int .i64 64,.int .i64 8] w (Ret fun u w'=>New w w' u (padF n)):=by
 refine calls_of_cfg c118_ok (Nat.le_of_ble_eq_true rfl) ?_
 simp only[argE_nil,argE_cons,Nat.reduceAdd,Nat.zero_add]
 have u1:IntKind.u64.wrap 64=64:=by decide
 have hr:Int.tmod ((n:Nat):Int) 64=((n%64:Nat):Int):=by rw[Int.tmod_eq_emod_of_nonneg (by omega)];omega
 have w1:IntKind.i64.wrap ((n%64:Nat):Int)=((n%64:Nat):Int):=wrap_i64 (by omega) (by omega)
 have w2:IntKind.i64.wrap (((n%64:Nat):Int)+8)=((n%64+8:Nat):Int):=by rw[wrap_i64 (by omega) (by omega)];omega
 have hr2:Int.tmod ((n%64+8:Nat):Int) 64=(((n+8)%64:Nat):Int):=by rw[Int.tmod_eq_emod_of_nonneg (by omega)];omega
 have w3:IntKind.i64.wrap (63 - (((n+8)%64:Nat):Int))=((63 - (n+8)%64:Nat):Int):=by rw[wrap_i64 (by omega) (by omega)];omega
 have w4:IntKind.i64.wrap (1+((63 - (n+8)%64:Nat):Int))=((64 - (n+8)%64:Nat):Int):=by rw[wrap_i64 (by omega) (by omega)];omega
 have w5:IntKind.i64.wrap (((64 - (n+8)%64:Nat):Int)+8)=((72 - (n+8)%64:Nat):Int):=by rw[wrap_i64 (by omega) (by omega)];omega
 (refine W_at c118_ok ⟨_,rfl,?_⟩;simp (disch:=first|omega|assumption|rfl|(simp only[vcS]<;>omega)|fail) only[↓vcN,vcQ,simprocAttr])
 have u2:IntKind.i64.wrap 63=63:=by decide
 iterate 2 (refine W_at c118_ok ⟨_,rfl,?_⟩;simp (disch:=first|omega|assumption|rfl|(simp only[vcS]<;>omega)|fail) only[↓vcN,vcQ,simprocAttr,u1,u2,hr,w1,w2,hr2,w3,w4,w5])
 refine mkB (m:=72 - (n+8)%64) (by omega) fun wa hO hE=>?_
 generalize hgv:w.heap.size=gv at hO⊢
 obtain⟨L,hL⟩:∃L,L=72 - (n+8)%64:=⟨_,rfl⟩
 rw[←hL] at hO⊢
 have hrl:(List.replicate L (0:Int)).length=L:=List.length_replicate
 obtain⟨hw0,hO0⟩:=hO.set1 (i:=0) (by omega) 128
 have h0L:(0:Int)< (L:Nat):=by omega
 (refine W_at c118_ok ⟨_,rfl,?_⟩;simp (disch:=first|omega|assumption|rfl|(simp only[vcS]<;>omega)|fail) only[↓vcN,vcQ,simprocAttr,h0L])
 refine⟨hw0,?_⟩
 have hset:(List.replicate L (0:Int)).set 0 128=tailT n 0:=by
  have e:L=(63 - (n+8)%64+8)+1:=by omega
  rw[e,List.replicate_succ,List.set_cons_zero]
  unfold tailT
  rw[List.drop_of_length_le (by rw[be8_len];exact Nat.le_refl _),List.append_nil]
 rw[hset] at hO0
 have hE0:Ext w (wa.setCell ⟨gv,0,none⟩ (.int .u8 128)):=hE.trans ((Keep.refl _ wa).setCell (S:=fun x=>x=gv) _ fun _=>rfl) fun x hx e=>by omega
 generalize World.setCell _ _ _=wb at hO0 hE0⊢
 have hLoop:∀(k i:Nat) (wj:World),i+k=8→Own1 wj (.slice (some ⟨gv,0,none⟩) L L) (tailT n i)→Ext w wj→
   W Tryz.prog (Ret fun u w'=>New w w' u (padF n)) 118 11 [(0,.int .u64 (n:Nat)),(2,.int .i64 8),(8,.slice (some ⟨gv,0,none⟩) L L),(29,.int .i64 (i:Nat))] wj:=by
  intro k
  induction k with
  |zero=>
   intro i wj hi hOj hEj
   obtain rfl:i=8:=by omega
   rw[tailT_8] at hOj
   iterate 6 (refine W_at c118_ok ⟨_,rfl,?_⟩;simp (disch:=first|omega|assumption|rfl|(simp only[vcS]<;>omega)|fail) only[↓vcN,vcQ,simprocAttr,Ret_returned])
   exact⟨hOj,hEj,fun y hy=>by have e:gv=y:=Option.some.inj hy;omega⟩
  |succ k ih=>
   intro i wj hi hOj hEj
   have hlt:((i:Nat):Int)<8:=by omega
   have hwi:IntKind.i64.wrap (((i:Nat):Int)+1)=((i+1:Nat):Int):=wrap_i64 (by omega) (by omega)
   have htl:=tailT_len n i (by omega)
   have hs:binR .shl (.int .u64 ((n:Nat):Int)) (.int .u64 3)=some (U64 (BitVec.ofNat 64 n<<<3)):=by rw[U64_of n (by omega)];exact U64_shl _ .u64 3 (by decide)
   have hw8:IntKind.i64.wrap (8*((i:Nat):Int))=((8*i:Nat):Int):=by rw[wrap_i64 (by omega) (by omega)];omega
   have hsr:=U64_shr (BitVec.ofNat 64 n<<<3) .i64 (8*i) (by omega)
   have hcv:=tail_shift n i hn (by omega)
   have hl1:IntKind.i64.wrap (((L:Nat):Int) - 1)=((L - 1:Nat):Int):=by rw[wrap_i64 (by omega) (by omega)];omega
   have hl2:IntKind.i64.wrap (((L - 1:Nat):Int) - (i:Nat))=((71 - (n+8)%64 - i:Nat):Int):=by rw[wrap_i64 (by omega) (by omega)];omega
   have hidx:0≤((71 - (n+8)%64 - i:Nat):Int)∧((71 - (n+8)%64 - i:Nat):Int)< (L:Nat):=by omega
   obtain⟨hw,hOk⟩:=hOj.set1 (i:=71 - (n+8)%64 - i) (by omega) ((8*n/256^i%256:Nat):Int)
   rw[tailT_set n i (by omega)] at hOk
   iterate 4 (refine W_at c118_ok ⟨_,rfl,?_⟩;simp (disch:=first|omega|assumption|rfl|(simp only[vcS]<;>omega)|fail) only[↓vcN,vcQ,simprocAttr,hlt,hs,hw8,hsr,hcv,hl1,hl2,hidx,Int.toNat_natCast,Nat.mul_one])
   refine⟨hw,?_⟩
   have hEk:Ext w (wj.setCell ⟨gv,71 - (n+8)%64 - i,none⟩ (.int .u8 ((8*n/256^i%256:Nat):Int))):=hEj.trans ((Keep.refl _ wj).setCell (S:=fun x=>x=gv) _ fun _=>rfl) fun x hx e=>by omega
   generalize World.setCell _ _ _=wk at hOk hEk⊢
   iterate 2 (refine W_at c118_ok ⟨_,rfl,?_⟩;simp (disch:=first|omega|assumption|rfl|(simp only[vcS]<;>omega)|fail) only[↓vcN,vcQ,simprocAttr,hwi])
   exact ih (i+1) wk (by omega) hOk hEk
 (refine W_at c118_ok ⟨_,rfl,?_⟩;simp (disch:=first|omega|assumption|rfl|(simp only[vcS]<;>omega)|fail) only[↓vcN,vcQ,simprocAttr])
 exact hLoop 8 0 wb (by omega) hO0 hE0
end Go.Proofs
