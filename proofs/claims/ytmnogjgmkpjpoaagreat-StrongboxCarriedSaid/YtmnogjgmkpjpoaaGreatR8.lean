/- Laws that the last text of this claim uses, part 8: written for it, merged by program. -/
import Derived.Test.YtmnogjgmkpjpoaaGreatR7
set_option linter.unusedSimpArgs false
set_option linter.unusedVariables false
set_option linter.constructorNameAsVariable false
namespace Go.Proofs
open Go.Vc
set_option maxRecDepth 10000
def bareI (x:TxI):TxI:={x with wit:=[]}
theorem iC_spl0 {x:TxI}(hx:x.prev.length=32){p:List Int}(hp:p.length=32)(sv wv:Value):spliceA (iC x sv wv) 0 (bv p).toArray=iC {x with prev:=p} sv wv:=by
 apply Array.ext'
 simp [spliceA,iC,bv_len,hx,hp]
theorem iC_set32 {x:TxI}(hx:x.prev.length=32)(sv wv:Value)(n:Int):(iC x sv wv).setIfInBounds 32 (.int .u32 n)=iC {x with idx:=n} sv wv:=by
 simp [iC,List.set_append_right,bv_len,hx]
def zI:TxI:=⟨Z32,0,[],0,[]⟩
set_option maxHeartbeats 1600000 in
theorem rinput_ok (m:Nat)(w:World)(r:Nat)(x:TxI)(rest:List Int)(hx:x.Ok)(hs:x.script.length≤1000)(h:RS m w r (encI x++rest)):
  Calls Tryz.prog 96 #[rdV r] w (Ret fun u w'=> ∃c,u=.agg c∧InN w.heap.size w' c (bareI x)∧Stp m w w' r rest):=by
 refine calls_of_cfg c96_ok (Nat.le_of_ble_eq_true rfl) ?_
 simp only[argE_nil,argE_cons,Nat.zero_add]
 have hcx:(rdV r).cells=#[.pointer (some ⟨r,0,none⟩)]:=rfl
 have f:=rv_flat r
 have r1:=rv_rd r
 have hrv:=rv_eq r
 have hml:=h.2.1
 have hzi:zc [(32,Value.int .u8 0),(1,.int .u32 0),(1,.slice none 0 0),(1,.int .u32 0),(1,.slice none 0 0)]=iC zI (.slice none 0 0) (.slice none 0 0):=by kernel_rfl
 (refine W_at c96_ok ⟨_,rfl,?_⟩;simp (disch:=first|omega|assumption|rfl|(simp only[vcS]<;>omega)|fail) only[↓vcN,vcQ,simprocAttr,hcx,hzi])
 obtain⟨hE1,c1⟩:=rv_box w r
 have s1:(w.alloc (.cells #[.pointer (some ⟨r,0,none⟩)] 94)).heap.size=w.heap.size+1:=size_alloc _ _
 generalize World.alloc w _=w1 at hE1 c1 s1⊢
 have hE2:Ext w1 (w1.alloc (.cells (iC zI (.slice none 0 0) (.slice none 0 0)) 61)):=(Keep.refl _ w1).alloc _
 have c2:(w1.alloc (.cells (iC zI (.slice none 0 0) (.slice none 0 0)) 61)).heap[w.heap.size+1]?=some (.cells (iC zI (.slice none 0 0) (.slice none 0 0)) 61 (0,0)):=heap_new _ _ _ s1.symm
 have s2:(w1.alloc (.cells (iC zI (.slice none 0 0) (.slice none 0 0)) 61)).heap.size=w.heap.size+2:=by rw[size_alloc,s1]
 generalize World.alloc w1 _=w2 at hE2 c2 s2⊢
 (refine W_at c96_ok ⟨_,rfl,?_⟩;simp (disch:=first|omega|assumption|rfl|(simp only[vcS]<;>omega)|fail) only[↓vcN,vcQ,simprocAttr,hzi])
 have hE3:Ext w2 (w2.alloc (.cells (iC zI (.slice none 0 0) (.slice none 0 0)) 61)):=(Keep.refl _ w2).alloc _
 have c3:(w2.alloc (.cells (iC zI (.slice none 0 0) (.slice none 0 0)) 61)).heap[w.heap.size+2]?=some (.cells (iC zI (.slice none 0 0) (.slice none 0 0)) 61 (0,0)):=heap_new _ _ _ s2.symm
 rw[s2]
 generalize World.alloc w2 _=w3 at hE3 c3⊢
 have c13:=hE3.at (hE2.at c1 fun h=>h) (fun h=>h)
 have c23:=hE3.at c2 (fun h=>h)
 have hE03:=(hE1.ext hE2).ext hE3
 have hS:=h.ext hE03
 have hK:Keep (fun i=>i=r) w w3:=hE03.mono fun _ h=>h.elim
 generalize hp1:w.heap.size=p1 at*
 generalize hp2:p1+1=p2 at*
 generalize hp3:p1+2=p3 at*
 have n1:=h.ne (p:=p1) (by omega)
 have n2:=h.ne (p:=p2) (by omega)
 have n3:=h.ne (p:=p3) (by omega)
 clear hE1 hE2 hE3 c1 c2 s1 s2 hE03
 have hEd:Ext w3 w3.drew:=(Keep.refl _ w3).drew
 have c1d:=hEd.at c13 (fun h=>h)
 have c2d:=hEd.at c23 (fun h=>h)
 have c3d:=hEd.at c3 (fun h=>h)
 have hSd:=hS.ext hEd
 have hKd:=hK.ext hEd
 unfold encI at hSd
 simp only[List.append_assoc] at hSd
 (refine W_at c96_ok ⟨_,rfl,?_⟩;simp (disch:=first|omega|assumption|rfl|(simp only[vcS]<;>omega)|fail) only[↓vcN,vcQ,simprocAttr,c13])
 clear c13 c23 c3 hS hK hEd
 generalize w3.drew=w4 at*
 refine callV_ret (by have:=sRaw_ok m w4 r x.prev _ hSd;rw[hx.len] at this;exact this) ?_
 rintro u5 w5 ⟨hO5,hS5⟩
 first|(simp (disch:=first|omega|assumption|rfl|(simp only[vcS]<;>omega)|fail) only[↓vcN,vcQ,simprocAttr])|skip
 have c15:=hS5.keep.at c1d n1
 have c25:=hS5.keep.at c2d n2
 have c35:=hS5.keep.at c3d n3
 have hK5:=hKd.trans hS5.keep fun _ _ h=>h
 have zl:zI.prev.length=32:=rfl
 refine cpy_in c35 (by rw[iC_size zl];omega) hO5.1.rd (by rw[hx.len];omega) fun w6 c36 k6=>?_
 rw[iC_spl0 zl hx.len] at c36
 change w6.heap[p3]?=some (.cells (iC ⟨x.prev,0,[],0,[]⟩ (.slice none 0 0) (.slice none 0 0)) 61 (0,0)) at c36
 have c16:=k6.at c15 (by omega)
 have c26:=k6.at c25 (by omega)
 have hS6:=hS5.rs.keep k6 fun g hg=>by omega
 have hK6:=hK5.trans k6 fun i hi e=>by omega
 clear c15 c25 c35 hS5 hO5 k6 hKd hK5 hSd c1d c2d c3d
 first|(simp (disch:=first|omega|assumption|rfl|(simp only[vcS]<;>omega)|fail) only[↓vcN,vcQ,simprocAttr])|skip
 (refine W_at c96_ok ⟨_,rfl,?_⟩;simp (disch:=first|omega|assumption|rfl|(simp only[vcS]<;>omega)|fail) only[↓vcN,vcQ,simprocAttr,c16,r1,hrv])
 refine callV_ret (rnum_ok m w6 r x.idx _ hx.idx hS6) ?_
 rintro _ w7 ⟨rfl,hS7⟩
 have c17:=hS7.keep.at c16 n1
 have c27:=hS7.keep.at c26 n2
 have c37:=hS7.keep.at c36 n3
 have hK7:=hK6.trans hS7.keep fun _ _ h=>h
 have o7:=wr1_of (o:=32) c37 (by rw[iC_size (show (⟨x.prev,0,[],0,[]⟩:TxI).prev.length=32 from hx.len)];omega)
 have k8:Keep (fun i=>i=p3) w7 (w7.setCell ⟨p3,32,none⟩ (.int .u32 x.idx)):=(Keep.refl _ w7).setCell _ fun _=>rfl
 have c38:(w7.setCell ⟨p3,32,none⟩ (.int .u32 x.idx)).heap[p3]?=some (.cells (iC ⟨x.prev,x.idx,[],0,[]⟩ (.slice none 0 0) (.slice none 0 0)) 61 (0,0)):=by
  rw[heap_setCell_eq c37,iC_set32 (show (⟨x.prev,0,[],0,[]⟩:TxI).prev.length=32 from hx.len)]
 first|(simp (disch:=first|omega|assumption|rfl|(simp only[vcS]<;>omega)|fail) only[↓vcN,vcQ,simprocAttr,o7])|skip
 have c18:=k8.at c17 (by omega)
 have c28:=k8.at c27 (by omega)
 have hS8:=hS7.rs.keep k8 fun g hg=>by omega
 have hK8:=hK7.trans k8 fun i hi e=>by omega
 generalize World.setCell _ _ _=w8 at*
 clear c16 c26 c36 c17 c27 c37 hS6 hS7 hK6 hK7 k8 o7
 (refine W_at c96_ok ⟨_,rfl,?_⟩;simp (disch:=first|omega|assumption|rfl|(simp only[vcS]<;>omega)|fail) only[↓vcN,vcQ,simprocAttr,c18,r1,hrv])
 refine callV_ret (rtext_ok m w8 r x.script (lowF 4 x.seq++rest) hs (by unfold txtF;simpa only[List.append_assoc] using hS8)) ?_
 rintro u9 w9 ⟨hN9,hS9⟩
 have c19:=hS9.keep.at c18 n1
 have c29:=hS9.keep.at c28 n2
 have c39:=hS9.keep.at c38 n3
 have hK9:=hK8.trans hS9.keep fun _ _ h=>h
 have lw8:p1≤w8.heap.size:=by have:=hK8.size;omega
 have o9:=wr1_of (o:=33) c39 (by rw[iC_size (show (⟨x.prev,x.idx,[],0,[]⟩:TxI).prev.length=32 from hx.len)];omega)
 have ka:Keep (fun i=>i=p3) w9 (w9.setCell ⟨p3,33,none⟩ u9):=(Keep.refl _ w9).setCell _ fun _=>rfl
 have c3a:(w9.setCell ⟨p3,33,none⟩ u9).heap[p3]?=some (.cells (iC ⟨x.prev,x.idx,x.script,0,[]⟩ u9 (.slice none 0 0)) 61 (0,0)):=by
  rw[heap_setCell_eq c39,iC_set33 (show (⟨x.prev,x.idx,[],0,[]⟩:TxI).prev.length=32 from hx.len)];rfl
 have hu1:=hN9.1.rd.one
 first|(simp (disch:=first|omega|assumption|rfl|(simp only[vcS]<;>omega)|fail) only[↓vcN,vcQ,simprocAttr,o9,hu1])|skip
 have c1a:=ka.at c19 (by omega)
 have c2a:=ka.at c29 (by omega)
 have hSa:=hS9.rs.keep ka fun g hg=>by omega
 have hKa:=hK9.trans ka fun i hi e=>by omega
 have hNa:N1 p1 (w9.setCell ⟨p3,33,none⟩ u9) u9 x.script:=(hN9.base lw8).keepT ka fun g hg c hc=>by subst hg;rw[c39] at hc;cases hc
 generalize World.setCell _ _ _=wa at*
 clear c18 c28 c38 c19 c29 c39 hS8 hS9 hK8 hK9 ka o9 hN9
 (refine W_at c96_ok ⟨_,rfl,?_⟩;simp (disch:=first|omega|assumption|rfl|(simp only[vcS]<;>omega)|fail) only[↓vcN,vcQ,simprocAttr,c1a,r1,hrv])
 refine callV_ret (rnum_ok m wa r x.seq _ hx.seq hSa) ?_
 rintro _ wb ⟨rfl,hSb⟩
 have c2b:=hSb.keep.at c2a n2
 have c3b:=hSb.keep.at c3a n3
 have hKb:=hKa.trans hSb.keep fun _ _ h=>h
 have hNb:N1 p1 wb u9 x.script:=hNa.keepT hSb.keep fun g hg c hc=>by
  subst hg
  obtain⟨_,_,B,v,hR,_⟩:=hSa
  rw[hR.at'] at hc;cases hc
 have ob:=wr1_of (o:=34) c3b (by rw[iC_size (show (⟨x.prev,x.idx,x.script,0,[]⟩:TxI).prev.length=32 from hx.len)];omega)
 have kc:Keep (fun i=>i=p3) wb (wb.setCell ⟨p3,34,none⟩ (.int .u32 x.seq)):=(Keep.refl _ wb).setCell _ fun _=>rfl
 have c3c:(wb.setCell ⟨p3,34,none⟩ (.int .u32 x.seq)).heap[p3]?=some (.cells (iC (bareI x) u9 (.slice none 0 0)) 61 (0,0)):=by
  rw[heap_setCell_eq c3b,iC_set34 (show (⟨x.prev,x.idx,x.script,0,[]⟩:TxI).prev.length=32 from hx.len)];rfl
 first|(simp (disch:=first|omega|assumption|rfl|(simp only[vcS]<;>omega)|fail) only[↓vcN,vcQ,simprocAttr,ob])|skip
 have c2c:=kc.at c2b (by omega)
 have hSc:=hSb.rs.keep kc fun g hg=>by omega
 have hKc:=hKb.trans kc fun i hi e=>by omega
 have hNc:N1 p1 (wb.setCell ⟨p3,34,none⟩ (.int .u32 x.seq)) u9 x.script:=hNb.keepT kc fun g hg c hc=>by subst hg;rw[c3b] at hc;cases hc
 generalize World.setCell _ _ _=wc at*
 clear c1a c2a c3a c2b c3b hSa hSb hKa hKb kc ob hNa hNb
 have bl:(bareI x).prev.length=32:=hx.len
 have sz:=iC_size bl u9 (.slice none 0 0)
 have fl:=iC_flat (x:=bareI x) (wv:=.slice none 0 0) hu1 rfl
 have rr:rdO (some (.cells (iC (bareI x) u9 (.slice none 0 0)) 61 (0,0))) 0 36=some (iC (bareI x) u9 (.slice none 0 0)):=rdO_all _ _ _ _ sz
 have oz:okO (some (.cells (iC zI (.slice none 0 0) (.slice none 0 0)) 61 (0,0))) 0 36=True:=by
  have e:=iC_size (show zI.prev.length=32 from rfl) (.slice none 0 0) (.slice none 0 0)
  simp only[okO,e];simp
 (refine W_at c96_ok ⟨_,rfl,?_⟩;simp (disch:=first|omega|assumption|rfl|(simp only[vcS]<;>omega)|fail) only[↓vcN,vcQ,simprocAttr,c3c,c2c,rr,sz,oz])
 refine⟨fl,?_⟩
 have kd:Keep (fun g=>g=p2) wc (wc.putN p2 0 (iC (bareI x) u9 (.slice none 0 0))):=(Keep.refl _ wc).putN _ fun _=>rfl
 have d9:(wc.putN p2 0 (iC (bareI x) u9 (.slice none 0 0))).heap[p2]?=some (.cells (iC (bareI x) u9 (.slice none 0 0)) 61 (0,0)):=by
  rw[heap_putN_eq c2c,splice_all (by rw[sz,iC_size (show zI.prev.length=32 from rfl)])]
 (refine W_at c96_ok ⟨_,rfl,?_⟩;simp (disch:=first|omega|assumption|rfl|(simp only[vcS]<;>omega)|fail) only[↓vcN,vcQ,simprocAttr,d9,rr])
 refine⟨_,rfl,_,rfl,⟨u9,.slice none 0 0,rfl,hNc.keepT kd fun g hg c hc=>?_,RowN.nil _ _⟩,hKc.trans kd fun i hi e=>by omega,hSc.keep kd fun g hg=>by omega⟩
 subst hg;rw[c2c] at hc;cases hc
set_option maxHeartbeats 1600000 in
theorem routput_ok (m:Nat)(w:World)(r:Nat)(y:TxO)(rest:List Int)(hy:y.Ok)(hs:y.script.length≤1000)(h:RS m w r (encO y++rest)):
  Calls Tryz.prog 98 #[rdV r] w (Ret fun u w'=> ∃c,u=.agg c∧OuN w.heap.size w' c y∧Stp m w w' r rest):=by
 refine calls_of_cfg c98_ok (Nat.le_of_ble_eq_true rfl) ?_
 simp only[argE_nil,argE_cons,Nat.zero_add]
 have hcx:(rdV r).cells=#[.pointer (some ⟨r,0,none⟩)]:=rfl
 have f:=rv_flat r
 have r1:=rv_rd r
 have hrv:=rv_eq r
 have hml:=h.2.1
 have hzo:zc [(1,Value.int .i64 0),(1,.slice none 0 0)]=oC ⟨0,[]⟩ (.slice none 0 0):=rfl
 (refine W_at c98_ok ⟨_,rfl,?_⟩;simp (disch:=first|omega|assumption|rfl|(simp only[vcS]<;>omega)|fail) only[↓vcN,vcQ,simprocAttr,hcx,hzo])
 obtain⟨hE1,c1⟩:=rv_box w r
 have s1:(w.alloc (.cells #[.pointer (some ⟨r,0,none⟩)] 94)).heap.size=w.heap.size+1:=size_alloc _ _
 generalize World.alloc w _=w1 at hE1 c1 s1⊢
 have hE2:Ext w1 (w1.alloc (.cells (oC ⟨0,[]⟩ (.slice none 0 0)) 63)):=(Keep.refl _ w1).alloc _
 have c2:(w1.alloc (.cells (oC ⟨0,[]⟩ (.slice none 0 0)) 63)).heap[w.heap.size+1]?=some (.cells (oC ⟨0,[]⟩ (.slice none 0 0)) 63 (0,0)):=heap_new _ _ _ s1.symm
 generalize World.alloc w1 _=w2 at hE2 c2⊢
 have c12:=hE2.at c1 (fun h=>h)
 have hE02:=hE1.ext hE2
 have hS:=h.ext hE02
 have hK:Keep (fun i=>i=r) w w2:=hE02.mono fun _ h=>h.elim
 generalize hp1:w.heap.size=p1 at*
 generalize hp2:p1+1=p2 at*
 have n1:=h.ne (p:=p1) (by omega)
 have n2:=h.ne (p:=p2) (by omega)
 clear hE1 hE2 c1 s1 hE02
 unfold encO at hS
 simp only[List.append_assoc] at hS
 have hv:=hy.val
 (refine W_at c98_ok ⟨_,rfl,?_⟩;simp (disch:=first|omega|assumption|rfl|(simp only[vcS]<;>omega)|fail) only[↓vcN,vcQ,simprocAttr,c12])
 refine callV_ret (s64_ok m w2 r (y.val%18446744073709551616) _ (by omega) hS) ?_
 rintro _ w3 ⟨rfl,hS3⟩
 first|(simp (disch:=first|omega|assumption|rfl|(simp only[vcS]<;>omega)|fail) only[↓vcN,vcQ,simprocAttr])|skip
 have c13:=hS3.keep.at c12 n1
 have c23:=hS3.keep.at c2 n2
 have hK3:=hK.trans hS3.keep fun _ _ h=>h
 (refine W_at c98_ok ⟨_,rfl,?_⟩;simp (disch:=first|omega|assumption|rfl|(simp only[vcS]<;>omega)|fail) only[↓vcN,vcQ,simprocAttr,c13,r1,hrv])
 refine callV_ret (fine_ok m w3 r _ hS3.rs) ?_
 rintro _ w4 hE4
 first|(simp (disch:=first|omega|assumption|rfl|(simp only[vcS]<;>omega)|fail) only[↓vcN,vcQ,simprocAttr])|skip
 have c14:=hE4.at c13 (fun h=>h)
 have c24:=hE4.at c23 (fun h=>h)
 have hK4:=hK3.ext hE4
 have hS4:=hS3.rs.ext hE4
 have hw64:IntKind.i64.wrap (y.val%18446744073709551616)=y.val:=by
  have e:y.val%18446744073709551616%2^IntKind.i64.bits=y.val%2^IntKind.i64.bits:=by
   show y.val%18446744073709551616%18446744073709551616=y.val%18446744073709551616
   omega
  have e2:IntKind.i64.wrap (y.val%18446744073709551616)=IntKind.i64.wrap y.val:=by simp only[IntKind.wrap,e]
  rw[e2,wrap_i64 hv.1 hv.2]
 (refine W_at c98_ok ⟨_,rfl,?_⟩;simp (disch:=first|omega|assumption|rfl|(simp only[vcS]<;>omega)|fail) only[↓vcN,vcQ,simprocAttr,c14,r1,hrv,hw64])
 refine callV_ret (rtext_ok m w4 r y.script rest hs (by unfold txtF;simpa only[List.append_assoc] using hS4)) ?_
 rintro u5 w5 ⟨hN5,hS5⟩
 have c25:=hS5.keep.at c24 n2
 have hK5:=hK4.trans hS5.keep fun _ _ h=>h
 have lw4:p1≤w4.heap.size:=by have:=hK4.size;omega
 have hcs:u5.cells=#[u5]:=by obtain⟨q,c,e,_⟩:=hN5.1.rd.is;rw[e];rfl
 have hbo:(#[Value.int .i64 y.val]++(u5.cells++#[]))=oC y u5:=by rw[hcs];rfl
 have hbo2:(#[Value.int .i64 y.val]++u5.cells)=oC y u5:=by rw[hcs];rfl
 have hbo3:(#[Value.int .i64 y.val]++#[u5])=oC y u5:=rfl
 have hu1:=hN5.1.rd.one
 have sz:(oC y u5).size=2:=rfl
 have fl:=oC_flat (y:=y) hu1
 have oz:okO (some (.cells (oC ⟨0,[]⟩ (.slice none 0 0)) 63 (0,0))) 0 2=True:=by
  have e:(oC ⟨0,[]⟩ (.slice none 0 0)).size=2:=rfl
  simp only[okO,e];simp
 have hsz1:u5.cells.size=1:=by rw[hcs];rfl
 first|(simp (disch:=first|omega|assumption|rfl|(simp only[vcS]<;>omega)|fail) only[↓vcN,vcQ,simprocAttr,hsz1,hbo2,c25,sz,oz])|skip
 refine⟨fl,?_⟩
 have kd:Keep (fun g=>g=p2) w5 (w5.putN p2 0 (oC y u5)):=(Keep.refl _ w5).putN _ fun _=>rfl
 have d9:(w5.putN p2 0 (oC y u5)).heap[p2]?=some (.cells (oC y u5) 63 (0,0)):=by
  rw[heap_putN_eq c25,splice_all (by rw[sz];rfl)]
 have rr:rdO (some (.cells (oC y u5) 63 (0,0))) 0 2=some (oC y u5):=rdO_all _ _ _ _ sz
 (refine W_at c98_ok ⟨_,rfl,?_⟩;simp (disch:=first|omega|assumption|rfl|(simp only[vcS]<;>omega)|fail) only[↓vcN,vcQ,simprocAttr,d9,rr])
 refine⟨_,rfl,_,rfl,⟨u5,rfl,(hN5.base lw4).keepT kd fun g hg c hc=>?_⟩,hK5.trans kd fun i hi e=>by omega,hS5.rs.keep kd fun g hg=>by omega⟩
 subst hg;rw[c25] at hc;cases hc
end Go.Proofs
namespace Go.Proofs
open Go.Vc
set_option maxRecDepth 10000
set_option maxHeartbeats 1600000 in
theorem lins_ok (m:Nat)(w:World)(r:Nat)(l:List TxI)(rest:List Int)(hl:l.length≤10)(ho:∀x∈l,x.Ok∧x.script.length≤1000)(h:RS m w r (l.flatMap encI++rest)):
  Calls Tryz.prog 95 #[.int .i64 (l.length:Nat),.func (.func 96) #[rdV r] #[]] w (Ret fun u w'=>InsN w.heap.size w' u (l.map bareI)∧Stp m w w' r rest):=by
 refine calls_of_cfg c95_ok (Nat.le_of_ble_eq_true rfl) ?_
 simp only[argE_nil,argE_cons,Nat.reduceAdd,Nat.zero_add]
 iterate 3 (refine W_at c95_ok ⟨_,rfl,?_⟩;simp (disch:=first|omega|assumption|rfl|(simp only[vcS]<;>omega)|fail) only[↓vcN,vcQ,simprocAttr])
 have hml:=h.2.1
 have L:∀(k i:Nat) (wj:World) (vj:Value) (tl:Env),k+i=l.length→Keep (fun g=>g=r) w wj→RS m wj r ((l.drop i).flatMap encI++rest)→InsN w.heap.size wj vj ((l.take i).map bareI)→
   W Tryz.prog (Ret fun u w'=>InsN w.heap.size w' u (l.map bareI)∧Stp m w w' r rest) 95 7 ((1,.func (.func 96) #[rdV r] #[])::(5,vj)::(6,.int .i64 (l.length:Nat))::(7,.int .i64 (i:Nat))::tl) wj:=by
  intro k
  induction k with
  |zero=>
   intro i wj vj tl hi hK hS hV
   obtain rfl:i=l.length:=by omega
   have hno:¬((l.length:Nat):Int)< (l.length:Nat):=by omega
   rw[List.take_length] at hV
   rw[List.drop_length,List.flatMap_nil,List.nil_append] at hS
   iterate 4 (refine W_at c95_ok ⟨_,rfl,?_⟩;simp (disch:=first|omega|assumption|rfl|(simp only[vcS]<;>omega)|fail) only[↓vcN,vcQ,simprocAttr,hno,Ret_returned])
   exact⟨hV,hK,hS⟩
  |succ k ih=>
   intro i wj vj tl hi hK hS hV
   have hil:i<l.length:=by omega
   have hlt:((i:Nat):Int)< (l.length:Nat):=by omega
   have hwi:IntKind.i64.wrap (((i:Nat):Int)+1)=((i+1:Nat):Int):=wrap_i64 (by omega) (by omega)
   have hok:=ho _ (List.getElem_mem hil)
   have htk:(l.take (i+1)).map bareI=(l.take i).map bareI++[bareI l[i]]:=by
    rw[List.take_add_one,List.getElem?_eq_getElem hil,List.map_append];rfl
   rw[List.drop_eq_getElem_cons hil,List.flatMap_cons,List.append_assoc] at hS
   generalize l[i]=x at*
   have lwj:w.heap.size≤wj.heap.size:=hK.size
   iterate 3 (refine W_at c95_ok ⟨_,rfl,?_⟩;simp (disch:=first|omega|assumption|rfl|(simp only[vcS]<;>omega)|fail) only[↓vcN,vcQ,simprocAttr,hlt])
   refine⟨by kernel_rfl,callV_ret (rinput_ok m wj r x _ hok.1 hok.2 hS) ?_⟩
   rintro _ wa ⟨c,rfl,hc,hSa⟩
   have hcs:c.size=36:=by obtain⟨sv,wv,e,_⟩:=hc;rw[e];exact iC_size hok.1.len sv wv
   have hcf:flat c:=by obtain⟨sv,wv,e,a,b⟩:=hc;rw[e];exact iC_flat a.1.rd.one b.rd.one
   have hcx:(Value.agg c).cells=c:=rfl
   have hcl:c.toList++[]=c.toList:=List.append_nil _
   have hca:c.toList.toArray=c:=by simp
   have hVa:InsN w.heap.size wa vj _:=ListN.keepT hV hSa.keep (fun g hg cc hcc=>by subst hg;obtain⟨_,_,B,v,hR,_⟩:=hS;rw[hR.at'] at hcc;cases hcc) fun _ _ hI=>hI.keepT hSa.keep fun g hg cc=>by subst hg;obtain⟨_,_,B,v,hR,_⟩:=hS;exact⟨fun e=>(by rw[hR.at'] at e;cases e),fun e=>(by rw[hR.at'] at e;cases e)⟩
   have hc':InN w.heap.size wa c (bareI x):=hc.base lwj
   first|(simp (disch:=first|omega|assumption|rfl|(simp only[vcS]<;>omega)|fail) only[↓vcN,vcQ,simprocAttr,hcx,hcs,hcl,hca])|skip
   have lwa:=hSa.keep.size
   refine ListN.app hVa hc' hcs hcf (by rw[List.length_map,List.length_take];omega) (by rw[List.length_map,List.length_take];omega) rfl (by decide) (by omega) InN.kT fun v' wb hVb hEa hKb hb=>?_
   rw[←htk] at hVb
   have hbb:∀g,blk vj g→w.heap.size≤g∧∃cur,wa.heap[g]?=some (.cells cur 61 (0,0)):=fun g hg=>by
    obtain⟨cs',_,hO,_⟩:=hVa
    exact OwnO.blk hO hg
   have hSb:RS m wb r ((l.drop (i+1)).flatMap encI++rest):=hSa.rs.keep hKb fun g hg=>by have:=(hbb g hg).1;omega
   have hKb:Keep (fun g=>g=r) w wb:=(hK.trans hSa.keep fun _ _ h=>h).trans hKb fun g hg hs=>by have:=(hbb g hs).1;omega
   first|(simp (disch:=first|omega|assumption|rfl|(simp only[vcS]<;>omega)|fail) only[↓vcN,vcQ,simprocAttr])|skip
   iterate 2 (refine W_at c95_ok ⟨_,rfl,?_⟩;simp (disch:=first|omega|assumption|rfl|(simp only[vcS]<;>omega)|fail) only[↓vcN,vcQ,simprocAttr,hwi])
   exact ih (i+1) wb v' _ (by omega) hKb hSb hVb
 exact L l.length 0 w _ _ (by omega) (Keep.refl _ w) (by rw[List.drop_zero];exact h) (ListN.nil _ _ _ _ _)
set_option maxHeartbeats 1600000 in
theorem louts_ok (m:Nat)(w:World)(r:Nat)(l:List TxO)(rest:List Int)(hl:l.length≤10)(ho:∀x∈l,x.Ok∧x.script.length≤1000)(h:RS m w r (l.flatMap encO++rest)):
  Calls Tryz.prog 97 #[.int .i64 (l.length:Nat),.func (.func 98) #[rdV r] #[]] w (Ret fun u w'=>OusN w.heap.size w' u (l.map id)∧Stp m w w' r rest):=by
 refine calls_of_cfg c97_ok (Nat.le_of_ble_eq_true rfl) ?_
 simp only[argE_nil,argE_cons,Nat.reduceAdd,Nat.zero_add]
 iterate 3 (refine W_at c97_ok ⟨_,rfl,?_⟩;simp (disch:=first|omega|assumption|rfl|(simp only[vcS]<;>omega)|fail) only[↓vcN,vcQ,simprocAttr])
 have hml:=h.2.1
 have L:∀(k i:Nat) (wj:World) (vj:Value) (tl:Env),k+i=l.length→Keep (fun g=>g=r) w wj→RS m wj r ((l.drop i).flatMap encO++rest)→OusN w.heap.size wj vj ((l.take i).map id)→
   W Tryz.prog (Ret fun u w'=>OusN w.heap.size w' u (l.map id)∧Stp m w w' r rest) 97 7 ((1,.func (.func 98) #[rdV r] #[])::(5,vj)::(6,.int .i64 (l.length:Nat))::(7,.int .i64 (i:Nat))::tl) wj:=by
  intro k
  induction k with
  |zero=>
   intro i wj vj tl hi hK hS hV
   obtain rfl:i=l.length:=by omega
   have hno:¬((l.length:Nat):Int)< (l.length:Nat):=by omega
   rw[List.take_length] at hV
   rw[List.drop_length,List.flatMap_nil,List.nil_append] at hS
   iterate 4 (refine W_at c97_ok ⟨_,rfl,?_⟩;simp (disch:=first|omega|assumption|rfl|(simp only[vcS]<;>omega)|fail) only[↓vcN,vcQ,simprocAttr,hno,Ret_returned])
   exact⟨hV,hK,hS⟩
  |succ k ih=>
   intro i wj vj tl hi hK hS hV
   have hil:i<l.length:=by omega
   have hlt:((i:Nat):Int)< (l.length:Nat):=by omega
   have hwi:IntKind.i64.wrap (((i:Nat):Int)+1)=((i+1:Nat):Int):=wrap_i64 (by omega) (by omega)
   have hok:=ho _ (List.getElem_mem hil)
   have htk:(l.take (i+1)).map id=(l.take i).map id++[id l[i]]:=by
    rw[List.take_add_one,List.getElem?_eq_getElem hil,List.map_append];rfl
   rw[List.drop_eq_getElem_cons hil,List.flatMap_cons,List.append_assoc] at hS
   generalize l[i]=x at*
   have lwj:w.heap.size≤wj.heap.size:=hK.size
   iterate 3 (refine W_at c97_ok ⟨_,rfl,?_⟩;simp (disch:=first|omega|assumption|rfl|(simp only[vcS]<;>omega)|fail) only[↓vcN,vcQ,simprocAttr,hlt])
   refine⟨by kernel_rfl,callV_ret (routput_ok m wj r x _ hok.1 hok.2 hS) ?_⟩
   rintro _ wa ⟨c,rfl,hc,hSa⟩
   have hcs:c.size=2:=by obtain⟨sv,e,_⟩:=hc;rw[e];rfl
   have hcf:flat c:=by obtain⟨sv,e,a⟩:=hc;rw[e];exact oC_flat a.1.rd.one
   have hcx:(Value.agg c).cells=c:=rfl
   have hcl:c.toList++[]=c.toList:=List.append_nil _
   have hca:c.toList.toArray=c:=by simp
   have hVa:OusN w.heap.size wa vj _:=ListN.keepT hV hSa.keep (fun g hg cc hcc=>by subst hg;obtain⟨_,_,B,v,hR,_⟩:=hS;rw[hR.at'] at hcc;cases hcc) fun _ _ hI=>hI.keepT hSa.keep fun g hg cc e=>by subst hg;obtain⟨_,_,B,v,hR,_⟩:=hS;rw[hR.at'] at e;cases e
   have hc':OuN w.heap.size wa c (id x):=hc.base lwj
   first|(simp (disch:=first|omega|assumption|rfl|(simp only[vcS]<;>omega)|fail) only[↓vcN,vcQ,simprocAttr,hcx,hcs,hcl,hca])|skip
   have lwa:=hSa.keep.size
   refine ListN.app hVa hc' hcs hcf (by rw[List.length_map,List.length_take];omega) (by rw[List.length_map,List.length_take];omega) rfl (by decide) (by omega) OuN.kT fun v' wb hVb hEa hKb hb=>?_
   rw[←htk] at hVb
   have hbb:∀g,blk vj g→w.heap.size≤g∧∃cur,wa.heap[g]?=some (.cells cur 63 (0,0)):=fun g hg=>by
    obtain⟨cs',_,hO,_⟩:=hVa
    exact OwnO.blk hO hg
   have hSb:RS m wb r ((l.drop (i+1)).flatMap encO++rest):=hSa.rs.keep hKb fun g hg=>by have:=(hbb g hg).1;omega
   have hKb:Keep (fun g=>g=r) w wb:=(hK.trans hSa.keep fun _ _ h=>h).trans hKb fun g hg hs=>by have:=(hbb g hs).1;omega
   first|(simp (disch:=first|omega|assumption|rfl|(simp only[vcS]<;>omega)|fail) only[↓vcN,vcQ,simprocAttr])|skip
   iterate 2 (refine W_at c97_ok ⟨_,rfl,?_⟩;simp (disch:=first|omega|assumption|rfl|(simp only[vcS]<;>omega)|fail) only[↓vcN,vcQ,simprocAttr,hwi])
   exact ih (i+1) wb v' _ (by omega) hKb hSb hVb
 exact L l.length 0 w _ _ (by omega) (Keep.refl _ w) (by rw[List.drop_zero];exact h) (ListN.nil _ _ _ _ _)
end Go.Proofs
namespace Go.Proofs
open Go.Vc
set_option maxRecDepth 10000
theorem RowN.app {m:Nat}{w:World}{v u:Value}{ps:List (List Int)}{p:List Int}{K:Value→World→Prop}(h:RowN m w v ps)(hu:N1 m w u p)(hl:ps.length≤100000)(hm:m≤w.heap.size)
  (hk:∀v' w',RowN m w' v' (ps++[p])→Keep (blk v) w w'→(∀g,blk v g→m≤g∧∃c,w.heap[g]?=some (.cells c 41 (0,0)))→K v' w'):
  appV 41 1 24 [.slice none 0 0] v (.slice (some ⟨w.heap.size,0,none⟩) 1 1) (w.alloc (.cells #[u] 41)) K:=by
 obtain⟨vs,h1,h2,h3⟩:=h
 have hll:(vs.map fun v=>(#[v]:Array Value)).length=vs.length:=List.length_map _
 have hEA:Ext w (w.alloc (.cells #[u] 41)):=(Keep.refl _ w).alloc _
 have hOA:OwnO (w.alloc (.cells #[u] 41)) m 41 1 v (vs.map fun v=>#[v]):=h1.ext hEA
 have hrA:rdS (w.alloc (.cells #[u] 41)) 1 (.slice (some ⟨w.heap.size,0,none⟩) 1 1)=some (([#[u]]:List (Array Value)).flatMap Array.toList).toArray:=by
  simp only[rdS,rdN_heap]
  rw[if_neg (by decide),heap_new w _ _ rfl]
  rfl
 refine appO4 (ids2:=[#[u]]) hOA hrA rfl (by simp) (by intro k hk;rw[List.mem_singleton.1 hk,flat_1];exact hu.1.rd.one) (by rw[hll];omega) (by rw[hll];omega) rfl (Nat.le_trans hm hEA.size) (by decide) fun v' w' k1 k2 k3=>?_
 have hnb:∀g,blk v g→∀c,(w.alloc (.cells #[u] 41)).heap[g]?≠some (.cells c 5 (0,0)):=fun g hg c hc=>by
  obtain⟨_,c',hc'⟩:=hOA.blk hg
  rw[hc] at hc';cases hc'
 refine hk v' w' ⟨vs++[u],by rw[List.map_append];exact k1,by simp [h2],fun j a b=>?_⟩ ((hEA.mono fun _ h=>h.elim).trans k2 fun _ _ h=>h) fun g hg=>h1.blk hg
 by_cases hj:j<vs.length
 ·rw[List.getElem_append_left hj,List.getElem_append_left (by omega)]
  exact((h3 j hj (by omega)).ext hEA).keepT k2 hnb
 ·rw[List.length_append,List.length_singleton] at a
  have hje:j=vs.length:=by omega
  subst hje
  rw[List.getElem_append_right (by omega),List.getElem_append_right (by omega)]
  have:=(hu.ext hEA).keepT k2 hnb
  simpa using this
set_option maxHeartbeats 1600000 in
theorem lrows_ok (m:Nat)(w:World)(r:Nat)(l:List (List Int))(rest:List Int)(hl:l.length≤10)(ho:∀x∈l,x.length≤1000)(h:RS m w r (l.flatMap txtF++rest)):
  Calls Tryz.prog 99 #[.int .i64 (l.length:Nat),.func (.func 100) #[rdV r] #[]] w (Ret fun u w'=>RowN w.heap.size w' u l∧Stp m w w' r rest):=by
 refine calls_of_cfg c99_ok (Nat.le_of_ble_eq_true rfl) ?_
 simp only[argE_nil,argE_cons,Nat.reduceAdd,Nat.zero_add]
 iterate 3 (refine W_at c99_ok ⟨_,rfl,?_⟩;simp (disch:=first|omega|assumption|rfl|(simp only[vcS]<;>omega)|fail) only[↓vcN,vcQ,simprocAttr])
 have hml:=h.2.1
 have L:∀(k i:Nat) (wj:World) (vj:Value) (tl:Env),k+i=l.length→Keep (fun g=>g=r) w wj→RS m wj r ((l.drop i).flatMap txtF++rest)→RowN w.heap.size wj vj (l.take i)→
   W Tryz.prog (Ret fun u w'=>RowN w.heap.size w' u l∧Stp m w w' r rest) 99 7 ((1,.func (.func 100) #[rdV r] #[])::(5,vj)::(6,.int .i64 (l.length:Nat))::(7,.int .i64 (i:Nat))::tl) wj:=by
  intro k
  induction k with
  |zero=>
   intro i wj vj tl hi hK hS hV
   obtain rfl:i=l.length:=by omega
   have hno:¬((l.length:Nat):Int)< (l.length:Nat):=by omega
   rw[List.take_length] at hV
   rw[List.drop_length,List.flatMap_nil,List.nil_append] at hS
   iterate 4 (refine W_at c99_ok ⟨_,rfl,?_⟩;simp (disch:=first|omega|assumption|rfl|(simp only[vcS]<;>omega)|fail) only[↓vcN,vcQ,simprocAttr,hno,Ret_returned])
   exact⟨hV,hK,hS⟩
  |succ k ih=>
   intro i wj vj tl hi hK hS hV
   have hil:i<l.length:=by omega
   have hlt:((i:Nat):Int)< (l.length:Nat):=by omega
   have hwi:IntKind.i64.wrap (((i:Nat):Int)+1)=((i+1:Nat):Int):=wrap_i64 (by omega) (by omega)
   have hok:=ho _ (List.getElem_mem hil)
   have htk:l.take (i+1)=l.take i++[l[i]]:=by
    rw[List.take_add_one,List.getElem?_eq_getElem hil];rfl
   rw[List.drop_eq_getElem_cons hil,List.flatMap_cons,List.append_assoc] at hS
   generalize l[i]=x at*
   have lwj:w.heap.size≤wj.heap.size:=hK.size
   iterate 3 (refine W_at c99_ok ⟨_,rfl,?_⟩;simp (disch:=first|omega|assumption|rfl|(simp only[vcS]<;>omega)|fail) only[↓vcN,vcQ,simprocAttr,hlt])
   refine⟨by kernel_rfl,callV_ret (rtext_ok m wj r x _ hok hS) ?_⟩
   rintro u wa ⟨hu,hSa⟩
   have hcs:u.cells=#[u]:=by obtain⟨q,c,e,_⟩:=hu.1.rd.is;rw[e];rfl
   have hcz:(#[u]:Array Value).size=1:=rfl
   have hcl:(#[u]:Array Value).toList++[]=[u]:=rfl
   have hVa:RowN w.heap.size wa vj _:=hV.keepT hSa.keep fun g hg cc=>by subst hg;obtain⟨_,_,B,v,hR,_⟩:=hS;exact⟨fun e=>(by rw[hR.at'] at e;cases e),fun e=>(by rw[hR.at'] at e;cases e)⟩
   have hu':N1 w.heap.size wa u x:=hu.base lwj
   first|(simp (disch:=first|omega|assumption|rfl|(simp only[vcS]<;>omega)|fail) only[↓vcN,vcQ,simprocAttr,hcs,hcz,hcl])|skip
   have lwa:=hSa.keep.size
   refine RowN.app hVa hu' (by rw[List.length_take];omega) (by omega) fun v' wb hVb hKb hbb=>?_
   rw[←htk] at hVb
   have hSb:RS m wb r ((l.drop (i+1)).flatMap txtF++rest):=hSa.rs.keep hKb fun g hg=>by have:=(hbb g hg).1;omega
   have hKb:Keep (fun g=>g=r) w wb:=(hK.trans hSa.keep fun _ _ h=>h).trans hKb fun g hg hs=>by have:=(hbb g hs).1;omega
   first|(simp (disch:=first|omega|assumption|rfl|(simp only[vcS]<;>omega)|fail) only[↓vcN,vcQ,simprocAttr])|skip
   iterate 2 (refine W_at c99_ok ⟨_,rfl,?_⟩;simp (disch:=first|omega|assumption|rfl|(simp only[vcS]<;>omega)|fail) only[↓vcN,vcQ,simprocAttr,hwi])
   exact ih (i+1) wb v' _ (by omega) hKb hSb hVb
 exact L l.length 0 w _ _ (by omega) (Keep.refl _ w) (by rw[List.drop_zero];exact h) (RowN.nil _ _)
end Go.Proofs
namespace Go.Proofs
open Go.Vc
set_option maxRecDepth 10000
theorem ListN.toR {α:Type}{R:Nat→World→Array Value→α→Prop}{R':World→Array Value→α→Prop}{T size m:Nat}{w:World}{v:Value}{l:List α}(h:ListN R T size m w v l)(hR:∀c x,R m w c x→R' w c x):ListR R' size w v l:=by
 obtain⟨cs,h1,h2,h3⟩:=h
 obtain⟨q,c,e,hc⟩:=h2.is
 have hmx:=h2.mx
 exact⟨cs,h1,h2.sz,h2.rd,⟨q,c,by rw[e,h1],by omega⟩,by omega,fun i a b=>hR _ _ (h3 i a b)⟩
theorem bareI_len {x:TxI}(h:x.Ok):(bareI x).prev.length=32:=h.len
def halfW (l:List TxI)(i:Nat):List TxI:=l.take i++(l.drop i).map bareI
theorem halfW_0 (l:List TxI):halfW l 0=l.map bareI:=by simp [halfW]
theorem halfW_all (l:List TxI):halfW l l.length=l:=by simp [halfW]
theorem halfW_len (l:List TxI)(i:Nat):(halfW l i).length=l.length:=by simp [halfW];omega
theorem halfW_set {l:List TxI}{i:Nat}(h:i<l.length):(halfW l i).set i l[i]=halfW l (i+1):=by
 unfold halfW
 have hl:(l.take i).length=i:=by rw[List.length_take];omega
 have e:l.take (i+1)=l.take i++[l[i]]:=by rw[List.take_add_one,List.getElem?_eq_getElem h];rfl
 rw[List.set_append_right _ _ (by omega),hl,Nat.sub_self,List.drop_eq_getElem_cons h,List.map_cons,List.set_cons_zero,e,List.append_assoc]
 rfl
theorem halfW_get {l:List TxI}{i:Nat}(h:i<l.length)(h':i< (halfW l i).length):(halfW l i)[i]=bareI l[i]:=by
 have hl:(l.take i).length=i:=by rw[List.length_take];omega
 have e:(halfW l i)[i]?=some (bareI l[i]):=by
  unfold halfW
  rw[List.getElem?_append_right (by omega),hl,Nat.sub_self,List.drop_eq_getElem_cons h]
  rfl
 exact(List.getElem?_eq_some_iff.1 e).2
theorem bare_all {l:List TxI}(h:(l.any fun x=>decide (0<x.wit.length))=false):l.map bareI=l:=by
 rw[List.any_eq_false] at h
 refine(List.map_congr_left fun x hx=>?_).trans (List.map_id l)
 have:=h x hx
 have h0:x.wit.length=0:=by
  have:¬(0<x.wit.length):=fun hh=>this (decide_eq_true hh)
  omega
 have e:x.wit=[]:=List.eq_nil_of_length_eq_zero h0
 show bareI x=x
 unfold bareI
 cases x with
 |mk a b c d e2=>simp at e;subst e;rfl
theorem txC_set1 (t:TxV)(iv ov v:Value):(txC t iv ov).setIfInBounds 1 v=txC t v ov:=rfl
theorem txC_set2 (t:TxV)(iv ov v:Value):(txC t iv ov).setIfInBounds 2 v=txC t iv v:=rfl
theorem txC_set3 (t:TxV)(iv ov:Value)(n:Int):(txC t iv ov).setIfInBounds 3 (.int .u32 n)=txC {t with lock:=n} iv ov:=rfl
theorem txC_fl {t:TxV}{iv ov:Value}(h1:iv.oneCell'=true)(h2:ov.oneCell'=true):flat (txC t iv ov):=by
 intro y hy;simp only[txC,List.mem_cons,List.not_mem_nil,or_false] at hy;rcases hy with rfl|rfl|rfl|rfl<;>first|rfl|assumption
structure RdS (m B:Nat)(w wj:World)(r p1 p2 p3:Nat)(ver lock:Int)(iv ov:Value)(li:List TxI)(lo:List TxO)(bs:List Int):Prop where
 k:Keep (fun i=>i=r) w wj
 s:RS m wj r bs
 c1:wj.heap[p1]?=some (.cells #[.pointer (some ⟨r,0,none⟩)] 94 (0,0))
 c2:wj.heap[p2]?=some (.cells (txC ⟨0,[],[],0⟩ (.slice none 0 0) (.slice none 0 0)) 33 (0,0))
 c3:wj.heap[p3]?=some (.cells (txC ⟨ver,[],[],lock⟩ iv ov) 33 (0,0))
 i:InsN B wj iv li
 o:OusN B wj ov lo
theorem RdS.rN {m B:Nat}{w wj:World}{r p1 p2 p3:Nat}{ver lock:Int}{iv ov:Value}{li:List TxI}{lo:List TxO}{bs:List Int}(h:RdS m B w wj r p1 p2 p3 ver lock iv ov li lo bs)(g:Nat)(hg:g=r)(T':TypeId)(hT:T'≠130)(c:Array Value):wj.heap[g]?≠some (.cells c T' (0,0)):=fun e=>by
 subst hg
 obtain⟨_,_,_,v,hR,_⟩:=h.s
 rw[hR.at'] at e
 injection e with e
 injection e with _ e
 exact hT e.symm
theorem RdS.step {m B:Nat}{w wj wk:World}{r p1 p2 p3:Nat}{ver lock:Int}{iv ov:Value}{li:List TxI}{lo:List TxO}{bs bs':List Int}(h:RdS m B w wj r p1 p2 p3 ver lock iv ov li lo bs)(hs:Stp m wj wk r bs')(h1:p1≠r)(h2:p2≠r)(h3:p3≠r):RdS m B w wk r p1 p2 p3 ver lock iv ov li lo bs' where
 k:=h.k.trans hs.keep fun _ _ h=>h
 s:=hs.rs
 c1:=hs.keep.at h.c1 h1
 c2:=hs.keep.at h.c2 h2
 c3:=hs.keep.at h.c3 h3
 i:=ListN.keepT h.i hs.keep (fun g hg c=>h.rN g hg _ (by decide) c) fun _ _ hI=>hI.keepT hs.keep fun g hg c=>⟨h.rN g hg _ (by decide) c,h.rN g hg _ (by decide) c⟩
 o:=ListN.keepT h.o hs.keep (fun g hg c=>h.rN g hg _ (by decide) c) fun _ _ hI=>hI.keepT hs.keep fun g hg c=>h.rN g hg _ (by decide) c
theorem RdS.ext {m B:Nat}{w wj wk:World}{r p1 p2 p3:Nat}{ver lock:Int}{iv ov:Value}{li:List TxI}{lo:List TxO}{bs:List Int}(h:RdS m B w wj r p1 p2 p3 ver lock iv ov li lo bs)(k:Ext wj wk):RdS m B w wk r p1 p2 p3 ver lock iv ov li lo bs:=
 ⟨h.k.ext k,h.s.ext k,k.at h.c1 fun h=>h,k.at h.c2 fun h=>h,k.at h.c3 fun h=>h,InsN.ext h.i k,OusN.ext h.o k⟩
theorem RdS.put {m B:Nat}{w wj wk:World}{r p1 p2 p3:Nat}{ver ver' lock lock':Int}{iv ov iv' ov':Value}{li li':List TxI}{lo lo':List TxO}{bs:List Int}(h:RdS m B w wj r p1 p2 p3 ver lock iv ov li lo bs)(hm:w.heap.size≤p3)(hm2:m≤p3)(h13:p1≠p3)(h23:p2≠p3)(k:Keep (fun g=>g=p3) wj wk)(c3:wk.heap[p3]?=some (.cells (txC ⟨ver',[],[],lock'⟩ iv' ov') 33 (0,0)))
  (hi:InsN B wj iv' li') (ho:OusN B wj ov' lo'):RdS m B w wk r p1 p2 p3 ver' lock' iv' ov' li' lo' bs:=by
 have n3:∀g,g=p3→∀T',T'≠33→∀c,wj.heap[g]?≠some (.cells c T' (0,0)):=fun g hg T' hT c e=>by
  subst hg;rw[h.c3] at e;injection e with e;injection e with _ e;exact hT e.symm
 exact⟨h.k.trans k fun i hi e=>by omega,h.s.keep k fun g hg=>by omega,k.at h.c1 h13,k.at h.c2 h23,c3,
  ListN.keepT hi k (fun g hg c=>n3 g hg _ (by decide) c) fun _ _ hI=>hI.keepT k fun g hg c=>⟨n3 g hg _ (by decide) c,n3 g hg _ (by decide) c⟩,
  ListN.keepT ho k (fun g hg c=>n3 g hg _ (by decide) c) fun _ _ hI=>hI.keepT k fun g hg c=>n3 g hg _ (by decide) c⟩
set_option maxHeartbeats 3200000 in
theorem rtx_ok (w:World)(r:Nat)(t:TxV)(h3:t.Sm3)(hne:0<t.ins.length)(m:Nat)(h:RS m w r (encT t)):
  Calls Tryz.prog 48 #[rdV r] w (Ret fun u w'=> ∃iv ov,u=.agg (txC t iv ov)∧InsN w.heap.size w' iv t.ins∧OusN w.heap.size w' ov t.outs∧Keep (fun i=>i=r) w w'):=by
 refine calls_of_cfg c48_ok (Nat.le_of_ble_eq_true rfl) ?_
 simp only[argE_nil,argE_cons,Nat.zero_add]
 have ht:=h3.ok
 have hnI:=h3.few.ins
 have hnO:=h3.few.outs
 have hcx:(rdV r).cells=#[.pointer (some ⟨r,0,none⟩)]:=rfl
 have f:=rv_flat r
 have r1:=rv_rd r
 have hrv:=rv_eq r
 have hml:=h.2.1
 have hzt:zc [(1,Value.int .i32 0),(2,.slice none 0 0),(1,.int .u32 0)]=txC ⟨0,[],[],0⟩ (.slice none 0 0) (.slice none 0 0):=rfl
 (refine W_at c48_ok ⟨_,rfl,?_⟩;simp (disch:=first|omega|assumption|rfl|(simp only[vcS]<;>omega)|fail) only[↓vcN,vcQ,simprocAttr,hcx,hzt])
 obtain⟨hE1,c1⟩:=rv_box w r
 have s1:(w.alloc (.cells #[.pointer (some ⟨r,0,none⟩)] 94)).heap.size=w.heap.size+1:=size_alloc _ _
 generalize World.alloc w _=w1 at hE1 c1 s1⊢
 have hE2:Ext w1 (w1.alloc (.cells (txC ⟨0,[],[],0⟩ (.slice none 0 0) (.slice none 0 0)) 33)):=(Keep.refl _ w1).alloc _
 have c2:(w1.alloc (.cells (txC ⟨0,[],[],0⟩ (.slice none 0 0) (.slice none 0 0)) 33)).heap[w.heap.size+1]?=some (.cells (txC ⟨0,[],[],0⟩ (.slice none 0 0) (.slice none 0 0)) 33 (0,0)):=heap_new _ _ _ s1.symm
 generalize World.alloc w1 _=w2 at hE2 c2⊢
 have c12:=hE2.at c1 (fun h=>h)
 have hE02:=hE1.ext hE2
 have hS:=h.ext hE02
 generalize hp1:w.heap.size=p1 at*
 generalize hp2:p1+1=p2 at*
 have n1:=h.ne (p:=p1) (by omega)
 have n2:=h.ne (p:=p2) (by omega)
 obtain⟨mk,hmk⟩:∃mk,mk=witB t:=⟨_,rfl⟩
 have hbs:encT t=lowF 4 (t.ver%4294967296)++(preW mk++(sizeF t.ins.length++(t.ins.flatMap encI++(sizeF t.outs.length++(t.outs.flatMap encO++(endW t mk++lowF 4 t.lock)))))):=by
  unfold encT encW;rw[←hmk];simp only[List.append_assoc]
 rw[hbs] at hS
 have hvb:=wrap_i32_back ht.ver
 have hv:=ht.ver
 have hsz:=txC_sz ⟨t.ver,[],[],0⟩ (.slice none 0 0) (.slice none 0 0)
 have hbld:(#[Value.int .i32 t.ver]++zc [(2,.slice none 0 0),(1,.int .u32 0)])=txC ⟨t.ver,[],[],0⟩ (.slice none 0 0) (.slice none 0 0):=rfl
 (refine W_at c48_ok ⟨_,rfl,?_⟩;simp (disch:=first|omega|assumption|rfl|(simp only[vcS]<;>omega)|fail) only[↓vcN,vcQ,simprocAttr,c12,r1,hrv])
 refine callV_ret (rnum_ok m w2 r (t.ver%4294967296) _ (by omega) hS) ?_
 rintro _ w3 ⟨rfl,hS3⟩
 first|(simp (disch:=first|omega|assumption|rfl|(simp only[vcS]<;>omega)|fail) only[↓vcN,vcQ,simprocAttr,hvb,hbld,hzt,hsz])|skip
 refine⟨txC_fl rfl rfl,by decide,?_⟩
 have hE3:Ext w3 ((w3.alloc (.cells (txC ⟨0,[],[],0⟩ (.slice none 0 0) (.slice none 0 0)) 33)).putN w3.heap.size 0 (txC ⟨t.ver,[],[],0⟩ (.slice none 0 0) (.slice none 0 0))):=((Keep.refl _ w3).alloc _).putN _ (by intro hh;exfalso;omega)
 have c33:((w3.alloc (.cells (txC ⟨0,[],[],0⟩ (.slice none 0 0) (.slice none 0 0)) 33)).putN w3.heap.size 0 (txC ⟨t.ver,[],[],0⟩ (.slice none 0 0) (.slice none 0 0))).heap[w3.heap.size]?=some (.cells (txC ⟨t.ver,[],[],0⟩ (.slice none 0 0) (.slice none 0 0)) 33 (0,0)):=by
  rw[heap_putN_eq (heap_new _ _ _ rfl),splice_all (by rfl)]
 have c13:=hE3.at (hS3.keep.at c12 n1) (fun h=>h)
 have c23:=hE3.at (hS3.keep.at c2 n2) (fun h=>h)
 have l3:p2<w3.heap.size:=lt_of_heap (hS3.keep.at c2 n2)
 have hK3:Keep (fun i=>i=r) w _:=((hE02.mono fun _ h=>h.elim).trans hS3.keep fun _ _ h=>h).ext hE3
 have hS4:=hS3.rs.ext hE3
 generalize World.putN _ _ _ _=w4 at hE3 c33 c13 c23 hK3 hS4⊢
 generalize hp3:w3.heap.size=p3 at*
 have n3:=h.ne (p:=p3) (by omega)
 have hD:RdS m p1 w w4 r p1 p2 p3 t.ver 0 (.slice none 0 0) (.slice none 0 0) [] [] _:=⟨hK3,hS4,c13,c23,c33,ListN.nil _ _ _ _ _,ListN.nil _ _ _ _ _⟩
 clear hE1 hE2 hE02 c1 c2 c12 s1 hS hS3 hE3 c33 c13 c23 hK3 hS4
 have m3:m≤p3:=by omega
 have w3l:w.heap.size≤p3:=by omega
 have e13:p1≠p3:=by omega
 have e23:p2≠p3:=by omega
 have last:∀(mk:Bool) (wj:World) (iv ov:Value) (tl:Env),(mk=true→witB t=true)→RdS m p1 w wj r p1 p2 p3 t.ver 0 iv ov t.ins t.outs (lowF 4 t.lock)→
   W Tryz.prog (Ret fun u w'=> ∃iv ov,u=.agg (txC t iv ov)∧InsN p1 w' iv t.ins∧OusN p1 w' ov t.outs∧Keep (fun i=>i=r) w w') 48 5 ((1,.pointer (some ⟨p1,0,none⟩))::(2,.pointer (some ⟨p2,0,none⟩))::(3,.pointer (some ⟨p3,0,none⟩))::(5,.bool mk)::tl) wj:=by
  intro mk wj iv ov tl hw hD
  have d1:=hD.c1
  (refine W_at c48_ok ⟨_,rfl,?_⟩;simp (disch:=first|omega|assumption|rfl|(simp only[vcS]<;>omega)|fail) only[↓vcN,vcQ,simprocAttr,d1,r1,hrv])
  refine callV_ret (rnum_ok m wj r t.lock [] ht.lock (by rw[List.append_nil];exact hD.s)) ?_
  rintro _ wk ⟨rfl,hSk⟩
  have hDk:=hD.step hSk n1 n2 n3
  have o3:=wr1_of (o:=3) hDk.c3 (by rw[txC_sz];decide)
  have k3:Keep (fun g=>g=p3) wk (wk.setCell ⟨p3,3,none⟩ (.int .u32 t.lock)):=(Keep.refl _ wk).setCell _ fun _=>rfl
  have c3':(wk.setCell ⟨p3,3,none⟩ (.int .u32 t.lock)).heap[p3]?=some (.cells (txC ⟨t.ver,[],[],t.lock⟩ iv ov) 33 (0,0)):=by rw[heap_setCell_eq hDk.c3,txC_set3]
  have hDl:=hDk.put w3l m3 e13 e23 k3 c3' hDk.i hDk.o
  first|(simp (disch:=first|omega|assumption|rfl|(simp only[vcS]<;>omega)|fail) only[↓vcN,vcQ,simprocAttr,o3])|skip
  generalize World.setCell _ _ _=wl at hDl⊢
  clear k3 c3' o3 hDk hSk hD d1
  have r4:∀T,rdO (some (.cells (txC ⟨t.ver,[],[],t.lock⟩ iv ov) T (0,0))) 0 4=some (txC ⟨t.ver,[],[],t.lock⟩ iv ov):=fun T=>rdO_all _ _ _ _ rfl
  have etx:txC ⟨t.ver,[],[],t.lock⟩ iv ov=txC t iv ov:=rfl
  have hTl:TxR wl iv ov t:=⟨ListN.toR hDl.i fun _ _ h=>h.at,ListN.toR hDl.o fun _ _ h=>h.at⟩
  have hEd:Ext wl wl.drew:=(Keep.refl _ wl).drew
  have hDd:=hDl.ext hEd
  have d1:=hDl.c1
  have d1d:=hDd.c1
  have d3:=hDl.c3
  have d3d:=hDd.c3
  have left:∀(wm:World) (tl:Env),RdS m p1 w wm r p1 p2 p3 t.ver t.lock iv ov t.ins t.outs []→
    W Tryz.prog (Ret fun u w'=> ∃iv ov,u=.agg (txC t iv ov)∧InsN p1 w' iv t.ins∧OusN p1 w' ov t.outs∧Keep (fun i=>i=r) w w') 48 3 ((1,.pointer (some ⟨p1,0,none⟩))::(2,.pointer (some ⟨p2,0,none⟩))::(3,.pointer (some ⟨p3,0,none⟩))::tl) wm:=by
   intro wm tl hDm
   have hEd:Ext wm wm.drew:=(Keep.refl _ wm).drew
   have hDd:=hDm.ext hEd
   have d1:=hDm.c1
   have d1d:=hDd.c1
   have nz:¬((0:Int)<0):=by decide
   (refine W_at c48_ok ⟨_,rfl,?_⟩;simp (disch:=first|omega|assumption|rfl|(simp only[vcS]<;>omega)|fail) only[↓vcX,ptS2_eq,vcQ,simprocAttr,d1,r1,hrv])
   refine callV_ret (sLeft_ok m _ r hDd.s) ?_
   rintro _ wn ⟨rfl,hwn⟩
   obtain rfl:wn=wm.drew:=hwn
   simp (disch:=first|omega|assumption|rfl|(simp only[vcS]<;>omega)|fail) only[↓vcY,ptS1_eq,vcQ,simprocAttr,d1,r1,hrv,nz]
   refine callV_ret (must_ok _ r 3) ?_
   rintro _ wo hEo
   have hDo:=hDd.ext hEo
   have d3:=hDo.c3
   have d2:=hDo.c2
   first|(simp (disch:=first|omega|assumption|rfl|(simp only[vcS]<;>omega)|fail) only[↓vcX,ptS2_eq,vcQ,simprocAttr])|skip
   have oz:okO (some (.cells (txC ⟨0,[],[],0⟩ (.slice none 0 0) (.slice none 0 0)) 33 (0,0))) 0 4=True:=by
    have e:(txC ⟨0,[],[],0⟩ (.slice none 0 0) (.slice none 0 0)).size=4:=rfl
    simp only[okO,e];simp
   have s4:=txC_sz t iv ov
   (refine W_at c48_ok ⟨_,rfl,?_⟩;simp (disch:=first|omega|assumption|rfl|(simp only[vcS]<;>omega)|fail) only[↓vcN,vcQ,simprocAttr,d3,d2,oz,etx,s4])
   refine⟨txC_fl (ListN.one hDo.i) (ListN.one hDo.o),?_⟩
   have k2:Keep (fun g=>g=p2) wo (wo.putN p2 0 (txC t iv ov)):=(Keep.refl _ wo).putN _ fun _=>rfl
   have d9:(wo.putN p2 0 (txC t iv ov)).heap[p2]?=some (.cells (txC t iv ov) 33 (0,0)):=by
    rw[heap_putN_eq d2,splice_all (by rfl)]
   have r4':rdO (some (.cells (txC t iv ov) 33 (0,0))) 0 4=some (txC t iv ov):=rdO_all _ _ _ _ rfl
   have n2':∀g,g=p2→∀T',T'≠33→∀c,wo.heap[g]?≠some (.cells c T' (0,0)):=fun g hg T' hT c e=>by
    subst hg;rw[d2] at e;injection e with e;injection e with _ e;exact hT e.symm
   (refine W_at c48_ok ⟨_,rfl,?_⟩;simp (disch:=first|omega|assumption|rfl|(simp only[vcS]<;>omega)|fail) only[↓vcN,vcQ,simprocAttr,d9,r4'])
   exact⟨_,rfl,iv,ov,rfl,ListN.keepT hDo.i k2 (fun g hg c=>n2' g hg _ (by decide) c) fun _ _ hI=>hI.keepT k2 fun g hg c=>⟨n2' g hg _ (by decide) c,n2' g hg _ (by decide) c⟩,
    ListN.keepT hDo.o k2 (fun g hg c=>n2' g hg _ (by decide) c) fun _ _ hI=>hI.keepT k2 fun g hg c=>n2' g hg _ (by decide) c,hDo.k.trans k2 fun i hi e=>by omega⟩
  cases mk with
  |false=>
   (refine W_at c48_ok ⟨_,rfl,?_⟩;simp (disch:=first|omega|assumption|rfl|(simp only[vcS]<;>omega)|fail) only[↓vcX,ptS2_eq,vcQ,simprocAttr,d1,r1,hrv])
   refine callV_ret (must_ok _ r 3) ?_
   rintro _ wm hEm
   first|(simp (disch:=first|omega|assumption|rfl|(simp only[vcS]<;>omega)|fail) only[↓vcY,ptS1_eq,vcQ,simprocAttr])|skip
   exact left wm _ (hDd.ext hEm)
  |true=>
   (refine W_at c48_ok ⟨_,rfl,?_⟩;simp (disch:=first|omega|assumption|rfl|(simp only[vcS]<;>omega)|fail) only[↓vcX,ptS2_eq,vcQ,simprocAttr,d1,r1,hrv,d3,r4])
   rw[etx]
   refine callV_ret (witnessed_ok _ iv ov t (hTl.ext hEd) ht (by omega)) ?_
   rintro _ wm ⟨rfl,hEm⟩
   have hDm:=hDd.ext hEm
   have d1m:=hDm.c1
   rw[hw rfl]
   simp (disch:=first|omega|assumption|rfl|(simp only[vcS]<;>omega)|fail) only[↓vcY,ptS1_eq,vcQ,simprocAttr,d1m,r1,hrv]
   refine callV_ret (must_ok _ r 3) ?_
   rintro _ wn hEn
   first|(simp (disch:=first|omega|assumption|rfl|(simp only[vcS]<;>omega)|fail) only[↓vcX,ptS2_eq,vcQ,simprocAttr])|skip
   exact left wn _ (hDm.ext hEn)
 have wits:∀(mk:Bool) (wj:World) (iv ov:Value) (tl:Env),mk=witB t→RdS m p1 w wj r p1 p2 p3 t.ver 0 iv ov (t.ins.map bareI) t.outs (endW t mk++lowF 4 t.lock)→
   W Tryz.prog (Ret fun u w'=> ∃iv ov,u=.agg (txC t iv ov)∧InsN p1 w' iv t.ins∧OusN p1 w' ov t.outs∧Keep (fun i=>i=r) w w') 48 14 ((1,.pointer (some ⟨p1,0,none⟩))::(2,.pointer (some ⟨p2,0,none⟩))::(3,.pointer (some ⟨p3,0,none⟩))::(5,.bool mk)::tl) wj:=by
  intro mk wj iv ov tl hw hD
  cases mk with
  |false=>
   rw[bare_all (by rw[hw];rfl)] at hD
   iterate 2 (refine W_at c48_ok ⟨_,rfl,?_⟩;simp (disch:=first|omega|assumption|rfl|(simp only[vcS]<;>omega)|fail) only[↓vcN,vcQ,simprocAttr])
   exact last false wj iv ov _ (fun h=>by cases h) hD
  |true=>
   have d3:=hD.c3
   have t1:∀ov,(txC ⟨t.ver,[],[],0⟩ iv ov)[1]?=some iv:=fun _=>rfl
   have hlI:=ListN.len hD.i
   rw[List.length_map] at hlI
   iterate 3 (refine W_at c48_ok ⟨_,rfl,?_⟩;simp (disch:=first|omega|assumption|rfl|(simp only[vcS]<;>omega)|fail) only[↓vcN,vcQ,simprocAttr,d3,t1,hlI])
   have L:∀(k i:Nat) (wj:World) (tl:Env),k+i=t.ins.length→RdS m p1 w wj r p1 p2 p3 t.ver 0 iv ov (halfW t.ins i) t.outs ((t.ins.drop i).flatMap encWi++lowF 4 t.lock)→
     W Tryz.prog (Ret fun u w'=> ∃iv ov,u=.agg (txC t iv ov)∧InsN p1 w' iv t.ins∧OusN p1 w' ov t.outs∧Keep (fun i=>i=r) w w') 48 11 ((1,.pointer (some ⟨p1,0,none⟩))::(2,.pointer (some ⟨p2,0,none⟩))::(3,.pointer (some ⟨p3,0,none⟩))::(5,.bool true)::(42,.int .i64 (t.ins.length:Nat))::(43,.int .i64 (i:Nat))::tl) wj:=by
    intro k
    induction k with
    |zero=>
     intro i wj tl hi hD
     obtain rfl:i=t.ins.length:=by omega
     have hno:¬((t.ins.length:Nat):Int)< (t.ins.length:Nat):=by omega
     rw[halfW_all,List.drop_length,List.flatMap_nil,List.nil_append] at hD
     iterate 2 (refine W_at c48_ok ⟨_,rfl,?_⟩;simp (disch:=first|omega|assumption|rfl|(simp only[vcS]<;>omega)|fail) only[↓vcN,vcQ,simprocAttr,hno])
     exact last true wj iv ov _ (fun _=>hw.symm) hD
    |succ k ih=>
     intro i wj tl hi hD
     have hil:i<t.ins.length:=by omega
     have hlt:((i:Nat):Int)< (t.ins.length:Nat):=by omega
     have b1:0≤((i:Nat):Int)∧((i:Nat):Int)< (t.ins.length:Nat):=by omega
     have hwi:IntKind.i64.wrap (((i:Nat):Int)+1)=((i+1:Nat):Int):=wrap_i64 (by omega) (by omega)
     have hok:=ht.ins _ (List.getElem_mem hil)
     have hwl:=h3.wl _ (List.getElem_mem hil)
     have hset:=halfW_set hil
     have hhl:=halfW_len t.ins i
     have hget:=halfW_get hil (by omega)
     have hbs2:(t.ins.drop i).flatMap encWi++lowF 4 t.lock=sizeF (t.ins[i]).wit.length++((t.ins[i]).wit.flatMap txtF++((t.ins.drop (i+1)).flatMap encWi++lowF 4 t.lock)):=by
      rw[List.drop_eq_getElem_cons hil,List.flatMap_cons]
      show (sizeF _++_)++_++_=_
      simp only[List.append_assoc]
     rw[hbs2] at hD
     clear hbs2
     have hEd:Ext wj wj.drew:=(Keep.refl _ wj).drew
     have hDd:=hD.ext hEd
     have d1:=hD.c1
     have d1d:=hDd.c1
     have d3:=hD.c3
     have d3d:=hDd.c3
     iterate 3 (refine W_at c48_ok ⟨_,rfl,?_⟩;simp (disch:=first|omega|assumption|rfl|(simp only[vcS]<;>omega)|fail) only[↓vcN,vcQ,simprocAttr,hlt])
     (refine W_at c48_ok ⟨_,rfl,?_⟩;simp (disch:=first|omega|assumption|rfl|(simp only[vcS]<;>omega)|fail) only[↓vcX,ptS2_eq,vcQ,simprocAttr,d1,d3,t1,r1,hrv])
     refine callV_ret (rcnt_ok m _ r ((t.ins[i]).wit.length:Nat) _ (by omega) hDd.s) ?_
     rintro _ wk ⟨rfl,hSk⟩
     have hDk:=hDd.step hSk n1 n2 n3
     have d1k:=hDk.c1
     have d3k:=hDk.c3
     simp (disch:=first|omega|assumption|rfl|(simp only[vcS]<;>omega)|fail) only[↓vcY,ptS1_eq,vcQ,simprocAttr,d1k,d3k,t1,r1,hrv]
     refine callV_ret (lrows_ok m wk r (t.ins[i]).wit _ (by omega) (fun p hp=>by have:=hwl.2 p hp;omega) hDk.s) ?_
     rintro ur wl ⟨hRl,hSl⟩
     have hDl:=hDk.step hSl n1 n2 n3
     have d1l:=hDl.c1
     have d3l:=hDl.c3
     have lk:p1≤wk.heap.size:=by have:=hDk.k.size;omega
     have hRl':RowN p1 wl ur (t.ins[i]).wit:=by
      obtain⟨vs,a1,a2,a3⟩:=hRl
      exact⟨vs,OwnO.base a1 lk,a2,fun j x y=>(a3 j x y).base lk⟩
     obtain⟨g,o,cap,hiv,hcap⟩:∃g o cap,iv=.slice (some ⟨g,o,none⟩) t.ins.length cap∧t.ins.length≤cap:=by
      obtain⟨g,o,cap,c,e,_⟩:=ListN.at hDl.i (i:=i) (by omega)
      obtain⟨q,c',e',hc'⟩:=ListN.is hDl.i
      rw[hhl] at e e' hc'
      rw[e] at e'
      injection e' with _ _ e3
      exact⟨g,o,cap,e,by omega⟩
     have hblk:=ListN.blkT hDl.i (g:=g) (by rw[hiv];rfl)
     obtain⟨hgm,cur,hgc⟩:=hblk
     have kk:Keep (fun y=>y=g) wl (wl.setCell ⟨g,o+i*36+35,none⟩ ur):=(Keep.refl _ wl).setCell _ fun _=>rfl
     have ng:∀y,y=g→∀T',T'≠61→∀c,wl.heap[y]?≠some (.cells c T' (0,0)):=fun y hy T' hT c e=>by
      subst hy;rw[hgc] at e;injection e with e;injection e with _ e;exact hT e.symm
     obtain⟨hwr,hset2⟩:=ListN.setc hDl.i hiv (i:=i) (j:=35) (by omega) (by decide) ur t.ins[i] (fun c hc=>by
      rw[hget] at hc
      obtain⟨sv,wv,e,a,b⟩:=hc
      refine⟨sv,ur,?_,a.keepT kk fun y hy c=>ng y hy _ (by decide) c,hRl'.keepT kk fun y hy c=>⟨ng y hy _ (by decide) c,ng y hy _ (by decide) c⟩⟩
      rw[e,iC_set35 (bareI_len hok)]
      rfl) fun c x hR=>hR.keepT kk fun y hy c=>⟨ng y hy _ (by decide) c,ng y hy _ (by decide) c⟩
     rw[hset] at hset2
     have g1:g≠p1:=fun e=>ng p1 e.symm _ (by decide) _ d1l
     have g2:g≠p2:=fun e=>ng p2 e.symm _ (by decide) _ hDl.c2
     have g3:g≠p3:=fun e=>ng p3 e.symm _ (by decide) _ d3l
     have hDm:RdS m p1 w (wl.setCell ⟨g,o+i*36+35,none⟩ ur) r p1 p2 p3 t.ver 0 iv ov (halfW t.ins (i+1)) t.outs ((t.ins.drop (i+1)).flatMap encWi++lowF 4 t.lock):=
      ⟨hDl.k.trans kk fun y hy e=>by omega,hDl.s.keep kk fun y hy=>by omega,kk.at d1l (Ne.symm g1),kk.at hDl.c2 (Ne.symm g2),kk.at d3l (Ne.symm g3),hset2,
       ListN.keepT hDl.o kk (fun y hy c=>ng y hy _ (by decide) c) fun _ _ hI=>hI.keepT kk fun y hy c=>ng y hy _ (by decide) c⟩
     have hur1:ur.oneCell'=true:=by
      obtain⟨vs,a1,_⟩:=hRl'
      exact a1.one
     have t1':∀ov,(txC ⟨t.ver,[],[],0⟩ iv ov)[1]?=some (.slice (some ⟨g,o,none⟩) t.ins.length cap):=fun _=>by rw[←hiv];rfl
     subst hiv
     simp (disch:=first|omega|assumption|rfl|(simp only[vcS]<;>omega)|fail) only[↓vcX,ptS2_eq,vcQ,simprocAttr,d3l,t1',b1,Int.toNat_natCast,hur1,hwr]
     first|(refine⟨hwr,?_⟩)|skip
     iterate 2 (refine W_at c48_ok ⟨_,rfl,?_⟩;simp (disch:=first|omega|assumption|rfl|(simp only[vcS]<;>omega)|fail) only[↓vcN,vcQ,simprocAttr,hwi])
     exact ih (i+1) _ _ (by omega) hDm
   exact L t.ins.length 0 wj _ (by omega) (by rw[halfW_0,List.drop_zero];exact hD)
 have lists:∀(mk:Bool) (wj:World) (tl:Env),mk=witB t→RdS m p1 w wj r p1 p2 p3 t.ver 0 (.slice none 0 0) (.slice none 0 0) [] [] (t.ins.flatMap encI++(sizeF t.outs.length++(t.outs.flatMap encO++(endW t mk++lowF 4 t.lock))))→
   W Tryz.prog (Ret fun u w'=> ∃iv ov,u=.agg (txC t iv ov)∧InsN p1 w' iv t.ins∧OusN p1 w' ov t.outs∧Keep (fun i=>i=r) w w') 48 16 ((1,.pointer (some ⟨p1,0,none⟩))::(2,.pointer (some ⟨p2,0,none⟩))::(3,.pointer (some ⟨p3,0,none⟩))::(4,.int .i64 (t.ins.length:Nat))::(5,.bool mk)::tl) wj:=by
  intro mk wj tl hw hD
  have d1:=hD.c1
  (refine W_at c48_ok ⟨_,rfl,?_⟩;simp (disch:=first|omega|assumption|rfl|(simp only[vcS]<;>omega)|fail) only[↓vcN,vcQ,simprocAttr,d1,r1,hrv])
  refine callV_ret (lins_ok m wj r t.ins _ (by omega) (fun x hx=>⟨ht.ins x hx,by have:=h3.few.iscr x hx;omega⟩) hD.s) ?_
  rintro iv wk ⟨hIk,hSk⟩
  have hDk:=hD.step hSk n1 n2 n3
  have lj:p1≤wj.heap.size:=by have:=hD.k.size;omega
  have hIk':InsN p1 wk iv (t.ins.map bareI):=ListN.imp hIk lj fun c x _ hR=>hR.base lj
  have o3:=wr1_of (o:=1) hDk.c3 (by rw[txC_sz];decide)
  have k3:Keep (fun g=>g=p3) wk (wk.setCell ⟨p3,1,none⟩ iv):=(Keep.refl _ wk).setCell _ fun _=>rfl
  have c3':(wk.setCell ⟨p3,1,none⟩ iv).heap[p3]?=some (.cells (txC ⟨t.ver,[],[],0⟩ iv (.slice none 0 0)) 33 (0,0)):=by rw[heap_setCell_eq hDk.c3,txC_set1]
  have hDl:=hDk.put w3l m3 e13 e23 k3 c3' hIk' hDk.o
  have hiv1:=ListN.one hIk'
  first|(simp (disch:=first|omega|assumption|rfl|(simp only[vcS]<;>omega)|fail) only[↓vcN,vcQ,simprocAttr,o3,hiv1])|skip
  generalize World.setCell _ _ _=wl at hDl⊢
  clear k3 c3' o3 hDk hSk hD d1 hIk hIk'
  have hEd:Ext wl wl.drew:=(Keep.refl _ wl).drew
  have hDd:=hDl.ext hEd
  have d1:=hDl.c1
  have d1d:=hDd.c1
  (refine W_at c48_ok ⟨_,rfl,?_⟩;simp (disch:=first|omega|assumption|rfl|(simp only[vcS]<;>omega)|fail) only[↓vcX,ptS2_eq,vcQ,simprocAttr,d1,r1,hrv])
  refine callV_ret (rcnt_ok m _ r (t.outs.length:Nat) _ (by omega) hDd.s) ?_
  rintro _ wm ⟨rfl,hSm⟩
  have hDm:=hDd.step hSm n1 n2 n3
  have d1m:=hDm.c1
  simp (disch:=first|omega|assumption|rfl|(simp only[vcS]<;>omega)|fail) only[↓vcY,ptS1_eq,vcQ,simprocAttr,d1m,r1,hrv]
  refine callV_ret (louts_ok m wm r t.outs _ (by omega) (fun x hx=>⟨ht.outs x hx,by have:=h3.few.oscr x hx;omega⟩) hDm.s) ?_
  rintro ov wn ⟨hOn,hSn⟩
  have hDn:=hDm.step hSn n1 n2 n3
  have lm:p1≤wm.heap.size:=by have:=hDm.k.size;omega
  rw[List.map_id] at hOn
  have hOn':OusN p1 wn ov t.outs:=ListN.imp hOn lm fun c x _ hR=>hR.base lm
  have o3:=wr1_of (o:=2) hDn.c3 (by rw[txC_sz];decide)
  have k3:Keep (fun g=>g=p3) wn (wn.setCell ⟨p3,2,none⟩ ov):=(Keep.refl _ wn).setCell _ fun _=>rfl
  have c3':(wn.setCell ⟨p3,2,none⟩ ov).heap[p3]?=some (.cells (txC ⟨t.ver,[],[],0⟩ iv ov) 33 (0,0)):=by rw[heap_setCell_eq hDn.c3,txC_set2]
  have hDo:=hDn.put w3l m3 e13 e23 k3 c3' hDn.i hOn'
  have hov1:=ListN.one hOn'
  first|(simp (disch:=first|omega|assumption|rfl|(simp only[vcS]<;>omega)|fail) only[↓vcX,ptS2_eq,vcQ,simprocAttr,o3,hov1])|skip
  exact wits mk _ iv ov _ hw hDo
 have d1:=hD.c1
 cases mk with
 |false=>
  have hD':RdS m p1 w w4 r p1 p2 p3 t.ver 0 (.slice none 0 0) (.slice none 0 0) [] [] (sizeF t.ins.length++(t.ins.flatMap encI++(sizeF t.outs.length++(t.outs.flatMap encO++(endW t false++lowF 4 t.lock))))):=hD
  have hnz:¬(((t.ins.length:Nat):Int)=0):=by omega
  (refine W_at c48_ok ⟨_,rfl,?_⟩;simp (disch:=first|omega|assumption|rfl|(simp only[vcS]<;>omega)|fail) only[↓vcN,vcQ,simprocAttr,d1,r1,hrv])
  refine callV_ret (rcnt_ok m w4 r (t.ins.length:Nat) _ (by omega) hD'.s) ?_
  rintro _ w5 ⟨rfl,hS5⟩
  have hD5:=hD'.step hS5 n1 n2 n3
  first|(simp (disch:=first|omega|assumption|rfl|(simp only[vcS]<;>omega)|fail) only[↓vcN,vcQ,simprocAttr])|skip
  iterate 3 (refine W_at c48_ok ⟨_,rfl,?_⟩;simp (disch:=first|omega|assumption|rfl|(simp only[vcS]<;>omega)|fail) only[↓vcN,vcQ,simprocAttr,hnz])
  exact lists false w5 _ hmk hD5
 |true=>
  have hD':RdS m p1 w w4 r p1 p2 p3 t.ver 0 (.slice none 0 0) (.slice none 0 0) [] [] (sizeF 0++(lowF 1 1++(sizeF t.ins.length++(t.ins.flatMap encI++(sizeF t.outs.length++(t.outs.flatMap encO++(endW t true++lowF 4 t.lock))))))):=hD
  (refine W_at c48_ok ⟨_,rfl,?_⟩;simp (disch:=first|omega|assumption|rfl|(simp only[vcS]<;>omega)|fail) only[↓vcN,vcQ,simprocAttr,d1,r1,hrv])
  refine callV_ret (rcnt_ok m w4 r 0 _ (by omega) hD'.s) ?_
  rintro _ w5 ⟨rfl,hS5⟩
  have hD5:=hD'.step hS5 n1 n2 n3
  have d15:=hD5.c1
  first|(simp (disch:=first|omega|assumption|rfl|(simp only[vcS]<;>omega)|fail) only[↓vcN,vcQ,simprocAttr])|skip
  iterate 4 (refine W_at c48_ok ⟨_,rfl,?_⟩;simp (disch:=first|omega|assumption|rfl|(simp only[vcS]<;>omega)|fail) only[↓vcN,vcQ,simprocAttr,d15])
  refine callV_ret (s8_ok m w5 r 1 _ (by omega) hD5.s) ?_
  rintro _ w6 ⟨rfl,hS6⟩
  have hD6:=hD5.step hS6 n1 n2 n3
  have d16:=hD6.c1
  first|(simp (disch:=first|omega|assumption|rfl|(simp only[vcS]<;>omega)|fail) only[↓vcN,vcQ,simprocAttr])|skip
  (refine W_at c48_ok ⟨_,rfl,?_⟩;simp (disch:=first|omega|assumption|rfl|(simp only[vcS]<;>omega)|fail) only[↓vcN,vcQ,simprocAttr,d16,r1,hrv])
  refine callV_ret (fine_ok m w6 r _ hD6.s) ?_
  rintro _ w7 hE7
  have hD7:=hD6.ext hE7
  have d17:=hD7.c1
  first|(simp (disch:=first|omega|assumption|rfl|(simp only[vcS]<;>omega)|fail) only[↓vcN,vcQ,simprocAttr])|skip
  have ne1:¬((1:Int)≠1):=fun h=>h rfl
  (refine W_at c48_ok ⟨_,rfl,?_⟩;simp (disch:=first|omega|assumption|rfl|(simp only[vcS]<;>omega)|fail) only[↓vcN,vcQ,simprocAttr,d17,r1,hrv])
  refine callV_ret (must_ok w7 r 3) ?_
  rintro _ w8 hE8
  have hD8:=hD7.ext hE8
  have d18:=hD8.c1
  first|(simp (disch:=first|omega|assumption|rfl|(simp only[vcS]<;>omega)|fail) only[↓vcN,vcQ,simprocAttr])|skip
  (refine W_at c48_ok ⟨_,rfl,?_⟩;simp (disch:=first|omega|assumption|rfl|(simp only[vcS]<;>omega)|fail) only[↓vcN,vcQ,simprocAttr,d18,r1,hrv])
  refine callV_ret (rcnt_ok m w8 r (t.ins.length:Nat) _ (by omega) hD8.s) ?_
  rintro _ w9 ⟨rfl,hS9⟩
  have hD9:=hD8.step hS9 n1 n2 n3
  first|(simp (disch:=first|omega|assumption|rfl|(simp only[vcS]<;>omega)|fail) only[↓vcN,vcQ,simprocAttr])|skip
  exact lists true w9 _ hmk hD9
end Go.Proofs
namespace Go.Proofs
open Go.Vc
set_option maxRecDepth 10000
theorem tclo_idle (a b:Value)(w:World):CallsD Tryz.prog 47 #[a,b] .returning w (fun en u' w'=>(∃v,en=.returned v)∧u'=.returning∧w'=w):=by
 refine callsD_of_cfg c47_ok rfl (Nat.le_of_ble_eq_true rfl) ?_
 simp only[argE_nil,argE_cons,Nat.reduceAdd,Nat.zero_add]
 simp (disch:=first|omega|assumption|rfl|(simp only[vcS]<;>omega)|fail) only[↓vcN,vcQ,simprocAttr,rcvM]
 iterate 4 (refine V_at c47_ok rfl (by simp) ⟨_,rfl,?_⟩;simp (disch:=first|omega|assumption|rfl|(simp only[vcS]<;>omega)|fail) only[↓vcN,vcQ,simprocAttr,LV_nil])
 exact⟨_,rfl⟩
set_option maxHeartbeats 1600000 in
theorem tdecode_ok (w:World)(x:Value)(t:TxV)(h3:t.Sm3)(hne:0<t.ins.length)(hx:Rd w x (encT t)):
  Calls Tryz.prog 14 #[x] w (Ret fun u w'=> ∃iv ov,u=.tuple #[.agg (txC t iv ov),.int .i64 0]∧InsN w.heap.size w' iv t.ins∧OusN w.heap.size w' ov t.outs∧Ext w w'):=by
 refine calls_of_cfgD c14_ok (Nat.le_of_ble_eq_true rfl) ?_
 simp only[argE_nil,argE_cons,Nat.zero_add]
 have hlen:=hx.len
 have h1:=hx.one
 have hn:=encT_len h3
 have hzt:zc [(1,Value.int .i32 0),(2,.slice none 0 0),(1,.int .u32 0)]=txC ⟨0,[],[],0⟩ (.slice none 0 0) (.slice none 0 0):=rfl
 have hz1:zc [(1,Value.int .i64 0)]=#[.int .i64 0]:=rfl
 (refine V_at c14_ok rfl (by simp) ⟨_,rfl,?_⟩;simp (disch:=first|omega|assumption|rfl|(simp only[vcS]<;>omega)|fail) only[↓vcN,vcQ,simprocAttr,hzt,hz1])
 have c2:((w.alloc (.cells (txC ⟨0,[],[],0⟩ (.slice none 0 0) (.slice none 0 0)) 33)).alloc (.cells #[.int .i64 0] 36)).heap[w.heap.size]?=some (.cells (txC ⟨0,[],[],0⟩ (.slice none 0 0) (.slice none 0 0)) 33 (0,0)):=by simp (disch:=first|omega|assumption|rfl|(simp only[vcS]<;>omega)|fail) only[↓vcN,vcQ,simprocAttr]
 have c3:((w.alloc (.cells (txC ⟨0,[],[],0⟩ (.slice none 0 0) (.slice none 0 0)) 33)).alloc (.cells #[.int .i64 0] 36)).heap[w.heap.size+1]?=some (.cells #[.int .i64 0] 36 (0,0)):=by simp (disch:=first|omega|assumption|rfl|(simp only[vcS]<;>omega)|fail) only[↓vcN,vcQ,simprocAttr]
 have hE1:Ext w ((w.alloc (.cells (txC ⟨0,[],[],0⟩ (.slice none 0 0) (.slice none 0 0)) 33)).alloc (.cells #[.int .i64 0] 36)):=by (repeat' first|exact Keep.refl _ _|assumption|refine Keep.drew ?_|refine Keep.alloc ?_ _|refine Keep.putN ?_ _ ?_|refine Keep.setCell ?_ _ ?_|refine Keep.setO ?_ _ ?_|exact fun _=>Or.inl rfl|exact fun _=>Or.inr rfl|exact fun _=>rfl|(intro hh;exfalso;((try simp only[vcS] at hh)<;>omega)))
 have hs1:((w.alloc (.cells (txC ⟨0,[],[],0⟩ (.slice none 0 0) (.slice none 0 0)) 33)).alloc (.cells #[.int .i64 0] 36)).heap.size=w.heap.size+2:=by simp only[size_alloc]
 generalize World.alloc (World.alloc _ _) _=w1 at c2 c3 hE1 hs1⊢
 generalize hp:w.heap.size=p at*
 have hng:¬((((encT t).length:Nat):Int)>100000):=by omega
 iterate 4 (refine V_at c14_ok rfl (by simp) ⟨_,rfl,?_⟩;simp (disch:=first|omega|assumption|rfl|(simp only[vcS]<;>omega)|fail) only[↓vcN,vcQ,simprocAttr,hlen,hng])
 refine callV_ret (sOpen_ok w1 x _ (hx.ext hE1) (encT_byt h3.ok) (by omega)) ?_
 rintro _ w2 ⟨r,rfl,hS,hE2,hr⟩
 have hrv:=rv_eq r
 first|(simp (disch:=first|omega|assumption|rfl|(simp only[vcS]<;>omega)|fail) only[↓vcN,vcQ,simprocAttr,hrv])|skip
 refine callV_ret (rtx_ok w2 r t h3 hne _ hS) ?_
 rintro _ w3 ⟨iv,ov,rfl,hI,hO,hK⟩
 have l2:p+2≤w2.heap.size:=by have:=hE2.size;omega
 have hrp:w1.heap.size≤r:=hr
 have d2:=hK.at (hE2.at c2 (fun h=>h)) (by show¬p=r;omega)
 have d3:=hK.at (hE2.at c3 (fun h=>h)) (by show¬p+1=r;omega)
 have hcx:(Value.agg (txC t iv ov)).cells=txC t iv ov:=rfl
 have s4:=txC_sz t iv ov
 have oz:okO (some (.cells (txC ⟨0,[],[],0⟩ (.slice none 0 0) (.slice none 0 0)) 33 (0,0))) 0 4=True:=by
  have e:(txC ⟨0,[],[],0⟩ (.slice none 0 0) (.slice none 0 0)).size=4:=rfl
  simp only[okO,e];simp
 have hI':InsN p w3 iv t.ins:=ListN.imp hI (by omega) fun c x _ h=>h.base (by omega)
 have hO':OusN p w3 ov t.outs:=ListN.imp hO (by omega) fun c x _ h=>h.base (by omega)
 first|(simp (disch:=first|omega|assumption|rfl|(simp only[vcS]<;>omega)|fail) only[↓vcN,vcQ,simprocAttr,s4,d2,oz])|skip
 refine⟨txC_fl (ListN.one hI) (ListN.one hO),?_⟩
 have g3:(w3.putN p 0 (txC t iv ov)).heap[p+1]?=some (.cells #[.int .i64 0] 36 (0,0)):=by rw[heap_putN_ne _ _ _ _ _ (by omega)];exact d3
 refine⟨wr1_of g3 (by simp),?_⟩
 have d4:((w3.putN p 0 (txC t iv ov)).setCell ⟨p+1,0,none⟩ (.int .i64 0)).heap[p]?=some (.cells (txC t iv ov) 33 (0,0)):=by
  rw[heap_setCell_ne _ _ _ _ _ _ (by omega),heap_putN_eq d2,splice_all (by rfl)]
 have d5:((w3.putN p 0 (txC t iv ov)).setCell ⟨p+1,0,none⟩ (.int .i64 0)).heap[p+1]?=some (.cells #[.int .i64 0] 36 (0,0)):=by rw[heap_setCell_eq g3];rfl
 have k4:Keep (fun g=>g=p∨g=p+1) w3 ((w3.putN p 0 (txC t iv ov)).setCell ⟨p+1,0,none⟩ (.int .i64 0)):=((Keep.refl _ w3).putN _ fun _=>.inl rfl).setCell _ fun _=>.inr rfl
 have hE4:Ext w ((w3.putN p 0 (txC t iv ov)).setCell ⟨p+1,0,none⟩ (.int .i64 0)):=
  ((hE1.ext hE2).trans hK fun i hi e=>by have e:i=r:=e;omega).trans k4 fun i hi e=>by rcases e with e|e<;>omega
 generalize World.setCell _ _ _=w4 at d4 d5 k4 hE4⊢
 have n4:∀g,(g=p∨g=p+1)→∀T',T'≠33→T'≠36→∀c,w3.heap[g]?≠some (.cells c T' (0,0)):=fun g hg T' hT hT2 c e=>by
  rcases hg with rfl|rfl
  ·rw[d2] at e;injection e with e;injection e with _ e;exact hT e.symm
  ·rw[d3] at e;injection e with e;injection e with _ e;exact hT2 e.symm
 have hI4:InsN p w4 iv t.ins:=ListN.keepT hI' k4 (fun g hg c=>n4 g hg _ (by decide) (by decide) c) fun _ _ hI=>hI.keepT k4 fun g hg c=>⟨n4 g hg _ (by decide) (by decide) c,n4 g hg _ (by decide) (by decide) c⟩
 have hO4:OusN p w4 ov t.outs:=ListN.keepT hO' k4 (fun g hg c=>n4 g hg _ (by decide) (by decide) c) fun _ _ hI=>hI.keepT k4 fun g hg c=>n4 g hg _ (by decide) (by decide) c
 have r4:∀T,rdO (some (.cells (txC t iv ov) T (0,0))) 0 4=some (txC t iv ov):=fun T=>rdO_all _ _ _ _ rfl
 (refine V_at c14_ok rfl (by simp) ⟨_,rfl,?_⟩;simp (disch:=first|omega|assumption|rfl|(simp only[vcS]<;>omega)|fail) only[↓vcN,vcQ,simprocAttr])
 have hpc:plainF Tryz.prog 47=true:=by kernel_rfl
 refine LV_cons hpc (by simp) (tclo_idle _ _ w4) ?_
 rintro en u' w5 ⟨hv,rfl,rfl⟩
 refine⟨hv.choose,hv.choose_spec,?_⟩
 simp (disch:=first|omega|assumption|rfl|(simp only[vcS]<;>omega)|fail) only[↓vcN,vcQ,simprocAttr,settle,LV_nil,d4,d5,r4,Ret_returned]
 exact⟨iv,ov,rfl,hI4,hO4,hE4⟩
end Go.Proofs
namespace Go.Proofs
open Go.Vc
set_option maxRecDepth 10000
def TxOwn (m:Nat)(w:World)(c:Array Value)(t:TxV):Prop:=∃iv ov,c=txC t iv ov∧InsN m w iv t.ins∧OusN m w ov t.outs
theorem TxOwn.at {m:Nat}{w:World}{c:Array Value}{t:TxV}(h:TxOwn m w c t):TxAt w c t:=by
 obtain⟨iv,ov,e,h1,h2⟩:=h
 exact⟨iv,ov,e,ListN.toR h1 fun _ _ h=>h.at,ListN.toR h2 fun _ _ h=>h.at⟩
theorem TxOwn.keepT {m:Nat}{S:Nat→Prop}{w w':World}{c:Array Value}{t:TxV}(h:TxOwn m w c t)(k:Keep S w w')(hS:∀g,S g→∀T',T'=5∨T'=41∨T'=61∨T'=63→∀c,w.heap[g]?≠some (.cells c T' (0,0))):TxOwn m w' c t:=by
 obtain⟨iv,ov,e,h1,h2⟩:=h
 exact⟨iv,ov,e,ListN.keepT h1 k (fun g hg c=>hS g hg _ (by simp) c) fun _ _ hI=>hI.keepT k fun g hg c=>⟨hS g hg _ (by simp) c,hS g hg _ (by simp) c⟩,
  ListN.keepT h2 k (fun g hg c=>hS g hg _ (by simp) c) fun _ _ hI=>hI.keepT k fun g hg c=>hS g hg _ (by simp) c⟩
theorem TxOwn.base {m m':Nat}{w:World}{c:Array Value}{t:TxV}(h:TxOwn m w c t)(hm:m'≤m):TxOwn m' w c t:=by
 obtain⟨iv,ov,e,h1,h2⟩:=h
 exact⟨iv,ov,e,ListN.imp h1 hm fun c x _ h=>h.base hm,ListN.imp h2 hm fun c x _ h=>h.base hm⟩
abbrev TxsN (m:Nat)(w:World)(v:Value)(l:List TxV):Prop:=ListN TxOwn 33 4 m w v l
theorem typ_ne {w:World}{g:Nat}{T T':TypeId}{c c':Array Value}(h:w.heap[g]?=some (.cells c T (0,0)))(hT:T'≠T):w.heap[g]?≠some (.cells c' T' (0,0)):=fun e=>by
 rw[h] at e;injection e with e;injection e with _ e;exact hT e.symm
theorem TxsN.keepT {m:Nat}{S:Nat→Prop}{w w':World}{v:Value}{l:List TxV}(h:TxsN m w v l)(k:Keep S w w')(hS:∀g,S g→∃c T,w.heap[g]?=some (.cells c T (0,0))∧T≠5∧T≠41∧T≠61∧T≠63∧T≠33):TxsN m w' v l:=
 ListN.keepT h k (fun g hg c=>by obtain⟨c',T,e,h1,h2,h3,h4,h5⟩:=hS g hg;exact typ_ne e (Ne.symm h5)) fun c t ht=>ht.keepT k fun g hg T' hT c=>by
  obtain⟨c',T,e,h1,h2,h3,h4,h5⟩:=hS g hg
  rcases hT with rfl|rfl|rfl|rfl
  ·exact typ_ne e (Ne.symm h1)
  ·exact typ_ne e (Ne.symm h2)
  ·exact typ_ne e (Ne.symm h3)
  ·exact typ_ne e (Ne.symm h4)
theorem TxOwn.kT (m:Nat):∀(S:Nat→Prop) (w1 w2:World) (c:Array Value) (x:TxV),Keep S w1 w2→(∀g,S g→∃c,w1.heap[g]?=some (.cells c 33 (0,0)))→TxOwn m w1 c x→TxOwn m w2 c x:=fun S w1 w2 c x k hS h=>
 h.keepT k fun g hg T' hT c'=>by
  obtain⟨c0,e⟩:=hS g hg
  rcases hT with rfl|rfl|rfl|rfl<;>exact typ_ne e (by decide)
theorem TxsN.ext {m:Nat}{w w':World}{v:Value}{l:List TxV}(h:TxsN m w v l)(k:Ext w w'):TxsN m w' v l:=TxsN.keepT h k fun _ h=>h.elim
structure BdS (m:Nat)(w wj:World)(r p2 p5:Nat)(z:Array Value)(h:HdV)(v:Value)(l:List TxV)(bs:List Int):Prop where
 k:Ext w wj
 s:RS m wj r bs
 c2:wj.heap[p2]?=some (.cells z 29 (0,0))
 c5:wj.heap[p5]?=some (.cells (bC h v) 29 (0,0))
 t:TxsN m wj v l
theorem BdS.rt {m:Nat}{w wj:World}{r p2 p5:Nat}{z:Array Value}{h:HdV}{v:Value}{l:List TxV}{bs:List Int}(hD:BdS m w wj r p2 p5 z h v l bs):∃c,wj.heap[r]?=some (.cells c 130 (0,0)):=by
 obtain⟨_,_,B,v,hR,_⟩:=hD.s
 exact⟨_,hR.at'⟩
theorem BdS.step {m:Nat}{w wj wk:World}{r p2 p5:Nat}{z:Array Value}{h:HdV}{v:Value}{l:List TxV}{bs bs':List Int}(hD:BdS m w wj r p2 p5 z h v l bs)(hs:Stp m wj wk r bs')(h2:p2≠r)(h5:p5≠r)(hr:w.heap.size≤r):BdS m w wk r p2 p5 z h v l bs' where
 k:=hD.k.trans hs.keep fun i hi e=>by have e:i=r:=e;omega
 s:=hs.rs
 c2:=hs.keep.at hD.c2 h2
 c5:=hs.keep.at hD.c5 h5
 t:=TxsN.keepT hD.t hs.keep fun g hg=>by
  obtain⟨c,hc⟩:=hD.rt
  have hg:g=r:=hg
  exact⟨c,_,by rw[hg];exact hc,by decide,by decide,by decide,by decide,by decide⟩
theorem BdS.ext {m:Nat}{w wj wk:World}{r p2 p5:Nat}{z:Array Value}{h:HdV}{v:Value}{l:List TxV}{bs:List Int}(hD:BdS m w wj r p2 p5 z h v l bs)(k:Ext wj wk):BdS m w wk r p2 p5 z h v l bs:=
 ⟨hD.k.ext k,hD.s.ext k,k.at hD.c2 fun h=>h,k.at hD.c5 fun h=>h,TxsN.ext hD.t k⟩
set_option maxHeartbeats 3200000 in
theorem bdecode_ok (w:World)(x:Value)(h:HdV)(ts:List TxV)(hb:BOk h ts)(hne:∀t∈ts,0<t.ins.length)(hx:Rd w x (encB h ts)):
  Calls Tryz.prog 11 #[x] w (Ret fun u w'=> ∃v,u=.tuple #[.agg (bC h v),.int .i64 0]∧TxsN w.heap.size w' v ts∧Ext w w'):=by
 refine calls_of_cfg c11_ok (Nat.le_of_ble_eq_true rfl) ?_
 simp only[argE_nil,argE_cons,Nat.zero_add]
 have ho:=hb.ho
 have hn:=hb.n
 have hlen:=hx.len
 have h1:=hx.one
 have hln:=encB_len hb
 have hby:=encB_byt hb
 obtain⟨z,hz⟩:∃z,z=zc [(1,Value.int .i32 0),(64,.int .u8 0),(3,.int .u32 0),(1,.slice none 0 0)]:=⟨_,rfl⟩
 have hzs:z.size=69:=by rw[hz];simp [zc,runs]
 rw[eq_comm] at hz
 (refine W_at c11_ok ⟨_,rfl,?_⟩;simp (disch:=first|omega|assumption|rfl|(simp only[vcS]<;>omega)|fail) only[↓vcN,vcQ,simprocAttr,hz])
 have hE1:Ext w (w.alloc (.cells z 29)):=(Keep.refl _ w).alloc _
 have c2:(w.alloc (.cells z 29)).heap[w.heap.size]?=some (.cells z 29 (0,0)):=heap_new _ _ _ rfl
 have s1:(w.alloc (.cells z 29)).heap.size=w.heap.size+1:=size_alloc _ _
 generalize World.alloc w _=w1 at hE1 c2 s1⊢
 generalize hp:w.heap.size=p2 at*
 have hng:¬((((encB h ts).length:Nat):Int)>1000000):=by omega
 iterate 3 (refine W_at c11_ok ⟨_,rfl,?_⟩;simp (disch:=first|omega|assumption|rfl|(simp only[vcS]<;>omega)|fail) only[↓vcN,vcQ,simprocAttr,hlen,hng])
 refine callV_ret (sOpen_ok w1 x _ (hx.ext hE1) hby (by omega)) ?_
 rintro _ w2 ⟨r,rfl,hS,hE2,hr⟩
 first|(simp (disch:=first|omega|assumption|rfl|(simp only[vcS]<;>omega)|fail) only[↓vcN,vcQ,simprocAttr])|skip
 have hE02:=hE1.ext hE2
 have c22:=hE2.at c2 (fun h=>h)
 generalize hm:w2.heap.size=m at hS
 have hbs:encB h ts=encH h++(sizeF ts.length++ts.flatMap fun t=>txtF (encT t)):=by unfold encB;rw[List.append_assoc]
 rw[hbs] at hS
 have hbx:(Value.agg (hC h)).cells=hC h:=rfl
 have hhs:=hC_size ho
 have hbld:hC h++zc [(1,.slice none 0 0)]=bC h (.slice none 0 0):=by
  apply Array.ext';simp [hC,bC,zc,runs]
 (refine W_at c11_ok ⟨_,rfl,?_⟩;simp (disch:=first|omega|assumption|rfl|(simp only[vcS]<;>omega)|fail) only[↓vcN,vcQ,simprocAttr])
 refine callV_ret (header_ok m w2 r h _ ho hS) ?_
 rintro _ w3 ⟨rfl,hS3⟩
 have hbs0:=bC_size ho (.slice none 0 0)
 first|(simp (disch:=first|omega|assumption|rfl|(simp only[vcS]<;>omega)|fail) only[↓vcN,vcQ,simprocAttr,hbx,hhs,hbld,hz,hzs,hbs0])|skip
 refine⟨bC_flat h rfl,?_⟩
 have hE3:Ext w3 ((w3.alloc (.cells z 29)).putN w3.heap.size 0 (bC h (.slice none 0 0))):=((Keep.refl _ w3).alloc _).putN _ (by intro hh;exfalso;omega)
 have c53:((w3.alloc (.cells z 29)).putN w3.heap.size 0 (bC h (.slice none 0 0))).heap[w3.heap.size]?=some (.cells (bC h (.slice none 0 0)) 29 (0,0)):=by
  rw[heap_putN_eq (heap_new _ _ _ rfl),splice_all (by rw[hbs0,hzs])]
 have l3:m≤w3.heap.size:=by have:=hS3.keep.size;omega
 have l2:p2+1≤m:=by have:=hE2.size;omega
 have hrm:=hS.1
 have c23:=hE3.at (hS3.keep.at c22 (by show¬p2=r;omega)) (fun h=>h)
 have hK3:Ext w _:=(hE02.trans hS3.keep fun i hi e=>by have e:i=r:=e;omega).ext hE3
 have hS4:=hS3.rs.ext hE3
 generalize World.putN _ _ _ _=w4 at hE3 c53 c23 hK3 hS4⊢
 generalize hp5:w3.heap.size=p5 at*
 have hD:BdS m w w4 r p2 p5 z h (.slice none 0 0) [] _:=⟨hK3,hS4,c23,c53,ListN.nil _ _ _ _ _⟩
 have n2:p2≠r:=by omega
 have n5:p5≠r:=by omega
 have hrw:w.heap.size≤r:=by omega
 clear hE1 hE2 hE02 c2 c22 s1 hS hS3 hE3 c53 c23 hK3 hS4
 (refine W_at c11_ok ⟨_,rfl,?_⟩;simp (disch:=first|omega|assumption|rfl|(simp only[vcS]<;>omega)|fail) only[↓vcN,vcQ,simprocAttr])
 refine callV_ret (sSize_ok m w4 r ts.length _ (by omega) hD.s) ?_
 rintro _ w5 ⟨rfl,hS5⟩
 have hD5:=hD.step hS5 n2 n5 hrw
 first|(simp (disch:=first|omega|assumption|rfl|(simp only[vcS]<;>omega)|fail) only[↓vcN,vcQ,simprocAttr])|skip
 have hng:¬(((ts.length:Nat):Int)>10000):=by omega
 iterate 3 (refine W_at c11_ok ⟨_,rfl,?_⟩;simp (disch:=first|omega|assumption|rfl|(simp only[vcS]<;>omega)|fail) only[↓vcN,vcQ,simprocAttr,hng])
 have L:∀(k i:Nat) (wj:World) (vj:Value) (tl:Env),k+i=ts.length→BdS m w wj r p2 p5 z h vj (ts.take i) ((ts.drop i).flatMap fun t=>txtF (encT t))→
   W Tryz.prog (Ret fun u w'=> ∃v,u=.tuple #[.agg (bC h v),.int .i64 0]∧TxsN p2 w' v ts∧Ext w w') 11 20 ((2,.pointer (some ⟨p2,0,none⟩))::(4,.pointer (some ⟨r,0,none⟩))::(5,.pointer (some ⟨p5,0,none⟩))::(25,.int .u64 (ts.length:Nat))::(26,.int .u64 (i:Nat))::tl) wj:=by
  intro k
  induction k with
  |zero=>
   intro i wj vj tl hi hD
   obtain rfl:i=ts.length:=by omega
   have hno:¬((ts.length:Nat):Int)< (ts.length:Nat):=by omega
   rw[List.take_length,List.drop_length,List.flatMap_nil] at hD
   have d5:=hD.c5
   have d2:=hD.c2
   have vv:=ListN.one hD.t
   have r69:=bC_all ho vj 29 (0,0)
   have hbv:=bC_size ho vj
   have hbx:(Value.agg (bC h vj)).cells=bC h vj:=rfl
   have oz:okO (some (.cells z 29 (0,0))) 0 69=True:=by simp only[okO,hzs];simp
   iterate 3 (refine W_at c11_ok ⟨_,rfl,?_⟩;simp (disch:=first|omega|assumption|rfl|(simp only[vcS]<;>omega)|fail) only[↓vcN,vcQ,simprocAttr,hno])
   refine callV_ret (sClose_ok m wj r hD.s) ?_
   rintro _ wk ⟨rfl,hwk⟩
   rw[hwk]
   first|(simp (disch:=first|omega|assumption|rfl|(simp only[vcS]<;>omega)|fail) only[↓vcN,vcQ,simprocAttr])|skip
   have hz0:¬((0:Int)≠0):=fun h=>h rfl
   iterate 3 (refine W_at c11_ok ⟨_,rfl,?_⟩;simp (disch:=first|omega|assumption|rfl|(simp only[vcS]<;>omega)|fail) only[↓vcN,vcQ,simprocAttr,d5,r69,hbv,d2,oz])
   refine⟨bC_flat h vv,?_⟩
   have k2:Keep (fun g=>g=p2) wj (wj.putN p2 0 (bC h vj)):=(Keep.refl _ wj).putN _ fun _=>rfl
   have d9:(wj.putN p2 0 (bC h vj)).heap[p2]?=some (.cells (bC h vj) 29 (0,0)):=by rw[heap_putN_eq d2,splice_all (by rw[hbv,hzs])]
   generalize World.putN _ _ _ _=wl at k2 d9⊢
   have ht2:TxsN m wl vj ts:=TxsN.keepT hD.t k2 fun g hg=>⟨z,29,by rw[show g=p2 from hg];exact d2,by decide,by decide,by decide,by decide,by decide⟩
   (refine W_at c11_ok ⟨_,rfl,?_⟩;simp (disch:=first|omega|assumption|rfl|(simp only[vcS]<;>omega)|fail) only[↓vcN,vcQ,simprocAttr,d9,r69,Ret_returned])
   exact⟨vj,rfl,ListN.imp ht2 (by omega) fun c t _ h=>h.base (by omega),hD.k.trans k2 fun g hg e=>by have e:g=p2:=e;omega⟩
  |succ k ih=>
   intro i wj vj tl hi hD
   have hil:i<ts.length:=by omega
   have hlt:((i:Nat):Int)< (ts.length:Nat):=by omega
   have hwi:IntKind.u64.wrap (((i:Nat):Int)+1)=((i+1:Nat):Int):=by rw[wrap_u64];omega
   have h3:=hb.txs _ (List.getElem_mem hil)
   have hne1:=hne _ (List.getElem_mem hil)
   have htk:ts.take (i+1)=ts.take i++[ts[i]]:=by rw[List.take_add_one,List.getElem?_eq_getElem hil];rfl
   rw[List.drop_eq_getElem_cons hil,List.flatMap_cons] at hD
   generalize ts[i]=t at*
   have lt:=encT_len h3
   iterate 3 (refine W_at c11_ok ⟨_,rfl,?_⟩;simp (disch:=first|omega|assumption|rfl|(simp only[vcS]<;>omega)|fail) only[↓vcN,vcQ,simprocAttr,hlt])
   refine callV_ret (sBytes_ok m wj r 100000 (encT t) _ (by omega) (by omega) hD.s) ?_
   rintro u wa ⟨hu,hSa⟩
   have hDa:=hD.step hSa n2 n5 hrw
   first|(simp (disch:=first|omega|assumption|rfl|(simp only[vcS]<;>omega)|fail) only[↓vcN,vcQ,simprocAttr])|skip
   (refine W_at c11_ok ⟨_,rfl,?_⟩;simp (disch:=first|omega|assumption|rfl|(simp only[vcS]<;>omega)|fail) only[↓vcN,vcQ,simprocAttr])
   refine callV_ret (sErr_ok m wa r _ hDa.s) ?_
   rintro _ wa' ⟨rfl,hwa⟩
   rw[hwa]
   first|(simp (disch:=first|omega|assumption|rfl|(simp only[vcS]<;>omega)|fail) only[↓vcN,vcQ,simprocAttr])|skip
   have hz0:¬((0:Int)≠0):=fun h=>h rfl
   iterate 2 (refine W_at c11_ok ⟨_,rfl,?_⟩;simp (disch:=first|omega|assumption|rfl|(simp only[vcS]<;>omega)|fail) only[↓vcN,vcQ,simprocAttr])
   refine callV_ret (tdecode_ok wa u t h3 hne1 hu.1.rd) ?_
   rintro _ wb ⟨iv,ov,rfl,hI,hO,hEb⟩
   have hDb:=hDa.ext hEb
   have hcx:(Value.agg (txC t iv ov)).cells=txC t iv ov:=rfl
   have s4:=txC_sz t iv ov
   first|(simp (disch:=first|omega|assumption|rfl|(simp only[vcS]<;>omega)|fail) only[↓vcN,vcQ,simprocAttr,s4])|skip
   refine⟨txC_fl (ListN.one hI) (ListN.one hO),by decide,?_⟩
   have hEc:Ext wb ((wb.alloc (.cells (zc [(1,.int .i32 0),(2,.slice none 0 0),(1,.int .u32 0)]) 33)).putN wb.heap.size 0 (txC t iv ov)):=((Keep.refl _ wb).alloc _).putN _ (by intro hh;exfalso;omega)
   have c8:((wb.alloc (.cells (zc [(1,.int .i32 0),(2,.slice none 0 0),(1,.int .u32 0)]) 33)).putN wb.heap.size 0 (txC t iv ov)).heap[wb.heap.size]?=some (.cells (txC t iv ov) 33 (0,0)):=by
    rw[heap_putN_eq (heap_new _ _ _ rfl),splice_all (by rfl)]
   have lab:m≤wa.heap.size:=by have:=hDa.s.2.1;omega
   have hI':=InsN.ext hI hEc
   have hO':=OusN.ext hO hEc
   have hDc:=hDb.ext hEc
   generalize World.putN _ _ _ _=wc at hEc c8 hI' hO' hDc⊢
   have hTo:TxOwn m wc (txC t iv ov) t:=⟨iv,ov,rfl,ListN.imp hI' lab fun c x _ h=>h.base lab,ListN.imp hO' lab fun c x _ h=>h.base lab⟩
   generalize hp8:wb.heap.size=p8 at*
   iterate 2 (refine W_at c11_ok ⟨_,rfl,?_⟩;simp (disch:=first|omega|assumption|rfl|(simp only[vcS]<;>omega)|fail) only[↓vcN,vcQ,simprocAttr])
   have d5:=hDc.c5
   have b68:=bC_68 ho vj
   have r4:∀T,rdO (some (.cells (txC t iv ov) T (0,0))) 0 4=some (txC t iv ov):=fun T=>rdO_all _ _ _ _ rfl
   have hcl:(txC t iv ov).toList++[]=(txC t iv ov).toList:=List.append_nil _
   have hca:(txC t iv ov).toList.toArray=txC t iv ov:=rfl
   (refine W_at c11_ok ⟨_,rfl,?_⟩;simp (disch:=first|omega|assumption|rfl|(simp only[vcS]<;>omega)|fail) only[↓vcN,vcQ,simprocAttr,d5,b68,c8,r4,hcx,s4,hcl,hca])
   refine ListN.app hDc.t hTo rfl (txC_fl (ListN.one hI) (ListN.one hO)) (by rw[List.length_take];omega) (by rw[List.length_take];omega) rfl (by decide) (hDc.s.2.1) (TxOwn.kT m) fun v' wd hVd hEd hKd hbd=>?_
   rw[←htk] at hVd
   have hbb:∀g,blk vj g→m≤g∧∃cur,wc.heap[g]?=some (.cells cur 33 (0,0)):=fun g hg=>by
    obtain⟨cs',_,hO,_⟩:=hDc.t
    exact OwnO.blk hO hg
   have hSd:=hDc.s.keep hKd fun g hg=>(hbb g hg).1
   have d5d:=hKd.at d5 fun hg=>by
    obtain⟨_,c,hc⟩:=hbb _ hg
    exact typ_ne d5 (by decide) hc
   have d2d:=hKd.at hDc.c2 fun hg=>by
    obtain⟨_,c,hc⟩:=hbb _ hg
    exact typ_ne hDc.c2 (by decide) hc
   have hKw:Ext w wd:=hDc.k.trans hKd fun g hg hs=>by have:=(hbb g hs).1;omega
   refine⟨ListN.one hVd,wr1_of d5d (by rw[bC_size ho];decide),?_⟩
   have k5:Keep (fun g=>g=p5) wd (wd.setCell ⟨p5,68,none⟩ v'):=(Keep.refl _ wd).setCell _ fun _=>rfl
   have d5e:(wd.setCell ⟨p5,68,none⟩ v').heap[p5]?=some (.cells (bC h v') 29 (0,0)):=by rw[heap_setCell_eq d5d,bC_set68 ho]
   have hDe:BdS m w (wd.setCell ⟨p5,68,none⟩ v') r p2 p5 z h v' (ts.take (i+1)) ((ts.drop (i+1)).flatMap fun t=>txtF (encT t)):=
    ⟨hKw.trans k5 fun g hg e=>by have e:g=p5:=e;omega,hSd.keep k5 fun g hg=>by have e:g=p5:=hg;omega,k5.at d2d (by show¬p2=p5;omega),d5e,
     TxsN.keepT hVd k5 fun g hg=>⟨bC h vj,29,by rw[show g=p5 from hg];exact d5d,by decide,by decide,by decide,by decide,by decide⟩⟩
   generalize World.setCell _ _ _=we at hDe⊢
   iterate 2 (refine W_at c11_ok ⟨_,rfl,?_⟩;simp (disch:=first|omega|assumption|rfl|(simp only[vcS]<;>omega)|fail) only[↓vcN,vcQ,simprocAttr,hwi])
   exact ih (i+1) we v' _ (by omega) hDe
 exact L ts.length 0 w5 _ _ (by omega) (by rw[List.drop_zero];exact hD5)
end Go.Proofs
namespace Go.Proofs
open Go.Vc
set_option maxRecDepth 10000
theorem ListR.cutTo {α:Type}{R:World→Array Value→α→Prop}{size n c:Nat}{w:World}{q:Option Addr}{l:List α}(h:ListR R size w (.slice q n c) l){k:Nat}(hk:k≤l.length):ListR R size w (.slice q k c) (l.take k):=by
 obtain⟨cs,h1,h2,h3,⟨q',c',e,hc⟩,h4,h5⟩:=h
 injection e with e1 e2 e3
 subst e1 e2 e3
 have hl:(l.take k).length=k:=by rw[List.length_take];omega
 have hcl:(cs.take k).length=k:=by rw[List.length_take];omega
 refine⟨cs.take k,by omega,fun x hx=>h2 x (List.mem_of_mem_take hx),?_,⟨q,c,by rw[hl],by omega⟩,by omega,fun i a b=>?_⟩
 ·have hf:=flat_take k h2
  simp only[rdS] at h3⊢
  split
  ·rename_i h0;rw[h0];rfl
  ·rename_i h0
   rw[if_neg (by omega)] at h3
   split at h3
   ·rename_i b o
    simp only[rdN] at h3⊢
    split at h3
    ·rename_i cc _ _ hb
     split at h3
     ·rename_i hle
      have hm:k*size≤l.length*size:=Nat.mul_le_mul_right _ hk
      rw[if_pos (by omega)]
      injection h3 with h3
      congr 1
      apply Array.ext'
      rw[←hf]
      have h6:=congrArg Array.toList h3
      simp only[Array.toList_extract,List.extract_eq_take_drop] at h6⊢
      rw[show o+l.length*size - o=l.length*size by omega] at h6
      rw[show o+k*size - o=k*size by omega,←h6,List.take_take,Nat.min_eq_left hm]
     ·cases h3
    ·cases h3
   ·cases h3
 ·simp only[List.getElem_take]
  exact h5 i (by omega) (by omega)
theorem GP.base {m m':Nat}{w:World}{v:Value}{ps:List (List Int)}(h:GP m w v ps)(hm:m'≤m):GP m' w v ps:=by
 rcases h with h|⟨g,o,cap,cs,h1,h2,h3⟩
 ·exact .inl h
 ·exact .inr ⟨g,o,cap,cs,h1,Nat.le_trans hm h2,h3⟩
theorem TxT.base {m m':Nat}{w:World}{iv ov:Value}{t:TxV}(h:TxT m w iv ov t)(hm:m'≤m):TxT m' w iv ov t:=
 ⟨ListN.imp h.ins hm fun c x _ h=>by obtain⟨sv,wv,h1,h2,h3⟩:=h;exact⟨sv,wv,h1,h2,h3.base hm⟩,ListN.imp h.outs hm fun _ _ _ h=>h⟩
theorem TxT.r {m:Nat}{w:World}{iv ov:Value}{t:TxV}(h:TxT m w iv ov t):TxR w iv ov t:=⟨ListN.toR h.ins fun _ _ h=>by obtain⟨sv,wv,e,h1,h2⟩:=h;exact⟨sv,wv,e,h1.1,h2.rowR⟩,ListN.toR h.outs fun _ _ h=>by obtain⟨sv,e,h1⟩:=h;exact⟨sv,e,h1.1⟩⟩
def TxG (m:Nat)(w:World)(c:Array Value)(t:TxV):Prop:=∃iv ov,c=txC t iv ov∧TxT m w iv ov t
theorem TxG.kT (m:Nat):∀(S:Nat→Prop) (w1 w2:World) (c:Array Value) (x:TxV),Keep S w1 w2→(∀g,S g→∃c,w1.heap[g]?=some (.cells c 33 (0,0)))→TxG m w1 c x→TxG m w2 c x:=fun S w1 w2 c x k hS h=>by
 obtain⟨iv,ov,e,hT⟩:=h
 exact⟨iv,ov,e,hT.keepT k fun g hg=>by obtain⟨c0,h0⟩:=hS g hg;exact⟨c0,_,h0,by decide,by decide,by decide,by decide⟩⟩
abbrev TxsG (m:Nat)(w:World)(v:Value)(l:List TxV):Prop:=ListN TxG 33 4 m w v l
theorem TxsG.keepT {m:Nat}{S:Nat→Prop}{w w':World}{v:Value}{l:List TxV}(h:TxsG m w v l)(k:Keep S w w')(hS:∀g,S g→∃c T,w.heap[g]?=some (.cells c T (0,0))∧T≠5∧T≠41∧T≠61∧T≠63∧T≠33):TxsG m w' v l:=
 ListN.keepT h k (fun g hg c=>by obtain⟨c',T,e,h1,h2,h3,h4,h5⟩:=hS g hg;exact typ_ne e (Ne.symm h5)) fun c t ht=>by
  obtain⟨iv,ov,e,hT⟩:=ht
  exact⟨iv,ov,e,hT.keepT k fun g hg=>by obtain⟨c',T,e,h1,h2,h3,h4,h5⟩:=hS g hg;exact⟨c',T,e,h1,h2,h3,h4⟩⟩
theorem TxsG.ext {m:Nat}{w w':World}{v:Value}{l:List TxV}(h:TxsG m w v l)(k:Ext w w'):TxsG m w' v l:=h.keepT k fun _ h=>h.elim
theorem TxsG.r {m:Nat}{w:World}{v:Value}{l:List TxV}(h:TxsG m w v l):TxsR w v l:=ListN.toR h fun c t h=>by obtain⟨iv,ov,e,hT⟩:=h;exact⟨iv,ov,e,hT.r⟩
theorem TxsN.r {m:Nat}{w:World}{v:Value}{l:List TxV}(h:TxsN m w v l):TxsR w v l:=ListN.toR h fun c t h=>h.at
theorem sm3_of {t:TxV}(h1:t.Ok)(h2:t.Lim 3 100)(h3:t.WLim):t.Sm3:=⟨h1,⟨h2.ins,h2.outs,h2.inp,h2.out⟩,h3⟩
structure FbS (w wj:World)(p2:Nat)(h:HdV)(v0 vt:Value)(l:List TxV):Prop where
 k:Ext w wj
 c2:wj.heap[p2]?=some (.cells (bC h v0) 29 (0,0))
 t:TxsG w.heap.size wj vt l
 s:∀t∈l,t.Sm3
set_option maxHeartbeats 3200000 in
theorem few_loop (w:World)(Q:Ending→World→Prop)(p2:Nat)(h:HdV)(v0:Value)(ts:List TxV)(hT:TxsR w v0 ts)(hts:∀t∈ts,t.Ok∧t.Sz)(hn:ts.length≤5)(tr:Value)
  (hK:∀wj vt l tl,l.length=ts.length→FbS w wj p2 h v0 vt l→W Tryz.prog Q 3 36 ((1,tr)::(2,.pointer (some ⟨p2,0,none⟩))::(5,vt)::tl) wj):
  ∀(k i:Nat) (wj:World) (vt:Value) (l:List TxV) (tl:Env),k+i=ts.length→l.length=i→FbS w wj p2 h v0 vt l→
   W Tryz.prog Q 3 42 ((1,tr)::(2,.pointer (some ⟨p2,0,none⟩))::(5,vt)::(24,v0)::(25,.int .i64 (ts.length:Nat))::(26,.int .i64 (i:Nat))::tl) wj:=by
 intro k
 induction k with
 |zero=>
  intro i wj vt l tl hi hl hS
  obtain rfl:i=ts.length:=by omega
  have hno:¬((ts.length:Nat):Int)< (ts.length:Nat):=by omega
  iterate 2 (refine W_at c3_ok ⟨_,rfl,?_⟩;simp (disch:=first|omega|assumption|rfl|(simp only[vcS]<;>omega)|fail) only[↓vcN,vcQ,simprocAttr,hno])
  exact hK wj vt l _ hl hS
 |succ k ih=>
  intro i wj vt l tl hi hl hS
  have hil:i<ts.length:=by omega
  have hlt:((i:Nat):Int)< (ts.length:Nat):=by omega
  have b1:0≤((i:Nat):Int)∧((i:Nat):Int)< (ts.length:Nat):=by omega
  have hwi:IntKind.i64.wrap (((i:Nat):Int)+1)=((i+1:Nat):Int):=wrap_i64 (by omega) (by omega)
  obtain⟨b,o,c,cs,ev,hrr,hcs,iv,ov,ecs,hR⟩:=(hT.ext hS.k).at hil
  obtain⟨hok,hsz⟩:=hts _ (List.getElem_mem hil)
  generalize ts[i]=t at*
  subst ecs
  have s4:=txC_sz t iv ov
  rw[ev]
  iterate 3 (refine W_at c3_ok ⟨_,rfl,?_⟩;simp (disch:=first|omega|assumption|rfl|(simp only[vcS]<;>omega)|fail) only[↓vcN,vcQ,simprocAttr,hlt,b1,Int.toNat_natCast,hrr,s4])
  refine⟨txC_flat2 hR,by decide,?_⟩
  have hEb:Ext wj ((wj.alloc (.cells (zc [(1,.int .i32 0),(2,.slice none 0 0),(1,.int .u32 0)]) 33)).putN wj.heap.size 0 (txC t iv ov)):=((Keep.refl _ wj).alloc _).putN _ (by intro hh;exfalso;omega)
  have h9:((wj.alloc (.cells (zc [(1,.int .i32 0),(2,.slice none 0 0),(1,.int .u32 0)]) 33)).putN wj.heap.size 0 (txC t iv ov)).heap[wj.heap.size]?=some (.cells (txC t iv ov) 33 (0,0)):=by
   rw[heap_putN_eq (heap_new _ _ _ rfl),splice_all (by rw[s4];rfl)]
  generalize World.putN _ _ _ _=wa at hEb h9⊢
  generalize wj.heap.size=p9 at h9⊢
  have r4:rdO (some (.cells (txC t iv ov) 33 (0,0))) 0 4=some (txC t iv ov):=rdO_all _ _ _ _ s4
  (refine W_at c3_ok ⟨_,rfl,?_⟩;simp (disch:=first|omega|assumption|rfl|(simp only[vcS]<;>omega)|fail) only[↓vcN,vcQ,simprocAttr,h9,r4])
  refine callV_ret (few_ok wa iv ov t 3 100 (hR.ext hEb) hok hsz rfl rfl) ?_
  rintro _ wb ⟨t',iv',ov',rfl,hT',hok',_,hL',hW',hE'⟩
  have hEab:=hEb.ext hE'
  have hTb:=hS.t.ext hEab
  have hKa:=hS.k.ext hEb
  have hKb:=hS.k.ext hEab
  have c2b:=hEab.at hS.c2 (fun h=>h)
  have hG:TxG w.heap.size wb (txC t' iv' ov') t':=⟨iv',ov',rfl,hT'.base hKa.size⟩
  have hcx:(Value.agg (txC t' iv' ov')).cells=txC t' iv' ov':=rfl
  have hcz:=txC_sz t' iv' ov'
  have hcl:(txC t' iv' ov').toList++[]=(txC t' iv' ov').toList:=List.append_nil _
  have hca:(txC t' iv' ov').toList.toArray=txC t' iv' ov':=rfl
  first|(simp (disch:=first|omega|assumption|rfl|(simp only[vcS]<;>omega)|fail) only[↓vcN,vcQ,simprocAttr,hcx,hcz,hcl,hca])|skip
  refine ListN.app hTb hG rfl (txC_flat2 hT'.r) (by omega) (by omega) rfl (by decide) hKb.size (TxG.kT _) fun v' wd hVd hEd hKd hbd=>?_
  have hbb:∀g,blk vt g→w.heap.size≤g∧∃cur,wb.heap[g]?=some (.cells cur 33 (0,0)):=fun g hg=>by
   obtain⟨cs',_,hO,_⟩:=hTb
   exact OwnO.blk hO hg
  have c2d:=hKd.at c2b fun hg=>by
   obtain⟨_,c,hc⟩:=hbb _ hg
   exact typ_ne c2b (by decide) hc
  have hKw:Ext w wd:=hKb.trans hKd fun g hg hs=>by have:=(hbb g hs).1;omega
  first|(simp (disch:=first|omega|assumption|rfl|(simp only[vcS]<;>omega)|fail) only[↓vcN,vcQ,simprocAttr])|skip
  iterate 2 (refine W_at c3_ok ⟨_,rfl,?_⟩;simp (disch:=first|omega|assumption|rfl|(simp only[vcS]<;>omega)|fail) only[↓vcN,vcQ,simprocAttr,hwi])
  rw[←ev]
  exact ih (i+1) wd v' (l++[t']) _ (by omega) (by rw[List.length_append,List.length_singleton,hl]) ⟨hKw,c2d,hVd,fun u hu=>by
   rcases List.mem_append.1 hu with hu|hu
   ·exact hS.s u hu
   ·rw[List.mem_singleton.1 hu];exact sm3_of hok' hL' hW'⟩
end Go.Proofs
namespace Go.Proofs
open Go.Vc
set_option maxRecDepth 10000
theorem merkF_byt {l:List (List Int)}(hl:∀H∈l,H.length=32∧byt H):∀{k:Nat},byt (merkF k l):=by
 intro k
 induction k generalizing l with
 |zero=>exact Z32_byt
 |succ k ih=>
  match l with
  |[]=>exact Z32_byt
  |[a]=>exact(hl a (by simp)).2
  |a::b::l=>
   rw[merkF_two (by simp)]
   exact ih fun H hH=>upF_mem hH
theorem bC_spl33 {h:HdV}(ho:h.Ok){p:List Int}(hp:p.length=32)(v:Value):spliceA (bC h v) 33 (bv p).toArray=bC {h with merkle:=p} v:=by
 apply Array.ext'
 simp [spliceA,bC,List.drop_append,bv_len,ho.plen,ho.mlen,hp]
theorem BOk.more {h:HdV}{ts:List TxV}{t:TxV}(hb:BOk h ts)(hn:ts.length≤5)(ht:t∈ts){R:List Int}(hl:R.length=32)(hby:byt R):BOk {h with merkle:=R} (ts++[t]):=
 ⟨⟨hb.ho.ver,hb.ho.plen,hb.ho.prev,hl,hby,hb.ho.time,hb.ho.bits,hb.ho.nonce⟩,fun u hu=>by
  rcases List.mem_append.1 hu with hu|hu
  ·exact hb.txs u hu
  ·rw[List.mem_singleton.1 hu];exact hb.txs t ht,by rw[List.length_append,List.length_singleton];omega⟩
theorem BOk.same {h:HdV}{ts:List TxV}{t:TxV}(hb:BOk h ts)(hn:ts.length≤5)(ht:t∈ts):BOk h (ts++[t]):=
 ⟨hb.ho,fun u hu=>by
  rcases List.mem_append.1 hu with hu|hu
  ·exact hb.txs u hu
  ·rw[List.mem_singleton.1 hu];exact hb.txs t ht,by rw[List.length_append,List.length_singleton];omega⟩
set_option maxHeartbeats 6400000 in
theorem carr_tail (w wj:World)(p2 p10:Nat)(h:HdV)(vb vc:Value)(ts:List TxV)(m:Nat)(hb:BOk h ts)(hn5:ts.length≤5)(hk:Ext w wj)(hl10:w.heap.size≤p10)(hm:m≤wj.heap.size)(hmw:w.heap.size≤m)(h210:p2≠p10)
  (c2:wj.heap[p2]?=some (.cells (bC h vb) 29 (0,0))) (c10:wj.heap[p10]?=some (.cells (bC h vc) 29 (0,0))) (hTc:TxsN m wj vc ts) (n:Nat) (hnl:ts.length=n+1) (tl:Env):
  W Tryz.prog (Ret fun u w'=>u=.bool true∧Ext w w') 3 4 ((2,.pointer (some ⟨p2,0,none⟩))::(10,.pointer (some ⟨p10,0,none⟩))::tl) wj:=by
 have ho:=hb.ho
 have hil:n<ts.length:=by omega
 have b1:0≤((n:Nat):Int)∧((n:Nat):Int)< (ts.length:Nat):=by omega
 have hwi:IntKind.i64.wrap (((ts.length:Nat):Int) - 1)=((n:Nat):Int):=by rw[hnl];rw[wrap_i64 (by omega) (by omega)];omega
 have hLR:ListR (fun w=>TxOwn m w) 4 wj vc ts:=ListN.toR hTc fun _ _ h=>h
 obtain⟨b,o,c,cs,rfl,hrr,hcs,hOwn⟩:=hLR.at hil
 have hmem:ts[n]∈ts:=List.getElem_mem hil
 generalize ts[n]=t at*
 have hEd:Ext wj wj.drew:=(Keep.refl _ wj).drew
 have c10d:=hEd.at c10 (fun h=>h)
 have hrd:=rdO_ext' hEd hrr
 have b68:=bC_68 ho (.slice (some ⟨b,o,none⟩) ts.length c)
 have hcl:cs.toList++[]=cs.toList:=List.append_nil _
 have hca:cs.toList.toArray=cs:=Array.toArray_toList
 have hcx:(Value.agg cs).cells=cs:=rfl
 have hOd:TxOwn m wj.drew cs t:=hOwn.keepT hEd fun _ h=>h.elim
 have hfl:flat cs:=by obtain⟨iv,ov,rfl,h1,h2⟩:=hOwn;exact txC_fl (ListN.one h1) (ListN.one h2)
 have hKd:=hk.ext hEd
 have hmd:m≤wj.drew.heap.size:=Nat.le_trans hm hEd.size
 have c2d:=hEd.at c2 (fun h=>h)
 have hTd:=TxsN.ext hTc hEd
 (refine W_at c3_ok ⟨_,rfl,?_⟩;simp (disch:=first|omega|assumption|rfl|(simp only[vcS]<;>omega)|fail) only[↓vcN,vcQ,simprocAttr,c10,b68,hwi,b1,Int.toNat_natCast,hrr,hcs,hcl,hca,hcx])
 have c10a:(wj.drew.alloc (.cells cs 33)).heap[p10]?=_:=((Keep.refl (fun _=>False) wj.drew).alloc _).at c10d (fun h=>h)
 refine⟨by rw[c10a];exact b68,?_⟩
 have hds:wj.drew.heap.size=wj.heap.size:=rfl
 rw[←hds]
 refine ListN.app hTd hOd hcs hfl (by omega) (by omega) rfl (by decide) hmd (TxOwn.kT m) fun v' wd hVd hEd2 hKd2 hbd=>?_
 have hbb:∀g,blk (.slice (some ⟨b,o,none⟩) ts.length c) g→m≤g∧∃cur,wj.drew.heap[g]?=some (.cells cur 33 (0,0)):=fun g hg=>by
  obtain⟨cs',_,hO,_⟩:=hTd
  exact OwnO.blk hO hg
 have c10e:=hKd2.at c10d fun hg=>by
  obtain⟨_,c,hc⟩:=hbb _ hg
  exact typ_ne c10d (by decide) hc
 have c2e:=hKd2.at c2d fun hg=>by
  obtain⟨_,c,hc⟩:=hbb _ hg
  exact typ_ne c2d (by decide) hc
 have hKw:Ext w wd:=hKd.trans hKd2 fun g hg hs=>by have:=(hbb g hs).1;omega
 first|(simp (disch:=first|omega|assumption|rfl|(simp only[vcS]<;>omega)|fail) only[↓vcN,vcQ,simprocAttr])|skip
 refine⟨ListN.one hVd,wr1_of c10e (by rw[bC_size ho];decide),?_⟩
 have k5:Keep (fun g=>g=p10) wd (wd.setCell ⟨p10,68,none⟩ v'):=(Keep.refl _ wd).setCell _ fun _=>rfl
 have c10f:(wd.setCell ⟨p10,68,none⟩ v').heap[p10]?=some (.cells (bC h v') 29 (0,0)):=by rw[heap_setCell_eq c10e,bC_set68 ho]
 have c2f:=k5.at c2e h210
 have hTf:TxsN m (wd.setCell ⟨p10,68,none⟩ v') v' (ts++[t]):=TxsN.keepT hVd k5 fun g hg=>⟨bC h (.slice (some ⟨b,o,none⟩) ts.length c),29,by rw[show g=p10 from hg];exact c10e,by decide,by decide,by decide,by decide,by decide⟩
 have hKf:Ext w (wd.setCell ⟨p10,68,none⟩ v'):=hKw.trans k5 fun g hg e=>by have e:g=p10:=e;omega
 generalize World.setCell _ _ _=we at c10f c2f hTf hKf⊢
 clear hTd hOd hfl hKd hmd c2d c10d hbb c10e c2e hKw k5 hVd hEd2 hKd2 hbd hLR hTc hOwn hrr hrd
 have hbM:=hb.same hn5 hmem
 have rA:=bC_all ho v' 29 (0,0)
 (refine W_at c3_ok ⟨_,rfl,?_⟩;simp (disch:=first|omega|assumption|rfl|(simp only[vcS]<;>omega)|fail) only[↓vcN,vcQ,simprocAttr,c10f,rA])
 refine callV_ret (root_ok we h v' (ts++[t]) hTf.r hbM) ?_
 rintro _ wf ⟨rfl,hEf⟩
 have hrl:=rootF_len (ts++[t])
 have hrb:byt (rootF (ts++[t])):=merkF_byt (wids_ok (ts++[t]))
 generalize rootF (ts++[t])=R at*
 have c10g:=hEf.at c10f (fun h=>h)
 have c2g:=hEf.at c2f (fun h=>h)
 have hTg:=TxsN.ext hTf hEf
 have hKg:=hKf.ext hEf
 have sR:(bv R).toArray.size=32:=by rw[bva_size,hrl]
 have hRx:(Value.agg (bv R).toArray).cells=(bv R).toArray:=rfl
 have oR:okO (some (.cells (bC h v') 29 (0,0))) 33 32=True:=by simp only[okO,bC_size ho];simp
 first|(simp (disch:=first|omega|assumption|rfl|(simp only[vcS]<;>omega)|fail) only[↓vcN,vcQ,simprocAttr,c10g,sR,oR])|skip
 refine⟨bv_flat _,?_⟩
 have k6:Keep (fun g=>g=p10) wf (wf.putN p10 33 (bv R).toArray):=(Keep.refl _ wf).putN _ fun _=>rfl
 have c10h:(wf.putN p10 33 (bv R).toArray).heap[p10]?=some (.cells (bC {h with merkle:=R} v') 29 (0,0)):=by rw[heap_putN_eq c10g,bC_spl33 ho hrl]
 have c2h:=k6.at c2g h210
 have hTh:TxsN m (wf.putN p10 33 (bv R).toArray) v' (ts++[t]):=TxsN.keepT hTg k6 fun g hg=>⟨bC h v',29,by rw[show g=p10 from hg];exact c10g,by decide,by decide,by decide,by decide,by decide⟩
 have hKh:Ext w (wf.putN p10 33 (bv R).toArray):=hKg.trans k6 fun g hg e=>by have e:g=p10:=e;omega
 generalize World.putN _ _ _ _=wg at c10h c2h hTh hKh⊢
 clear k6 c10g c2g hTg hKg c10f c2f hTf hKf hEf
 have hbR:=hb.more hn5 hmem hrl hrb
 have rB:=bC_all hbR.ho v' 29 (0,0)
 have rH:=bC_head ho vb 29 (0,0)
 have hne:=chk_more {h with merkle:=R} ts t hmem
 (refine W_at c3_ok ⟨_,rfl,?_⟩;simp (disch:=first|omega|assumption|rfl|(simp only[vcS]<;>omega)|fail) only[↓vcX,ptS2_eq,vcQ,simprocAttr,c10h,rB])
 have hEd:Ext wg wg.drew:=(Keep.refl _ wg).drew
 refine callV_ret (bcheck_ok wg.drew {h with merkle:=R} v' (ts++[t]) (hTh.r.ext hEd) hbR) ?_
 rintro _ wh ⟨rfl,hEh⟩
 generalize chkB _ _=e at*
 have hed:¬e=0:=hne
 have c2i:=hEh.at (hEd.at c2h (fun h=>h)) (fun h=>h)
 have hKi:=(hKh.ext hEd).ext hEh
 have hby:=encH_byt ho
 simp (disch:=first|omega|assumption|rfl|(simp only[vcS]<;>omega)|fail) only[↓vcY,ptS1_eq,vcQ,simprocAttr,c2i,rH,hed]
 refine callV_ret (encodeHeader_ok wh h ho) ?_
 intro u1 wi hu1
 have c2k:=hu1.ext.at c2i (fun h=>h)
 refine⟨by rw[c2k,rH];rfl,?_⟩
 simp (disch:=first|omega|assumption|rfl|(simp only[vcS]<;>omega)|fail) only[↓vcX,ptS2_eq,vcQ,simprocAttr]
 refine callV_ret (rencodeHeader_ok wi h ho) ?_
 intro u2 wk hu2
 simp (disch:=first|omega|assumption|rfl|(simp only[vcS]<;>omega)|fail) only[↓vcY,ptS1_eq,vcQ,simprocAttr]
 refine callV_ret (equal_ok wk u1 u2 _ _ (hu1.own.rd.ext hu2.ext) hu2.own.rd hby hby) ?_
 rintro _ wl ⟨rfl,rfl⟩
 rw[decide_eq_true (rfl:encH h=encH h)]
 first|(simp (disch:=first|omega|assumption|rfl|(simp only[vcS]<;>omega)|fail) only[↓vcX,ptS2_eq,vcQ,simprocAttr])|skip
 (refine W_at c3_ok ⟨_,rfl,?_⟩;simp (disch:=first|omega|assumption|rfl|(simp only[vcS]<;>omega)|fail) only[↓vcN,vcQ,simprocAttr,Ret_returned])
 exact(hKi.ext hu1.ext).ext hu2.ext
end Go.Proofs
namespace Go.Proofs
open Go.Vc
set_option maxRecDepth 10000
theorem bequal_ok (w:World)(x y:Value)(a b:List Int)(hx:Rd w x a)(hy:Rd w y b)(ha:byt a)(hb:byt b):
  Calls Tryz.prog 105 #[x,y] w (Ret fun u w'=>u=.bool (decide (a=b))∧w'=w):=by
 refine calls_of_cfg c105_ok (Nat.le_of_ble_eq_true rfl) ?_
 simp only[argE_nil,argE_cons,Nat.reduceAdd,Nat.zero_add]
 have h1:=hx.b2s
 have h2:=hy.b2s
 have h3:=strOf_inj ha hb
 iterate 3 (refine W_at c105_ok ⟨_,rfl,?_⟩;simp (disch:=first|omega|assumption|rfl|(simp only[vcS]<;>omega)|fail) only[↓vcN,vcQ,simprocAttr,h1,h2,h3,Ret_returned])
set_option maxHeartbeats 1600000 in
theorem efRow_ok (w:World)(x y:Value)(ps:List (List Int))(hx:RowR w x ps)(hy:RowR w y ps)(hb:∀p∈ps,byt p)(hl:ps.length≤140737488355328):
  Calls Tryz.prog 106 #[x,y,.func (.func 105) #[] #[]] w (Ret fun u w'=>u=.bool true∧w'=w):=by
 refine calls_of_cfg c106_ok (Nat.le_of_ble_eq_true rfl) ?_
 simp only[argE_nil,argE_cons,Nat.reduceAdd,Nat.zero_add]
 have hxl:=hx.len
 have hyl:=hy.len
 iterate 4 (refine W_at c106_ok ⟨_,rfl,?_⟩;simp (disch:=first|omega|assumption|rfl|(simp only[vcS]<;>omega)|fail) only[↓vcN,vcQ,simprocAttr,hxl,hyl])
 have L:∀(k i:Nat) (tl:Env),i+k=ps.length→W Tryz.prog (Ret fun u w'=>u=.bool true∧w'=w) 106 12 ((1,y)::(2,.func (.func 105) #[] #[])::(15,x)::(16,.int .i64 (ps.length:Nat))::(17,.int .i64 (i:Nat))::tl) w:=by
  intro k
  induction k with
  |zero=>
   intro i tl hi
   have hno:¬((i:Nat):Int)< (ps.length:Nat):=by omega
   iterate 4 (refine W_at c106_ok ⟨_,rfl,?_⟩;simp (disch:=first|omega|assumption|rfl|(simp only[vcS]<;>omega)|fail) only[↓vcN,vcQ,simprocAttr,hno,Ret_returned])
  |succ k ih=>
   intro i tl hi
   have hil:i<ps.length:=by omega
   have hlt:((i:Nat):Int)< (ps.length:Nat):=by omega
   have b1:0≤((i:Nat):Int)∧((i:Nat):Int)< (ps.length:Nat):=by omega
   have hwi:IntKind.i64.wrap (((i:Nat):Int)+1)=((i+1:Nat):Int):=wrap_i64 (by omega) (by omega)
   obtain⟨bx,ox,cx,vx,ex,hvx,hrx⟩:=hx.at hil
   obtain⟨by',oy,cy,vy,ey,hvy,hry⟩:=hy.at hil
   have hbp:=hb _ (List.getElem_mem hil)
   iterate 5 (refine W_at c106_ok ⟨_,rfl,?_⟩;simp (disch:=first|omega|assumption|rfl|(simp only[vcS]<;>omega)|fail) only[↓vcN,vcQ,simprocAttr,hlt,ex,b1,Int.toNat_natCast,Nat.mul_one,hvx,ey,hvy])
   refine⟨by kernel_rfl,callV_ret (bequal_ok w vx vy _ _ hrx hry hbp hbp) ?_⟩
   rintro _ wk ⟨rfl,hwk⟩
   rw[hwk]
   rw[decide_eq_true (rfl:ps[i]=ps[i])]
   first|(simp (disch:=first|omega|assumption|rfl|(simp only[vcS]<;>omega)|fail) only[↓vcN,vcQ,simprocAttr])|skip
   iterate 3 (refine W_at c106_ok ⟨_,rfl,?_⟩;simp (disch:=first|omega|assumption|rfl|(simp only[vcS]<;>omega)|fail) only[↓vcN,vcQ,simprocAttr,hwi])
   rw[←ex,←ey]
   exact ih (i+1) _ (by omega)
 exact L ps.length 0 _ (by omega)
theorem eqA_op {prev:List Int}(idx:Int)(h:prev.length=32):eqAR true (skR [(32,.i .u8),(1,.i .u32)]) (.agg (opC prev idx)) (.agg (opC prev idx))=some (.bool false):=by
 rw[eqA_a,if_pos ⟨conf33 h idx,conf33 h idx⟩,eqc_self];rfl
theorem eqA_op' {prev:List Int}(idx:Int)(h:prev.length=32):eqAR false (skR [(32,.i .u8),(1,.i .u32)]) (.agg (opC prev idx)) (.agg (opC prev idx))=some (.bool true):=by
 rw[eqA_a,if_pos ⟨conf33 h idx,conf33 h idx⟩,eqc_self];rfl
theorem rd_op {w:World}{g:Nat}{x:TxI}{sv wv:Value}{T:TypeId}(hx:x.prev.length=32)(h:w.heap[g]?=some (.cells (iC x sv wv) T (0,0))):rdO w.heap[g]? 0 33=some (opC x.prev x.idx):=by
 rw[h];exact iC_op hx (rdO_all _ _ _ _ (iC_size hx sv wv))
set_option maxHeartbeats 1600000 in
theorem sameIn_ok (w:World)(x:TxI)(sx wx sy wy:Value)(hsx:Rd w sx x.script)(hwx:RowR w wx x.wit)(hsy:Rd w sy x.script)(hwy:RowR w wy x.wit)(hok:x.Ok)(hl:x.wit.length≤140737488355328):
  Calls Tryz.prog 54 #[.agg (iC x sx wx),.agg (iC x sy wy)] w (Ret fun u w'=>u=.bool true∧Ext w w'):=by
 refine calls_of_cfg c54_ok (Nat.le_of_ble_eq_true rfl) ?_
 simp only[argE_nil,argE_cons,Nat.reduceAdd,Nat.zero_add]
 have hpl:=hok.len
 have fx:=iC_flat (x:=x) hsx.one hwx.one
 have fy:=iC_flat (x:=x) hsy.one hwy.one
 have s36:=iC_size hpl sx wx
 have s36':=iC_size hpl sy wy
 have hcx:(Value.agg (iC x sx wx)).cells=iC x sx wx:=rfl
 have hcy:(Value.agg (iC x sy wy)).cells=iC x sy wy:=rfl
 (refine W_at c54_ok ⟨_,rfl,?_⟩;simp (disch:=first|omega|assumption|rfl|(simp only[vcS]<;>omega)|fail) only[↓vcN,vcQ,simprocAttr,hcx,hcy])
 have hE1:Ext w (w.alloc (.cells (iC x sx wx) 61)):=(Keep.refl _ w).alloc _
 have c2:(w.alloc (.cells (iC x sx wx) 61)).heap[w.heap.size]?=some (.cells (iC x sx wx) 61 (0,0)):=heap_new _ _ _ rfl
 have s1:(w.alloc (.cells (iC x sx wx) 61)).heap.size=w.heap.size+1:=size_alloc _ _
 generalize World.alloc w _=w1 at hE1 c2 s1⊢
 have hE2:Ext w1 (w1.alloc (.cells (iC x sy wy) 61)):=(Keep.refl _ w1).alloc _
 have c3:(w1.alloc (.cells (iC x sy wy) 61)).heap[w.heap.size+1]?=some (.cells (iC x sy wy) 61 (0,0)):=heap_new _ _ _ s1.symm
 generalize World.alloc w1 _=w2 at hE2 c3⊢
 have h6:=hE2.at c2 (fun h=>h)
 have hE:=hE1.ext hE2
 clear hE1 hE2 s1 c2
 generalize w.heap.size+1=p3 at c3⊢
 generalize w.heap.size=p2 at h6⊢
 have q1:=rd_op hpl h6
 have q2:=rd_op hpl c3
 have qe:=eqA_op' x.idx hpl
 have a33:=iC_33 hpl sx wx
 have a34:=iC_34 hpl sx wx
 have a35:=iC_35 hpl sx wx
 have b33:=iC_33 hpl sy wy
 have b34:=iC_34 hpl sy wy
 have b35:=iC_35 hpl sy wy
 rw[h6] at q1
 rw[c3] at q2
 (refine W_at c54_ok ⟨_,rfl,?_⟩;simp (disch:=first|omega|assumption|rfl|(simp only[vcS]<;>omega)|fail) only[↓vcN,vcQ,simprocAttr,h6,c3,q1,q2,qe,a33,a34,b33,b34])
 refine callV_ret (bequal_ok w2 sx sy _ _ (hsx.ext hE) (hsy.ext hE) hok.script hok.script) ?_
 rintro _ wk ⟨rfl,hwk⟩
 rw[hwk]
 rw[decide_eq_true (rfl:x.script=x.script)]
 simp (disch:=first|omega|assumption|rfl|(simp only[vcS]<;>omega)|fail) only[↓vcN,vcQ,simprocAttr,h6,c3,a35,b35]
 refine callV_ret (efRow_ok w2 wx wy x.wit (hwx.ext hE) (hwy.ext hE) hok.wit (by omega)) ?_
 rintro _ wl ⟨rfl,hwl⟩
 rw[hwl]
 first|(simp (disch:=first|omega|assumption|rfl|(simp only[vcS]<;>omega)|fail) only[↓vcN,vcQ,simprocAttr])|skip
 (refine W_at c54_ok ⟨_,rfl,?_⟩;simp (disch:=first|omega|assumption|rfl|(simp only[vcS]<;>omega)|fail) only[↓vcN,vcQ,simprocAttr,Ret_returned])
 exact hE
set_option maxHeartbeats 1600000 in
theorem sameOut_ok (w:World)(x:TxO)(sx sy:Value)(hsx:Rd w sx x.script)(hsy:Rd w sy x.script)(hok:x.Ok):
  Calls Tryz.prog 56 #[.agg (oC x sx),.agg (oC x sy)] w (Ret fun u w'=>u=.bool true∧Ext w w'):=by
 refine calls_of_cfg c56_ok (Nat.le_of_ble_eq_true rfl) ?_
 simp only[argE_nil,argE_cons,Nat.reduceAdd,Nat.zero_add]
 have fx:flat (oC x sx):=by
  intro y hy;simp only[oC,List.mem_cons,List.not_mem_nil,or_false] at hy;rcases hy with rfl|rfl
  ·rfl
  ·exact hsx.one
 have fy:flat (oC x sy):=by
  intro y hy;simp only[oC,List.mem_cons,List.not_mem_nil,or_false] at hy;rcases hy with rfl|rfl
  ·rfl
  ·exact hsy.one
 have s36:(oC x sx).size=2:=rfl
 have s36':(oC x sy).size=2:=rfl
 have hcx:(Value.agg (oC x sx)).cells=oC x sx:=rfl
 have hcy:(Value.agg (oC x sy)).cells=oC x sy:=rfl
 (refine W_at c56_ok ⟨_,rfl,?_⟩;simp (disch:=first|omega|assumption|rfl|(simp only[vcS]<;>omega)|fail) only[↓vcN,vcQ,simprocAttr,hcx,hcy])
 have hE1:Ext w (w.alloc (.cells (oC x sx) 63)):=(Keep.refl _ w).alloc _
 have c2:(w.alloc (.cells (oC x sx) 63)).heap[w.heap.size]?=some (.cells (oC x sx) 63 (0,0)):=heap_new _ _ _ rfl
 have s1:(w.alloc (.cells (oC x sx) 63)).heap.size=w.heap.size+1:=size_alloc _ _
 generalize World.alloc w _=w1 at hE1 c2 s1⊢
 have hE2:Ext w1 (w1.alloc (.cells (oC x sy) 63)):=(Keep.refl _ w1).alloc _
 have c3:(w1.alloc (.cells (oC x sy) 63)).heap[w.heap.size+1]?=some (.cells (oC x sy) 63 (0,0)):=heap_new _ _ _ s1.symm
 generalize World.alloc w1 _=w2 at hE2 c3⊢
 have h6:=hE2.at c2 (fun h=>h)
 have hE:=hE1.ext hE2
 clear hE1 hE2 s1 c2
 generalize w.heap.size+1=p3 at c3⊢
 generalize w.heap.size=p2 at h6⊢
 have a0:(oC x sx)[0]?=some (.int .i64 x.val):=rfl
 have a1:(oC x sx)[1]?=some sx:=rfl
 have b0:(oC x sy)[0]?=some (.int .i64 x.val):=rfl
 have b1:(oC x sy)[1]?=some sy:=rfl
 (refine W_at c56_ok ⟨_,rfl,?_⟩;simp (disch:=first|omega|assumption|rfl|(simp only[vcS]<;>omega)|fail) only[↓vcN,vcQ,simprocAttr,h6,c3,a0,a1,b0,b1])
 refine callV_ret (bequal_ok w2 sx sy _ _ (hsx.ext hE) (hsy.ext hE) hok.script hok.script) ?_
 rintro _ wk ⟨rfl,hwk⟩
 rw[hwk]
 rw[decide_eq_true (rfl:x.script=x.script)]
 first|(simp (disch:=first|omega|assumption|rfl|(simp only[vcS]<;>omega)|fail) only[↓vcN,vcQ,simprocAttr])|skip
 (refine W_at c56_ok ⟨_,rfl,?_⟩;simp (disch:=first|omega|assumption|rfl|(simp only[vcS]<;>omega)|fail) only[↓vcN,vcQ,simprocAttr,Ret_returned])
 exact hE
end Go.Proofs
namespace Go.Proofs
open Go.Vc
set_option maxRecDepth 10000
theorem oC_flat2 {x:TxO}{sx:Value}(h:sx.oneCell'=true):flat (oC x sx):=by
 intro y hy;simp only[oC,List.mem_cons,List.not_mem_nil,or_false] at hy;rcases hy with rfl|rfl
 ·rfl
 ·exact h
set_option maxHeartbeats 1600000 in
theorem efIn_ok (w:World)(x y:Value)(l:List TxI)(hx:ListR InAt 36 w x l)(hy:ListR InAt 36 w y l)(hok:∀z∈l,z.Ok∧z.wit.length≤140737488355328)(hl:l.length≤140737488355328):
  Calls Tryz.prog 53 #[x,y,.func (.func 54) #[] #[]] w (Ret fun u w'=>u=.bool true∧Ext w w'):=by
 refine calls_of_cfg c53_ok (Nat.le_of_ble_eq_true rfl) ?_
 simp only[argE_nil,argE_cons,Nat.reduceAdd,Nat.zero_add]
 have hxl:=ListR.len hx
 have hyl:=ListR.len hy
 iterate 4 (refine W_at c53_ok ⟨_,rfl,?_⟩;simp (disch:=first|omega|assumption|rfl|(simp only[vcS]<;>omega)|fail) only[↓vcN,vcQ,simprocAttr,hxl,hyl])
 have L:∀(k i:Nat) (wj:World) (tl:Env),i+k=l.length→Ext w wj→W Tryz.prog (Ret fun u w'=>u=.bool true∧Ext w w') 53 12 ((1,y)::(2,.func (.func 54) #[] #[])::(15,x)::(16,.int .i64 (l.length:Nat))::(17,.int .i64 (i:Nat))::tl) wj:=by
  intro k
  induction k with
  |zero=>
   intro i wj tl hi hj
   have hno:¬((i:Nat):Int)< (l.length:Nat):=by omega
   iterate 4 (refine W_at c53_ok ⟨_,rfl,?_⟩;simp (disch:=first|omega|assumption|rfl|(simp only[vcS]<;>omega)|fail) only[↓vcN,vcQ,simprocAttr,hno,Ret_returned])
   exact hj
  |succ k ih=>
   intro i wj tl hi hj
   have hil:i<l.length:=by omega
   have hlt:((i:Nat):Int)< (l.length:Nat):=by omega
   have b1:0≤((i:Nat):Int)∧((i:Nat):Int)< (l.length:Nat):=by omega
   have hwi:IntKind.i64.wrap (((i:Nat):Int)+1)=((i+1:Nat):Int):=wrap_i64 (by omega) (by omega)
   have hy0:=hok _ (List.getElem_mem hil)
   have hxi:=ListR.at hx hil
   have hyi:=ListR.at hy hil
   generalize l[i]=z at hxi hyi hy0
   obtain⟨bx,ox,cx,cs,ex,hrx,_,sx,wx,rfl,hsx,hwx⟩:=hxi
   obtain⟨by',oy,cy,ds,ey,hry,_,sy,wy,rfl,hsy,hwy⟩:=hyi
   have s36:=iC_size hy0.1.len sx wx
   have s36':=iC_size hy0.1.len sy wy
   have fx:=iC_flat (x:=z) hsx.one hwx.one
   have fy:=iC_flat (x:=z) hsy.one hwy.one
   have hr1:=rdO_ext' hj hrx
   iterate 3 (refine W_at c53_ok ⟨_,rfl,?_⟩;simp (disch:=first|omega|assumption|rfl|(simp only[vcS]<;>omega)|fail) only[↓vcN,vcQ,simprocAttr,hlt,ex,b1,Int.toNat_natCast,hr1,s36])
   refine⟨fx,by simp [zc,runs],?_⟩
   have put:∀(wj:World) (c:Array Value),c.size=36→Ext wj ((wj.alloc (.cells (zc [(32,.int .u8 0),(1,.int .u32 0),(1,.slice none 0 0),(1,.int .u32 0),(1,.slice none 0 0)]) 61)).putN wj.heap.size 0 c)∧((wj.alloc (.cells (zc [(32,.int .u8 0),(1,.int .u32 0),(1,.slice none 0 0),(1,.int .u32 0),(1,.slice none 0 0)]) 61)).putN wj.heap.size 0 c).heap[wj.heap.size]?=some (.cells c 61 (0,0)):=fun wj c hc=>
    ⟨((Keep.refl _ wj).alloc _).putN _ (by intro hh;exfalso;omega),by rw[heap_putN_eq (heap_new _ _ _ rfl),splice_all (by rw[hc];rfl)]⟩
   obtain⟨hEa,h6⟩:=put wj _ s36
   generalize World.putN _ _ _ _=wa at hEa h6⊢
   generalize wj.heap.size=p6 at h6⊢
   have hja:=hj.ext hEa
   have hr2:=rdO_ext' hja hry
   (refine W_at c53_ok ⟨_,rfl,?_⟩;simp (disch:=first|omega|assumption|rfl|(simp only[vcS]<;>omega)|fail) only[↓vcN,vcQ,simprocAttr,ey,b1,Int.toNat_natCast,hr2,s36'])
   refine⟨fy,by simp [zc,runs],?_⟩
   obtain⟨hEb,h7⟩:=put wa _ s36'
   generalize World.putN _ _ _ _=wb at hEb h7⊢
   generalize wa.heap.size=p7 at h7⊢
   have hjb:=hja.ext hEb
   have h6b:=hEb.at h6 (fun h=>h)
   have rx:∀T,rdO (some (.cells (iC z sx wx) T (0,0))) 0 36=some (iC z sx wx):=fun T=>rdO_all _ _ _ _ s36
   have ry:∀T,rdO (some (.cells (iC z sy wy) T (0,0))) 0 36=some (iC z sy wy):=fun T=>rdO_all _ _ _ _ s36'
   (refine W_at c53_ok ⟨_,rfl,?_⟩;simp (disch:=first|omega|assumption|rfl|(simp only[vcS]<;>omega)|fail) only[↓vcN,vcQ,simprocAttr,h6b,h7,rx,ry])
   refine⟨by kernel_rfl,callV_ret (sameIn_ok wb z sx wx sy wy (hsx.ext hjb) (hwx.ext hjb) (hsy.ext hjb) (hwy.ext hjb) hy0.1 hy0.2) ?_⟩
   rintro _ wk ⟨rfl,hEk⟩
   first|(simp (disch:=first|omega|assumption|rfl|(simp only[vcS]<;>omega)|fail) only[↓vcN,vcQ,simprocAttr])|skip
   iterate 3 (refine W_at c53_ok ⟨_,rfl,?_⟩;simp (disch:=first|omega|assumption|rfl|(simp only[vcS]<;>omega)|fail) only[↓vcN,vcQ,simprocAttr,hwi])
   rw[←ex,←ey]
   exact ih (i+1) _ _ (by omega) (hjb.ext hEk)
 exact L l.length 0 w _ (by omega) (Keep.refl _ w)
set_option maxHeartbeats 1600000 in
theorem efOut_ok (w:World)(x y:Value)(l:List TxO)(hx:ListR OuAt 2 w x l)(hy:ListR OuAt 2 w y l)(hok:∀z∈l,z.Ok)(hl:l.length≤140737488355328):
  Calls Tryz.prog 55 #[x,y,.func (.func 56) #[] #[]] w (Ret fun u w'=>u=.bool true∧Ext w w'):=by
 refine calls_of_cfg c55_ok (Nat.le_of_ble_eq_true rfl) ?_
 simp only[argE_nil,argE_cons,Nat.reduceAdd,Nat.zero_add]
 have hxl:=ListR.len hx
 have hyl:=ListR.len hy
 iterate 4 (refine W_at c55_ok ⟨_,rfl,?_⟩;simp (disch:=first|omega|assumption|rfl|(simp only[vcS]<;>omega)|fail) only[↓vcN,vcQ,simprocAttr,hxl,hyl])
 have L:∀(k i:Nat) (wj:World) (tl:Env),i+k=l.length→Ext w wj→W Tryz.prog (Ret fun u w'=>u=.bool true∧Ext w w') 55 12 ((1,y)::(2,.func (.func 56) #[] #[])::(15,x)::(16,.int .i64 (l.length:Nat))::(17,.int .i64 (i:Nat))::tl) wj:=by
  intro k
  induction k with
  |zero=>
   intro i wj tl hi hj
   have hno:¬((i:Nat):Int)< (l.length:Nat):=by omega
   iterate 4 (refine W_at c55_ok ⟨_,rfl,?_⟩;simp (disch:=first|omega|assumption|rfl|(simp only[vcS]<;>omega)|fail) only[↓vcN,vcQ,simprocAttr,hno,Ret_returned])
   exact hj
  |succ k ih=>
   intro i wj tl hi hj
   have hil:i<l.length:=by omega
   have hlt:((i:Nat):Int)< (l.length:Nat):=by omega
   have b1:0≤((i:Nat):Int)∧((i:Nat):Int)< (l.length:Nat):=by omega
   have hwi:IntKind.i64.wrap (((i:Nat):Int)+1)=((i+1:Nat):Int):=wrap_i64 (by omega) (by omega)
   have hy0:=hok _ (List.getElem_mem hil)
   have hxi:=ListR.at hx hil
   have hyi:=ListR.at hy hil
   generalize l[i]=z at hxi hyi hy0
   obtain⟨bx,ox,cx,cs,ex,hrx,_,sx,rfl,hsx⟩:=hxi
   obtain⟨by',oy,cy,ds,ey,hry,_,sy,rfl,hsy⟩:=hyi
   have s36:=(rfl:(oC z sx).size=2)
   have s36':=(rfl:(oC z sy).size=2)
   have fx:=oC_flat2 (x:=z) hsx.one
   have fy:=oC_flat2 (x:=z) hsy.one
   have hr1:=rdO_ext' hj hrx
   iterate 3 (refine W_at c55_ok ⟨_,rfl,?_⟩;simp (disch:=first|omega|assumption|rfl|(simp only[vcS]<;>omega)|fail) only[↓vcN,vcQ,simprocAttr,hlt,ex,b1,Int.toNat_natCast,hr1])
   refine⟨rfl,fx,?_⟩
   have put:∀(wj:World) (c:Array Value),c.size=2→Ext wj ((wj.alloc (.cells (zc [(1,.int .i64 0),(1,.slice none 0 0)]) 63)).putN wj.heap.size 0 c)∧((wj.alloc (.cells (zc [(1,.int .i64 0),(1,.slice none 0 0)]) 63)).putN wj.heap.size 0 c).heap[wj.heap.size]?=some (.cells c 63 (0,0)):=fun wj c hc=>
    ⟨((Keep.refl _ wj).alloc _).putN _ (by intro hh;exfalso;omega),by rw[heap_putN_eq (heap_new _ _ _ rfl),splice_all (by rw[hc];rfl)]⟩
   obtain⟨hEa,h6⟩:=put wj _ s36
   generalize World.putN _ _ _ _=wa at hEa h6⊢
   generalize wj.heap.size=p6 at h6⊢
   have hja:=hj.ext hEa
   have hr2:=rdO_ext' hja hry
   (refine W_at c55_ok ⟨_,rfl,?_⟩;simp (disch:=first|omega|assumption|rfl|(simp only[vcS]<;>omega)|fail) only[↓vcN,vcQ,simprocAttr,ey,b1,Int.toNat_natCast,hr2])
   refine⟨rfl,fy,?_⟩
   obtain⟨hEb,h7⟩:=put wa _ s36'
   generalize World.putN _ _ _ _=wb at hEb h7⊢
   generalize wa.heap.size=p7 at h7⊢
   have hjb:=hja.ext hEb
   have h6b:=hEb.at h6 (fun h=>h)
   have rx:∀T,rdO (some (.cells (oC z sx) T (0,0))) 0 2=some (oC z sx):=fun T=>rdO_all _ _ _ _ s36
   have ry:∀T,rdO (some (.cells (oC z sy) T (0,0))) 0 2=some (oC z sy):=fun T=>rdO_all _ _ _ _ s36'
   (refine W_at c55_ok ⟨_,rfl,?_⟩;simp (disch:=first|omega|assumption|rfl|(simp only[vcS]<;>omega)|fail) only[↓vcN,vcQ,simprocAttr,h6b,h7,rx,ry])
   refine⟨by kernel_rfl,callV_ret (sameOut_ok wb z sx sy (hsx.ext hjb) (hsy.ext hjb) hy0) ?_⟩
   rintro _ wk ⟨rfl,hEk⟩
   first|(simp (disch:=first|omega|assumption|rfl|(simp only[vcS]<;>omega)|fail) only[↓vcN,vcQ,simprocAttr])|skip
   iterate 3 (refine W_at c55_ok ⟨_,rfl,?_⟩;simp (disch:=first|omega|assumption|rfl|(simp only[vcS]<;>omega)|fail) only[↓vcN,vcQ,simprocAttr,hwi])
   rw[←ex,←ey]
   exact ih (i+1) _ _ (by omega) (hjb.ext hEk)
 exact L l.length 0 w _ (by omega) (Keep.refl _ w)
set_option maxHeartbeats 1600000 in
theorem tsame_ok (w:World)(iv ov iv' ov':Value)(t:TxV)(h1:TxR w iv ov t)(h2:TxR w iv' ov' t)(h3:t.Sm3):
  Calls Tryz.prog 18 #[.agg (txC t iv ov),.agg (txC t iv' ov')] w (Ret fun u w'=>u=.bool true∧Ext w w'):=by
 refine calls_of_cfg c18_ok (Nat.le_of_ble_eq_true rfl) ?_
 simp only[argE_nil,argE_cons,Nat.reduceAdd,Nat.zero_add]
 have hok:=h3.ok
 have hfx:=txC_flat2 h1
 have hfy:=txC_flat2 h2
 have hcx:(Value.agg (txC t iv ov)).cells=txC t iv ov:=rfl
 have hcy:(Value.agg (txC t iv' ov')).cells=txC t iv' ov':=rfl
 have hzx:=txC_sz t iv ov
 have hzy:=txC_sz t iv' ov'
 (refine W_at c18_ok ⟨_,rfl,?_⟩;simp (disch:=first|omega|assumption|rfl|(simp only[vcS]<;>omega)|fail) only[↓vcN,vcQ,simprocAttr,hcx,hcy])
 have hE1:Ext w (w.alloc (.cells (txC t iv ov) 33)):=(Keep.refl _ w).alloc _
 have c2:(w.alloc (.cells (txC t iv ov) 33)).heap[w.heap.size]?=some (.cells (txC t iv ov) 33 (0,0)):=heap_new _ _ _ rfl
 have s1:(w.alloc (.cells (txC t iv ov) 33)).heap.size=w.heap.size+1:=size_alloc _ _
 generalize World.alloc w _=w1 at hE1 c2 s1⊢
 have hE2:Ext w1 (w1.alloc (.cells (txC t iv' ov') 33)):=(Keep.refl _ w1).alloc _
 have c3:(w1.alloc (.cells (txC t iv' ov') 33)).heap[w.heap.size+1]?=some (.cells (txC t iv' ov') 33 (0,0)):=heap_new _ _ _ s1.symm
 generalize World.alloc w1 _=w2 at hE2 c3⊢
 have c2:=hE2.at c2 (fun h=>h)
 have hE:=hE1.ext hE2
 have h1:=h1.ext hE
 have h2:=h2.ext hE
 clear hE1 hE2 s1
 generalize w.heap.size+1=p3 at c3⊢
 generalize w.heap.size=p2 at c2⊢
 have x0:(txC t iv ov)[0]?=some (.int .i32 t.ver):=rfl
 have x1:(txC t iv ov)[1]?=some iv:=rfl
 have x2:(txC t iv ov)[2]?=some ov:=rfl
 have x3:(txC t iv ov)[3]?=some (.int .u32 t.lock):=rfl
 have y0:(txC t iv' ov')[0]?=some (.int .i32 t.ver):=rfl
 have y1:(txC t iv' ov')[1]?=some iv':=rfl
 have y2:(txC t iv' ov')[2]?=some ov':=rfl
 have y3:(txC t iv' ov')[3]?=some (.int .u32 t.lock):=rfl
 have hw3:∀x∈t.ins,x.wit.length≤140737488355328:=fun x hx=>by have:=(h3.wl x hx).1;omega
 have hi3:=h3.few.ins
 have ho3:=h3.few.outs
 (refine W_at c18_ok ⟨_,rfl,?_⟩;simp (disch:=first|omega|assumption|rfl|(simp only[vcS]<;>omega)|fail) only[↓vcN,vcQ,simprocAttr,c2,c3,x0,x1,x3,y0,y1,y3])
 refine callV_ret (efIn_ok w2 iv iv' t.ins h1.ins h2.ins (fun z hz=>⟨hok.ins z hz,hw3 z hz⟩) (by omega)) ?_
 rintro _ w3 ⟨rfl,hE3⟩
 have c2:=hE3.at c2 (fun h=>h)
 have c3:=hE3.at c3 (fun h=>h)
 first|(simp (disch:=first|omega|assumption|rfl|(simp only[vcS]<;>omega)|fail) only[↓vcN,vcQ,simprocAttr,c2,c3,x2,y2])|skip
 refine callV_ret (efOut_ok w3 ov ov' t.outs (h1.ext hE3).outs (h2.ext hE3).outs (fun z hz=>hok.outs z hz) (by omega)) ?_
 rintro _ w4 ⟨rfl,hE4⟩
 first|(simp (disch:=first|omega|assumption|rfl|(simp only[vcS]<;>omega)|fail) only[↓vcN,vcQ,simprocAttr])|skip
 (refine W_at c18_ok ⟨_,rfl,?_⟩;simp (disch:=first|omega|assumption|rfl|(simp only[vcS]<;>omega)|fail) only[↓vcN,vcQ,simprocAttr,Ret_returned])
 exact(hE.ext hE3).ext hE4
end Go.Proofs
namespace Go.Proofs
open Go.Vc
set_option maxRecDepth 10000
set_option maxHeartbeats 1600000 in
theorem rsame_ok (w:World)(x y:Value)(ps:List (List Int))(hx:RowR w x ps)(hy:RowR w y ps)(hb:∀p∈ps,byt p)(hl:ps.length≤140737488355328):
  Calls Tryz.prog 89 #[x,y] w (Ret fun u w'=>u=.bool true∧Ext w w'):=by
 refine calls_of_cfg c89_ok (Nat.le_of_ble_eq_true rfl) ?_
 simp only[argE_nil,argE_cons,Nat.reduceAdd,Nat.zero_add]
 have hxl:=hx.len
 have hyl:=hy.len
 iterate 4 (refine W_at c89_ok ⟨_,rfl,?_⟩;simp (disch:=first|omega|assumption|rfl|(simp only[vcS]<;>omega)|fail) only[↓vcN,vcQ,simprocAttr,hxl,hyl])
 have L:∀(k i:Nat) (wj:World) (tl:Env),i+k=ps.length→Ext w wj→W Tryz.prog (Ret fun u w'=>u=.bool true∧Ext w w') 89 10 ((0,x)::(1,y)::(5,.int .i64 (i:Nat))::tl) wj:=by
  intro k
  induction k with
  |zero=>
   intro i wj tl hi hE
   have hno:¬((i:Nat):Int)< (ps.length:Nat):=by omega
   iterate 4 (refine W_at c89_ok ⟨_,rfl,?_⟩;simp (disch:=first|omega|assumption|rfl|(simp only[vcS]<;>omega)|fail) only[↓vcN,vcQ,simprocAttr,hxl,hno,Ret_returned])
   exact hE
  |succ k ih=>
   intro i wj tl hi hE
   have hil:i<ps.length:=by omega
   have hlt:((i:Nat):Int)< (ps.length:Nat):=by omega
   have b1:0≤((i:Nat):Int)∧((i:Nat):Int)< (ps.length:Nat):=by omega
   have hwi:IntKind.i64.wrap (((i:Nat):Int)+1)=((i+1:Nat):Int):=wrap_i64 (by omega) (by omega)
   obtain⟨bx,ox,cx,vx,ex,hvx,hrx⟩:=(hx.ext hE).at hil
   obtain⟨by',oy,cy,vy,ey,hvy,hry⟩:=(hy.ext hE).at hil
   have hEd:Ext wj wj.drew:=(Keep.refl _ wj).drew
   have hbp:=hb _ (List.getElem_mem hil)
   have hvyd:=cell_ext hvy hEd
   have hvxd:=cell_ext hvx hEd
   iterate 3 (refine W_at c89_ok ⟨_,rfl,?_⟩;simp (disch:=first|omega|assumption|rfl|(simp only[vcS]<;>omega)|fail) only[↓vcN,vcQ,simprocAttr,hxl,hlt,ex,ey,b1,Int.toNat_natCast,Nat.mul_one,hvx,hvy])
   refine callV_ret (equal_ok wj.drew vx vy _ _ (hrx.ext hEd) (hry.ext hEd) hbp hbp) ?_
   rintro _ wk ⟨rfl,hwk⟩
   rw[hwk]
   rw[decide_eq_true (rfl:ps[i]=ps[i])]
   first|(simp (disch:=first|omega|assumption|rfl|(simp only[vcS]<;>omega)|fail) only[↓vcN,vcQ,simprocAttr])|skip
   iterate 3 (refine W_at c89_ok ⟨_,rfl,?_⟩;simp (disch:=first|omega|assumption|rfl|(simp only[vcS]<;>omega)|fail) only[↓vcN,vcQ,simprocAttr,hwi])
   rw[←ex,←ey]
   exact ih (i+1) _ _ (by omega) (hE.ext hEd)
 exact L ps.length 0 w _ (by omega) (Keep.refl _ w)
set_option maxHeartbeats 6400000 in
theorem same09_ok (w:World)(iv ov iv' ov':Value)(t:TxV)(h1:TxR w iv ov t)(h2:TxR w iv' ov' t)(hok:t.Ok)(hsz:t.Sz):
  Calls Tryz.prog 46 #[.agg (txC t iv ov),.agg (txC t iv' ov')] w (Ret fun u w'=>u=.bool true∧Ext w w'):=by
 refine calls_of_cfg c46_ok (Nat.le_of_ble_eq_true rfl) ?_
 simp only[argE_nil,argE_cons,Nat.reduceAdd,Nat.zero_add]
 have hfx:=txC_flat2 h1
 have hfy:=txC_flat2 h2
 have hcx:(Value.agg (txC t iv ov)).cells=txC t iv ov:=rfl
 have hcy:(Value.agg (txC t iv' ov')).cells=txC t iv' ov':=rfl
 have hzx:=txC_sz t iv ov
 have hzy:=txC_sz t iv' ov'
 (refine W_at c46_ok ⟨_,rfl,?_⟩;simp (disch:=first|omega|assumption|rfl|(simp only[vcS]<;>omega)|fail) only[↓vcN,vcQ,simprocAttr,hcx,hcy])
 have hE1:Ext w (w.alloc (.cells (txC t iv ov) 33)):=(Keep.refl _ w).alloc _
 have c2:(w.alloc (.cells (txC t iv ov) 33)).heap[w.heap.size]?=some (.cells (txC t iv ov) 33 (0,0)):=heap_new _ _ _ rfl
 have s1:(w.alloc (.cells (txC t iv ov) 33)).heap.size=w.heap.size+1:=size_alloc _ _
 generalize World.alloc w _=w1 at hE1 c2 s1⊢
 have hE2:Ext w1 (w1.alloc (.cells (txC t iv' ov') 33)):=(Keep.refl _ w1).alloc _
 have c3:(w1.alloc (.cells (txC t iv' ov') 33)).heap[w.heap.size+1]?=some (.cells (txC t iv' ov') 33 (0,0)):=heap_new _ _ _ s1.symm
 generalize World.alloc w1 _=w2 at hE2 c3⊢
 have c2:=hE2.at c2 (fun h=>h)
 have hE:=hE1.ext hE2
 have h1:=h1.ext hE
 have h2:=h2.ext hE
 clear hE1 hE2 s1
 generalize w.heap.size+1=p3 at c3⊢
 generalize w.heap.size=p2 at c2⊢
 have x0:(txC t iv ov)[0]?=some (.int .i32 t.ver):=rfl
 have x1:(txC t iv ov)[1]?=some iv:=rfl
 have x2:(txC t iv ov)[2]?=some ov:=rfl
 have x3:(txC t iv ov)[3]?=some (.int .u32 t.lock):=rfl
 have y0:(txC t iv' ov')[0]?=some (.int .i32 t.ver):=rfl
 have y1:(txC t iv' ov')[1]?=some iv':=rfl
 have y2:(txC t iv' ov')[2]?=some ov':=rfl
 have y3:(txC t iv' ov')[3]?=some (.int .u32 t.lock):=rfl
 have li:=ListR.len h1.ins
 have li':=ListR.len h2.ins
 have lo:=ListR.len h1.outs
 have lo':=ListR.len h2.outs
 have e1:decide (¬t.ver=t.ver)=false:=by simp
 have e2:decide (¬t.lock=t.lock)=false:=by simp
 have e3:decide (¬(t.ins.length:Int)=t.ins.length)=false:=by simp
 have e4:decide (¬(t.outs.length:Int)=t.outs.length)=false:=by simp
 iterate 3 (refine W_at c46_ok ⟨_,rfl,?_⟩;simp (disch:=first|omega|assumption|rfl|(simp only[vcS]<;>omega)|fail) only[↓vcN,vcQ,simprocAttr,c2,c3,x0,x1,x2,x3,y0,y1,y2,y3,li,li',lo,lo'])
 clear e1 e2 e3 e4 hfx hfy hcx hcy hzx hzy x0 y0 x3 y3
 have hln:=hsz.ins
 have hlo:=hsz.outs
 have L2:∀(k i:Nat) (wj:World) (tl:Env),i+k=t.outs.length→Ext w2 wj→W Tryz.prog (Ret fun u w'=>u=.bool true∧Ext w w') 46 10 ((2,.pointer (some ⟨p2,0,none⟩))::(3,.pointer (some ⟨p3,0,none⟩))::(8,.int .i64 (i:Nat))::tl) wj:=by
  intro k
  induction k with
  |zero=>
   intro i wj tl hi hj
   have hno:¬((i:Nat):Int)< (t.outs.length:Nat):=by omega
   have c2j:=hj.at c2 (fun h=>h)
   iterate 4 (refine W_at c46_ok ⟨_,rfl,?_⟩;simp (disch:=first|omega|assumption|rfl|(simp only[vcS]<;>omega)|fail) only[↓vcN,vcQ,simprocAttr,c2j,x2,lo,hno,Ret_returned])
   exact hE.ext hj
  |succ k ih=>
   intro i wj tl hi hj
   have hil:i<t.outs.length:=by omega
   have hlt:((i:Nat):Int)< (t.outs.length:Nat):=by omega
   have b1:0≤((i:Nat):Int)∧((i:Nat):Int)< (t.outs.length:Nat):=by omega
   have hwi:IntKind.i64.wrap (((i:Nat):Int)+1)=((i+1:Nat):Int):=wrap_i64 (by omega) (by omega)
   have c2j:=hj.at c2 (fun h=>h)
   have c3j:=hj.at c3 (fun h=>h)
   iterate 2 (refine W_at c46_ok ⟨_,rfl,?_⟩;simp (disch:=first|omega|assumption|rfl|(simp only[vcS]<;>omega)|fail) only[↓vcN,vcQ,simprocAttr,c2j,x2,lo,hlt])
   obtain⟨bx,ox,cx,cs,ex,hrx,_,sx,rfl,hsx⟩:=h1.outs.at hil
   obtain⟨by',oy,cy,ds,ey,hry,_,sy,rfl,hsy⟩:=h2.outs.at hil
   have hy:=hok.outs _ (List.getElem_mem hil)
   generalize t.outs[i]=y at hrx hsx hry hsy hy
   have hEd:Ext wj wj.drew:=(Keep.refl _ wj).drew
   have hjd:=hj.ext hEd
   have x2':(txC t iv ov)[2]?=some (.slice (some ⟨bx,ox,none⟩) t.outs.length cx):=by rw[x2,ex]
   have y2':(txC t iv' ov')[2]?=some (.slice (some ⟨by',oy,none⟩) t.outs.length cy):=by rw[y2,ey]
   have hx0:cellO wj.heap[bx]? (ox+i*2)=some (.int .i64 y.val):=by have:=rdO_cell (rdO_ext' hj hrx) (j:=0) (by omega);rw[Nat.add_zero] at this;rw[this];rfl
   have hx1:cellO wj.heap[bx]? (ox+i*2+1)=some sx:=by rw[rdO_cell (rdO_ext' hj hrx) (by omega)];rfl
   have hy0:cellO wj.heap[by']? (oy+i*2)=some (.int .i64 y.val):=by have:=rdO_cell (rdO_ext' hj hry) (j:=0) (by omega);rw[Nat.add_zero] at this;rw[this];rfl
   have hy1:cellO wj.heap[by']? (oy+i*2+1)=some sy:=by rw[rdO_cell (rdO_ext' hj hry) (by omega)];rfl
   (refine W_at c46_ok ⟨_,rfl,?_⟩;simp (disch:=first|omega|assumption|rfl|(simp only[vcS]<;>omega)|fail) only[↓vcN,vcQ,simprocAttr,c2j,c3j,x2',y2',b1,Int.toNat_natCast,hx0,hx1,hy0,hy1])
   refine callV_ret (equal_ok wj.drew sx sy _ _ (hsx.ext hjd) (hsy.ext hjd) hy.script hy.script) ?_
   rintro _ wk ⟨rfl,hwk⟩
   rw[hwk]
   rw[decide_eq_true (rfl:y.script=y.script)]
   first|(simp (disch:=first|omega|assumption|rfl|(simp only[vcS]<;>omega)|fail) only[↓vcN,vcQ,simprocAttr])|skip
   iterate 3 (refine W_at c46_ok ⟨_,rfl,?_⟩;simp (disch:=first|omega|assumption|rfl|(simp only[vcS]<;>omega)|fail) only[↓vcN,vcQ,simprocAttr,hwi])
   exact ih (i+1) _ _ (by omega) hjd
 have L1:∀(k i:Nat) (wj:World) (tl:Env),i+k=t.ins.length→Ext w2 wj→W Tryz.prog (Ret fun u w'=>u=.bool true∧Ext w w') 46 21 ((2,.pointer (some ⟨p2,0,none⟩))::(3,.pointer (some ⟨p3,0,none⟩))::(5,.int .i64 (i:Nat))::tl) wj:=by
  intro k
  induction k with
  |zero=>
   intro i wj tl hi hj
   have hno:¬((i:Nat):Int)< (t.ins.length:Nat):=by omega
   have c2j:=hj.at c2 (fun h=>h)
   iterate 3 (refine W_at c46_ok ⟨_,rfl,?_⟩;simp (disch:=first|omega|assumption|rfl|(simp only[vcS]<;>omega)|fail) only[↓vcN,vcQ,simprocAttr,c2j,x1,li,hno])
   exact L2 t.outs.length 0 wj _ (by omega) hj
  |succ k ih=>
   intro i wj tl hi hj
   have hil:i<t.ins.length:=by omega
   have hlt:((i:Nat):Int)< (t.ins.length:Nat):=by omega
   have b1:0≤((i:Nat):Int)∧((i:Nat):Int)< (t.ins.length:Nat):=by omega
   have hwi:IntKind.i64.wrap (((i:Nat):Int)+1)=((i+1:Nat):Int):=wrap_i64 (by omega) (by omega)
   have c2j:=hj.at c2 (fun h=>h)
   iterate 2 (refine W_at c46_ok ⟨_,rfl,?_⟩;simp (disch:=first|omega|assumption|rfl|(simp only[vcS]<;>omega)|fail) only[↓vcN,vcQ,simprocAttr,c2j,x1,li,hlt])
   obtain⟨bx,ox,cx,cs,ex,hrx,_,sx,wx,rfl,hsx,hwx⟩:=h1.ins.at hil
   obtain⟨by',oy,cy,ds,ey,hry,_,sy,wy,rfl,hsy,hwy⟩:=h2.ins.at hil
   have hy:=hok.ins _ (List.getElem_mem hil)
   have hz:=hsz.inp _ (List.getElem_mem hil)
   generalize t.ins[i]=y at hrx hsx hwx hry hsy hwy hy hz
   have x1':(txC t iv ov)[1]?=some (.slice (some ⟨bx,ox,none⟩) t.ins.length cx):=by rw[x1,ex]
   have y1':(txC t iv' ov')[1]?=some (.slice (some ⟨by',oy,none⟩) t.ins.length cy):=by rw[y1,ey]
   have hpl:=hy.len
   have s36:=iC_size hpl sx wx
   have s36':=iC_size hpl sy wy
   have hr1:=rdO_ext' hj hrx
   (refine W_at c46_ok ⟨_,rfl,?_⟩;simp (disch:=first|omega|assumption|rfl|(simp only[vcS]<;>omega)|fail) only[↓vcN,vcQ,simprocAttr,c2j,x1',b1,Int.toNat_natCast,hr1,s36])
   refine⟨iC_flat hsx.one hwx.one,by simp [zc,runs],?_⟩
   have put:∀(wj:World) (sv wv:Value),Ext wj ((wj.alloc (.cells (zc [(32,.int .u8 0),(1,.int .u32 0),(1,.slice none 0 0),(1,.int .u32 0),(1,.slice none 0 0)]) 61)).putN wj.heap.size 0 (iC y sv wv))∧((wj.alloc (.cells (zc [(32,.int .u8 0),(1,.int .u32 0),(1,.slice none 0 0),(1,.int .u32 0),(1,.slice none 0 0)]) 61)).putN wj.heap.size 0 (iC y sv wv)).heap[wj.heap.size]?=some (.cells (iC y sv wv) 61 (0,0)):=fun wj sv wv=>
    ⟨((Keep.refl _ wj).alloc _).putN _ (by intro hh;exfalso;omega),by rw[heap_putN_eq (heap_new _ _ _ rfl),splice_all (by rw[iC_size hpl];rfl)]⟩
   obtain⟨hEa,h6⟩:=put wj sx wx
   generalize World.putN _ _ _ _=wa at hEa h6⊢
   generalize wj.heap.size=p6 at h6⊢
   have hja:=hj.ext hEa
   have c3a:=hja.at c3 (fun h=>h)
   have hr2:=rdO_ext' hja hry
   (refine W_at c46_ok ⟨_,rfl,?_⟩;simp (disch:=first|omega|assumption|rfl|(simp only[vcS]<;>omega)|fail) only[↓vcN,vcQ,simprocAttr,c3a,y1',b1,Int.toNat_natCast,hr2,s36'])
   refine⟨iC_flat hsy.one hwy.one,by simp [zc,runs],?_⟩
   obtain⟨hEb,h7⟩:=put wa sy wy
   generalize World.putN _ _ _ _=wb at hEb h7⊢
   generalize wa.heap.size=p7 at h7⊢
   have hjb:=hja.ext hEb
   have h6b:=hEb.at h6 (fun h=>h)
   have q1:=rd_op hpl h6b
   have q2:=rd_op hpl h7
   have qe:=eqA_op y.idx hpl
   have a33:=iC_33 hpl sx wx
   have a34:=iC_34 hpl sx wx
   have a35:=iC_35 hpl sx wx
   have b33:=iC_33 hpl sy wy
   have b34:=iC_34 hpl sy wy
   have b35:=iC_35 hpl sy wy
   rw[h6b] at q1
   rw[h7] at q2
   (refine W_at c46_ok ⟨_,rfl,?_⟩;simp (disch:=first|omega|assumption|rfl|(simp only[vcS]<;>omega)|fail) only[↓vcX,ptS2_eq,vcQ,simprocAttr,h6b,h7,q1,q2,qe,a33,a34,b33,b34])
   refine callV_ret (equal_ok wb sx sy _ _ (hsx.ext hjb) (hsy.ext hjb) hy.script hy.script) ?_
   rintro _ wk ⟨rfl,hwk⟩
   rw[hwk]
   rw[decide_eq_true (rfl:y.script=y.script)]
   simp (disch:=first|omega|assumption|rfl|(simp only[vcS]<;>omega)|fail) only[↓vcY,ptS1_eq,vcQ,simprocAttr,h6b,h7,a35,b35]
   have hwl:=hz.wit
   refine callV_ret (rsame_ok wb wx wy y.wit (hwx.ext hjb) (hwy.ext hjb) hy.wit (by omega)) ?_
   rintro _ wl ⟨rfl,hEl⟩
   first|(simp (disch:=first|omega|assumption|rfl|(simp only[vcS]<;>omega)|fail) only[↓vcX,ptS2_eq,vcQ,simprocAttr])|skip
   iterate 3 (refine W_at c46_ok ⟨_,rfl,?_⟩;simp (disch:=first|omega|assumption|rfl|(simp only[vcS]<;>omega)|fail) only[↓vcN,vcQ,simprocAttr,hwi])
   exact ih (i+1) _ _ (by omega) (hjb.ext hEl)
 exact L1 t.ins.length 0 w2 _ (by omega) (Keep.refl _ w2)
end Go.Proofs
