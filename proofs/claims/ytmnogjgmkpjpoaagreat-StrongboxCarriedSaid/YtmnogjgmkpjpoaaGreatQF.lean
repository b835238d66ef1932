/- The walk's rewrite rules. -/
import Derived.Test.YtmnogjgmkpjpoaaGreatQE
set_option linter.unusedSimpArgs false
set_option linter.unusedVariables false
set_option linter.constructorNameAsVariable false
namespace Go.Vc
theorem look_cons (s t:Nat)(v:Value)(e:Env):look ((s,v)::e) t=if s=t then some v else look e t:=id rfl
theorem keep_nil (e:Env):keep [] e=[]:=id rfl
theorem keep_cons (t:Nat)(l:List Nat)(e:Env):keep (t::l) e=keepO t (look e t) (keep l e):=id rfl
theorem keepO_some (t:Nat)(v:Value)(e:Env):keepO t (some v) e=(t,v)::e:=id rfl
theorem keepO_none (t:Nat)(e:Env):keepO t none e=e:=id rfl
theorem look_nil (t:Nat):look [] t=none:=id rfl
theorem put_some (d:Nat)(v:Value)(e:Env):put (some d) v e=(d,v)::e:=id rfl
theorem put_none (v:Value)(e:Env):put none v e=e:=id rfl
theorem ev_tmp (e:Env)(t:Nat):ev e (.tmp t)=look e t:=id rfl
theorem ev_const (e:Env)(v:Value):ev e (.const v)=some v:=id rfl
theorem ev_global (e:Env)(g:Nat):ev e (.global g)=some (.pointer (some ⟨g,0,none⟩)):=id rfl
theorem ev_func (e:Env)(f:Nat):ev e (.func f)=some (.func (.func f) #[] #[]):=id rfl
theorem evs_nil (e:Env):evs e []=some []:=id rfl
theorem evs_cons (e:Env)(x:Operand)(xs:List Operand):evs e (x::xs)=(ev e x).bind fun v=>(evs e xs).map (v:: ·):=id rfl
theorem evO_none (e:Env):evO e none=some none:=id rfl
theorem evO_some (e:Env)(x:Operand):evO e (some x)=(ev e x).map some:=id rfl
theorem qi_mov (e:Env)(w:World)(x:Operand):qiR e w (.mov x)=ev e x:=id rfl
theorem qi_pick (e:Env)(w:World)(c:Operand)(a:Operand)(b:Operand):qiR e w (.pick c a b)=(ev e c).bind fun c=>(ev e a).bind fun a=>(ev e b).bind fun b=>pickR c a b:=id rfl
theorem qi_nc (e:Env)(w:World)(x:Operand):qiR e w (.nc x)=(ev e x).bind nilR:=id rfl
theorem qi_bin (e:Env)(w:World)(op:BinOp)(x:Operand)(y:Operand):qiR e w (.bin op x y)=(ev e x).bind fun x=>(ev e y).bind fun y=>binR op x y:=id rfl
theorem qi_eqB (e:Env)(w:World)(neg:Bool)(x:Operand)(y:Operand):qiR e w (.eqB neg x y)=(ev e x).bind fun x=>(ev e y).bind fun y=>eqBR neg x y:=id rfl
theorem qi_eqP (e:Env)(w:World)(neg:Bool)(x:Operand)(y:Operand):qiR e w (.eqP neg x y)=(ev e x).bind fun x=>(ev e y).bind fun y=>eqPR neg x y:=id rfl
theorem qi_eqS (e:Env)(w:World)(neg:Bool)(x:Operand)(y:Operand):qiR e w (.eqS neg x y)=(ev e x).bind fun x=>(ev e y).bind fun y=>eqSR neg x y:=id rfl
theorem qi_eqM (e:Env)(w:World)(neg:Bool)(x:Operand)(y:Operand):qiR e w (.eqM neg x y)=(ev e x).bind fun x=>(ev e y).bind fun y=>eqMR neg x y:=id rfl
theorem qi_not (e:Env)(w:World)(x:Operand):qiR e w (.not x)=(ev e x).bind notR:=id rfl
theorem qi_neg (e:Env)(w:World)(x:Operand):qiR e w (.neg x)=(ev e x).bind negR:=id rfl
theorem qi_cvi (e:Env)(w:World)(k:IntKind)(x:Operand):qiR e w (.cvi k x)=(ev e x).bind (cviR k):=id rfl
theorem qi_fadr (e:Env)(w:World)(off:Nat)(x:Operand):qiR e w (.fadr off x)=(ev e x).bind (fadrR off):=id rfl
theorem qi_fld (e:Env)(w:World)(off:Nat)(size:Option Nat)(x:Operand):qiR e w (.fld off size x)=(ev e x).bind (fldR off size):=id rfl
theorem qi_iadrA (e:Env)(w:World)(n:Nat)(size:Nat)(x:Operand)(i:Operand):qiR e w (.iadrA n size x i)=(ev e x).bind fun x=>(ev e i).bind fun i=>iadrAR n size x i:=id rfl
theorem qi_iadrS (e:Env)(w:World)(size:Nat)(x:Operand)(i:Operand):qiR e w (.iadrS size x i)=(ev e x).bind fun x=>(ev e i).bind fun i=>iadrSR size x i:=id rfl
theorem qi_idxA (e:Env)(w:World)(n:Nat)(size:Nat)(agg:Bool)(x:Operand)(i:Operand):qiR e w (.idxA n size agg x i)=(ev e x).bind fun x=>(ev e i).bind fun i=>idxAR n size agg x i:=id rfl
theorem qi_idxS (e:Env)(w:World)(x:Operand)(i:Operand):qiR e w (.idxS x i)=(ev e x).bind fun x=>(ev e i).bind fun i=>idxSR x i:=id rfl
theorem qi_ld1 (e:Env)(w:World)(x:Operand):qiR e w (.ld1 x)=(ev e x).bind (ld1R w):=id rfl
theorem qi_ldN (e:Env)(w:World)(n:Nat)(x:Operand):qiR e w (.ldN n x)=(ev e x).bind (ldNR w n):=id rfl
theorem qi_ext (e:Env)(w:World)(i:Nat)(x:Operand):qiR e w (.ext i x)=(ev e x).bind (extR i):=id rfl
theorem qi_len (e:Env)(w:World)(x:Operand):qiR e w (.len x)=(ev e x).bind lenR:=id rfl
theorem qi_lenT (e:Env)(w:World)(x:Operand):qiR e w (.lenT x)=(ev e x).bind lenTR:=id rfl
theorem qi_lenM (e:Env)(w:World)(x:Operand):qiR e w (.lenM x)=(ev e x).bind (lenMR w):=id rfl
theorem qi_bld (e:Env)(w:World)(parts:List Seg):qiR e w (.bld parts)=(partsR e parts).map .agg:=id rfl
theorem qi_eqA (e:Env)(w:World)(neg:Bool)(lay:List (Nat×SK))(x:Operand)(y:Operand):qiR e w (.eqA neg lay x y)=(ev e x).bind fun x=>(ev e y).bind fun y=>eqAR neg (skR lay) x y:=id rfl
theorem qi_lkp (e:Env)(w:World)(lay:List (Nat×SK))(kagg:Bool)(zagg:Bool)(z:List (Nat×Value))(ok:Bool)(m:Operand)(k:Operand):qiR e w (.lkp lay kagg zagg z ok m k)=(ev e m).bind fun m=>(ev e k).bind fun k=>lkpR (skR lay) kagg (zvR zagg z) ok w m k:=id rfl
theorem qi_cap (e:Env)(w:World)(x:Operand):qiR e w (.cap x)=(ev e x).bind capR:=id rfl
theorem qi_bnot (e:Env)(w:World)(x:Operand):qiR e w (.bnot x)=(ev e x).bind bnotR:=id rfl
theorem qi_slc3 (e:Env)(w:World)(size:Nat)(x:Operand)(lo:Option Operand)(hi:Operand)(mx:Operand):qiR e w (.slc3 size x lo hi mx)=(ev e x).bind fun x=>(evO e lo).bind fun lo=>(ev e hi).bind fun hi=>(ev e mx).bind fun mx=>slc3R size lo hi mx x:=id rfl
theorem qi_slcS (e:Env)(w:World)(size:Nat)(x:Operand)(lo:Option Operand)(hi:Option Operand):qiR e w (.slcS size x lo hi)=(ev e x).bind fun x=>(evO e lo).bind fun lo=>(evO e hi).bind fun hi=>slcSR size lo hi x:=id rfl
theorem qi_slcA (e:Env)(w:World)(n:Nat)(size:Nat)(x:Operand)(lo:Option Operand)(hi:Option Operand):qiR e w (.slcA n size x lo hi)=(ev e x).bind fun x=>(evO e lo).bind fun lo=>(evO e hi).bind fun hi=>slcAR n size lo hi x:=id rfl
theorem qi_slcT (e:Env)(w:World)(x:Operand)(lo:Option Operand)(hi:Option Operand):qiR e w (.slcT x lo hi)=(ev e x).bind fun x=>(evO e lo).bind fun lo=>(evO e hi).bind fun hi=>slcTR lo hi x:=id rfl
theorem qi_b2s (e:Env)(w:World)(x:Operand):qiR e w (.b2s x)=(ev e x).bind (b2sR w):=id rfl
theorem qi_mif (e:Env)(w:World)(t:Nat)(x:Operand):qiR e w (.mif t x)=(ev e x).map fun v=>.iface t v:=id rfl
theorem qi_ta (e:Env)(w:World)(t:Nat)(x:Operand):qiR e w (.ta t x)=(ev e x).bind (taR t):=id rfl
theorem ta_i (t:Nat)(v:Value):taR t (.iface t v)=some v:=if_pos rfl
theorem qi_max (e:Env)(w:World)(xs:List Operand):qiR e w (.max xs)=(evs e xs).bind maxL:=id rfl
theorem qi_min (e:Env)(w:World)(xs:List Operand):qiR e w (.min xs)=(evs e xs).bind minL:=id rfl
theorem gdV_none (e:Env)(A B:Env→Prop):gdV none e A B=A e:=id rfl
theorem gdV_some (t:Nat)(want:Bool)(e:Env)(A B:Env→Prop):
  gdV (some (t,want)) e A B=getV (look e t) fun v=>gdB want v (A ((t,.bool want)::e)) (B ((t,.bool (!want))::e)) (B e):=id rfl
theorem gdB_tt (A B C:Prop):gdB true (.bool true) A B C=A:=by simp [gdB]
theorem gdB_tf (A B C:Prop):gdB true (.bool false) A B C=B:=by simp [gdB]
theorem gdB_ft (A B C:Prop):gdB false (.bool true) A B C=B:=by simp [gdB]
theorem gdB_ff (A B C:Prop):gdB false (.bool false) A B C=A:=by simp [gdB]
theorem gdB_td (p:Prop)[Decidable p](A B C:Prop):gdB true (.bool (decide p)) A B C=((p→A)∧(¬p→B)):=by simp [gdB]
theorem gdB_fd (p:Prop)[Decidable p](A B C:Prop):gdB false (.bool (decide p)) A B C=((¬p→A)∧(p→B)):=by simp [gdB]
theorem gdB_tn (p:Prop)[Decidable p](A B C:Prop):gdB true (.bool (!decide p)) A B C=((¬p→A)∧(p→B)):=by simp [gdB]
theorem gdB_fn (p:Prop)[Decidable p](A B C:Prop):gdB false (.bool (!decide p)) A B C=((p→A)∧(¬p→B)):=by simp [gdB]
theorem gdB_u (want:Bool)(vs:Array Value)(A B C:Prop):gdB want (.tuple vs) A B C=C:=id rfl
theorem gdB_undef (want:Bool)(A B C:Prop):gdB want undef A B C=C:=id rfl
theorem cdV_t (A B:Prop):cdV (.bool true) A B=A:=by simp [cdV]
theorem cdV_f (A B:Prop):cdV (.bool false) A B=B:=by simp [cdV]
theorem cdV_d (p:Prop)[Decidable p](A B:Prop):cdV (.bool (decide p)) A B=((p→A)∧(¬p→B)):=by simp [cdV]
theorem cdV_n (p:Prop)[Decidable p](A B:Prop):cdV (.bool (!decide p)) A B=((¬p→A)∧(p→B)):=by simp [cdV]
theorem drw_t (w:World):drw true w=w.drew:=id rfl
theorem drw_f (w:World):drw false w=w:=id rfl
theorem ndV_reg (P:Program)(R:Ending→World→Prop)(f:FuncId)(p:PT)(dr:Bool)(k:Nat)(lv:List Nat)(e:Env)(w:World):
  ndV P R f (.reg p dr k lv) e w=ptV P R p e (drw dr w) fun e w=>W P R f k (keep lv e) w:=id rfl
theorem ndV_cnd (P:Program)(R:Ending→World→Prop)(f:FuncId)(c:Operand)(a b:Nat)(e:Env)(w:World):
  ndV P R f (.cnd c a b) e w=getV (ev e c) fun v=>cdV v (W P R f a e w) (W P R f b e w):=id rfl
theorem ndV_jmp (P:Program)(R:Ending→World→Prop)(f:FuncId)(k:Nat)(e:Env)(w:World):ndV P R f (.jmp k) e w=W P R f k e w:=id rfl
theorem ndV_ret (P:Program)(R:Ending→World→Prop)(f:FuncId)(rs:List RV)(e:Env)(w:World):
  ndV P R f (.ret rs) e w=getV (rvs e w rs) fun vs=>R (.returned (retR vs)) w:=id rfl
theorem ptV_done (P:Program)(R:Ending→World→Prop)(e:Env)(w:World)(K:Env→World→Prop):ptV P R .done e w K=K e w:=id rfl
theorem ptV_q (P:Program)(R:Ending→World→Prop)(d:Option Nat)(g:Option (Nat×Bool))(i:QI)(k:PT)(e:Env)(w:World)(K:Env→World→Prop):
  ptV P R (.q d g i k) e w K=gdV g e (fun e=>getV (qiR e w i) fun v=>ptV P R k (put d v e) w K) fun e=>ptV P R k (put d undef e) w K:=id rfl
theorem ptV_l (P:Program)(R:Ending→World→Prop)(d:Option Nat)(g:Option (Nat×Bool))(i:LI)(chk:List Chk)(k:PT)(e:Env)(w:World)(K:Env→World→Prop):
  ptV P R (.l d g i chk k) e w K=gdV g e (fun e=>liV P R e w (fun v w'=>okCs chk (put d v e) w'∧ptV P R k (put d v e) w' K) i) fun e=>ptV P R k (put d undef e) w K:=id rfl
theorem ptV_alt (P:Program)(R:Ending→World→Prop)(a b:PT)(e:Env)(w:World)(K:Env→World→Prop):
  ptV P R (.alt a b) e w K=(ptV P R a e w K∧ptV P R b e w K):=id rfl
theorem okCs_nil (e:Env)(w:World):okCs [] e w=True:=id rfl
theorem okCs_cons (d:Nat)(g:Option (Nat×Bool))(i:QI)(cs:List Chk)(e:Env)(w:World):
  okCs (⟨d,g,i⟩::cs) e w=(gdV g e (fun e=>getV (look e d) fun v=>qiR e w i=some v) (fun _=>True)∧okCs cs e w):=by
 have h:∀e,(∃v,look e d=some v∧qiR e w i=some v)=getV (look e d) fun v=>qiR e w i=some v:=by
  intro e
  cases hl:look e d<;>simp [getV]
 simp only[okCs,okC,h]
theorem pick_t (a b:Value):pickR (.bool true) a b=some a:=id rfl
theorem pick_f (a b:Value):pickR (.bool false) a b=some b:=id rfl
theorem nil_p (a:Addr):nilR (.pointer (some a))=some (.pointer (some a)):=id rfl
theorem bin_add (k:IntKind)(a b:Int):binR .add (.int k a) (.int k b)=some (.int k (k.wrap (a+b))):=by simp [binR]
theorem bin_sub (k:IntKind)(a b:Int):binR .sub (.int k a) (.int k b)=some (.int k (k.wrap (a - b))):=by simp [binR]
theorem bin_mul (k:IntKind)(a b:Int):binR .mul (.int k a) (.int k b)=some (.int k (k.wrap (a*b))):=by simp [binR]
theorem bin_quo (k:IntKind)(a b:Int):binR .quo (.int k a) (.int k b)=if b=0 then none else some (.int k (k.wrap (a.tdiv b))):=by simp [binR]
theorem bin_rem (k:IntKind)(a b:Int):binR .rem (.int k a) (.int k b)=if b=0 then none else some (.int k (a.tmod b)):=by simp [binR]
theorem bin_and (k:IntKind)(a b:Int):binR .and (.int k a) (.int k b)=some (.int k (k.wrap (BitVec.ofInt k.bits a&&& BitVec.ofInt k.bits b).toNat)):=by simp [binR]
theorem bin_or (k:IntKind)(a b:Int):binR .or (.int k a) (.int k b)=some (.int k (k.wrap (BitVec.ofInt k.bits a|||BitVec.ofInt k.bits b).toNat)):=by simp [binR]
theorem bin_xor (k:IntKind)(a b:Int):binR .xor (.int k a) (.int k b)=some (.int k (k.wrap (BitVec.ofInt k.bits a^^^BitVec.ofInt k.bits b).toNat)):=by simp [binR]
theorem bin_andNot (k:IntKind)(a b:Int):binR .andNot (.int k a) (.int k b)=some (.int k (k.wrap (BitVec.ofInt k.bits a&&& ~~~BitVec.ofInt k.bits b).toNat)):=by simp [binR]
theorem bin_shl (k k':IntKind)(a b:Int):binR .shl (.int k a) (.int k' b)=if 0≤b then some (.int k (k.wrap (a*2^(Nat.min b.toNat k.bits)))) else none:=by simp [binR]
theorem bin_shr (k k':IntKind)(a b:Int):binR .shr (.int k a) (.int k' b)=if 0≤b then some (.int k (a.fdiv (2^(Nat.min b.toNat k.bits)))) else none:=by simp [binR]
theorem bin_eql (k:IntKind)(a b:Int):binR .eql (.int k a) (.int k b)=some (.bool (decide (a=b))):=by simp [binR]
theorem bin_neq (k:IntKind)(a b:Int):binR .neq (.int k a) (.int k b)=some (.bool (!decide (a=b))):=by simp [binR]
theorem bin_lss (k:IntKind)(a b:Int):binR .lss (.int k a) (.int k b)=some (.bool (decide (a<b))):=by simp [binR]
theorem bin_leq (k:IntKind)(a b:Int):binR .leq (.int k a) (.int k b)=some (.bool (decide (a≤b))):=by simp [binR]
theorem bin_gtr (k:IntKind)(a b:Int):binR .gtr (.int k a) (.int k b)=some (.bool (decide (b<a))):=by simp [binR]
theorem bin_geq (k:IntKind)(a b:Int):binR .geq (.int k a) (.int k b)=some (.bool (decide (b≤a))):=by simp [binR]
theorem bin_seql (a b:ByteArray):binR .eql (.string a) (.string b)=some (.bool (decide (a=b))):=by simp [binR]
theorem bin_sneq (a b:ByteArray):binR .neq (.string a) (.string b)=some (.bool (!decide (a=b))):=by simp [binR]
theorem max_2 (k:IntKind)(x y:Int):maxL [.int k x,.int k y]=some (.int k (max x y)):=by
 simp only[maxL,maxF,if_true];congr 2;split<;>omega
theorem min_2 (k:IntKind)(x y:Int):minL [.int k x,.int k y]=some (.int k (min x y)):=by
 simp only[minL,minF,if_true];congr 2;split<;>omega
theorem cap_s (p:Option Addr)(n c:Nat):capR (.slice p n c)=some (.int .i64 c):=id rfl
theorem bnot_i (k:IntKind)(n:Int):bnotR (.int k n)=some (.int k (k.wrap (BitVec.ofInt k.bits (if k.signed then -1 else k.max)^^^BitVec.ofInt k.bits n).toNat)):=id rfl
theorem partsR_nil (e:Env):partsR e []=some #[]:=id rfl
theorem partsR_x (e:Env)(n:Nat)(x:Operand)(r:List Seg):partsR e (.x n x::r)=(ev e x).bind fun v=>if v.cells.size=n then (partsR e r).map fun l=>v.cells++l else none:=id rfl
theorem partsR_z (e:Env)(q:List (Nat×Value))(r:List Seg):partsR e (.z q::r)=(partsR e r).map fun l=>zc q++l:=id rfl
theorem eqA_a (neg:Bool)(lay:List SK)(cs ds:Array Value):eqAR neg lay (.agg cs) (.agg ds)=if conf lay cs.toList=true∧conf lay ds.toList=true then some (.bool (neg^^eqc cs.toList ds.toList)) else none:=id rfl
theorem eqB_b (a b:Bool):eqBR false (.bool a) (.bool b)=some (.bool (a==b)):=by simp [eqBR]
theorem eqB_n (a b:Bool):eqBR true (.bool a) (.bool b)=some (.bool (!(a==b))):=by simp [eqBR]
theorem eqP_pn (a:Addr)(neg:Bool):eqPR neg (.pointer (some a)) (.pointer none)=some (.bool neg):=id rfl
theorem eqP_nn (neg:Bool):eqPR neg (.pointer none) (.pointer none)=some (.bool (!neg)):=by simp [eqPR]
theorem eqP_np (a:Addr)(neg:Bool):eqPR neg (.pointer none) (.pointer (some a))=some (.bool neg):=by simp [eqPR]
theorem eqS_sn (a:Addr)(n c n' c':Nat)(neg:Bool):eqSR neg (.slice (some a) n c) (.slice none n' c')=some (.bool neg):=id rfl
theorem eqS_nn (n c n' c':Nat)(neg:Bool):eqSR neg (.slice none n c) (.slice none n' c')=some (.bool (!neg)):=by simp [eqSR]
theorem eqM_mn (r:Nat)(neg:Bool):eqMR neg (.map (some r)) (.map none)=some (.bool neg):=id rfl
theorem eqM_nn (neg:Bool):eqMR neg (.map none) (.map none)=some (.bool (!neg)):=by simp [eqMR]
theorem bnd_nn (len cap:Nat):bndR len cap none none=some (0,len):=id rfl
theorem bnd_ln (len cap:Nat)(k:IntKind)(l:Int):bndR len cap (some (.int k l)) none=if 0≤l∧l≤len then some (l.toNat,len) else none:=id rfl
theorem bnd_nh (len cap:Nat)(k:IntKind)(h:Int):bndR len cap none (some (.int k h))=if 0≤h∧h≤cap then some (0,h.toNat) else none:=id rfl
theorem bnd_lh (len cap:Nat)(k k':IntKind)(l h:Int):bndR len cap (some (.int k l)) (some (.int k' h))=if 0≤h∧h≤cap then (if 0≤l∧l≤h then some (l.toNat,h.toNat) else none) else none:=id rfl
def advA (size:Nat)(a:Option Addr)(cap l:Nat):Option Addr:=if cap=l then a else a.map (·.add (l*size))
theorem slcS_s (size:Nat)(lo hi:Option Value)(a:Option Addr)(len cap:Nat):
  slcSR size lo hi (.slice a len cap)=(bndR len cap lo hi).bind fun lh=>some (.slice (advA size a cap lh.1) (lh.2 - lh.1) (cap - lh.1)):=id rfl
theorem slcA_p (n size:Nat)(lo hi:Option Value)(a:Addr):
  slcAR n size lo hi (.pointer (some a))=(bndR n n lo hi).bind fun lh=>some (.slice (advA size (some a) n lh.1) (lh.2 - lh.1) (n - lh.1)):=by
 simp only[slcAR,advA]
 congr 1;funext lh;split<;>rfl
theorem slcT_s (lo hi:Option Value)(s:ByteArray):slcTR lo hi (.string s)=(bndR s.size s.size lo hi).bind fun lh=>some (.string (s.extract lh.1 lh.2)):=id rfl
theorem advA_0 (size:Nat)(a:Option Addr)(cap:Nat):advA size a cap 0=a:=by
 unfold advA;split
 ·rfl
 ·cases a<;>simp [Addr.add]
theorem fadr_p (off b o:Nat):fadrR off (.pointer (some ⟨b,o,none⟩))=some (.pointer (some ⟨b,o+off,none⟩)):=id rfl
theorem iadrA_p (len size b o:Nat)(k:IntKind)(i:Int):
  iadrAR len size (.pointer (some ⟨b,o,none⟩)) (.int k i)=if 0≤i∧i<len then some (.pointer (some ⟨b,o+i.toNat*size,none⟩)) else none:=id rfl
theorem iadrS_p (size b o n c:Nat)(k:IntKind)(i:Int):
  iadrSR size (.slice (some ⟨b,o,none⟩) n c) (.int k i)=if 0≤i∧i<n then some (.pointer (some ⟨b,o+i.toNat*size,none⟩)) else none:=id rfl
theorem idxA_a (len size:Nat)(cs:Array Value)(k:IntKind)(i:Int):
  idxAR len size true (.agg cs) (.int k i)=if 0≤i∧i<len then some (.agg (cs.extract (i.toNat*size) (i.toNat*size+size))) else none:=id rfl
theorem idxA_1 (len size:Nat)(cs:Array Value)(k:IntKind)(i:Int):
  idxAR len size false (.agg cs) (.int k i)=if 0≤i∧i<len then cs[i.toNat*size]? else none:=id rfl
theorem idxS_s (s:ByteArray)(k:IntKind)(i:Int):idxSR (.string s) (.int k i)=if 0≤i then (s[i.toNat]?).map fun b=>.int .u8 b.toNat else none:=id rfl
theorem ld1_p (w:World)(a:Addr):ld1R w (.pointer (some a))=w.cell? a:=id rfl
theorem ldN_p (w:World)(n b o:Nat):ldNR w n (.pointer (some ⟨b,o,none⟩))=(rdN w b o n).map .agg:=id rfl
theorem ext_t (i:Nat)(vs:Array Value):extR i (.tuple vs)=vs[i]?:=id rfl
theorem len_s (p:Option Addr)(n c:Nat):lenR (.slice p n c)=some (.int .i64 n):=id rfl
theorem lenT_s (s:ByteArray):lenTR (.string s)=some (.int .i64 s.size):=id rfl
theorem cvi_i (k k':IntKind)(n:Int):cviR k (.int k' n)=some (.int k (k.wrap n)):=id rfl
theorem not_b (b:Bool):notR (.bool b)=some (.bool (!b)):=id rfl
theorem neg_i (k:IntKind)(n:Int):negR (.int k n)=some (.int k (k.wrap (0 - n))):=id rfl
theorem fld_1 (off:Nat)(cs:Array Value):fldR off none (.agg cs)=cs[off]?:=id rfl
theorem fld_N (off n:Nat)(cs:Array Value):fldR off (some n) (.agg cs)=some (.agg (cs.extract off (off+n))):=id rfl
theorem rvs_nil (e:Env)(w:World):rvs e w []=some []:=id rfl
theorem rvs_cons (e:Env)(w:World)(r:RV)(rs:List RV):rvs e w (r::rs)=(rvR e w r).bind fun v=>(rvs e w rs).map (v:: ·):=id rfl
theorem rvR_t (e:Env)(w:World)(s:Nat):rvR e w (.t s)=look e s:=id rfl
theorem rvR_c1 (e:Env)(w:World)(s:Nat):rvR e w (.c1 s)=(look e s).bind (ld1R w):=id rfl
theorem rvR_cN (e:Env)(w:World)(s n:Nat):rvR e w (.cN s n)=(look e s).bind (ldNR w n):=id rfl
theorem retR_1 (v:Value):retR [v]=v:=id rfl
theorem retR_0:retR []=.tuple #[]:=id rfl
theorem retR_2 (v u:Value):retR [v,u]=.tuple #[v,u]:=id rfl
theorem retR_3 (v u x:Value):retR [v,u,x]=.tuple #[v,u,x]:=id rfl
theorem argE_nil (k:Nat):argE k []=[]:=id rfl
theorem argE_cons (k:Nat)(v:Value)(vs:List Value):argE k (v::vs)=(k,v)::argE (k+1) vs:=id rfl
theorem liV_alloc (P:Program)(R:Ending→World→Prop)(e:Env)(w:World)(K:Value→World→Prop)(t:Nat)(z:List (Nat×Value)):
  liV P R e w K (.alloc t z)=K (.pointer (some ⟨w.heap.size,0,none⟩)) (w.alloc (.cells (zc z) t)):=id rfl
theorem liV_box (P:Program)(R:Ending→World→Prop)(e:Env)(w:World)(K:Value→World→Prop)(t:Nat)(x:Operand):
  liV P R e w K (.box t x)=getV (ev e x) fun v=>K (.pointer (some ⟨w.heap.size,0,none⟩)) (w.alloc (.cells v.cells t)):=id rfl
theorem liV_call (P:Program)(R:Ending→World→Prop)(e:Env)(w:World)(K:Value→World→Prop)(f:Nat)(xs:List Operand):
  liV P R e w K (.call f xs)=getV (evs e xs) fun vs=>callV P R f vs w K:=id rfl
theorem liV_callx (P:Program)(R:Ending→World→Prop)(e:Env)(w:World)(K:Value→World→Prop)(f:Nat)(xs:List Operand):
  liV P R e w K (.callx f xs)=getV (evs e xs) fun vs=>callxV P f vs w K:=id rfl
theorem liV_bix (P:Program)(R:Ending→World→Prop)(e:Env)(w:World)(K:Value→World→Prop)(b:Builtin)(ts:List Nat)(ty:Nat)(cs:List Bool)(xs:List Operand):
  liV P R e w K (.bix b ts ty cs xs)=getV (evs e xs) fun vs=>bixV P b ts ty cs vs w K:=id rfl
theorem liV_cvx (P:Program)(R:Ending→World→Prop)(e:Env)(w:World)(K:Value→World→Prop)(s d:Nat)(x:Operand):
  liV P R e w K (.cvx s d x)=getV (ev e x) fun x=>cvxV P s d x w K:=id rfl
theorem liV_rng (P:Program)(R:Ending→World→Prop)(e:Env)(w:World)(K:Value→World→Prop)(t:Nat)(x:Operand):
  liV P R e w K (.rng t x)=getV (ev e x) fun x=>rngV P t x w K:=id rfl
theorem liV_nxt (P:Program)(R:Ending→World→Prop)(e:Env)(w:World)(K:Value→World→Prop)(i:Bool)(t:Nat)(x:Operand):
  liV P R e w K (.nxt i t x)=getV (ev e x) fun x=>nxtV P i t x w K:=id rfl
theorem liV_ent (P:Program)(R:Ending→World→Prop)(e:Env)(w:World)(K:Value→World→Prop)(x:Operand):
  liV P R e w K (.ent x)=getV (ev e x) fun x=>entV P x w K:=id rfl
theorem liV_st1 (P:Program)(R:Ending→World→Prop)(e:Env)(w:World)(K:Value→World→Prop)(a x:Operand):
  liV P R e w K (.st1 a x)=getV (ev e a) fun a=>getV (ev e x) fun x=>st1V a x w (K undef):=id rfl
theorem liV_stN (P:Program)(R:Ending→World→Prop)(e:Env)(w:World)(K:Value→World→Prop)(n:Nat)(a x:Operand):
  liV P R e w K (.stN n a x)=getV (ev e a) fun a=>getV (ev e x) fun x=>stNV n a x w (K undef):=id rfl
theorem liV_mkS (P:Program)(R:Ending→World→Prop)(e:Env)(w:World)(K:Value→World→Prop)(el s b:Nat)(z:List (Nat×Value))(l c:Operand):
  liV P R e w K (.mkS el s b z l c)=getV (ev e l) fun l=>getV (ev e c) fun c=>mkSV el s b (runs z) l c w K:=id rfl
theorem liV_bldS (P:Program)(R:Ending→World→Prop)(e:Env)(w:World)(K:Value→World→Prop)(el s:Nat)(xs:List Operand):
  liV P R e w K (.bldS el s xs)=getV ((evs e xs).bind (catV s)) fun cs=>K (.slice (some ⟨w.heap.size,0,none⟩) xs.length xs.length) (w.alloc (.cells cs.toArray el)):=id rfl
theorem liV_app (P:Program)(R:Ending→World→Prop)(e:Env)(w:World)(K:Value→World→Prop)(el s b:Nat)(z:List (Nat×Value))(x y:Operand):
  liV P R e w K (.app el s b z x y)=getV (ev e x) fun x=>getV (ev e y) fun y=>appV el s b (runs z) x y w K:=id rfl
theorem liV_cpy (P:Program)(R:Ending→World→Prop)(e:Env)(w:World)(K:Value→World→Prop)(s:Nat)(x y:Operand):
  liV P R e w K (.cpy s x y)=getV (ev e x) fun x=>getV (ev e y) fun y=>cpyV s x y w K:=id rfl
theorem liV_mkM (P:Program)(R:Ending→World→Prop)(e:Env)(w:World)(K:Value→World→Prop):
  liV P R e w K .mkM=K (.map (some w.heap.size)) (w.alloc (.map #[] 0)):=id rfl
theorem liV_s2b (P:Program)(R:Ending→World→Prop)(e:Env)(w:World)(K:Value→World→Prop)(el:Nat)(x:Operand):
  liV P R e w K (.s2b el x)=getV (ev e x) fun x=>s2bV el x w K:=id rfl
theorem liV_mks (P:Program)(R:Ending→World→Prop)(e:Env)(w:World)(K:Value→World→Prop)(el:Nat)(x:Operand):
  liV P R e w K (.mks el x)=getV (ev e x) fun x=>mksV el x w K:=id rfl
theorem liV_mapU (P:Program)(R:Ending→World→Prop)(e:Env)(w:World)(K:Value→World→Prop)(lay:List (Nat×SK))(g:Bool)(m k v:Operand):
  liV P R e w K (.mapU lay g m k v)=getV (ev e m) fun m=>getV (ev e k) fun k=>getV (ev e v) fun v=>mapUV (skR lay) g m k v w (K undef):=id rfl
theorem liV_mapD (P:Program)(R:Ending→World→Prop)(e:Env)(w:World)(K:Value→World→Prop)(lay:List (Nat×SK))(g:Bool)(m k:Operand):
  liV P R e w K (.mapD lay g m k)=getV (ev e m) fun m=>getV (ev e k) fun k=>mapDV (skR lay) g m k w (K (.tuple #[])):=id rfl
theorem liV_pan (P:Program)(R:Ending→World→Prop)(e:Env)(w:World)(K:Value→World→Prop)(x:Operand):
  liV P R e w K (.pan x)=getV (ev e x) fun x=>panV R x w:=id rfl
theorem pan_i (R:Ending→World→Prop)(t:TypeId)(v:Value)(w:World):panV R (.iface t v) w=R (.panicked [{v:=.iface t v,recovered:=false}]) w:=id rfl
@[congr] theorem mapUV_congr {lay:List SK} {g:Bool} {m m' k k' v v':Value} {w:World} {K:World→Prop} (h:m=m') (h2:k=k') (h3:v=v'):mapUV lay g m k v w K=mapUV lay g m' k' v' w K:=by rw[h,h2,h3]
@[congr] theorem mapDV_congr {lay:List SK} {g:Bool} {m m' k k':Value} {w:World} {K:World→Prop} (h:m=m') (h2:k=k'):mapDV lay g m k w K=mapDV lay g m' k' w K:=by rw[h,h2]
theorem st1_p (b o:Nat)(v:Value)(w:World)(K:World→Prop):
  st1V (.pointer (some ⟨b,o,none⟩)) v w K=(v.oneCell'=true∧wr1 w b o∧K (w.setCell ⟨b,o,none⟩ v)):=id rfl
theorem stN_p (n b o:Nat)(cs:Array Value)(w:World)(K:World→Prop):
  stNV n (.pointer (some ⟨b,o,none⟩)) (.agg cs) w K=(cs.size=n∧flat cs∧okN w b o n∧K (w.putN b o cs)):=id rfl
theorem cells_agg (cs:Array Value):(Value.agg cs).cells=cs:=id rfl
theorem cells_int (k:IntKind)(n:Int):(Value.int k n).cells=#[.int k n]:=id rfl
theorem cells_slice (p:Option Addr)(n c:Nat):(Value.slice p n c).cells=#[.slice p n c]:=id rfl
theorem cells_ptr (p:Option Addr):(Value.pointer p).cells=#[.pointer p]:=id rfl
theorem cells_bool (b:Bool):(Value.bool b).cells=#[.bool b]:=id rfl
theorem cells_str (s:ByteArray):(Value.string s).cells=#[.string s]:=id rfl
theorem cells_map (r:Option Nat):(Value.map r).cells=#[.map r]:=id rfl
theorem one_int (k:IntKind)(n:Int):(Value.int k n).oneCell'=true:=id rfl
theorem one_bool (b:Bool):(Value.bool b).oneCell'=true:=id rfl
theorem one_str (b:ByteArray):(Value.string b).oneCell'=true:=id rfl
theorem one_slice (p:Option Addr)(n c:Nat):(Value.slice p n c).oneCell'=true:=id rfl
theorem one_ptr (p:Option Addr):(Value.pointer p).oneCell'=true:=id rfl
theorem one_map (r:Option Nat):(Value.map r).oneCell'=true:=id rfl
@[congr] theorem callV_congr {P:Program} {R:Ending→World→Prop} {f:FuncId} {vs vs':List Value} {w:World} {K:Value→World→Prop} (h:vs=vs'):
  callV P R f vs w K=callV P R f vs' w K:=by rw[h]
@[congr] theorem callxV_congr {P:Program} {f:FuncId} {vs vs':List Value} {w:World} {K:Value→World→Prop} (h:vs=vs'):
  callxV P f vs w K=callxV P f vs' w K:=by rw[h]
@[congr] theorem bixV_congr {P:Program} {b:Builtin} {ts:List TypeId} {ty:TypeId} {cs:List Bool} {vs vs':List Value} {w:World} {K:Value→World→Prop} (h:vs=vs'):
  bixV P b ts ty cs vs w K=bixV P b ts ty cs vs' w K:=by rw[h]
@[congr] theorem bldxV_congr {P:Program} {t:TypeId} {js:List Nat} {vs vs':List Value} {w:World} {K:Value→World→Prop} (h:vs=vs'):bldxV P t js vs w K=bldxV P t js vs' w K:=by rw[h]
@[congr] theorem cvxV_congr {P:Program} {s d:TypeId} {x x':Value} {w:World} {K:Value→World→Prop} (h:x=x'):cvxV P s d x w K=cvxV P s d x' w K:=by rw[h]
@[congr] theorem rngV_congr {P:Program} {t:TypeId} {x x':Value} {w:World} {K:Value→World→Prop} (h:x=x'):rngV P t x w K=rngV P t x' w K:=by rw[h]
@[congr] theorem nxtV_congr {P:Program} {i:Bool} {t:TypeId} {x x':Value} {w:World} {K:Value→World→Prop} (h:x=x'):nxtV P i t x w K=nxtV P i t x' w K:=by rw[h]
@[congr] theorem entV_congr {P:Program} {x x':Value} {w:World} {K:Value→World→Prop} (h:x=x'):entV P x w K=entV P x' w K:=by rw[h]
@[congr] theorem appV_congr {el s b:Nat} {z:List Value} {x x' y y':Value} {w:World} {K:Value→World→Prop} (h:x=x') (h2:y=y'):
  appV el s b z x y w K=appV el s b z x' y' w K:=by rw[h,h2]
@[congr] theorem cpyV_congr {s:Nat} {x x' y y':Value} {w:World} {K:Value→World→Prop} (h:x=x') (h2:y=y'):
  cpyV s x y w K=cpyV s x' y' w K:=by rw[h,h2]
@[congr] theorem mkSV_congr {el s b:Nat} {z:List Value} {x x' y y':Value} {w:World} {K:Value→World→Prop} (h:x=x') (h2:y=y'):
  mkSV el s b z x y w K=mkSV el s b z x' y' w K:=by rw[h,h2]
@[congr] theorem mksV_congr {el:Nat} {x x':Value} {w:World} {K:Value→World→Prop} (h:x=x'):
  mksV el x w K=mksV el x' w K:=by rw[h]
@[congr] theorem s2bV_congr {el:Nat} {x x':Value} {w:World} {K:Value→World→Prop} (h:x=x'):
  s2bV el x w K=s2bV el x' w K:=by rw[h]
@[congr] theorem st1V_congr {x x' y y':Value} {w:World} {K:World→Prop} (h:x=x') (h2:y=y'):st1V x y w K=st1V x' y' w K:=by rw[h,h2]
@[congr] theorem stNV_congr {n:Nat} {x x' y y':Value} {w:World} {K:World→Prop} (h:x=x') (h2:y=y'):stNV n x y w K=stNV n x' y' w K:=by rw[h,h2]
@[congr] theorem W_congr {P:Program} {R:Ending→World→Prop} {f l:Nat} {e e':Env} {w:World} (h:e=e'):W P R f l e w=W P R f l e' w:=by rw[h]
end Go.Vc
