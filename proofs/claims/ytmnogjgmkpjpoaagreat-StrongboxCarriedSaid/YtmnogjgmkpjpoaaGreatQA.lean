/- The symbolic reading of one operation: what a quiet operation yields, what a loud one asks and does; and that the model runs it so. -/
import Derived.Test.YtmnogjgmkpjpoaaGreatQ0
set_option linter.unusedSimpArgs false
set_option linter.unusedVariables false
set_option linter.constructorNameAsVariable false
namespace Go.Vc
abbrev Env:=List (Nat×Value)
def look:Env→Nat→Option Value
 |[],_=>none
 |(s,v)::e,t=>if s=t then some v else look e t
def ev (e:Env):Operand→Option Value
 | .tmp t=>look e t
 | .const v=>some v
 | .global g=>some (.pointer (some ⟨g,0,none⟩))
 | .func f=>some (.func (.func f) #[] #[])
def evs (e:Env):List Operand→Option (List Value)
 |[]=>some []
 |x::xs=>(ev e x).bind fun v=>(evs e xs).map (v:: ·)
def put (d:Option Nat)(v:Value)(e:Env):Env:=
 match d with
 |some d=>(d,v)::e
 |none=>e
def keepO (t:Nat)(o:Option Value)(e:Env):Env:=
 match o with
 |some v=>(t,v)::e
 |none=>e
def keep:List Nat→Env→Env
 |[],_=>[]
 |t::l,e=>keepO t (look e t) (keep l e)
structure AgreeD (ds:List Deferred)(n:Nat)(e:Env)(a:Act):Prop where
 size:a.tmps.size=n
 nodef:a.defers=ds
 val:∀t v,look e t=some v→a.tmps[t]?=some v
theorem AgreeD.ev {ds:List Deferred}{n:Nat}{e:Env}{a:Act}(h:AgreeD ds n e a){x:Operand}{v:Value}(hx:Vc.ev e x=some v):a.eval x=v:=by
 cases x with
 |tmp t=>simp only[Vc.ev] at hx;simp [Act.eval,h.val t v hx]
 |const c=>simp only[Vc.ev,Option.some.injEq] at hx;simp [Act.eval,hx]
 |global g=>simp only[Vc.ev,Option.some.injEq] at hx;simp [Act.eval,hx]
 |func f=>simp only[Vc.ev,Option.some.injEq] at hx;simp [Act.eval,hx]
theorem AgreeD.evs {ds:List Deferred}{n:Nat}{e:Env}{a:Act}(h:AgreeD ds n e a):∀{xs:List Operand} {vs:List Value},Vc.evs e xs=some vs→xs.map a.eval=vs
 |[],vs,hx=>by simp [Vc.evs] at hx;simp [hx]
 |x::xs,vs,hx=>by
  simp only[Vc.evs] at hx
  cases hv:Vc.ev e x with
  |none=>simp [hv] at hx
  |some v=>
   cases hw:Vc.evs e xs with
   |none=>simp [hv,hw] at hx
   |some ws=>
    simp [hv,hw] at hx
    subst hx
    simp [h.ev hv,h.evs hw]
theorem AgreeD.put {ds:List Deferred}{n:Nat}{e:Env}{a:Act}(h:AgreeD ds n e a)(d:Option Nat)(hd:∀t,d=some t→t<n)(v:Value):AgreeD ds n (Vc.put d v e) (a.put d v):=by
 cases d with
 |none=>exact h
 |some d=>
  refine⟨by simp [Act.put,h.size],h.nodef,fun t u hu=>?_⟩
  simp only[Vc.put,look] at hu
  split at hu
  ·rename_i hs;subst hs;cases hu
   simp [Act.put,h.size,hd d rfl]
  ·rename_i hs
   simp only[Act.put,Array.getElem?_setIfInBounds_ne hs]
   exact h.val t u hu
theorem look_keep:∀(l:List Nat) (e:Env) (t:Nat) (v:Value),look (keep l e) t=some v→look e t=some v
 |[],_,_,_,h=>by simp [keep,look] at h
 |s::l,e,t,v,h=>by
  simp only[keep] at h
  cases hs:look e s with
  |none=>simp only[hs,keepO] at h;exact look_keep l e t v h
  |some u=>
   simp only[hs,keepO,look] at h
   split at h
   ·rename_i he;subst he;rw[hs,h]
   ·exact look_keep l e t v h
theorem AgreeD.keep {ds:List Deferred}{n:Nat}{e:Env}{a:Act}(h:AgreeD ds n e a)(l:List Nat):AgreeD ds n (Vc.keep l e) a:=
 ⟨h.size,h.nodef,fun t v hv=>h.val t v (look_keep l e t v hv)⟩
abbrev Agree (n:Nat)(e:Env)(a:Act):Prop:=AgreeD [] n e a
def rdN (w:World)(b o n:Nat):Option (Array Value):=
 match w.heap[b]? with
 |some (.cells c _ _)=>if o+n≤c.size then some (c.extract o (o+n)) else none
 |_=>none
def wr1 (w:World)(b o:Nat):Prop:=(∃u,w.cell? ⟨b,o,none⟩=some u)∧w.frozen? ⟨b,o,none⟩=false
def spliceA (c:Array Value)(o:Nat)(cs:Array Value):Array Value:=
 (c.toList.take o++cs.toList++c.toList.drop (o+cs.size)).toArray
end Go.Vc
namespace Go
end Go
namespace Go.Vc
def flat (cs:Array Value):Prop:=∀v∈cs.toList,v.oneCell'=true
def runs:List (Nat×Value)→List Value
 |[]=>[]
 |(n,v)::r=>List.replicate n v++runs r
def zc (r:List (Nat×Value)):Array Value:=(runs r).toArray
inductive Seg where
 |x (n:Nat) (o:Operand)
 |z (r:List (Nat×Value))
 deriving Inhabited
def skR:List (Nat×SK)→List SK
 |[]=>[]
 |(n,k)::r=>List.replicate n k++skR r
def zvR (agg:Bool)(z:List (Nat×Value)):Value:=if agg then .agg (zc z) else (runs z).headD undef
inductive QI where
 |mov (x:Operand)
 |pick (c a b:Operand)
 |nc (x:Operand)
 |bin (op:BinOp) (x y:Operand)
 |eqB (neg:Bool) (x y:Operand)
 |eqP (neg:Bool) (x y:Operand)
 |eqS (neg:Bool) (x y:Operand)
 |eqM (neg:Bool) (x y:Operand)
 |not (x:Operand)
 |neg (x:Operand)
 |cvi (k:IntKind) (x:Operand)
 |fadr (off:Nat) (x:Operand)
 |fld (off:Nat) (size:Option Nat) (x:Operand)
 |iadrA (len size:Nat) (x i:Operand)
 |iadrS (size:Nat) (x i:Operand)
 |idxA (len size:Nat) (agg:Bool) (x i:Operand)
 |idxS (x i:Operand)
 |ld1 (x:Operand)
 |ldN (n:Nat) (x:Operand)
 |ext (i:Nat) (x:Operand)
 |len (x:Operand)
 |lenT (x:Operand)
 |lenM (x:Operand)
 |max (xs:List Operand)
 |min (xs:List Operand)
 |bld (parts:List Seg)
 |eqA (neg:Bool) (lay:List (Nat×SK)) (x y:Operand)
 |lkp (lay:List (Nat×SK)) (kagg zagg:Bool) (z:List (Nat×Value)) (ok:Bool) (m k:Operand)
 |cap (x:Operand)
 |bnot (x:Operand)
 |slc3 (size:Nat) (x:Operand) (lo:Option Operand) (hi mx:Operand)
 |slcS (size:Nat) (x:Operand) (lo hi:Option Operand)
 |slcA (len size:Nat) (x:Operand) (lo hi:Option Operand)
 |slcT (x:Operand) (lo hi:Option Operand)
 |b2s (x:Operand)
 |mif (t:Nat) (x:Operand)
 |eqI (neg:Bool) (x y:Operand)
 |mkF (f:Nat) (first cap:List Operand)
 |tas (t:Nat) (k:IntKind) (x:Operand)
 |ta (t:Nat) (x:Operand)
 deriving Inhabited
def binR (op:BinOp):Value→Value→Option Value
 | .int k a,.int k' b=>
  match op with
  | .shl=>if 0≤b then some (.int k (k.wrap (a*2^(Nat.min b.toNat k.bits)))) else none
  | .shr=>if 0≤b then some (.int k (a.fdiv (2^(Nat.min b.toNat k.bits)))) else none
  |_=>
  if k=k' then
   match op with
   | .add=>some (.int k (k.wrap (a+b)))
   | .sub=>some (.int k (k.wrap (a - b)))
   | .mul=>some (.int k (k.wrap (a*b)))
   | .quo=>if b=0 then none else some (.int k (k.wrap (a.tdiv b)))
   | .rem=>if b=0 then none else some (.int k (a.tmod b))
   | .and=>some (.int k (k.wrap (BitVec.ofInt k.bits a&&& BitVec.ofInt k.bits b).toNat))
   | .or=>some (.int k (k.wrap (BitVec.ofInt k.bits a|||BitVec.ofInt k.bits b).toNat))
   | .xor=>some (.int k (k.wrap (BitVec.ofInt k.bits a^^^BitVec.ofInt k.bits b).toNat))
   | .andNot=>some (.int k (k.wrap (BitVec.ofInt k.bits a&&& ~~~BitVec.ofInt k.bits b).toNat))
   | .eql=>some (.bool (decide (a=b)))
   | .neq=>some (.bool (!decide (a=b)))
   | .lss=>some (.bool (decide (a<b)))
   | .leq=>some (.bool (decide (a≤b)))
   | .gtr=>some (.bool (decide (b<a)))
   | .geq=>some (.bool (decide (b≤a)))
   |_=>none
  else none
 | .string a,.string b=>
  match op with
  | .add=>if ((a.size+b.size:Nat):Int)>IntKind.i64.max then none else some (.string (a++b))
  | .eql=>some (.bool (decide (a=b)))
  | .neq=>some (.bool (!decide (a=b)))
  |_=>none
 |_,_=>none
def nilR:Value→Option Value
 | .pointer (some a)=>some (.pointer (some a))
 | .func (.func f) a b=>some (.func (.func f) a b)
 |_=>none
def pickR:Value→Value→Value→Option Value
 | .bool true,a,_=>some a
 | .bool false,_,b=>some b
 |_,_,_=>none
def eqBR (neg:Bool):Value→Value→Option Value
 | .bool a,.bool b=>some (.bool (neg^^(a==b)))
 |_,_=>none
def eqPR (neg:Bool):Value→Value→Option Value
 | .pointer none,.pointer b=>some (.bool (neg^^b.isNone))
 | .pointer (some _),.pointer none=>some (.bool neg)
 | .pointer (some a),.pointer (some b)=>if a=b then some (.bool (!neg)) else none
 |_,_=>none
def eqSR (neg:Bool):Value→Value→Option Value
 | .slice none _ _,.slice b _ _=>some (.bool (neg^^b.isNone))
 | .slice (some _) _ _,.slice none _ _=>some (.bool neg)
 |_,_=>none
def eqMR (neg:Bool):Value→Value→Option Value
 | .map none,.map b=>some (.bool (neg^^b.isNone))
 | .map (some _),.map none=>some (.bool neg)
 |_,_=>none
def eqIR (neg:Bool):Value→Value→Option Value
 | .nilIface,.nilIface=>some (.bool (!neg))
 | .nilIface,.iface _ _=>some (.bool neg)
 | .iface _ _,.nilIface=>some (.bool neg)
 |_,_=>none
def tasR (t:Nat)(k:IntKind):Value→Option Value
 | .nilIface=>some (.tuple #[.int k 0,.bool false])
 | .iface u v=>some (if u=t then .tuple #[v,.bool true] else .tuple #[.int k 0,.bool false])
 |_=>none
def taR (t:Nat):Value→Option Value
 | .iface u v=>if u=t then some v else none
 |_=>none
def notR:Value→Option Value
 | .bool b=>some (.bool (!b))
 |_=>none
def negR:Value→Option Value
 | .int k n=>some (.int k (k.wrap (0 - n)))
 |_=>none
def cviR (k:IntKind):Value→Option Value
 | .int _ n=>some (.int k (k.wrap n))
 |_=>none
def fadrR (off:Nat):Value→Option Value
 | .pointer (some ⟨b,o,none⟩)=>some (.pointer (some ⟨b,o+off,none⟩))
 |_=>none
def fldR (off:Nat)(size:Option Nat):Value→Option Value
 | .agg cs=>
  match size with
  |some n=>some (.agg (cs.extract off (off+n)))
  |none=>cs[off]?
 |_=>none
def iadrAR (len size:Nat):Value→Value→Option Value
 | .pointer (some ⟨b,o,none⟩),.int _ i=>if 0≤i∧i<len then some (.pointer (some ⟨b,o+i.toNat*size,none⟩)) else none
 |_,_=>none
def iadrSR (size:Nat):Value→Value→Option Value
 | .slice (some ⟨b,o,none⟩) n _,.int _ i=>if 0≤i∧i<n then some (.pointer (some ⟨b,o+i.toNat*size,none⟩)) else none
 |_,_=>none
def idxAR (len size:Nat)(agg:Bool):Value→Value→Option Value
 | .agg cs,.int _ i=>
  if 0≤i∧i<len then (if agg then some (.agg (cs.extract (i.toNat*size) (i.toNat*size+size))) else cs[i.toNat*size]?) else none
 |_,_=>none
def idxSR:Value→Value→Option Value
 | .string s,.int _ i=>if 0≤i then (s[i.toNat]?).map fun b=>.int .u8 b.toNat else none
 |_,_=>none
def ld1R (w:World):Value→Option Value
 | .pointer (some a)=>w.cell? a
 |_=>none
def ldNR (w:World)(n:Nat):Value→Option Value
 | .pointer (some ⟨b,o,none⟩)=>(rdN w b o n).map .agg
 |_=>none
def extR (i:Nat):Value→Option Value
 | .tuple vs=>vs[i]?
 |_=>none
def lenR:Value→Option Value
 | .slice _ n _=>some (.int .i64 n)
 |_=>none
def lenTR:Value→Option Value
 | .string s=>some (.int .i64 s.size)
 |_=>none
def lenMR (w:World):Value→Option Value
 | .map none=>some (.int .i64 0)
 | .map (some r)=>match w.heap[r]? with
  |some (.map es _)=>some (.int .i64 es.size)
  |_=>none
 |_=>none
def partsR (e:Env):List Seg→Option (Array Value)
 |[]=>some #[]
 | .x n x::r=>(ev e x).bind fun v=>if v.cells.size=n then (partsR e r).map fun l=>v.cells++l else none
 | .z q::r=>(partsR e r).map fun l=>zc q++l
noncomputable def eqAR (neg:Bool)(lay:List SK):Value→Value→Option Value
 | .agg cs,.agg ds=>if conf lay cs.toList=true∧conf lay ds.toList=true then some (.bool (neg^^eqc cs.toList ds.toList)) else none
 |_,_=>none
def packL (ok:Bool)(v:Value)(there:Bool):Value:=if ok then .tuple #[v,.bool there] else v
def mapE (lay:List SK)(kagg:Bool)(w:World)(r:Nat):Option (Array MapEntry×Nat):=
 match w.heap[r]? with
 |some (.map es c)=>if es.toList.all (fun e=>kOK lay kagg e.key)=true then some (es,c) else none
 |_=>none
noncomputable def lkpR (lay:List SK)(kagg:Bool)(z:Value)(ok:Bool)(w:World)(m k:Value):Option Value:=
 if kOK lay kagg k=true then
  match m with
  | .map none=>some (packL ok z false)
  | .map (some r)=>(mapE lay kagg w r).map fun ec=>match fnd k ec.1.toList 0 with
   |some (_,v)=>packL ok v true
   |none=>packL ok z false
  |_=>none
 else none
def maxF (k:IntKind):Int→List Value→Option Value
 |x,[]=>some (.int k x)
 |x,.int k' y::r=>if k=k' then maxF k (if x<y then y else x) r else none
 |_,_=>none
def maxL:List Value→Option Value
 | .int k x::r=>maxF k x r
 |_=>none
def minF (k:IntKind):Int→List Value→Option Value
 |x,[]=>some (.int k x)
 |x,.int k' y::r=>if k=k' then minF k (if y<x then y else x) r else none
 |_,_=>none
def minL:List Value→Option Value
 | .int k x::r=>minF k x r
 |_=>none
def capR:Value→Option Value
 | .slice _ _ c=>some (.int .i64 c)
 |_=>none
def bnotR:Value→Option Value
 | .int k n=>some (.int k (k.wrap (BitVec.ofInt k.bits (if k.signed then -1 else k.max)^^^BitVec.ofInt k.bits n).toNat))
 |_=>none
def slc3R (size:Nat)(lo:Option Value)(hi mx:Value):Value→Option Value
 | .slice a _ cap=>
  match hi,mx with
  | .int _ h,.int _ m=>if 0≤m∧m≤cap∧0≤h∧h≤m then (match lo with
   |none=>some (.slice a h.toNat m.toNat)
   |some (.int _ l)=>if 0≤l∧l≤h then some (.slice (if m.toNat=l.toNat then a else a.map (·.add (l.toNat*size))) (h.toNat - l.toNat) (m.toNat - l.toNat)) else none
   |_=>none) else none
  |_,_=>none
 |_=>none
def bndR (len cap:Nat)(lo hi:Option Value):Option (Nat×Nat):=
 match hi with
 |none=>match lo with
  |none=>some (0,len)
  |some (.int _ l)=>if 0≤l∧l≤len then some (l.toNat,len) else none
  |_=>none
 |some (.int _ h)=>if 0≤h∧h≤cap then (match lo with
  |none=>some (0,h.toNat)
  |some (.int _ l)=>if 0≤l∧l≤h then some (l.toNat,h.toNat) else none
  |_=>none) else none
 |_=>none
def slcSR (size:Nat)(lo hi:Option Value):Value→Option Value
 | .slice a len cap=>(bndR len cap lo hi).bind fun lh=>some (.slice (if cap=lh.1 then a else a.map (·.add (lh.1*size))) (lh.2 - lh.1) (cap - lh.1))
 |_=>none
def slcAR (n size:Nat)(lo hi:Option Value):Value→Option Value
 | .pointer (some a)=>(bndR n n lo hi).bind fun lh=>some (.slice (some (if n=lh.1 then a else a.add (lh.1*size))) (lh.2 - lh.1) (n - lh.1))
 |_=>none
def slcTR (lo hi:Option Value):Value→Option Value
 | .string s=>(bndR s.size s.size lo hi).bind fun lh=>some (.string (s.extract lh.1 lh.2))
 |_=>none
def evO (e:Env):Option Operand→Option (Option Value)
 |none=>some none
 |some x=>(ev e x).map some
def bytesOf:List Value→Option (List UInt8)
 |[]=>some []
 | .int .u8 n::r=>(bytesOf r).map (UInt8.ofNat n.toNat:: ·)
 |_::_=>none
def b2sR (w:World):Value→Option Value
 | .slice none _ _=>some (.string .empty)
 | .slice (some a) n _=>if n=0 then some (.string .empty) else match a with
  |⟨b,o,none⟩=>(rdN w b o n).bind fun cs=>(bytesOf cs.toList).map fun l=>.string ⟨l.toArray⟩
  |_=>none
 |_=>none
noncomputable def qiR (e:Env)(w:World):QI→Option Value
 | .mov x=>ev e x
 | .pick c a b=>(ev e c).bind fun c=>(ev e a).bind fun a=>(ev e b).bind fun b=>pickR c a b
 | .nc x=>(ev e x).bind nilR
 | .bin op x y=>(ev e x).bind fun x=>(ev e y).bind fun y=>binR op x y
 | .eqB neg x y=>(ev e x).bind fun x=>(ev e y).bind fun y=>eqBR neg x y
 | .eqP neg x y=>(ev e x).bind fun x=>(ev e y).bind fun y=>eqPR neg x y
 | .eqS neg x y=>(ev e x).bind fun x=>(ev e y).bind fun y=>eqSR neg x y
 | .eqM neg x y=>(ev e x).bind fun x=>(ev e y).bind fun y=>eqMR neg x y
 | .not x=>(ev e x).bind notR
 | .neg x=>(ev e x).bind negR
 | .cvi k x=>(ev e x).bind (cviR k)
 | .fadr off x=>(ev e x).bind (fadrR off)
 | .fld off size x=>(ev e x).bind (fldR off size)
 | .iadrA n size x i=>(ev e x).bind fun x=>(ev e i).bind fun i=>iadrAR n size x i
 | .iadrS size x i=>(ev e x).bind fun x=>(ev e i).bind fun i=>iadrSR size x i
 | .idxA n size agg x i=>(ev e x).bind fun x=>(ev e i).bind fun i=>idxAR n size agg x i
 | .idxS x i=>(ev e x).bind fun x=>(ev e i).bind fun i=>idxSR x i
 | .ld1 x=>(ev e x).bind (ld1R w)
 | .ldN n x=>(ev e x).bind (ldNR w n)
 | .ext i x=>(ev e x).bind (extR i)
 | .len x=>(ev e x).bind lenR
 | .lenT x=>(ev e x).bind lenTR
 | .lenM x=>(ev e x).bind (lenMR w)
 | .bld parts=>(partsR e parts).map .agg
 | .eqA neg lay x y=>(ev e x).bind fun x=>(ev e y).bind fun y=>eqAR neg (skR lay) x y
 | .lkp lay kagg zagg z ok m k=>(ev e m).bind fun m=>(ev e k).bind fun k=>lkpR (skR lay) kagg (zvR zagg z) ok w m k
 | .cap x=>(ev e x).bind capR
 | .bnot x=>(ev e x).bind bnotR
 | .slc3 size x lo hi mx=>(ev e x).bind fun x=>(evO e lo).bind fun lo=>(ev e hi).bind fun hi=>(ev e mx).bind fun mx=>slc3R size lo hi mx x
 | .slcS size x lo hi=>(ev e x).bind fun x=>(evO e lo).bind fun lo=>(evO e hi).bind fun hi=>slcSR size lo hi x
 | .slcA n size x lo hi=>(ev e x).bind fun x=>(evO e lo).bind fun lo=>(evO e hi).bind fun hi=>slcAR n size lo hi x
 | .slcT x lo hi=>(ev e x).bind fun x=>(evO e lo).bind fun lo=>(evO e hi).bind fun hi=>slcTR lo hi x
 | .b2s x=>(ev e x).bind (b2sR w)
 | .mif t x=>(ev e x).map fun v=>.iface t v
 | .eqI neg x y=>(ev e x).bind fun x=>(ev e y).bind fun y=>eqIR neg x y
 | .mkF f first cap=>(evs e first).bind fun fs=>(evs e cap).map fun cs=>.func (.func f) fs.toArray cs.toArray
 | .tas t k x=>(ev e x).bind (tasR t k)
 | .ta t x=>(ev e x).bind (taR t)
 | .max xs=>(evs e xs).bind maxL
 | .min xs=>(evs e xs).bind minL
def QI.reads:QI→Bool
 | .ld1 _| .ldN .. | .lenM _| .b2s _| .lkp .. =>true
 |_=>false
end Go.Vc
