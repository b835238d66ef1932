/- Numbers that fit; what a call keeps. -/
import Derived.Test.YtmnogjgmkpjpoaaGreatQF
set_option linter.unusedSimpArgs false
set_option linter.unusedVariables false
set_option linter.constructorNameAsVariable false
namespace Go.Vc
theorem wrap_i64 {x:Int}(h1: -9223372036854775808≤x)(h2:x≤9223372036854775807):IntKind.i64.wrap x=x:=by
 rw[IntKind.wrap_i64];omega
theorem wrap_i32 {x:Int}(h1: -2147483648≤x)(h2:x≤2147483647):IntKind.i32.wrap x=x:=by
 have h3:IntKind.i32.wrap x=if x%4294967296≥2147483648 then x%4294967296 - 4294967296 else x%4294967296:=by
  simp [IntKind.wrap,IntKind.bits,IntKind.signed]
 rw[h3]
 split<;>omega
theorem wrap_u8 (x:Int):IntKind.u8.wrap x=x%256:=by
 simp only[IntKind.wrap,IntKind.bits,IntKind.signed,Bool.false_and];rfl
theorem wrap_u32 (x:Int):IntKind.u32.wrap x=x%4294967296:=by
 simp only[IntKind.wrap,IntKind.bits,IntKind.signed,Bool.false_and];rfl
theorem wrap_u64 (x:Int):IntKind.u64.wrap x=x%18446744073709551616:=by
 simp only[IntKind.wrap,IntKind.bits,IntKind.signed,Bool.false_and];rfl
theorem W_at {P:Program}{R:Ending→World→Prop}{f:FuncId}{n en:Nat}{C:List Node}(hC:cfgL P f=some (n,en,C.map Node.bare)){l:Nat}{e:Env}{w:World}
  (h:∃nd,C[l]?=some nd∧ndV P R f nd e w):W P R f l e w:=by
 obtain⟨nd,hl,h⟩:=h
 exact W_step hC hl h
def Ret (φ:Value→World→Prop)(en:Ending)(w:World):Prop:=∃v,en=.returned v∧φ v w
theorem Ret_returned (φ:Value→World→Prop)(v:Value)(w:World):Ret φ (.returned v) w=φ v w:=by
 simp [Ret]
theorem callV_ret {P:Program}{R:Ending→World→Prop}{f:FuncId}{vs:List Value}{w:World}{K:Value→World→Prop}{φ:Value→World→Prop}
  (h:Calls P f vs.toArray w (Ret φ)) (hk:∀v w',φ v w'→K v w'):callV P R f vs w K:=
 callV_of h fun _ w' ⟨v,hv,hp⟩=>⟨v,hv,hk v w' hp⟩
end Go.Vc
