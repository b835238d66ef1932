/- The rules of the walk in two bundles. -/
import Derived.Test.YtmnogjgmkpjpoaaGreatQJ
set_option linter.unusedSimpArgs false
set_option linter.unusedVariables false
set_option linter.constructorNameAsVariable false
namespace Go.Vc
theorem k_ob {α β:Type}(a:α)(f:α→Option β):(some a).bind f=f a:=id rfl
theorem k_om {α β:Type}(a:α)(f:α→β):(some a).map f=some (f a):=id rfl
theorem k_lc {α:Type}(a:α)(l:List α):(a::l).length=l.length+1:=id rfl
theorem k_ln {α:Type}:([]:List α).length=0:=id rfl
theorem k_ga {α:Type}(l:List α)(i:Nat):l.toArray[i]?=l[i]?:=List.getElem?_toArray
theorem k_gz {α:Type}(a:α)(l:List α):(a::l)[0]?=some a:=List.getElem?_cons_zero
theorem k_gs {α:Type}(a:α)(l:List α)(i:Nat):(a::l)[i+1]?=l[i]?:=List.getElem?_cons_succ
theorem vcN:type_of% (And.intro @ptV_l (And.intro @vcA @vcD)):=And.intro @ptV_l (And.intro @vcA @vcD)
theorem vcX:type_of% (And.intro @vcL1 (And.intro @vcA @vcD)):=And.intro @vcL1 (And.intro @vcA @vcD)
theorem vcY:type_of% (And.intro @vcL2 (And.intro @vcA @vcD)):=And.intro @vcL2 (And.intro @vcA @vcD)
theorem vcQ:type_of% (And.intro @vcB (And.intro @vcE (And.intro @vcM (And.intro @k_ob (And.intro @k_om (And.intro @k_lc (And.intro @k_ln (And.intro @k_ga (And.intro @k_gz @k_gs))))))))):=⟨@vcB,@vcE,@vcM,@k_ob,@k_om,@k_lc,@k_ln,@k_ga,@k_gz,@k_gs⟩
end Go.Vc
