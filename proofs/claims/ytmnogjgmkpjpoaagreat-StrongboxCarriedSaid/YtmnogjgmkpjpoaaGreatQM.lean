/- Ranges over a map: what the model does, whichever entry comes. -/
import Derived.Test.YtmnogjgmkpjpoaaGreatQJ
import Derived.Maps.RangeRun
set_option linter.unusedSimpArgs false
set_option linter.unusedVariables false
set_option linter.constructorNameAsVariable false
namespace Go.Vc
open Go
variable {P:Program}
structure ItAt (w:World)(it r:Nat)(es:Array MapEntry)(c:Nat)(left:List MapEntry):Prop where
 map:w.heap[r]?=some (.map es c)
 old:∀e∈es.toList,e.born<c
 iter:∃seen,w.heap[it]?=some (.mapIter (some r) c seen c)∧left=es.toList.filter fun e=> !seen.contains e.born
theorem ItAt.ne {w:World}{it r c:Nat}{es:Array MapEntry}{left:List MapEntry}(h:ItAt w it r es c left):it≠r:=by
 rintro rfl
 obtain⟨seen,h1,_⟩:=h.iter
 rw[h.map] at h1;cases h1
theorem ItAt.lt {w:World}{it r c:Nat}{es:Array MapEntry}{left:List MapEntry}(h:ItAt w it r es c left):it<w.heap.size:=by
 obtain⟨seen,h1,_⟩:=h.iter
 exact(Array.getElem?_eq_some_iff.1 h1).1
theorem ItAt.keep {S:Nat→Prop}{w w':World}{it r c:Nat}{es:Array MapEntry}{left:List MapEntry}(h:ItAt w it r es c left)(k:Keep S w w')(hi:¬S it)(hr:¬S r):ItAt w' it r es c left:=by
 obtain⟨seen,h1,h2⟩:=h.iter
 exact⟨k.at h.map hr,h.old,seen,k.at h1 hi,h2⟩
structure CameAt (w:World)(it r:Nat)(es:Array MapEntry)(c:Nat)(e:MapEntry):Prop where
 map:w.heap[r]?=some (.map es c)
 mem:e∈es.toList
 iter:∃seen:Array Nat,w.heap[it]?=some (.mapIter (some r) c (seen.push e.born) c)
theorem CameAt.keep {S:Nat→Prop}{w w':World}{it r c:Nat}{es:Array MapEntry}{e:MapEntry}(h:CameAt w it r es c e)(k:Keep S w w')(hi:¬S it)(hr:¬S r):CameAt w' it r es c e:=by
 obtain⟨seen,h1⟩:=h.iter
 exact⟨k.at h.map hr,h.mem,seen,k.at h1 hi⟩
end Go.Vc
