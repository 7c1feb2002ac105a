import Derived.Test.YthjoehaglonjaaaTy
import Derived.Test.YthjoehaglonjaaaEnA
import Derived.Test.YthjoehaglonjaaaPvY
set_option maxRecDepth 8000
set_option linter.unusedSimpArgs false
set_option linter.unusedVariables false
namespace Go.Proofs.Ythjoehaglonjaaa
open Go.PV
set_option maxRecDepth 10000 in
set_option maxHeartbeats 4000000 in
theorem len64_ok (n:Nat) (hn:n < 256) (σ:Store):PCall Try.prog 131 [.int .u64 n] σ (fun p σ'=>(∃ r,p = .int .i64 r) ∧ σ' = σ):=by
 refine PCall.vraw [] 16663 25 [.tmp 2] (noE_ok _) mix Try.func131 rfl (by decide) rfl rfl (by simp) ?_
 simp -dsimp only [initFr,List.zipIdx_cons,List.zipIdx_nil,List.map_cons,List.map_nil,Nat.zero_add,Nat.reduceAdd]
 have e:IntKind.u8.wrap (n:Int) = n:=Go.IntWalk.u8_in _ (by omega)
 simp -dsimp (maxSteps:=4000000) +contextual (disch:=first | omega | decide +kernel) only [↓vsD,vsE,↓Nat.reduceLT,simprocAttr,e]
 exact ⟨Nat.lt_of_lt_of_le hn (by decide +kernel),_,rfl⟩
set_option maxHeartbeats 4000000 in
theorem blen_ok (n:Nat) (hn:n < 256) (σ:Store):PCall Try.prog 110 [.int .u64 n] σ (fun p σ'=>(∃ r,p = .int .i64 r) ∧ σ' = σ):=by
 refine PCall.vraw [] 7 8 [.tmp 2] (noE_ok _) mix Try.func110 rfl (by decide) rfl rfl (by simp) ?_
 simp -dsimp only [initFr,List.zipIdx_cons,List.zipIdx_nil,List.map_cons,List.map_nil,Nat.zero_add,Nat.reduceAdd]
 simp -dsimp (maxSteps:=4000000) +contextual (disch:=first | omega | decide +kernel) only [↓vsD,vsE,↓Nat.reduceLT,simprocAttr]
 refine PCall.mono (len64_ok n hn σ) ?_
 rintro p σ' ⟨⟨r,rfl⟩,rfl⟩
 simp -dsimp (maxSteps:=4000000) +contextual (disch:=first | omega | decide +kernel) only [↓vsD,vsE,↓Nat.reduceLT,simprocAttr]
 exact ⟨r,rfl⟩
end Go.Proofs.Ythjoehaglonjaaa
