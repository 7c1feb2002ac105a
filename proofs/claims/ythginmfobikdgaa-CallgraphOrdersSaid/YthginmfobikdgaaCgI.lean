import Derived.Test.YthginmfobikdgaaCgG
import Derived.Test.YthginmfobikdgaaCgH
import Derived.Test.YthginmfobikdgaaTjE
set_option maxRecDepth 8000
set_option linter.unusedSimpArgs false
set_option linter.unusedVariables false
namespace Go.Proofs.Ythginmfobikdgaa
open Go.PV Tj
theorem comps_eq (L:List (List Int)) (hL:L.length ≤ 1000) (hl:∀ l ∈ L,l.length ≤ 1000) {S:TJ} {out:List (List Int)} (hO:OutR L.length (calL L) S out) (σ:Store):PCall Try.prog 21 [progV L] σ (fun q τ=>q = .sl (intss out) ∧ τ = σ):=by
 refine PCall.mono (comps_on L hL hl σ) ?_
 rintro q τ ⟨⟨S2,out2,_,h2,rfl⟩,rfl⟩
 exact ⟨by rw [hO.uniq (calL_ok L) h2],rfl⟩
theorem recs_eq (L:List (List Int)) (hL:L.length ≤ 1000) (hl:∀ l ∈ L,l.length ≤ 1000) {S:TJ} (hS:FinJ L.length (calL L) S L.length) (σ:Store):PCall Try.prog 22 [progV L] σ (fun q τ=>q = .sl (boolsR (recL S (calL L) L.length)) ∧ τ = σ):=by
 refine PCall.mono (recs_on L hL hl σ) ?_
 rintro q τ ⟨⟨S2,h2,rfl⟩,rfl⟩
 refine ⟨?_,rfl⟩
 have:recL S2 (calL L) L.length = recL S (calL L) L.length:=by
  refine List.map_congr_left (fun f hf=>?_)
  unfold recB
  have:=h2.size_eq (calL_ok L) hS (f:=(f:Int)) ⟨by omega,by have:=List.mem_range.1 hf; omega⟩
  simp only [this]
 rw [this]
def exL:List (List Int):=[[1,2],[],[1]]
theorem exL_out:∃ S out,FinJ 3 (calL exL) S 3 ∧ OutR 3 (calL exL) S out:=out_ex (calL_ok exL)
set_option maxHeartbeats 4000000 in
theorem awake33_w:PCall Try.prog 17 [] [] (fun q _=>q = .bool true):=by
 have hp:=program_on exL (by decide) (by decide)
 obtain ⟨S,out,_,hO⟩:=exL_out
 have hc:=comps_eq exL (by decide) (by decide) (S:=S) (out:=out) hO
 have e:calL exL = [[1,2],[],[1]]:=by decide +kernel
 rw [e] at hO
 rw [example_out hO] at hc
 have k0:∀ args σ,noE.f 20 args σ = none:=fun _ _=>rfl
 have k1:∀ args σ,noE.f 21 args σ = none:=fun _ _=>rfl
 have e1:intss exL = [[.sl [[.int .i64 1],[.int .i64 2]]],[.sl []],[.sl [[.int .i64 1]]]]:=rfl
 have e2:intss [[1],[2],[0]] = [[.sl [[.int .i64 1]]],[.sl [[.int .i64 2]]],[.sl [[.int .i64 0]]]]:=rfl
 rw [e1] at hp
 rw [e2] at hc
 refine PCall.vfrz [] 3 42 [.tmp 0] (noE_ok _) mix Try.func17 rfl (by decide) rfl rfl (by simp) ?_
 simp -dsimp only [initFr,List.zipIdx_cons,List.zipIdx_nil,List.map_cons,List.map_nil,Nat.zero_add,Nat.reduceAdd]
 simp -dsimp (maxSteps:=4000000) +contextual (disch:=first | omega | decide +kernel) only [↓vsD,vsE,↓Nat.reduceLT,simprocAttr,k0]
 refine PCall.mono (hp _) ?_
 rintro p σ' ⟨rfl,rfl⟩
 simp -dsimp (maxSteps:=4000000) +contextual (disch:=first | omega | decide +kernel) only [↓vsD,vsE,↓Nat.reduceLT,simprocAttr,k0,k1]
 refine PCall.mono (hc _) ?_
 rintro p σ' ⟨rfl,rfl⟩
 simp -dsimp (maxSteps:=4000000) +contextual (disch:=first | omega | decide +kernel) only [↓vsD,vsE,↓Nat.reduceLT,simprocAttr,k0,k1]
 exact fin0 (.keep _ (bel_bool _ _)) rfl
theorem awake33_on (σ:Store):PCall Try.prog 17 [] σ (fun p σ'=>p = .bool true ∧ σ' = σ) :=
 PCall.lift awake33_w (by simp) (fun p h=>⟨by rw [h]; exact bel_bool _ _,h,rfl⟩)
end Go.Proofs.Ythginmfobikdgaa
