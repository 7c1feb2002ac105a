import Derived.Test.YthjoehaglonjaaaDrA
set_option maxRecDepth 8000
set_option linter.unusedSimpArgs false
set_option linter.unusedVariables false
namespace Go.Proofs.Ythjoehaglonjaaa
open Go.PV
def intTbl:List Int:=[9223372036854775807,-9223372036854775808,1048576,1048577,65535,65536,255,256,250,249,1099511627776,1099511627777,4294967296,1073741824,128,127]
def intC (l:List Int) (k:Nat):Int × Nat :=
 let a:=nxt l k 10
 if a.1 = 0 then (-1 - (nxt l a.2 3).1,(nxt l a.2 3).2)
 else if a.1 = 1 then (intTbl.getD (nxt l a.2 16).1.toNat 0,(nxt l a.2 16).2)
 else if a.1 = 2 then (256 * (nxt l a.2 256).1 + (nxt l (nxt l a.2 256).2 256).1,(nxt l (nxt l a.2 256).2 256).2)
 else nxt l a.2 40
theorem intTbl_in {i:Nat} (h:i < 16):-9223372036854775808 ≤ intTbl.getD i 0 ∧ intTbl.getD i 0 ≤ 9223372036854775807:=by
 have:∀ i < 16,-9223372036854775808 ≤ intTbl.getD i 0 ∧ intTbl.getD i 0 ≤ 9223372036854775807:=by decide
 exact this i h
theorem intC_le {l:List Int} {k:Nat} (hk:k ≤ l.length):(intC l k).2 ≤ l.length:=by
 have h1:=nxt_le hk 10
 simp only [intC]
 split
 ·exact nxt_le h1 _
 ·split
  ·exact nxt_le h1 _
  ·split
   ·exact nxt_le (nxt_le h1 _) _
   ·exact nxt_le h1 _
theorem intC_in {l:List Int} (h:okInts .u8 l) (k:Nat):-9223372036854775808 ≤ (intC l k).1 ∧ (intC l k).1 ≤ 9223372036854775807:=by
 have a3:=nxt_lt h (nxt l k 10).2 3 (by omega)
 have a16:=nxt_lt h (nxt l k 10).2 16 (by omega)
 have a256:=nxt_lt h (nxt l k 10).2 256 (by omega)
 have b256:=nxt_lt h (nxt l (nxt l k 10).2 256).2 256 (by omega)
 have a40:=nxt_lt h (nxt l k 10).2 40 (by omega)
 simp only [intC]
 split
 ·simp only; omega
 ·split
  ·exact intTbl_in (by omega)
  ·split
   ·simp only; omega
   ·omega
set_option maxHeartbeats 8000000 in
theorem int_ok (l:List Int) (k:Nat) (hl:okInts .u8 l) (hll:l.length < 2 ^ 40) (hk:k ≤ l.length) :
  PCall Try.prog 35 [.ptr 0 0 0 0] [codes l k] (fun p σ'=>p = .int .i64 (intC l k).1 ∧ σ' = [codes l (intC l k).2]):=by
 have r0:=nxt_lt hl k 10 (by omega)
 have h0:=nxt_le hk 10
 obtain ⟨a,ha⟩:∃ a,a = nxt l k 10:=⟨_,rfl⟩
 rw [← ha] at r0 h0
 have a3:=nxt_lt hl a.2 3 (by omega)
 have a16:=nxt_lt hl a.2 16 (by omega)
 have a256:=nxt_lt hl a.2 256 (by omega)
 have b256:=nxt_lt hl (nxt l a.2 256).2 256 (by omega)
 have c256:=nxt_le h0 256
 refine PCall.vfrz [] 132151 27 [.tmp 2] nx_ok mix Try.func35 rfl (by decide) rfl rfl (by simp) ?_
 simp -dsimp only [initFr,List.zipIdx_cons,List.zipIdx_nil,List.map_cons,List.map_nil,Nat.zero_add,Nat.reduceAdd]
 have hT:([[PV.int .i64 9223372036854775807],[PV.int .i64 (-9223372036854775808)],[PV.int .i64 1048576],[PV.int .i64 1048577],[PV.int .i64 65535],[PV.int .i64 65536],[PV.int .i64 255],[PV.int .i64 256],[PV.int .i64 250],[PV.int .i64 249],[PV.int .i64 1099511627776],[PV.int .i64 1099511627777],[PV.int .i64 4294967296],[PV.int .i64 1073741824],[PV.int .i64 128],[PV.int .i64 127]]:List (List PV)) = encI .i64 intTbl:=rfl
 have hT2:intTbl.length = 16:=rfl
 have e:∀ v k',intC l k = (v,k') → Go.PV.Fin [codes l k] (fun p σ'=>p = .int .i64 (intC l k).1 ∧ σ' = [codes l (intC l k).2]) (.int .i64 v) [codes l k']:=fun v k' h =>
  fin1 (.keep _ (bel_int _ _ _)) (codes_bel _ _ _) (by rw [h]; exact ⟨rfl,rfl⟩)
 simp -dsimp (maxSteps:=4000000) +contextual (disch:=first | omega | decide +kernel) only [↓vsD,vsE,↓Nat.reduceLT,simprocAttr,nx_next,exNextO_codes,hl,← ha]
 simp -dsimp (maxSteps:=4000000) +contextual (disch:=first | omega | decide +kernel) only [↓vsD,vsE,↓Nat.reduceLT,simprocAttr,nx_next,exNextO_codes,hT,hT2]
 refine ⟨fun h=>e _ _ (by simp only [intC,← ha]; rw [if_pos h]),fun h=>⟨fun h1=>e _ _ (by simp only [intC,← ha]; rw [if_neg h,if_pos h1]),fun h1=>⟨fun h2=>e _ _ (by simp only [intC,← ha]; rw [if_neg h,if_neg h1,if_pos h2]),fun h2=>e _ _ (by simp only [intC,← ha]; rw [if_neg h,if_neg h1,if_neg h2])⟩⟩⟩
end Go.Proofs.Ythjoehaglonjaaa
