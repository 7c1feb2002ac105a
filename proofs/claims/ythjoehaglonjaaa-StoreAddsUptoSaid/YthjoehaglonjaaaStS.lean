import Derived.Test.YthjoehaglonjaaaStK
set_option maxRecDepth 8000
set_option linter.unusedSimpArgs false
set_option linter.unusedVariables false
namespace Go.Proofs.Ythjoehaglonjaaa
open Go.PV Go.RowKit
theorem slcId:isSlcT Try.prog 24 = true:=by kernel_rfl
set_option maxHeartbeats 4000000 in
theorem cloneId_some (r:List PV) (rows:List (List PV)) (hl:rows.length ≤ 3000000) (hn:newsOk Try.prog 58 (r :: rows) = true) (σ:Store):PCall Try.prog 87 [.sl (r :: rows)] σ (fun p σ'=>p = .msl σ.length 1 ∧ σ' = σ ++ [.rows 58 3 (r :: rows) 1]):=by
 refine PCall.vraw [5] 23 8 [.tmp 2] (noE_ok _) mix Try.func87 rfl (by decide) rfl rfl (by simp) ?_
 simp -dsimp only [initFr,List.zipIdx_cons,List.zipIdx_nil,List.map_cons,List.map_nil,Nat.zero_add,Nat.reduceAdd]
 simp -dsimp (maxSteps:=4000000) +contextual (disch:=first | omega | decide +kernel) only [↓vsD,vsE,↓Nat.reduceLT,simprocAttr,slcId,vgap,bytesK,lenK,Bool.or_false,Bool.true_or,hn]
set_option maxRecDepth 100000 in
set_option maxHeartbeats 2000000 in
theorem cloneId_calls (a:Option Addr) (c:Nat) (w:World):Calls Try.prog 87 #[.slice a 0 c] w fun x w'=>∃ a c,x = .returned (.slice a 0 c) ∧ Below w.heap.size w w':=by
 refine calls_of_wp Try.func87 rfl ?_
 simp only [Try.ntmps87,List.size_toArray,List.length_cons,List.length_nil,Nat.reduceAdd,Nat.reduceSub,Array.replicate_succ,Array.replicate_zero,List.push_toArray,List.append_toArray,List.nil_append,List.cons_append]
 have hu:Try.prog.underlying 24 = some (.slice 58):=by kernel_rfl
 have q:∀ (w:World) (a:Option Addr) (n c n' c':Nat),(binOp .eql 24 (.slice a n c) (.slice none n' c')).run Try.prog w = .ok (.bool a.isNone) w:=fun w a n c n' c'=>Go.Lib.run_eql_slice_nil w _ _ a n c n' c' hu
 have u:∀ w,Sem.run Try.prog (underlying 24) w = .ok (TypeDesc.slice 58) w:=run_underlying hu
 cases a with
 | none =>
  go_wp2
  go_ret
  exact ⟨none,0,rfl,Below.refl _ _⟩
 | some ad =>
  go_wp2
  go_ret
  exact ⟨_,_,rfl,(Below.refl _ w).alloc (Nat.le_refl _) _⟩
theorem cloneId_none (σ:Store):PCall Try.prog 87 [.sl []] σ (fun p σ'=>p = .sl [] ∧ σ' = σ):=by
 refine PCall.ofNone (by kernel_rfl) (fun I ρ w vs hinv ha=>?_)
 obtain ⟨a,c,rfl⟩:=args_none ha
 exact cloneId_calls a c w
theorem slcFc:isSlcT Try.prog 28 = true:=by kernel_rfl
set_option maxHeartbeats 4000000 in
theorem cloneFc_some (r:List PV) (rows:List (List PV)) (hl:rows.length ≤ 3000000) (hn:newsOk Try.prog 66 (r :: rows) = true) (σ:Store):PCall Try.prog 112 [.sl (r :: rows)] σ (fun p σ'=>p = .msl σ.length 1 ∧ σ' = σ ++ [.rows 66 4 (r :: rows) 1]):=by
 refine PCall.vraw [5] 23 8 [.tmp 2] (noE_ok _) mix Try.func112 rfl (by decide) rfl rfl (by simp) ?_
 simp -dsimp only [initFr,List.zipIdx_cons,List.zipIdx_nil,List.map_cons,List.map_nil,Nat.zero_add,Nat.reduceAdd]
 simp -dsimp (maxSteps:=4000000) +contextual (disch:=first | omega | decide +kernel) only [↓vsD,vsE,↓Nat.reduceLT,simprocAttr,slcFc,vgap,bytesK,lenK,Bool.or_false,Bool.true_or,hn]
set_option maxRecDepth 100000 in
set_option maxHeartbeats 2000000 in
theorem cloneFc_calls (a:Option Addr) (c:Nat) (w:World):Calls Try.prog 112 #[.slice a 0 c] w fun x w'=>∃ a c,x = .returned (.slice a 0 c) ∧ Below w.heap.size w w':=by
 refine calls_of_wp Try.func112 rfl ?_
 simp only [Try.ntmps112,List.size_toArray,List.length_cons,List.length_nil,Nat.reduceAdd,Nat.reduceSub,Array.replicate_succ,Array.replicate_zero,List.push_toArray,List.append_toArray,List.nil_append,List.cons_append]
 have hu:Try.prog.underlying 28 = some (.slice 66):=by kernel_rfl
 have q:∀ (w:World) (a:Option Addr) (n c n' c':Nat),(binOp .eql 28 (.slice a n c) (.slice none n' c')).run Try.prog w = .ok (.bool a.isNone) w:=fun w a n c n' c'=>Go.Lib.run_eql_slice_nil w _ _ a n c n' c' hu
 have u:∀ w,Sem.run Try.prog (underlying 28) w = .ok (TypeDesc.slice 66) w:=run_underlying hu
 cases a with
 | none =>
  go_wp2
  go_ret
  exact ⟨none,0,rfl,Below.refl _ _⟩
 | some ad =>
  go_wp2
  go_ret
  exact ⟨_,_,rfl,(Below.refl _ w).alloc (Nat.le_refl _) _⟩
theorem cloneFc_none (σ:Store):PCall Try.prog 112 [.sl []] σ (fun p σ'=>p = .sl [] ∧ σ' = σ):=by
 refine PCall.ofNone (by kernel_rfl) (fun I ρ w vs hinv ha=>?_)
 obtain ⟨a,c,rfl⟩:=args_none ha
 exact cloneFc_calls a c w
theorem slcIn:isSlcT Try.prog 55 = true:=by kernel_rfl
set_option maxHeartbeats 4000000 in
theorem cloneIn_some (r:List PV) (rows:List (List PV)) (hl:rows.length ≤ 3000000) (hn:newsOk Try.prog 3 (r :: rows) = true) (σ:Store):PCall Try.prog 100 [.sl (r :: rows)] σ (fun p σ'=>p = .msl σ.length 1 ∧ σ' = σ ++ [.rows 3 1 (r :: rows) 1]):=by
 refine PCall.vraw [5] 23 8 [.tmp 2] (noE_ok _) mix Try.func100 rfl (by decide) rfl rfl (by simp) ?_
 simp -dsimp only [initFr,List.zipIdx_cons,List.zipIdx_nil,List.map_cons,List.map_nil,Nat.zero_add,Nat.reduceAdd]
 simp -dsimp (maxSteps:=4000000) +contextual (disch:=first | omega | decide +kernel) only [↓vsD,vsE,↓Nat.reduceLT,simprocAttr,slcIn,vgap,bytesK,lenK,Bool.or_false,Bool.true_or,hn]
set_option maxRecDepth 100000 in
set_option maxHeartbeats 2000000 in
theorem cloneIn_calls (a:Option Addr) (c:Nat) (w:World):Calls Try.prog 100 #[.slice a 0 c] w fun x w'=>∃ a c,x = .returned (.slice a 0 c) ∧ Below w.heap.size w w':=by
 refine calls_of_wp Try.func100 rfl ?_
 simp only [Try.ntmps100,List.size_toArray,List.length_cons,List.length_nil,Nat.reduceAdd,Nat.reduceSub,Array.replicate_succ,Array.replicate_zero,List.push_toArray,List.append_toArray,List.nil_append,List.cons_append]
 have hu:Try.prog.underlying 55 = some (.slice 3):=by kernel_rfl
 have q:∀ (w:World) (a:Option Addr) (n c n' c':Nat),(binOp .eql 55 (.slice a n c) (.slice none n' c')).run Try.prog w = .ok (.bool a.isNone) w:=fun w a n c n' c'=>Go.Lib.run_eql_slice_nil w _ _ a n c n' c' hu
 have u:∀ w,Sem.run Try.prog (underlying 55) w = .ok (TypeDesc.slice 3) w:=run_underlying hu
 cases a with
 | none =>
  go_wp2
  go_ret
  exact ⟨none,0,rfl,Below.refl _ _⟩
 | some ad =>
  go_wp2
  go_ret
  exact ⟨_,_,rfl,(Below.refl _ w).alloc (Nat.le_refl _) _⟩
theorem cloneIn_none (σ:Store):PCall Try.prog 100 [.sl []] σ (fun p σ'=>p = .sl [] ∧ σ' = σ):=by
 refine PCall.ofNone (by kernel_rfl) (fun I ρ w vs hinv ha=>?_)
 obtain ⟨a,c,rfl⟩:=args_none ha
 exact cloneIn_calls a c w
theorem slcP2:isSlcT Try.prog 63 = true:=by kernel_rfl
set_option maxHeartbeats 4000000 in
theorem cloneP2_some (r:List PV) (rows:List (List PV)) (hl:rows.length ≤ 3000000) (hn:newsOk Try.prog 80 (r :: rows) = true) (σ:Store):PCall Try.prog 113 [.sl (r :: rows)] σ (fun p σ'=>p = .msl σ.length 1 ∧ σ' = σ ++ [.rows 80 2 (r :: rows) 1]):=by
 refine PCall.vraw [5] 23 8 [.tmp 2] (noE_ok _) mix Try.func113 rfl (by decide) rfl rfl (by simp) ?_
 simp -dsimp only [initFr,List.zipIdx_cons,List.zipIdx_nil,List.map_cons,List.map_nil,Nat.zero_add,Nat.reduceAdd]
 simp -dsimp (maxSteps:=4000000) +contextual (disch:=first | omega | decide +kernel) only [↓vsD,vsE,↓Nat.reduceLT,simprocAttr,slcP2,vgap,bytesK,lenK,Bool.or_false,Bool.true_or,hn]
set_option maxRecDepth 100000 in
set_option maxHeartbeats 2000000 in
theorem cloneP2_calls (a:Option Addr) (c:Nat) (w:World):Calls Try.prog 113 #[.slice a 0 c] w fun x w'=>∃ a c,x = .returned (.slice a 0 c) ∧ Below w.heap.size w w':=by
 refine calls_of_wp Try.func113 rfl ?_
 simp only [Try.ntmps113,List.size_toArray,List.length_cons,List.length_nil,Nat.reduceAdd,Nat.reduceSub,Array.replicate_succ,Array.replicate_zero,List.push_toArray,List.append_toArray,List.nil_append,List.cons_append]
 have hu:Try.prog.underlying 63 = some (.slice 80):=by kernel_rfl
 have q:∀ (w:World) (a:Option Addr) (n c n' c':Nat),(binOp .eql 63 (.slice a n c) (.slice none n' c')).run Try.prog w = .ok (.bool a.isNone) w:=fun w a n c n' c'=>Go.Lib.run_eql_slice_nil w _ _ a n c n' c' hu
 have u:∀ w,Sem.run Try.prog (underlying 63) w = .ok (TypeDesc.slice 80) w:=run_underlying hu
 cases a with
 | none =>
  go_wp2
  go_ret
  exact ⟨none,0,rfl,Below.refl _ _⟩
 | some ad =>
  go_wp2
  go_ret
  exact ⟨_,_,rfl,(Below.refl _ w).alloc (Nat.le_refl _) _⟩
theorem cloneP2_none (σ:Store):PCall Try.prog 113 [.sl []] σ (fun p σ'=>p = .sl [] ∧ σ' = σ):=by
 refine PCall.ofNone (by kernel_rfl) (fun I ρ w vs hinv ha=>?_)
 obtain ⟨a,c,rfl⟩:=args_none ha
 exact cloneP2_calls a c w
theorem slcSi:isSlcT Try.prog 64 = true:=by kernel_rfl
set_option maxHeartbeats 4000000 in
theorem cloneSi_some (r:List PV) (rows:List (List PV)) (hl:rows.length ≤ 3000000) (hn:newsOk Try.prog 91 (r :: rows) = true) (σ:Store):PCall Try.prog 114 [.sl (r :: rows)] σ (fun p σ'=>p = .msl σ.length 1 ∧ σ' = σ ++ [.rows 91 3 (r :: rows) 1]):=by
 refine PCall.vraw [5] 23 8 [.tmp 2] (noE_ok _) mix Try.func114 rfl (by decide) rfl rfl (by simp) ?_
 simp -dsimp only [initFr,List.zipIdx_cons,List.zipIdx_nil,List.map_cons,List.map_nil,Nat.zero_add,Nat.reduceAdd]
 simp -dsimp (maxSteps:=4000000) +contextual (disch:=first | omega | decide +kernel) only [↓vsD,vsE,↓Nat.reduceLT,simprocAttr,slcSi,vgap,bytesK,lenK,Bool.or_false,Bool.true_or,hn]
theorem slcTg:isSlcT Try.prog 89 = true:=by kernel_rfl
set_option maxHeartbeats 4000000 in
theorem cloneTg_some (r:List PV) (rows:List (List PV)) (hl:rows.length ≤ 3000000) (hn:newsOk Try.prog 88 (r :: rows) = true) (σ:Store):PCall Try.prog 115 [.sl (r :: rows)] σ (fun p σ'=>p = .msl σ.length 1 ∧ σ' = σ ++ [.rows 88 2 (r :: rows) 1]):=by
 refine PCall.vraw [5] 23 8 [.tmp 2] (noE_ok _) mix Try.func115 rfl (by decide) rfl rfl (by simp) ?_
 simp -dsimp only [initFr,List.zipIdx_cons,List.zipIdx_nil,List.map_cons,List.map_nil,Nat.zero_add,Nat.reduceAdd]
 simp -dsimp (maxSteps:=4000000) +contextual (disch:=first | omega | decide +kernel) only [↓vsD,vsE,↓Nat.reduceLT,simprocAttr,slcTg,vgap,bytesK,lenK,Bool.or_false,Bool.true_or,hn]
theorem newsI (l:List Int):newsOk Try.prog 3 (ints l) = true:=by
 show newsOk _ _ (List.map _ _) = true
 simp [newsOk,PV.cell,tyC]
theorem newsP2 (l:List (Int × Int)):newsOk Try.prog 80 (encT l) = true:=by
 show newsOk _ _ (List.map _ _) = true
 simp [newsOk,PV.cell,tyC]
theorem frz_fc {Q:Store} {ent:Int} {bs:List Int} {es:List (Int × Int)} {ss:List Site} {A B C:PV} (hA:Frz 0 Q A (.sl (ints bs))) (hB:Frz 0 Q B (.sl (encT es))) (hC:Frz 0 Q C (.sl (encS ss))) :
  Frz 0 Q (.agg [.int .i64 ent,A,B,C]) (.agg [.int .i64 ent,.sl (ints bs),.sl (encT es),.sl (encS ss)]):=by
 refine .agg _ _ rfl (fun j p hj=>?_)
 match j,hj with
 | 0,hj=>simp at hj; subst hj; exact .keep _ (bel_int _ _ _)
 | 1,hj=>simp at hj; subst hj; exact hA
 | 2,hj=>simp at hj; subst hj; exact hB
 | 3,hj=>simp at hj; subst hj; exact hC
 | j + 4,hj=>simp at hj
set_option maxHeartbeats 8000000 in
theorem copy25_w (x:FC) (h1:x.blocks.length ≤ 1100000) (h2:x.edges.length ≤ 1100000) (hl:x.sites.length ≤ 1100000) (ht:∀ s ∈ x.sites,s.tg.length ≤ 1100000) :
  PCall Try.prog 88 [.agg x.row] [] (fun q _=>q = .agg x.row):=by
 obtain ⟨ent,bs,es,ss⟩:=x
 dsimp only at h1 h2 hl ht
 have k0:∀ args σ,noE.f 116 args σ = none:=fun _ _=>rfl
 simp only [FC.row]
 refine PCall.vfrz [] 7 15 [.cell 2 66] (noE_ok _) mix Try.func88 rfl (by decide) rfl rfl (by simp) ?_
 simp -dsimp only [initFr,List.zipIdx_cons,List.zipIdx_nil,List.map_cons,List.map_nil,Nat.zero_add,Nat.reduceAdd]
 have hc:=csites_on ss hl ht
 have e0:ints [] = []:=rfl
 have e1:encT [] = []:=rfl
 have e2:∀ b l,ints (b :: l) = [.int .i64 b] :: ints l:=fun _ _=>rfl
 have e3:∀ (t:Int × Int) l,encT (t :: l) = [.int .i64 t.1,.int .i64 t.2] :: encT l:=fun _ _=>rfl
 have nI:∀ b l,newsOk Try.prog 3 ([.int .i64 b] :: ints l) = true:=fun b l=>newsI (b :: l)
 have nP:∀ (t:Int × Int) l,newsOk Try.prog 80 ([.int .i64 t.1,.int .i64 t.2] :: encT l) = true:=fun b l=>newsP2 (b :: l)
 have eI:∀ l,(ints l).length = l.length:=fun l=>enc_length _ _
 have eP:∀ l,(encT l).length = l.length:=encT_length
 cases bs with
 | nil =>
  cases es with
  | nil =>
   rw [e0,e1]
   simp -dsimp (maxSteps:=4000000) +contextual (disch:=first | omega | decide +kernel) only [↓vsD,vsE,↓Nat.reduceLT,simprocAttr,k0]
   refine v_draws _ _ _ _ _ _ [4,7,10,12] [] [(0,3),(0,3),(0,0),(0,0),(0,0),(0,1),(0,1),(0,0),(0,2),(0,2),(0,0),(3,3),(0,0)] (by decide +kernel) (by decide +kernel) (by decide +kernel) (by decide +kernel) ?_
   simp -dsimp (maxSteps:=4000000) +contextual (disch:=first | omega | decide +kernel) only [↓vsD,vsE,↓Nat.reduceLT,simprocAttr,vdA,↓vd_end,↓vdm_go,↓vd_op,↓guard_none,↓guard_some,k0,bytesK,lenK,newsI,newsP2,nI,nP,List.length_cons,eI,eP,vgap]
   refine ⟨_,_,hc _,by simp [rowsAt,outR],?_⟩
   simp -dsimp (maxSteps:=4000000) +contextual (disch:=first | omega | decide +kernel) only [↓vsD,vsE,↓Nat.reduceLT,simprocAttr,vdA,↓vd_end,↓vdm_go,↓vd_op,↓guard_none,↓guard_some,vcel,bytesK,lenK,newsI,newsP2,nI,nP,eI,eP,vgap]
   exact fin0 (frz_fc (bs:=[]) (es:=[]) .nils .nils (.keep _ (bel_sites _ _))) rfl
  | cons e es =>
   rw [List.length_cons] at h2
   rw [e0,e3]
   simp -dsimp (maxSteps:=4000000) +contextual (disch:=first | omega | decide +kernel) only [↓vsD,vsE,↓Nat.reduceLT,simprocAttr,k0]
   refine v_draws _ _ _ _ _ _ [4,7,10,12] [] [(0,3),(0,3),(0,0),(0,0),(0,0),(0,1),(0,1),(0,0),(0,2),(0,2),(0,0),(3,3),(0,0)] (by decide +kernel) (by decide +kernel) (by decide +kernel) (by decide +kernel) ?_
   simp -dsimp (maxSteps:=4000000) +contextual (disch:=first | omega | decide +kernel) only [↓vsD,vsE,↓Nat.reduceLT,simprocAttr,vdA,↓vd_end,↓vdm_go,↓vd_op,↓guard_none,↓guard_some,k0,bytesK,lenK,newsI,newsP2,nI,nP,List.length_cons,eI,eP,vgap]
   refine ⟨_,_,hc _,by simp [rowsAt,outR],?_⟩
   simp -dsimp (maxSteps:=4000000) +contextual (disch:=first | omega | decide +kernel) only [↓vsD,vsE,↓Nat.reduceLT,simprocAttr,vdA,↓vd_end,↓vdm_go,↓vd_op,↓guard_none,↓guard_some,vcel,bytesK,lenK,newsI,newsP2,nI,nP,eI,eP,vgap]
   exact fin0 (frz_fc (bs:=[]) (es:=e :: es) .nils (Frz.msl0 (Nat.zero_le _) rfl (encT_bel _ (e :: es))) (.keep _ (bel_sites _ _))) rfl
 | cons b bs =>
  rw [List.length_cons] at h1
  cases es with
  | nil =>
   rw [e2,e1]
   simp -dsimp (maxSteps:=4000000) +contextual (disch:=first | omega | decide +kernel) only [↓vsD,vsE,↓Nat.reduceLT,simprocAttr,k0]
   refine v_draws _ _ _ _ _ _ [4,7,10,12] [] [(0,3),(0,3),(0,0),(0,0),(0,0),(0,1),(0,1),(0,0),(0,2),(0,2),(0,0),(3,3),(0,0)] (by decide +kernel) (by decide +kernel) (by decide +kernel) (by decide +kernel) ?_
   simp -dsimp (maxSteps:=4000000) +contextual (disch:=first | omega | decide +kernel) only [↓vsD,vsE,↓Nat.reduceLT,simprocAttr,vdA,↓vd_end,↓vdm_go,↓vd_op,↓guard_none,↓guard_some,k0,bytesK,lenK,newsI,newsP2,nI,nP,List.length_cons,eI,eP,vgap]
   refine ⟨_,_,hc _,by simp [rowsAt,outR],?_⟩
   simp -dsimp (maxSteps:=4000000) +contextual (disch:=first | omega | decide +kernel) only [↓vsD,vsE,↓Nat.reduceLT,simprocAttr,vdA,↓vd_end,↓vdm_go,↓vd_op,↓guard_none,↓guard_some,vcel,bytesK,lenK,newsI,newsP2,nI,nP,eI,eP,vgap]
   exact fin0 (frz_fc (bs:=b :: bs) (es:=[]) (Frz.msl0 (Nat.zero_le _) rfl (enc_bel _ _ (b :: bs))) .nils (.keep _ (bel_sites _ _))) rfl
  | cons e es =>
   rw [List.length_cons] at h2
   rw [e2,e3]
   simp -dsimp (maxSteps:=4000000) +contextual (disch:=first | omega | decide +kernel) only [↓vsD,vsE,↓Nat.reduceLT,simprocAttr,k0]
   refine v_draws _ _ _ _ _ _ [4,7,10,12] [] [(0,3),(0,3),(0,0),(0,0),(0,0),(0,1),(0,1),(0,0),(0,2),(0,2),(0,0),(3,3),(0,0)] (by decide +kernel) (by decide +kernel) (by decide +kernel) (by decide +kernel) ?_
   simp -dsimp (maxSteps:=4000000) +contextual (disch:=first | omega | decide +kernel) only [↓vsD,vsE,↓Nat.reduceLT,simprocAttr,vdA,↓vd_end,↓vdm_go,↓vd_op,↓guard_none,↓guard_some,k0,bytesK,lenK,newsI,newsP2,nI,nP,List.length_cons,eI,eP,vgap]
   refine ⟨_,_,hc _,by simp [rowsAt,outR],?_⟩
   simp -dsimp (maxSteps:=4000000) +contextual (disch:=first | omega | decide +kernel) only [↓vsD,vsE,↓Nat.reduceLT,simprocAttr,vdA,↓vd_end,↓vdm_go,↓vd_op,↓guard_none,↓guard_some,vcel,bytesK,lenK,newsI,newsP2,nI,nP,eI,eP,vgap]
   exact fin0 (frz_fc (bs:=b :: bs) (es:=e :: es) (Frz.msl0 (Nat.zero_le _) rfl (enc_bel _ _ (b :: bs))) (Frz.msl0 (Nat.zero_le _) rfl (encT_bel _ (e :: es))) (.keep _ (bel_sites _ _))) rfl
theorem copy25_on (x:FC) (h1:x.blocks.length ≤ 1100000) (h2:x.edges.length ≤ 1100000) (hl:x.sites.length ≤ 1100000) (ht:∀ s ∈ x.sites,s.tg.length ≤ 1100000) (σ:Store) :
  PCall Try.prog 88 [.agg x.row] σ (fun q τ=>q = .agg x.row ∧ τ = σ) :=
 PCall.lift (copy25_w x h1 h2 hl ht) (bel1 (bel_fc _ x)) (fun q h=>⟨by rw [h]; exact bel_fc _ _,h,rfl⟩)
def SmC (x:FC):Prop:=x.blocks.length ≤ 1100000 ∧ x.edges.length ≤ 1100000 ∧ x.sites.length ≤ 1100000 ∧ ∀ s ∈ x.sites,s.tg.length ≤ 1100000
def stC (p:Pc):Nat → Store
 | 0=>[.rows 32 5 [p.row] 0,.rows 32 5 [[.int .i64 0,.int .i64 0,.int .i64 0,.int .u64 0,.nils]] 0,.rows 30 1 [[.nils]] 0]
 | j + 1=>[.rows 32 5 [p.row] 0,.rows 32 5 [[.int .i64 0,.int .i64 0,.int .i64 0,.int .u64 0,.nils]] 0,.rows 30 1 [[.msl 3 j]] 0,.rows 66 4 (encF (p.fs.take (j + 1))) j]
theorem newsF (x:FC):newsOk Try.prog 66 [x.row] = true:=by
 simp [newsOk,PV.cell,tyC,FC.row]
theorem frz_pc {Q:Store} {a b c d:Int} {fs:List FC} {A:PV} (hA:Frz 0 Q A (.sl (encF fs))) :
  Frz 0 Q (.agg [.int .i64 a,.int .i64 b,.int .i64 c,.int .u64 d,A]) (.agg [.int .i64 a,.int .i64 b,.int .i64 c,.int .u64 d,.sl (encF fs)]):=by
 refine .agg _ _ rfl (fun j p hj=>?_)
 match j,hj with
 | 0,hj=>simp at hj; subst hj; exact .keep _ (bel_int _ _ _)
 | 1,hj=>simp at hj; subst hj; exact .keep _ (bel_int _ _ _)
 | 2,hj=>simp at hj; subst hj; exact .keep _ (bel_int _ _ _)
 | 3,hj=>simp at hj; subst hj; exact .keep _ (bel_int _ _ _)
 | 4,hj=>simp at hj; subst hj; exact hA
 | j + 5,hj=>simp at hj
set_option maxHeartbeats 8000000 in
theorem copied31_w (p:Pc) (hl:p.fs.length ≤ 1100000) (hx:∀ x ∈ p.fs,SmC x) :
  PCall Try.prog 58 [.agg p.row] [] (fun q _=>q = .agg p.row):=by
 have k0:∀ args σ,noE.f 88 args σ = none:=fun _ _=>rfl
 have eF:(encF p.fs).length = p.fs.length:=encF_length _
 have er:p.row = [.int .i64 p.id.1,.int .i64 p.id.2.1,.int .i64 p.id.2.2,.int .u64 p.dig,.sl (encF p.fs)]:=rfl
 rw [er]
 refine PCall.vfrz [] 1055 28 [.cell 2 32] (noE_ok _) mix Try.func58 rfl (by decide) rfl rfl (by simp) ?_
 simp -dsimp only [initFr,List.zipIdx_cons,List.zipIdx_nil,List.map_cons,List.map_nil,Nat.zero_add,Nat.reduceAdd]
 simp -dsimp (maxSteps:=4000000) +contextual (disch:=first | omega | decide +kernel) only [↓vsD,vsE,↓Nat.reduceLT,simprocAttr]
 refine v_loopS (fun k:Nat=>[(1,.ptr 0 0 0 0),(2,.ptr 1 0 0 0),(3,.ptr 2 0 0 0),(4,.int .i64 k)]) (stC p) (fun k=>k ≤ p.fs.length) (fun k=>p.fs.length - k) 0 (by simp [weaker,Go.PV.look]) rfl (by omega) ?_
 intro k hk
 by_cases hkl:k < p.fs.length
 ·have hrow:=encF_getD p.fs k hkl
  have hs:=hx _ (gtD (d:=default) hkl)
  have e1:=take_succD p.fs k hkl
  obtain ⟨x,hxe⟩:∃ x,x = p.fs.getD k default:=⟨_,rfl⟩
  rw [← hxe] at hrow hs e1
  have hn:=newsF x
  have hcp:=copy25_on x hs.1 hs.2.1 hs.2.2.1 hs.2.2.2
  rw [FC.row] at hn hcp
  have hmx:encF (p.fs.take k) ++ [[.int .i64 x.ent,.sl (ints x.blocks),.sl (encT x.edges),.sl (encS x.sites)]] = encF (p.fs.take (k + 1)):=by rw [e1]; simp [encF,FC.row]
  have hlk:(encF (p.fs.take k)).length = k:=by rw [encF_length,List.length_take]; omega
  cases k with
  | zero =>
   simp -dsimp only [stC,er]
   simp -dsimp (maxSteps:=4000000) +contextual (disch:=first | omega | decide +kernel) only [↓vsD,vsE,↓Nat.reduceLT,simprocAttr,eF,hrow,k0]
   refine v_draws _ _ _ _ _ _ [8,10,12] [] [(0,1),(0,1),(0,0),(0,0),(0,0),(0,0),(0,0),(0,0),(0,0),(1,1),(0,0),(2,2),(0,0)] (by decide +kernel) (by decide +kernel) (by decide +kernel) (by decide +kernel) ?_
   simp -dsimp (maxSteps:=4000000) +contextual (disch:=first | omega | decide +kernel) only [↓vsD,vsE,↓Nat.reduceLT,simprocAttr,vdA,↓vd_end,↓vdm_go,↓vd_op,↓guard_none,↓guard_some,eF,hrow,k0]
   refine ⟨_,_,hcp _,by simp [rowsAt,outR],?_⟩
   simp -dsimp (maxSteps:=4000000) +contextual (disch:=first | omega | decide +kernel) only [↓vsD,vsE,↓Nat.reduceLT,simprocAttr,vdA,↓vd_end,↓vdm_go,↓vd_op,↓guard_none,↓guard_some,vcel,hn,bytesK,lenK]
   refine ⟨1,(by (try dsimp only); omega),by simp [weaker,Go.PV.look],?_,hkl⟩
   show _ = stC p (0 + 1)
   rw [stC,← hmx,er]; rfl
  | succ j =>
   simp -dsimp only [stC,er]
   simp -dsimp (maxSteps:=4000000) +contextual (disch:=first | omega | decide +kernel) only [↓vsD,vsE,↓Nat.reduceLT,simprocAttr,eF,hrow,k0]
   refine v_draws _ _ _ _ _ _ [8,10,12] [] [(0,1),(0,1),(0,0),(0,0),(0,0),(0,0),(0,0),(0,0),(0,0),(1,1),(0,0),(2,2),(0,0)] (by decide +kernel) (by decide +kernel) (by decide +kernel) (by decide +kernel) ?_
   simp -dsimp (maxSteps:=4000000) +contextual (disch:=first | omega | decide +kernel) only [↓vsD,vsE,↓Nat.reduceLT,simprocAttr,vdA,↓vd_end,↓vdm_go,↓vd_op,↓guard_none,↓guard_some,eF,hrow,k0]
   refine ⟨_,_,hcp _,by simp [rowsAt,outR],?_⟩
   simp -dsimp (maxSteps:=4000000) +contextual (disch:=first | omega | decide +kernel) only [↓vsD,vsE,↓Nat.reduceLT,simprocAttr,vdA,↓vd_end,↓vdm_go,↓vd_op,↓guard_none,↓guard_some,vcel,hn,bytesK,lenK,hlk]
   refine ⟨j + 1 + 1,(by (try dsimp only); omega),by simp [weaker,Go.PV.look] <;> omega,?_,hkl⟩
   rw [hmx]; show _ = stC p (j + 1 + 1)
   rw [stC,er]
 ·obtain rfl:k = p.fs.length:=by omega
  cases hk0:p.fs with
  | nil =>
   simp -dsimp only [stC,er,hk0,List.length_nil]
   have e0:encF [] = []:=rfl
   simp -dsimp (maxSteps:=4000000) +contextual (disch:=first | omega | decide +kernel) only [↓vsD,vsE,↓Nat.reduceLT,simprocAttr,vcel,e0]
   exact fin0 (frz_pc (fs:=[]) .nils) rfl
  | cons x l =>
   simp -dsimp only [stC,er,hk0,List.length_cons]
   rw [hk0] at eF
   simp -dsimp (maxSteps:=4000000) +contextual (disch:=first | omega | decide +kernel) only [↓vsD,vsE,↓Nat.reduceLT,simprocAttr,vcel,eF]
   exact fin0 (frz_pc (fs:=x :: l) (Frz.msl0 (elem:=66) (sz:=4) (rows:=encF (x :: l)) (Nat.zero_le _) (by simp) (encF_bel _ _))) rfl
theorem copied31_on (p:Pc) (hl:p.fs.length ≤ 1100000) (hx:∀ x ∈ p.fs,SmC x) (σ:Store) :
  PCall Try.prog 58 [.agg p.row] σ (fun q τ=>q = .agg p.row ∧ τ = σ) :=
 PCall.lift (copied31_w p hl hx) (bel1 (bel_pc _ p)) (fun q h=>⟨by rw [h]; exact bel_pc _ _,h,rfl⟩)
def pcF (s:StS) (x:Idn):Pc:=(s.ps.find? fun p=>decide (p.id = x)).getD default
def pcHas (s:StS) (x:Idn):Bool:=s.ps.any fun p=>decide (p.id = x)
theorem findAt {l:List Pc} {x:Idn} {i:Nat} (hi:i < l.length) (hj:∀ j,j < i → ¬ (l.getD j default).id = x) (h:(l.getD i default).id = x):(l.find? fun p=>decide (p.id = x)) = some (l.getD i default):=by
 rw [List.find?_eq_some_iff_getElem]
 have e:∀ j (hj:j < l.length),l.getD j default = l[j]:=fun j hj=>by rw [List.getD_eq_getElem?_getD,List.getElem?_eq_getElem hj]; rfl
 refine ⟨by simpa using h,i,hi,(e i hi).symm,fun j hji=>?_⟩
 have:=hj j hji
 rw [e j (by omega)] at this
 simpa using this
set_option maxHeartbeats 8000000 in
theorem piece_w (s:StS) (x:Idn) (hl:s.ps.length < 2 ^ 63):PCall Try.prog 57 [stV s,.agg (idRow x)] [] (fun q _=>q = .tup [.agg (pcF s x).row,.bool (pcHas s x)]):=by
 unfold stV idRow
 refine PCall.vfrz [] 2099327 28 [.cell 4 32,.tmp 5] sc2_ok mix Try.func57 rfl (by decide) rfl rfl (by simp) ?_
 simp -dsimp only [initFr,List.zipIdx_cons,List.zipIdx_nil,List.map_cons,List.map_nil,Nat.zero_add,Nat.reduceAdd]
 simp -dsimp (maxSteps:=4000000) +contextual (disch:=first | omega | decide +kernel) only [↓vsD,vsE,↓Nat.reduceLT,simprocAttr,sc2_cmp,sc2_cntd,sc2_numd,sc2_known,sc2_number,sc2_comp,sc2_rcomp,sc2_ord,sc2_id,sc2_rid,encP_length]
 refine v_loopS (fun i:Nat=>[(2,.ptr 0 0 0 0),(3,.ptr 1 0 0 0),(4,.ptr 2 0 0 0),(6,.int .i64 i)]) (fun _=>[.rows 26 2 [[.sl (encP s.ps),.sl (encD s.cs)]] 0,.rows 58 3 [[.int .i64 x.1,.int .i64 x.2.1,.int .i64 x.2.2]] 0,.rows 32 5 [[.int .i64 0,.int .i64 0,.int .i64 0,.int .u64 0,.nils]] 0]) (fun i=>i ≤ s.ps.length ∧ ∀ j,j < i → ¬ (s.ps.getD j default).id = x) (fun i=>s.ps.length - i) 0 (by simp [weaker,Go.PV.look]) rfl ⟨Nat.zero_le _,fun j h=>absurd h (Nat.not_lt_zero _)⟩ ?_
 rintro i ⟨hi,hj⟩
 by_cases hil:i < s.ps.length
 ·simp -dsimp (maxSteps:=4000000) +contextual (disch:=first | omega | decide +kernel) only [↓vsD,vsE,↓Nat.reduceLT,simprocAttr,sc2_cmp,sc2_cntd,sc2_numd,sc2_known,sc2_number,sc2_comp,sc2_rcomp,sc2_ord,sc2_id,sc2_rid,encP_length,encP_getD,eqD,vcel]
  refine ⟨fun h=>?_,fun h=>⟨i + 1,(by (try dsimp only); omega),by simp [weaker,Go.PV.look],rfl,hil,nextJ hj h⟩⟩
  have hf:pcF s x = s.ps.getD i default:=by rw [pcF,findAt hil hj h]; rfl
  have hb:pcHas s x = true:=by rw [pcHas,List.any_eq_true]; exact ⟨_,gtD hil,by simpa using h⟩
  have hr:(pcF s x).row = [.int .i64 x.1,.int .i64 x.2.1,.int .i64 x.2.2,.int .u64 (s.ps.getD i default).dig,.sl (encF (s.ps.getD i default).fs)]:=by rw [hf,Pc.row,h]
  rw [← hr,hb]
  exact fin0 (.keep _ (bel_tup2 (bel_pc _ _) (bel_bool _ _))) rfl
 ·simp -dsimp (maxSteps:=4000000) +contextual (disch:=first | omega | decide +kernel) only [↓vsD,vsE,↓Nat.reduceLT,simprocAttr,sc2_cmp,sc2_cntd,sc2_numd,sc2_known,sc2_number,sc2_comp,sc2_rcomp,sc2_ord,sc2_id,sc2_rid,encP_length,vcel]
  have hn:∀ p ∈ s.ps,¬ p.id = x:=fun p hp he=>by
   obtain ⟨j,hj2,e⟩:=List.mem_iff_getElem.1 hp
   refine hj j (by omega) ?_
   rw [List.getD_eq_getElem?_getD,List.getElem?_eq_getElem hj2,Option.getD_some,e]
   exact he
  have hf:pcF s x = default:=by rw [pcF,List.find?_eq_none.2 (fun p hp=>by simpa using hn p hp)]; rfl
  have hb:pcHas s x = false:=by rw [pcHas,List.any_eq_false]; exact fun p hp=>by simpa using hn p hp
  rw [hf,hb]
  refine fin0 (.tup _ [.agg (default:Pc).row,.bool false] rfl (fun j p hj=>?_)) rfl
  match j,hj with
  | 0,hj=>simp at hj; subst hj; exact frz_pc (fs:=[]) .nils
  | 1,hj=>simp at hj; subst hj; exact .keep _ (bel_bool _ _)
  | j + 2,hj=>simp at hj
theorem piece_on (s:StS) (x:Idn) (hl:s.ps.length < 2 ^ 63) (σ:Store):PCall Try.prog 57 [stV s,.agg (idRow x)] σ (fun q τ=>q = .tup [.agg (pcF s x).row,.bool (pcHas s x)] ∧ τ = σ) :=
 PCall.lift (piece_w s x hl) (bel2 (bel_st _ s) (bel_id _ x)) (fun q h=>⟨by rw [h]; exact bel_tup2 (bel_pc _ _) (bel_bool _ _),h,rfl⟩)
end Go.Proofs.Ythjoehaglonjaaa
