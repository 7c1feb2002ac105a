import Derived.Test.YtangodmcbmeeaaaEnA
import Derived.Test.YtangodmcbmeeaaaTy
import Derived.Test.YtangodmcbmeeaaaPvY
set_option maxRecDepth 8000
set_option linter.unusedSimpArgs false
namespace Go.Proofs.Ytangodmcbmeeaaa
open Go.PV
theorem u_bytes:Try.prog.underlying 22 = some (.slice 5):=by kernel_rfl
theorem a_bytes:aggT Try.prog 22 = false:=by kernel_rfl
theorem c_bytes:Try.prog.cellsOf 22 = 1:=by kernel_rfl
theorem u_u8:Try.prog.underlying 5 = some (.int .u8):=by kernel_rfl
theorem c_u8:Try.prog.cellsOf 5 = 1:=by kernel_rfl
theorem a_u8:aggT Try.prog 5 = false:=by kernel_rfl
theorem u_codes:Try.prog.underlying 81 = some (.struct #[{ name := "l",type:=22,offset:=0,embedded:=false,tag := "",pkgPath := "warmpath/warmpathdraw",byteOffset:=0 },{ name := "at",type:=3,offset:=1,embedded:=false,tag := "",pkgPath := "warmpath/warmpathdraw",byteOffset:=24 }]):=by kernel_rfl
theorem z_codes:zeroCells Try.prog 81 = some [.nils,.int .i64 0]:=by kernel_rfl
theorem i_int:isIntT Try.prog 3 = some .i64:=by kernel_rfl
theorem loadV_1 (t:TypeId) (h:aggT Try.prog t = false) (row:List PV) (off:Nat):loadV Try.prog t row off = row.getD off .unk:=by simp [loadV,h]
def codes (l:List Int) (n:Nat):Go.PV.Obj:=.rows 81 2 [[.sl (encI .u8 l),.int .i64 n]] 0
def nxt0 (l:List Int) (k:Nat) (n:Int):Int × Nat:=if l.length ≤ k ∨ n < 1 then (0,k) else ((l.getD k 0).tmod n,k + 1)
def nxt (l:List Int) (k:Nat) (n:Int):Int × Nat:=if l.length ≤ k ∨ n < 1 then (0,k) else if 256 < n then ((256 * l.getD k 0 + (nxt0 l (k + 1) 256).1).tmod n,(nxt0 l (k + 1) 256).2) else ((l.getD k 0).tmod n,k + 1)
theorem u8_at {l:List Int} (h:okInts .u8 l) {k:Nat} (hk:k < l.length):0 ≤ l.getD k 0 ∧ l.getD k 0 ≤ 255:=by
 have:=h (l.getD k 0) (by rw [List.getD_eq_getElem?_getD,List.getElem?_eq_getElem hk]; simp)
 exact Go.bounds_u8 this
theorem nxt0_lt {l:List Int} (h:okInts .u8 l) (k:Nat) (n:Int) (hn:1 ≤ n):0 ≤ (nxt0 l k n).1 ∧ (nxt0 l k n).1 < n:=by
 unfold nxt0
 split
 ·exact ⟨by simp,by simp; omega⟩
 ·rename_i hc
  have:=u8_at h (show k < l.length by omega)
  exact ⟨Int.tmod_nonneg _ this.1,Int.tmod_lt_of_pos _ (by omega)⟩
theorem nxt_lt {l:List Int} (h:okInts .u8 l) (k:Nat) (n:Int) (hn:1 ≤ n):0 ≤ (nxt l k n).1 ∧ (nxt l k n).1 < n:=by
 unfold nxt
 split
 ·exact ⟨by simp,by simp; omega⟩
 ·rename_i hc
  have:=u8_at h (show k < l.length by omega)
  have:=nxt0_lt h (k + 1) 256 (by omega)
  split
  ·exact ⟨Int.tmod_nonneg _ (by omega),Int.tmod_lt_of_pos _ (by omega)⟩
  ·exact ⟨Int.tmod_nonneg _ (by omega),Int.tmod_lt_of_pos _ (by omega)⟩
theorem nxt0_le {l:List Int} {k:Nat} (hk:k ≤ l.length) (n:Int):(nxt0 l k n).2 ≤ l.length:=by
 unfold nxt0
 split
 ·exact hk
 ·simp only; omega
theorem nxt_le {l:List Int} {k:Nat} (hk:k ≤ l.length) (n:Int):(nxt l k n).2 ≤ l.length:=by
 unfold nxt
 split
 ·exact hk
 ·split
  ·exact nxt0_le (by omega) _
  ·simp only; omega
set_option maxHeartbeats 4000000 in
set_option maxRecDepth 20000 in
theorem next_small (l:List Int) (k:Nat) (n:Int) (hl:okInts .u8 l) (hll:l.length < 2 ^ 40) (hk:k ≤ l.length) (hn:n ≤ 256) :
  PCall Try.prog 25 [.ptr 0 0 0 0,.int .i64 n] [codes l k] (fun p σ'=>p = .int .i64 (nxt0 l k n).1 ∧ σ' = [codes l (nxt0 l k n).2]):=by
 refine PCall.walk_raw [] mix Try.func25 rfl (by decide) (by simp [Try.f25]) fun Q hQ=>?_
 simp only [Try.f25,List.toList_toArray] at hQ
 simp only [Try.f25,initFr,List.zipIdx_cons,List.zipIdx_nil,List.map_cons,List.map_nil,Nat.zero_add,Nat.reduceAdd,codes]
 have fin:∀ fr a b,Go.PV.look fr 4 = .int .i64 a → nxt0 l k n = (a,b) → Q .ret fr [codes l b]:=fun fr a b e4 e=>by
  refine (hQ _ _ ?_).1
  simp only [resW,e4,fnRet]
  rw [e]; exact ⟨rfl,rfl⟩
 simp only [pk_nil,pk_skip,pk_seq,pk_block,pk_region,pk_cond,pk_exit,pk_endB,pk_again,pk_ret,pe_nil,pe_code,pe_again,pe_endB,po_nil,po_cons,pog_true,pog_false,por_val,por_call,pc_bool,Go.PV.guardP,Go.PV.fits,Go.PV.putF,Go.PV.setF,Go.PV.look,Go.PV.evO,Go.PV.ofVal,Go.PV.mutOf,List.contains_nil,List.contains_cons,evC,pickC,nilC,binC,intC,isShift,shiftC,strC,boolC,unC,convC,extC,fieldC,fieldAddrC,idxC,indexC,loadC,lenC,maxC,minC,allocC,boxC,storeC,makeC,sliceC,buildC,buildSliceC,appTC,appC,rowsC,callC,builtinC,Option.isSome_some,Int.reduceToNat,Int.reduceEq,Int.reduceAdd,Int.reduceSub,Int.reduceMul,List.getD_cons_zero,List.getD_cons_succ,Int.reduceLE,Int.reduceLT,Int.reduceNeg,Bool.and_self,Bool.true_and,Bool.and_true,Nat.reduceMul,Int.cast_ofNat_Int,decide_true,decide_false,beq_self_eq_true,Bool.true_beq,Bool.false_beq,Nat.le_refl,Nat.reduceLeDiff,List.length_cons,List.length_nil,ne_eq,not_false_eq_true,Nat.succ_ne_self,Nat.one_ne_zero,true_and,and_true,if_true,if_false,Bool.false_eq_true,reduceIte,Nat.reduceEqDiff,↓Nat.reduceLT,Nat.reduceAdd,Nat.reduceBEq,reduceCtorEq,Bool.not_true,Bool.not_false,Bool.true_eq_false,decide_eq_true_eq,Option.bind_some,Option.bind_none,List.toList_toArray,List.getElem?_toArray,List.getElem?_cons_zero,List.getElem?_cons_succ,List.map_cons,List.map_nil,Option.map_some,Option.map_none]
 refine pk_draws [] [] [(0,0),(0,0),(0,0),(0,0),(0,0),(0,0),(0,0),(0,0),(0,0),(0,0),(0,0),(0,0),(0,0),(0,0)] (by decide +kernel) (by decide +kernel) (by decide +kernel) ?_
 by_cases h1:l.length ≤ k
 ·have h1':(l.length:Int) ≤ (k:Int):=by omega
  simp only [pk_nil,pk_skip,pk_seq,pk_block,pk_region,pk_cond,pk_exit,pk_endB,pk_again,pk_ret,pe_nil,pe_code,pe_again,pe_endB,po_nil,po_cons,pog_true,pog_false,por_val,por_call,pc_bool,Go.PV.guardP,Go.PV.fits,Go.PV.putF,Go.PV.setF,Go.PV.look,Go.PV.evO,Go.PV.ofVal,Go.PV.mutOf,List.contains_nil,List.contains_cons,evC,pickC,nilC,binC,intC,isShift,shiftC,strC,boolC,unC,convC,extC,fieldC,fieldAddrC,idxC,indexC,loadC,lenC,maxC,minC,allocC,boxC,storeC,makeC,sliceC,buildC,buildSliceC,appTC,appC,rowsC,callC,builtinC,Option.isSome_some,Int.reduceToNat,Int.reduceEq,Int.reduceAdd,Int.reduceSub,Int.reduceMul,List.getD_cons_zero,List.getD_cons_succ,Int.reduceLE,Int.reduceLT,Int.reduceNeg,Bool.and_self,Bool.true_and,Bool.and_true,Nat.reduceMul,Int.cast_ofNat_Int,decide_true,decide_false,beq_self_eq_true,Bool.true_beq,Bool.false_beq,Nat.le_refl,Nat.reduceLeDiff,List.length_cons,List.length_nil,ne_eq,not_false_eq_true,Nat.succ_ne_self,Nat.one_ne_zero,true_and,and_true,if_true,if_false,Bool.false_eq_true,reduceIte,Nat.reduceEqDiff,↓Nat.reduceLT,Nat.reduceAdd,Nat.reduceBEq,reduceCtorEq,Bool.not_true,Bool.not_false,Bool.true_eq_false,decide_eq_true_eq,Option.bind_some,Option.bind_none,List.toList_toArray,List.getElem?_toArray,List.getElem?_cons_zero,List.getElem?_cons_succ,List.map_cons,List.map_nil,Option.map_some,Option.map_none,pde_call,Bool.or_false,Bool.false_or,Bool.or_self,Bool.or_true,Bool.true_or,pdf_msl,pdf_ptr,pds_nil,pds_cons,pdg_eff,pdg_read,pdg_noeff,pdg_nofloat,pdg_noread,pdq_cons,pde_val,pdv_val,Out_eq,outR_val,place,List.drop_zero,List.drop_succ_cons,List.nil_append,List.cons_append,List.forall_mem_cons,List.not_mem_nil,false_implies,implies_true,and_self,List.zip_cons_cons,List.zip_nil_right,List.contains_nil,List.contains_cons,List.replicate_zero,List.replicate_succ,List.append_nil,u_codes,u_bytes,c_bytes,c_int,a_bytes,a_int,loadV,loadOk,u_int,enc_length,h1']
  exact fin _ 0 k rfl (by simp [nxt0,h1])
 have h1':¬ (l.length:Int) ≤ (k:Int):=by omega
 have hkl:k < l.length:=by omega
 by_cases h2:n < 1
 ·simp only [pk_nil,pk_skip,pk_seq,pk_block,pk_region,pk_cond,pk_exit,pk_endB,pk_again,pk_ret,pe_nil,pe_code,pe_again,pe_endB,po_nil,po_cons,pog_true,pog_false,por_val,por_call,pc_bool,Go.PV.guardP,Go.PV.fits,Go.PV.putF,Go.PV.setF,Go.PV.look,Go.PV.evO,Go.PV.ofVal,Go.PV.mutOf,List.contains_nil,List.contains_cons,evC,pickC,nilC,binC,intC,isShift,shiftC,strC,boolC,unC,convC,extC,fieldC,fieldAddrC,idxC,indexC,loadC,lenC,maxC,minC,allocC,boxC,storeC,makeC,sliceC,buildC,buildSliceC,appTC,appC,rowsC,callC,builtinC,Option.isSome_some,Int.reduceToNat,Int.reduceEq,Int.reduceAdd,Int.reduceSub,Int.reduceMul,List.getD_cons_zero,List.getD_cons_succ,Int.reduceLE,Int.reduceLT,Int.reduceNeg,Bool.and_self,Bool.true_and,Bool.and_true,Nat.reduceMul,Int.cast_ofNat_Int,decide_true,decide_false,beq_self_eq_true,Bool.true_beq,Bool.false_beq,Nat.le_refl,Nat.reduceLeDiff,List.length_cons,List.length_nil,ne_eq,not_false_eq_true,Nat.succ_ne_self,Nat.one_ne_zero,true_and,and_true,if_true,if_false,Bool.false_eq_true,reduceIte,Nat.reduceEqDiff,↓Nat.reduceLT,Nat.reduceAdd,Nat.reduceBEq,reduceCtorEq,Bool.not_true,Bool.not_false,Bool.true_eq_false,decide_eq_true_eq,Option.bind_some,Option.bind_none,List.toList_toArray,List.getElem?_toArray,List.getElem?_cons_zero,List.getElem?_cons_succ,List.map_cons,List.map_nil,Option.map_some,Option.map_none,pde_call,Bool.or_false,Bool.false_or,Bool.or_self,Bool.or_true,Bool.true_or,pdf_msl,pdf_ptr,pds_nil,pds_cons,pdg_eff,pdg_read,pdg_noeff,pdg_nofloat,pdg_noread,pdq_cons,pde_val,pdv_val,Out_eq,outR_val,place,List.drop_zero,List.drop_succ_cons,List.nil_append,List.cons_append,List.forall_mem_cons,List.not_mem_nil,false_implies,implies_true,and_self,List.zip_cons_cons,List.zip_nil_right,List.contains_nil,List.contains_cons,List.replicate_zero,List.replicate_succ,List.append_nil,u_codes,u_bytes,c_bytes,c_int,a_bytes,a_int,loadV,loadOk,u_int,enc_length,h1',h2]
  exact fin _ 0 k rfl (by simp [nxt0,h2])
 have hb:=u8_at hl hkl
 have h3:¬ (256 < n):=by omega
 have hn0:n ≠ 0:=by omega
 have hw:IntKind.i64.wrap (l.getD k 0) = l.getD k 0:=wrap_i64 _ (by omega) (by omega)
 simp only [pk_nil,pk_skip,pk_seq,pk_block,pk_region,pk_cond,pk_exit,pk_endB,pk_again,pk_ret,pe_nil,pe_code,pe_again,pe_endB,po_nil,po_cons,pog_true,pog_false,por_val,por_call,pc_bool,Go.PV.guardP,Go.PV.fits,Go.PV.putF,Go.PV.setF,Go.PV.look,Go.PV.evO,Go.PV.ofVal,Go.PV.mutOf,List.contains_nil,List.contains_cons,evC,pickC,nilC,binC,intC,isShift,shiftC,strC,boolC,unC,convC,extC,fieldC,fieldAddrC,idxC,indexC,loadC,lenC,maxC,minC,allocC,boxC,storeC,makeC,sliceC,buildC,buildSliceC,appTC,appC,rowsC,callC,builtinC,Option.isSome_some,Int.reduceToNat,Int.reduceEq,Int.reduceAdd,Int.reduceSub,Int.reduceMul,List.getD_cons_zero,List.getD_cons_succ,Int.reduceLE,Int.reduceLT,Int.reduceNeg,Bool.and_self,Bool.true_and,Bool.and_true,Nat.reduceMul,Int.cast_ofNat_Int,decide_true,decide_false,beq_self_eq_true,Bool.true_beq,Bool.false_beq,Nat.le_refl,Nat.reduceLeDiff,List.length_cons,List.length_nil,ne_eq,not_false_eq_true,Nat.succ_ne_self,Nat.one_ne_zero,true_and,and_true,if_true,if_false,Bool.false_eq_true,reduceIte,Nat.reduceEqDiff,↓Nat.reduceLT,Nat.reduceAdd,Nat.reduceBEq,reduceCtorEq,Bool.not_true,Bool.not_false,Bool.true_eq_false,decide_eq_true_eq,Option.bind_some,Option.bind_none,List.toList_toArray,List.getElem?_toArray,List.getElem?_cons_zero,List.getElem?_cons_succ,List.map_cons,List.map_nil,Option.map_some,Option.map_none,pde_call,Bool.or_false,Bool.false_or,Bool.or_self,Bool.or_true,Bool.true_or,pdf_msl,pdf_ptr,pds_nil,pds_cons,pdg_eff,pdg_read,pdg_noeff,pdg_nofloat,pdg_noread,pdq_cons,pde_val,pdv_val,Out_eq,outR_val,place,List.drop_zero,List.drop_succ_cons,List.nil_append,List.cons_append,List.forall_mem_cons,List.not_mem_nil,false_implies,implies_true,and_self,List.zip_cons_cons,List.zip_nil_right,List.contains_nil,List.contains_cons,List.replicate_zero,List.replicate_succ,List.append_nil,u_codes,u_bytes,c_bytes,c_int,a_bytes,a_int,loadV,loadOk,u_int,enc_length,h1',h2]
 refine pk_draws [] [] [(0,0),(0,0),(0,0),(0,0),(0,0),(0,0),(0,0),(0,0),(0,0),(0,0),(0,0),(0,0)] (by decide +kernel) (by decide +kernel) (by decide +kernel) ?_
 simp only [pk_nil,pk_skip,pk_seq,pk_block,pk_region,pk_cond,pk_exit,pk_endB,pk_again,pk_ret,pe_nil,pe_code,pe_again,pe_endB,po_nil,po_cons,pog_true,pog_false,por_val,por_call,pc_bool,Go.PV.guardP,Go.PV.fits,Go.PV.putF,Go.PV.setF,Go.PV.look,Go.PV.evO,Go.PV.ofVal,Go.PV.mutOf,List.contains_nil,List.contains_cons,evC,pickC,nilC,binC,intC,isShift,shiftC,strC,boolC,unC,convC,extC,fieldC,fieldAddrC,idxC,indexC,loadC,lenC,maxC,minC,allocC,boxC,storeC,makeC,sliceC,buildC,buildSliceC,appTC,appC,rowsC,callC,builtinC,Option.isSome_some,Int.reduceToNat,Int.reduceEq,Int.reduceAdd,Int.reduceSub,Int.reduceMul,List.getD_cons_zero,List.getD_cons_succ,Int.reduceLE,Int.reduceLT,Int.reduceNeg,Bool.and_self,Bool.true_and,Bool.and_true,Nat.reduceMul,Int.cast_ofNat_Int,decide_true,decide_false,beq_self_eq_true,Bool.true_beq,Bool.false_beq,Nat.le_refl,Nat.reduceLeDiff,List.length_cons,List.length_nil,ne_eq,not_false_eq_true,Nat.succ_ne_self,Nat.one_ne_zero,true_and,and_true,if_true,if_false,Bool.false_eq_true,reduceIte,Nat.reduceEqDiff,↓Nat.reduceLT,Nat.reduceAdd,Nat.reduceBEq,reduceCtorEq,Bool.not_true,Bool.not_false,Bool.true_eq_false,decide_eq_true_eq,Option.bind_some,Option.bind_none,List.toList_toArray,List.getElem?_toArray,List.getElem?_cons_zero,List.getElem?_cons_succ,List.map_cons,List.map_nil,Option.map_some,Option.map_none,pde_call,Bool.or_false,Bool.false_or,Bool.or_self,Bool.or_true,Bool.true_or,pdf_msl,pdf_ptr,pds_nil,pds_cons,pdg_eff,pdg_read,pdg_noeff,pdg_nofloat,pdg_noread,pdq_cons,pde_val,pdv_val,Out_eq,outR_val,place,List.drop_zero,List.drop_succ_cons,List.nil_append,List.cons_append,List.forall_mem_cons,List.not_mem_nil,false_implies,implies_true,and_self,List.zip_cons_cons,List.zip_nil_right,List.contains_nil,List.contains_cons,List.replicate_zero,List.replicate_succ,List.append_nil,u_codes,u_bytes,u_u8,c_u8,a_u8,i_int,c_bytes,c_int,a_bytes,a_int,loadV,loadOk,u_int,enc_length,hkl,Int.natCast_nonneg,Int.toNat_natCast,enc_getD _ l k hkl,hw,wrap_succ k (by omega),cellsV,PV.cell,splice,List.take_succ_cons,List.take_zero,List.drop_succ_cons,List.drop_nil,List.set_cons_zero,h3,hn0]
 exact fin _ _ _ rfl (by simp [nxt0,h1,h2])
set_option maxHeartbeats 4000000 in
set_option maxRecDepth 20000 in
theorem next_ok (l:List Int) (k:Nat) (n:Int) (hl:okInts .u8 l) (hll:l.length < 2 ^ 40) (hk:k ≤ l.length) (hn:n < 2 ^ 62) :
  PCall Try.prog 25 [.ptr 0 0 0 0,.int .i64 n] [codes l k] (fun p σ'=>p = .int .i64 (nxt l k n).1 ∧ σ' = [codes l (nxt l k n).2]):=by
 refine PCall.walk_raw [] mix Try.func25 rfl (by decide) (by simp [Try.f25]) fun Q hQ=>?_
 simp only [Try.f25,List.toList_toArray] at hQ
 simp only [Try.f25,initFr,List.zipIdx_cons,List.zipIdx_nil,List.map_cons,List.map_nil,Nat.zero_add,Nat.reduceAdd,codes]
 have fin:∀ fr a b,Go.PV.look fr 4 = .int .i64 a → nxt l k n = (a,b) → Q .ret fr [codes l b]:=fun fr a b e4 e=>by
  refine (hQ _ _ ?_).1
  simp only [resW,e4,fnRet]
  rw [e]; exact ⟨rfl,rfl⟩
 simp only [pk_nil,pk_skip,pk_seq,pk_block,pk_region,pk_cond,pk_exit,pk_endB,pk_again,pk_ret,pe_nil,pe_code,pe_again,pe_endB,po_nil,po_cons,pog_true,pog_false,por_val,por_call,pc_bool,Go.PV.guardP,Go.PV.fits,Go.PV.putF,Go.PV.setF,Go.PV.look,Go.PV.evO,Go.PV.ofVal,Go.PV.mutOf,List.contains_nil,List.contains_cons,evC,pickC,nilC,binC,intC,isShift,shiftC,strC,boolC,unC,convC,extC,fieldC,fieldAddrC,idxC,indexC,loadC,lenC,maxC,minC,allocC,boxC,storeC,makeC,sliceC,buildC,buildSliceC,appTC,appC,rowsC,callC,builtinC,Option.isSome_some,Int.reduceToNat,Int.reduceEq,Int.reduceAdd,Int.reduceSub,Int.reduceMul,List.getD_cons_zero,List.getD_cons_succ,Int.reduceLE,Int.reduceLT,Int.reduceNeg,Bool.and_self,Bool.true_and,Bool.and_true,Nat.reduceMul,Int.cast_ofNat_Int,decide_true,decide_false,beq_self_eq_true,Bool.true_beq,Bool.false_beq,Nat.le_refl,Nat.reduceLeDiff,List.length_cons,List.length_nil,ne_eq,not_false_eq_true,Nat.succ_ne_self,Nat.one_ne_zero,true_and,and_true,if_true,if_false,Bool.false_eq_true,reduceIte,Nat.reduceEqDiff,↓Nat.reduceLT,Nat.reduceAdd,Nat.reduceBEq,reduceCtorEq,Bool.not_true,Bool.not_false,Bool.true_eq_false,decide_eq_true_eq,Option.bind_some,Option.bind_none,List.toList_toArray,List.getElem?_toArray,List.getElem?_cons_zero,List.getElem?_cons_succ,List.map_cons,List.map_nil,Option.map_some,Option.map_none]
 refine pk_draws [] [] [(0,0),(0,0),(0,0),(0,0),(0,0),(0,0),(0,0),(0,0),(0,0),(0,0),(0,0),(0,0),(0,0),(0,0)] (by decide +kernel) (by decide +kernel) (by decide +kernel) ?_
 by_cases h1:l.length ≤ k
 ·have h1':(l.length:Int) ≤ (k:Int):=by omega
  simp only [pk_nil,pk_skip,pk_seq,pk_block,pk_region,pk_cond,pk_exit,pk_endB,pk_again,pk_ret,pe_nil,pe_code,pe_again,pe_endB,po_nil,po_cons,pog_true,pog_false,por_val,por_call,pc_bool,Go.PV.guardP,Go.PV.fits,Go.PV.putF,Go.PV.setF,Go.PV.look,Go.PV.evO,Go.PV.ofVal,Go.PV.mutOf,List.contains_nil,List.contains_cons,evC,pickC,nilC,binC,intC,isShift,shiftC,strC,boolC,unC,convC,extC,fieldC,fieldAddrC,idxC,indexC,loadC,lenC,maxC,minC,allocC,boxC,storeC,makeC,sliceC,buildC,buildSliceC,appTC,appC,rowsC,callC,builtinC,Option.isSome_some,Int.reduceToNat,Int.reduceEq,Int.reduceAdd,Int.reduceSub,Int.reduceMul,List.getD_cons_zero,List.getD_cons_succ,Int.reduceLE,Int.reduceLT,Int.reduceNeg,Bool.and_self,Bool.true_and,Bool.and_true,Nat.reduceMul,Int.cast_ofNat_Int,decide_true,decide_false,beq_self_eq_true,Bool.true_beq,Bool.false_beq,Nat.le_refl,Nat.reduceLeDiff,List.length_cons,List.length_nil,ne_eq,not_false_eq_true,Nat.succ_ne_self,Nat.one_ne_zero,true_and,and_true,if_true,if_false,Bool.false_eq_true,reduceIte,Nat.reduceEqDiff,↓Nat.reduceLT,Nat.reduceAdd,Nat.reduceBEq,reduceCtorEq,Bool.not_true,Bool.not_false,Bool.true_eq_false,decide_eq_true_eq,Option.bind_some,Option.bind_none,List.toList_toArray,List.getElem?_toArray,List.getElem?_cons_zero,List.getElem?_cons_succ,List.map_cons,List.map_nil,Option.map_some,Option.map_none,pde_call,Bool.or_false,Bool.false_or,Bool.or_self,Bool.or_true,Bool.true_or,pdf_msl,pdf_ptr,pds_nil,pds_cons,pdg_eff,pdg_read,pdg_noeff,pdg_nofloat,pdg_noread,pdq_cons,pde_val,pdv_val,Out_eq,outR_val,place,List.drop_zero,List.drop_succ_cons,List.nil_append,List.cons_append,List.forall_mem_cons,List.not_mem_nil,false_implies,implies_true,and_self,List.zip_cons_cons,List.zip_nil_right,List.contains_nil,List.contains_cons,List.replicate_zero,List.replicate_succ,List.append_nil,u_codes,u_bytes,c_bytes,c_int,a_bytes,a_int,loadV,loadOk,u_int,enc_length,h1']
  exact fin _ 0 k rfl (by simp [nxt,h1])
 have h1':¬ (l.length:Int) ≤ (k:Int):=by omega
 have hkl:k < l.length:=by omega
 by_cases h2:n < 1
 ·simp only [pk_nil,pk_skip,pk_seq,pk_block,pk_region,pk_cond,pk_exit,pk_endB,pk_again,pk_ret,pe_nil,pe_code,pe_again,pe_endB,po_nil,po_cons,pog_true,pog_false,por_val,por_call,pc_bool,Go.PV.guardP,Go.PV.fits,Go.PV.putF,Go.PV.setF,Go.PV.look,Go.PV.evO,Go.PV.ofVal,Go.PV.mutOf,List.contains_nil,List.contains_cons,evC,pickC,nilC,binC,intC,isShift,shiftC,strC,boolC,unC,convC,extC,fieldC,fieldAddrC,idxC,indexC,loadC,lenC,maxC,minC,allocC,boxC,storeC,makeC,sliceC,buildC,buildSliceC,appTC,appC,rowsC,callC,builtinC,Option.isSome_some,Int.reduceToNat,Int.reduceEq,Int.reduceAdd,Int.reduceSub,Int.reduceMul,List.getD_cons_zero,List.getD_cons_succ,Int.reduceLE,Int.reduceLT,Int.reduceNeg,Bool.and_self,Bool.true_and,Bool.and_true,Nat.reduceMul,Int.cast_ofNat_Int,decide_true,decide_false,beq_self_eq_true,Bool.true_beq,Bool.false_beq,Nat.le_refl,Nat.reduceLeDiff,List.length_cons,List.length_nil,ne_eq,not_false_eq_true,Nat.succ_ne_self,Nat.one_ne_zero,true_and,and_true,if_true,if_false,Bool.false_eq_true,reduceIte,Nat.reduceEqDiff,↓Nat.reduceLT,Nat.reduceAdd,Nat.reduceBEq,reduceCtorEq,Bool.not_true,Bool.not_false,Bool.true_eq_false,decide_eq_true_eq,Option.bind_some,Option.bind_none,List.toList_toArray,List.getElem?_toArray,List.getElem?_cons_zero,List.getElem?_cons_succ,List.map_cons,List.map_nil,Option.map_some,Option.map_none,pde_call,Bool.or_false,Bool.false_or,Bool.or_self,Bool.or_true,Bool.true_or,pdf_msl,pdf_ptr,pds_nil,pds_cons,pdg_eff,pdg_read,pdg_noeff,pdg_nofloat,pdg_noread,pdq_cons,pde_val,pdv_val,Out_eq,outR_val,place,List.drop_zero,List.drop_succ_cons,List.nil_append,List.cons_append,List.forall_mem_cons,List.not_mem_nil,false_implies,implies_true,and_self,List.zip_cons_cons,List.zip_nil_right,List.contains_nil,List.contains_cons,List.replicate_zero,List.replicate_succ,List.append_nil,u_codes,u_bytes,c_bytes,c_int,a_bytes,a_int,loadV,loadOk,u_int,enc_length,h1',h2]
  exact fin _ 0 k rfl (by simp [nxt,h2])
 have hb:=u8_at hl hkl
 have hn0:n ≠ 0:=by omega
 have hw:IntKind.i64.wrap (l.getD k 0) = l.getD k 0:=wrap_i64 _ (by omega) (by omega)
 simp only [pk_nil,pk_skip,pk_seq,pk_block,pk_region,pk_cond,pk_exit,pk_endB,pk_again,pk_ret,pe_nil,pe_code,pe_again,pe_endB,po_nil,po_cons,pog_true,pog_false,por_val,por_call,pc_bool,Go.PV.guardP,Go.PV.fits,Go.PV.putF,Go.PV.setF,Go.PV.look,Go.PV.evO,Go.PV.ofVal,Go.PV.mutOf,List.contains_nil,List.contains_cons,evC,pickC,nilC,binC,intC,isShift,shiftC,strC,boolC,unC,convC,extC,fieldC,fieldAddrC,idxC,indexC,loadC,lenC,maxC,minC,allocC,boxC,storeC,makeC,sliceC,buildC,buildSliceC,appTC,appC,rowsC,callC,builtinC,Option.isSome_some,Int.reduceToNat,Int.reduceEq,Int.reduceAdd,Int.reduceSub,Int.reduceMul,List.getD_cons_zero,List.getD_cons_succ,Int.reduceLE,Int.reduceLT,Int.reduceNeg,Bool.and_self,Bool.true_and,Bool.and_true,Nat.reduceMul,Int.cast_ofNat_Int,decide_true,decide_false,beq_self_eq_true,Bool.true_beq,Bool.false_beq,Nat.le_refl,Nat.reduceLeDiff,List.length_cons,List.length_nil,ne_eq,not_false_eq_true,Nat.succ_ne_self,Nat.one_ne_zero,true_and,and_true,if_true,if_false,Bool.false_eq_true,reduceIte,Nat.reduceEqDiff,↓Nat.reduceLT,Nat.reduceAdd,Nat.reduceBEq,reduceCtorEq,Bool.not_true,Bool.not_false,Bool.true_eq_false,decide_eq_true_eq,Option.bind_some,Option.bind_none,List.toList_toArray,List.getElem?_toArray,List.getElem?_cons_zero,List.getElem?_cons_succ,List.map_cons,List.map_nil,Option.map_some,Option.map_none,pde_call,Bool.or_false,Bool.false_or,Bool.or_self,Bool.or_true,Bool.true_or,pdf_msl,pdf_ptr,pds_nil,pds_cons,pdg_eff,pdg_read,pdg_noeff,pdg_nofloat,pdg_noread,pdq_cons,pde_val,pdv_val,Out_eq,outR_val,place,List.drop_zero,List.drop_succ_cons,List.nil_append,List.cons_append,List.forall_mem_cons,List.not_mem_nil,false_implies,implies_true,and_self,List.zip_cons_cons,List.zip_nil_right,List.contains_nil,List.contains_cons,List.replicate_zero,List.replicate_succ,List.append_nil,u_codes,u_bytes,c_bytes,c_int,a_bytes,a_int,loadV,loadOk,u_int,enc_length,h1',h2]
 refine pk_draws [] [] [(0,0),(0,0),(0,0),(0,0),(0,0),(0,0),(0,0),(0,0),(0,0),(0,0),(0,0),(0,0)] (by decide +kernel) (by decide +kernel) (by decide +kernel) ?_
 by_cases h3:256 < n
 ·simp only [pk_nil,pk_skip,pk_seq,pk_block,pk_region,pk_cond,pk_exit,pk_endB,pk_again,pk_ret,pe_nil,pe_code,pe_again,pe_endB,po_nil,po_cons,pog_true,pog_false,por_val,por_call,pc_bool,Go.PV.guardP,Go.PV.fits,Go.PV.putF,Go.PV.setF,Go.PV.look,Go.PV.evO,Go.PV.ofVal,Go.PV.mutOf,List.contains_nil,List.contains_cons,evC,pickC,nilC,binC,intC,isShift,shiftC,strC,boolC,unC,convC,extC,fieldC,fieldAddrC,idxC,indexC,loadC,lenC,maxC,minC,allocC,boxC,storeC,makeC,sliceC,buildC,buildSliceC,appTC,appC,rowsC,callC,builtinC,Option.isSome_some,Int.reduceToNat,Int.reduceEq,Int.reduceAdd,Int.reduceSub,Int.reduceMul,List.getD_cons_zero,List.getD_cons_succ,Int.reduceLE,Int.reduceLT,Int.reduceNeg,Bool.and_self,Bool.true_and,Bool.and_true,Nat.reduceMul,Int.cast_ofNat_Int,decide_true,decide_false,beq_self_eq_true,Bool.true_beq,Bool.false_beq,Nat.le_refl,Nat.reduceLeDiff,List.length_cons,List.length_nil,ne_eq,not_false_eq_true,Nat.succ_ne_self,Nat.one_ne_zero,true_and,and_true,if_true,if_false,Bool.false_eq_true,reduceIte,Nat.reduceEqDiff,↓Nat.reduceLT,Nat.reduceAdd,Nat.reduceBEq,reduceCtorEq,Bool.not_true,Bool.not_false,Bool.true_eq_false,decide_eq_true_eq,Option.bind_some,Option.bind_none,List.toList_toArray,List.getElem?_toArray,List.getElem?_cons_zero,List.getElem?_cons_succ,List.map_cons,List.map_nil,Option.map_some,Option.map_none,pde_call,Bool.or_false,Bool.false_or,Bool.or_self,Bool.or_true,Bool.true_or,pdf_msl,pdf_ptr,pds_nil,pds_cons,pdg_eff,pdg_read,pdg_noeff,pdg_nofloat,pdg_noread,pdq_cons,pde_val,pdv_val,Out_eq,outR_val,place,List.drop_zero,List.drop_succ_cons,List.nil_append,List.cons_append,List.forall_mem_cons,List.not_mem_nil,false_implies,implies_true,and_self,List.zip_cons_cons,List.zip_nil_right,List.contains_nil,List.contains_cons,List.replicate_zero,List.replicate_succ,List.append_nil,u_codes,u_bytes,u_u8,c_u8,a_u8,i_int,c_bytes,c_int,a_bytes,a_int,loadV,loadOk,u_int,enc_length,hkl,Int.natCast_nonneg,Int.toNat_natCast,enc_getD _ l k hkl,hw,wrap_succ k (by omega),cellsV,PV.cell,splice,List.take_succ_cons,List.take_zero,List.drop_succ_cons,List.drop_nil,List.set_cons_zero,h3,hn0]
  refine (next_small l (k + 1) 256 hl hll (by omega) (by omega)).mono ?_
  rintro p σ' ⟨rfl,rfl⟩
  have hr:0 ≤ (nxt0 l (k + 1) 256).1 ∧ (nxt0 l (k + 1) 256).1 < 256:=nxt0_lt hl _ _ (by omega)
  have hw2:IntKind.i64.wrap (256 * l.getD k 0) = 256 * l.getD k 0:=wrap_i64 _ (by omega) (by omega)
  have hw3:IntKind.i64.wrap (256 * l.getD k 0 + (nxt0 l (k + 1) 256).1) = 256 * l.getD k 0 + (nxt0 l (k + 1) 256).1:=wrap_i64 _ (by omega) (by omega)
  simp only [pk_nil,pk_skip,pk_seq,pk_block,pk_region,pk_cond,pk_exit,pk_endB,pk_again,pk_ret,pe_nil,pe_code,pe_again,pe_endB,po_nil,po_cons,pog_true,pog_false,por_val,por_call,pc_bool,Go.PV.guardP,Go.PV.fits,Go.PV.putF,Go.PV.setF,Go.PV.look,Go.PV.evO,Go.PV.ofVal,Go.PV.mutOf,List.contains_nil,List.contains_cons,evC,pickC,nilC,binC,intC,isShift,shiftC,strC,boolC,unC,convC,extC,fieldC,fieldAddrC,idxC,indexC,loadC,lenC,maxC,minC,allocC,boxC,storeC,makeC,sliceC,buildC,buildSliceC,appTC,appC,rowsC,callC,builtinC,Option.isSome_some,Int.reduceToNat,Int.reduceEq,Int.reduceAdd,Int.reduceSub,Int.reduceMul,List.getD_cons_zero,List.getD_cons_succ,Int.reduceLE,Int.reduceLT,Int.reduceNeg,Bool.and_self,Bool.true_and,Bool.and_true,Nat.reduceMul,Int.cast_ofNat_Int,decide_true,decide_false,beq_self_eq_true,Bool.true_beq,Bool.false_beq,Nat.le_refl,Nat.reduceLeDiff,List.length_cons,List.length_nil,ne_eq,not_false_eq_true,Nat.succ_ne_self,Nat.one_ne_zero,true_and,and_true,if_true,if_false,Bool.false_eq_true,reduceIte,Nat.reduceEqDiff,↓Nat.reduceLT,Nat.reduceAdd,Nat.reduceBEq,reduceCtorEq,Bool.not_true,Bool.not_false,Bool.true_eq_false,decide_eq_true_eq,Option.bind_some,Option.bind_none,List.toList_toArray,List.getElem?_toArray,List.getElem?_cons_zero,List.getElem?_cons_succ,List.map_cons,List.map_nil,Option.map_some,Option.map_none,hw2,hw3,hn0]
  exact fin _ _ _ rfl (by simp [nxt,h1,h2,h3])
 ·simp only [pk_nil,pk_skip,pk_seq,pk_block,pk_region,pk_cond,pk_exit,pk_endB,pk_again,pk_ret,pe_nil,pe_code,pe_again,pe_endB,po_nil,po_cons,pog_true,pog_false,por_val,por_call,pc_bool,Go.PV.guardP,Go.PV.fits,Go.PV.putF,Go.PV.setF,Go.PV.look,Go.PV.evO,Go.PV.ofVal,Go.PV.mutOf,List.contains_nil,List.contains_cons,evC,pickC,nilC,binC,intC,isShift,shiftC,strC,boolC,unC,convC,extC,fieldC,fieldAddrC,idxC,indexC,loadC,lenC,maxC,minC,allocC,boxC,storeC,makeC,sliceC,buildC,buildSliceC,appTC,appC,rowsC,callC,builtinC,Option.isSome_some,Int.reduceToNat,Int.reduceEq,Int.reduceAdd,Int.reduceSub,Int.reduceMul,List.getD_cons_zero,List.getD_cons_succ,Int.reduceLE,Int.reduceLT,Int.reduceNeg,Bool.and_self,Bool.true_and,Bool.and_true,Nat.reduceMul,Int.cast_ofNat_Int,decide_true,decide_false,beq_self_eq_true,Bool.true_beq,Bool.false_beq,Nat.le_refl,Nat.reduceLeDiff,List.length_cons,List.length_nil,ne_eq,not_false_eq_true,Nat.succ_ne_self,Nat.one_ne_zero,true_and,and_true,if_true,if_false,Bool.false_eq_true,reduceIte,Nat.reduceEqDiff,↓Nat.reduceLT,Nat.reduceAdd,Nat.reduceBEq,reduceCtorEq,Bool.not_true,Bool.not_false,Bool.true_eq_false,decide_eq_true_eq,Option.bind_some,Option.bind_none,List.toList_toArray,List.getElem?_toArray,List.getElem?_cons_zero,List.getElem?_cons_succ,List.map_cons,List.map_nil,Option.map_some,Option.map_none,pde_call,Bool.or_false,Bool.false_or,Bool.or_self,Bool.or_true,Bool.true_or,pdf_msl,pdf_ptr,pds_nil,pds_cons,pdg_eff,pdg_read,pdg_noeff,pdg_nofloat,pdg_noread,pdq_cons,pde_val,pdv_val,Out_eq,outR_val,place,List.drop_zero,List.drop_succ_cons,List.nil_append,List.cons_append,List.forall_mem_cons,List.not_mem_nil,false_implies,implies_true,and_self,List.zip_cons_cons,List.zip_nil_right,List.contains_nil,List.contains_cons,List.replicate_zero,List.replicate_succ,List.append_nil,u_codes,u_bytes,u_u8,c_u8,a_u8,i_int,c_bytes,c_int,a_bytes,a_int,loadV,loadOk,u_int,enc_length,hkl,Int.natCast_nonneg,Int.toNat_natCast,enc_getD _ l k hkl,hw,wrap_succ k (by omega),cellsV,PV.cell,splice,List.take_succ_cons,List.take_zero,List.drop_succ_cons,List.drop_nil,List.set_cons_zero,h3,hn0]
  exact fin _ _ _ rfl (by simp [nxt,h1,h2,h3])
theorem fs_codes:(#[{ name := "l",type:=22,offset:=0,embedded:=false,tag := "",pkgPath := "warmpath/warmpathdraw",byteOffset:=0 },{ name := "at",type:=3,offset:=1,embedded:=false,tag := "",pkgPath := "warmpath/warmpathdraw",byteOffset:=24 }]:Array Field).all (fun f=>(Try.prog.info? f.type).isSome) = true:=by kernel_rfl
theorem enc_all (k:IntKind) (l:List Int):(encI k l).all (fun row=>row.length == 1) = true:=by
 rw [List.all_eq_true]
 intro row h
 obtain ⟨x,_,rfl⟩:=List.mem_map.1 h
 rfl
theorem enc_take (k:IntKind) (l:List Int) (n:Nat):(encI k l).take n = encI k (l.take n):=by simp [encI,List.map_take]
set_option maxHeartbeats 4000000 in
set_option maxRecDepth 20000 in
theorem new_ok (l:List Int) (n:Nat) :
  PCall Try.prog 10 [.sl (encI .u8 l),.int .i64 n] [] (fun p σ'=>p = .ptr 0 0 0 0 ∧ σ' = [codes (l.take n) 0]):=by
 refine PCall.walk_raw [] mix Try.func10 rfl (by decide) (by simp [Try.f10]) fun Q hQ=>?_
 simp only [Try.f10,List.toList_toArray] at hQ
 simp only [Try.f10,initFr,List.zipIdx_cons,List.zipIdx_nil,List.map_cons,List.map_nil,Nat.zero_add,Nat.reduceAdd]
 have fin:∀ fr,Go.PV.look fr 4 = .ptr 0 0 0 0 → Q .ret fr [codes (l.take n) 0]:=fun fr e4=>by
  refine (hQ _ _ ?_).1
  simp only [resW,e4,fnRet]
  trivial
 by_cases h:(n:Int) < (l.length:Int)
 ·have h2:n ≤ l.length:=by omega
  simp only [pk_nil,pk_skip,pk_seq,pk_block,pk_region,pk_cond,pk_exit,pk_endB,pk_again,pk_ret,pe_nil,pe_code,pe_again,pe_endB,po_nil,po_cons,pog_true,pog_false,por_val,por_call,pc_bool,Go.PV.guardP,Go.PV.fits,Go.PV.putF,Go.PV.setF,Go.PV.look,Go.PV.evO,Go.PV.ofVal,Go.PV.mutOf,List.contains_nil,List.contains_cons,evC,pickC,nilC,binC,intC,isShift,shiftC,strC,boolC,unC,convC,extC,fieldC,fieldAddrC,idxC,indexC,loadC,lenC,maxC,minC,allocC,boxC,storeC,makeC,sliceC,buildC,buildSliceC,appTC,appC,rowsC,callC,builtinC,Option.isSome_some,Int.reduceToNat,Int.reduceEq,Int.reduceAdd,Int.reduceSub,Int.reduceMul,List.getD_cons_zero,List.getD_cons_succ,Int.reduceLE,Int.reduceLT,Int.reduceNeg,Bool.and_self,Bool.true_and,Bool.and_true,Nat.reduceMul,Int.cast_ofNat_Int,decide_true,decide_false,beq_self_eq_true,Bool.true_beq,Bool.false_beq,Nat.le_refl,Nat.reduceLeDiff,List.length_cons,List.length_nil,ne_eq,not_false_eq_true,Nat.succ_ne_self,Nat.one_ne_zero,true_and,and_true,if_true,if_false,Bool.false_eq_true,reduceIte,Nat.reduceEqDiff,↓Nat.reduceLT,Nat.reduceAdd,Nat.reduceBEq,reduceCtorEq,Bool.not_true,Bool.not_false,Bool.true_eq_false,decide_eq_true_eq,Option.bind_some,Option.bind_none,List.toList_toArray,List.getElem?_toArray,List.getElem?_cons_zero,List.getElem?_cons_succ,List.map_cons,List.map_nil,Option.map_some,Option.map_none,u_bytes,c_u8,enc_length,boundC,Int.natCast_nonneg,Int.toNat_natCast,Nat.zero_le,enc_all,enc_take,List.drop_zero,u_codes,z_codes,fillP,cellsV,PV.cell,c_bytes,c_int,List.all_cons,List.all_nil,fs_codes,splice,List.take_zero,List.drop_succ_cons,List.nil_append,List.cons_append,h,h2]
  exact fin _ rfl
 ·have ht:l.take n = l:=List.take_of_length_le (by omega)
  rw [ht] at fin
  simp only [pk_nil,pk_skip,pk_seq,pk_block,pk_region,pk_cond,pk_exit,pk_endB,pk_again,pk_ret,pe_nil,pe_code,pe_again,pe_endB,po_nil,po_cons,pog_true,pog_false,por_val,por_call,pc_bool,Go.PV.guardP,Go.PV.fits,Go.PV.putF,Go.PV.setF,Go.PV.look,Go.PV.evO,Go.PV.ofVal,Go.PV.mutOf,List.contains_nil,List.contains_cons,evC,pickC,nilC,binC,intC,isShift,shiftC,strC,boolC,unC,convC,extC,fieldC,fieldAddrC,idxC,indexC,loadC,lenC,maxC,minC,allocC,boxC,storeC,makeC,sliceC,buildC,buildSliceC,appTC,appC,rowsC,callC,builtinC,Option.isSome_some,Int.reduceToNat,Int.reduceEq,Int.reduceAdd,Int.reduceSub,Int.reduceMul,List.getD_cons_zero,List.getD_cons_succ,Int.reduceLE,Int.reduceLT,Int.reduceNeg,Bool.and_self,Bool.true_and,Bool.and_true,Nat.reduceMul,Int.cast_ofNat_Int,decide_true,decide_false,beq_self_eq_true,Bool.true_beq,Bool.false_beq,Nat.le_refl,Nat.reduceLeDiff,List.length_cons,List.length_nil,ne_eq,not_false_eq_true,Nat.succ_ne_self,Nat.one_ne_zero,true_and,and_true,if_true,if_false,Bool.false_eq_true,reduceIte,Nat.reduceEqDiff,↓Nat.reduceLT,Nat.reduceAdd,Nat.reduceBEq,reduceCtorEq,Bool.not_true,Bool.not_false,Bool.true_eq_false,decide_eq_true_eq,Option.bind_some,Option.bind_none,List.toList_toArray,List.getElem?_toArray,List.getElem?_cons_zero,List.getElem?_cons_succ,List.map_cons,List.map_nil,Option.map_some,Option.map_none,u_bytes,c_u8,enc_length,boundC,Int.natCast_nonneg,Int.toNat_natCast,Nat.zero_le,enc_all,enc_take,List.drop_zero,u_codes,z_codes,fillP,cellsV,PV.cell,c_bytes,c_int,List.all_cons,List.all_nil,fs_codes,splice,List.take_zero,List.drop_succ_cons,List.nil_append,List.cons_append,h]
  exact fin _ rfl
theorem codes_bel (l:List Int) (k n:Nat):ObjBel n (codes l k):=fun row hr p hp=>by
 rw [List.mem_singleton] at hr
 rw [hr] at hp
 simp only [List.mem_cons,List.not_mem_nil,or_false] at hp
 rcases hp with rfl | rfl
 ·exact bel_sl (enc_bel _ _ _)
 ·exact bel_int _ _ _
theorem next_on {σ:Store} {K:PV → Store → Prop} (o:Nat) (l:List Int) (k:Nat) (n:Int) (ho:σ[o]? = some (codes l k)) (hl:okInts .u8 l) (hll:l.length < 2 ^ 40) (hk:k ≤ l.length) (hn:n < 2 ^ 62)
  (hK:K (.int .i64 (nxt l k n).1) (σ.set o (codes l (nxt l k n).2))):PCall Try.prog 25 [.ptr o 0 0 0,.int .i64 n] σ K:=by
 refine PCall.use_on [o] (next_ok l k n hl hll hk hn) (by simp) rfl (fun j o' hj=>?_) (fun X hX=>?_) (MvL.cons (.ptr 0 o 0 0 0 rfl) (MvL.cons (.keep _ (bel_int _ _ _)) (MvL.nil _))) ?_
 ·match j with
  | 0=>simp at hj; rw [← hj]; exact ho
  | j + 1=>simp at hj
 ·rw [List.mem_singleton] at hX
  rw [hX]; exact codes_bel _ _ _
 ·rintro p σ2 ⟨rfl,rfl⟩
  refine ⟨bel_int _ _ _,rfl,fun X hX=>?_,hK⟩
  rw [List.mem_singleton] at hX
  rw [hX]; exact codes_bel _ _ _
def decI (rows:List (List PV)):List Int:=rows.map fun r=>match r with | [.int _ n]=>n | _=>0
theorem decI_enc (k:IntKind) (l:List Int):decI (encI k l) = l:=by
 simp only [decI,encI,List.map_map]
 exact List.map_id'' (fun _=>rfl) l
def exNextO (o:Nat) (n:Int) (σ:Store):Option Go.PV.Obj → Option (Prop × PV × Store)
 | some (.rows t sz [[.sl rows,.int .i64 k]] 0)=>some ((t = 81 ∧ sz = 2) ∧ rows = encI .u8 (decI rows) ∧ 0 ≤ k ∧ okInts .u8 (decI rows) ∧ (decI rows).length < 1099511627776 ∧ k.toNat ≤ (decI rows).length ∧ n < 4611686018427387904,
   .int .i64 (nxt (decI rows) k.toNat n).1,σ.set o (codes (decI rows) (nxt (decI rows) k.toNat n).2))
 | _=>none
def exNext (σ:Store):List PV → Option (Prop × PV × Store)
 | [.ptr o 0 0 0,.int .i64 n]=>exNextO o n σ σ[o]?
 | _=>none
theorem exNextO_codes (o:Nat) (n:Int) (σ:Store) (l:List Int) (k:Nat):exNextO o n σ (some (codes l k)) = some (okInts .u8 l ∧ l.length < 1099511627776 ∧ k ≤ l.length ∧ n < 4611686018427387904,.int .i64 (nxt l k n).1,σ.set o (codes l (nxt l k n).2)):=by
 simp only [codes,exNextO,decI_enc,Int.toNat_natCast,and_self,true_and,Int.natCast_nonneg]
theorem exNext_ok:Known.Ok Try.prog 25 (fun args σ=>exNext σ args):=by
 intro args σ c p σ' h hc
 simp only [exNext] at h
 split at h
 ·rename_i o n
  unfold exNextO at h
  split at h
  ·rename_i t sz rows k hob
   cases h
   obtain ⟨⟨rfl,rfl⟩,h1,h2,h3,h4,h5,h6⟩:=hc
   obtain ⟨q,rfl⟩:=Int.eq_ofNat_of_zero_le h2
   rw [Int.toNat_natCast] at h5 ⊢
   refine next_on o (decI rows) q n ?_ h3 (by omega) h5 (by omega) ⟨rfl,rfl⟩
   rw [hob,codes,← h1]
  ·cases h
 ·cases h
def nx:Ext:=noE.add 25 (fun args σ=>exNext σ args)
theorem nx_ok:ExtOk Try.prog nx:=(noE_ok _).add rfl exNext_ok
theorem nx_next (σ:Store) (o:Nat) (n:Int):nx.f 25 [.ptr o 0 0 0,.int .i64 n] σ = exNextO o n σ σ[o]?:=rfl
theorem fin1 {X Y:Go.PV.Obj} {G:Store} {K:PV → Store → Prop} {p p2:PV} (hf:Frz 1 (Y :: G) p p2) (hY:ObjBel 1 Y) (hk:K p2 [Y]):Go.PV.Fin [X] K p (Y :: G) :=
 ⟨p2,hf,fun o ho=>by
  have:o = 0:=by simp at ho; exact ho
  subst this
  exact ⟨Y,rfl,.inr hY⟩,by simpa using hk⟩
theorem codes_on {F:FuncId} {σ:Store} {K:PV → Store → Prop} (o:Nat) (l:List Int) (k k2:Nat) (v:PV) (h:PCall Try.prog F [.ptr 0 0 0 0] [codes l k] (fun p σ'=>p = v ∧ σ' = [codes l k2])) (hv:Bel 0 v) (ho:σ[o]? = some (codes l k))
  (hK:K v (σ.set o (codes l k2))):PCall Try.prog F [.ptr o 0 0 0] σ K:=by
 refine PCall.use_on [o] h (by simp) rfl (fun j o' hj=>?_) (fun X hX=>?_) (MvL.cons (.ptr 0 o 0 0 0 rfl) (MvL.nil _)) ?_
 ·match j with
  | 0=>simp at hj; rw [← hj]; exact ho
  | j + 1=>simp at hj
 ·rw [List.mem_singleton] at hX
  rw [hX]; exact codes_bel _ _ _
 ·rintro p σ2 ⟨rfl,rfl⟩
  refine ⟨hv,rfl,fun X hX=>?_,hK⟩
  rw [List.mem_singleton] at hX
  rw [hX]; exact codes_bel _ _ _
def exDrawO (g:List Int → Nat → PV × Nat) (o:Nat) (σ:Store):Option Go.PV.Obj → Option (Prop × PV × Store)
 | some (.rows t sz [[.sl rows,.int .i64 k]] 0)=>some ((t = 81 ∧ sz = 2) ∧ rows = encI .u8 (decI rows) ∧ 0 ≤ k ∧ okInts .u8 (decI rows) ∧ (decI rows).length < 1099511627776 ∧ k.toNat ≤ (decI rows).length,
   (g (decI rows) k.toNat).1,σ.set o (codes (decI rows) (g (decI rows) k.toNat).2))
 | _=>none
def exDraw (g:List Int → Nat → PV × Nat) (σ:Store):List PV → Option (Prop × PV × Store)
 | [.ptr o 0 0 0]=>exDrawO g o σ σ[o]?
 | _=>none
theorem exDrawO_codes (g:List Int → Nat → PV × Nat) (o:Nat) (σ:Store) (l:List Int) (k:Nat):exDrawO g o σ (some (codes l k)) = some (okInts .u8 l ∧ l.length < 1099511627776 ∧ k ≤ l.length,(g l k).1,σ.set o (codes l (g l k).2)):=by
 simp only [codes,exDrawO,decI_enc,Int.toNat_natCast,and_self,true_and,Int.natCast_nonneg]
theorem exDraw_ok {F:FuncId} {g:List Int → Nat → PV × Nat} (hb:∀ l k,Bel 0 (g l k).1) (h:∀ l k,okInts .u8 l → l.length < 2 ^ 40 → k ≤ l.length → PCall Try.prog F [.ptr 0 0 0 0] [codes l k] (fun p σ'=>p = (g l k).1 ∧ σ' = [codes l (g l k).2])) :
  Known.Ok Try.prog F (fun args σ=>exDraw g σ args):=by
 intro args σ c p σ' he hc
 simp only [exDraw] at he
 split at he
 ·rename_i o
  unfold exDrawO at he
  split at he
  ·rename_i t sz rows k hob
   cases he
   obtain ⟨⟨rfl,rfl⟩,h1,h2,h3,h4,h5⟩:=hc
   obtain ⟨q,rfl⟩:=Int.eq_ofNat_of_zero_le h2
   rw [Int.toNat_natCast] at h5 ⊢
   refine codes_on o (decI rows) q (g (decI rows) q).2 (g (decI rows) q).1 (h _ _ h3 (by omega) h5) (hb _ _) ?_ ⟨rfl,rfl⟩
   rw [hob,codes,← h1]
  ·cases he
 ·cases he
end Go.Proofs.Ytangodmcbmeeaaa
