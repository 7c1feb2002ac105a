import Derived.Test.YtangodmcbmeeaaaPvE
set_option maxRecDepth 8000
namespace Go.PV
section
variable {I:Imm} {ρ:Rho} {σ:Store} {w:World} {P:Program}
theorem run_mapM {α β:Type} (g:α → Sem β) (f:α → β):∀ l:List α,(∀ a ∈ l,(g a).run P w = .ok (f a) w) → (l.mapM g).run P w = .ok (l.map f) w
 | [],_=>rfl
 | a :: l,h=>by
  rw [List.mapM_cons]
  simp only [Sem.run_bind,h a (by simp),Result.andThen_ok,run_mapM g f l (fun b hb=>h b (by simp [hb])),Sem.run_pure,List.map_cons]
theorem does_alloc (hinv:Inv I ρ σ w) {t:TypeId} {zs:List PV} {K:PV → Store → Prop} (hz:zeroCells P t = some zs) (hK:K (.ptr σ.length 0 0 0) (σ ++ [.rows t zs.length [zs] 0])):Does P I ρ σ w K (Instr.alloc t true (.tuple #[])):=by
 obtain ⟨i,z,hi,hzz,hs,hr⟩:=zero_spec hz
 obtain ⟨I',ρ',L,h1,h2,h3,h4⟩:=new_var hinv (t:=t) (cs:=z.cells) hs (fun j q hj=>let ⟨u,hu,hR⟩:=hr j q hj; ⟨u,hu,hR I ρ⟩)
 refine ⟨_,_,I',ρ',_,_,hK,.ptr _ _ _ _ L h3,?_,h1,h2⟩
 simp [Instr.alloc,zeroValue,typeInfo,hi,hzz,newVar,newRow,h4]
theorem does_box (hinv:Inv I ρ σ w) {t:TypeId} {x:PV} {v:Value} (hx:R I ρ x v) {cells:List PV} {K:PV → Store → Prop} (hc:cellsV x = some cells) (hK:K (.ptr σ.length 0 0 0) (σ ++ [.rows t cells.length [cells] 0])) :
  Does P I ρ σ w K (Instr.box t v):=by
 obtain ⟨hs,hr,_⟩:=cellsV_spec hx hc
 obtain ⟨I',ρ',L,h1,h2,h3,h4⟩:=new_var hinv (t:=t) (cs:=v.cells) hs hr
 refine ⟨_,_,I',ρ',_,_,hK,.ptr _ _ _ _ L h3,?_,h1,h2⟩
 simp [Instr.box,newVar,newRow,h4]
theorem does_store (hinv:Inv I ρ σ w) {t:TypeId} {x a:PV} {v va:Value} (hx:R I ρ x v) (ha:R I ρ a va) {cells:List PV} {K:PV → Store → Prop} (hc:cellsV x = some cells) (hlen:cells.length = P.cellsOf t) (hne:P.cellsOf t ≠ 0)
  (hK:storeW σ K cells a):∃ σ' ρ' w',K .undef σ' ∧ (Instr.storeAt t va v).run P w = .ok () w' ∧ Inv I ρ' σ' w' ∧ Grow I ρ σ w I ρ' σ' w':=by
 obtain ⟨hs,hr,hone⟩:=cellsV_spec hx hc
 cases ha <;> simp only [storeW] at hK
 rename_i o ver i off L hL
 obtain ⟨elem,sz,rows,row,ho,hrow,hfit,hK⟩:=hK
 obtain ⟨L',cs,hL',h1,h2,h3,h4,h5,h6,h7,h8,h9,h10⟩:=hinv.objs o _ ho
 cases hL.symm.trans hL'
 have hi:i < rows.length:=(List.getElem?_eq_some_iff.1 hrow).1
 have hrl:=h7 row (List.mem_of_getElem? hrow)
 have hmul:(i + 1) * sz ≤ L.cap * sz:=Nat.mul_le_mul_right _ (by omega)
 rw [Nat.add_mul] at hmul
 have hst:=run_storeCells_at P L.block (i * sz + off) elem v.cells.toList 0 cs w h3 (by rw [Array.length_toList,hs,h6]; omega) (by simpa using hone)
 have hstore:(Instr.storeAt t (.pointer (some ⟨L.block,i * L.sz + off,none⟩)) v).run P w = .ok () (w.setRow L.block (cs.toList.take (i * sz + off) ++ v.cells.toList ++ cs.toList.drop (i * sz + off + v.cells.toList.length)).toArray):=by
  simp only [Instr.storeAt,Instr.sureAddr,storeVar,pure_bind,Sem.run_bind,run_sizeOf (info_of_cells hne),Result.andThen_ok]
  rw [if_neg (by rw [hs,hlen]; simp)]
  simp only [h1,Nat.add_zero] at hst ⊢
  exact hst
 have hget:∀ q,(cs.toList.take (i * sz + off) ++ v.cells.toList ++ cs.toList.drop (i * sz + off + v.cells.toList.length)).toArray[q]? = if i * sz + off ≤ q ∧ q < i * sz + off + cells.length then v.cells[q - (i * sz + off)]? else cs[q]?:=by
  intro q
  simp only [List.getElem?_toArray,List.append_assoc,List.getElem?_append,List.length_take,Array.length_toList,hs]
  rw [Nat.min_eq_left (by rw [h6]; omega)]
  by_cases q1:q < i * sz + off
  ·rw [if_pos q1,if_neg (by omega),List.getElem?_take,if_pos q1,Array.getElem?_toList]
  ·rw [if_neg q1]
   by_cases q2:q < i * sz + off + cells.length
   ·rw [if_pos (by omega),if_pos (by omega),Array.getElem?_toList]
   ·rw [if_neg (by omega),if_neg (by omega),List.getElem?_drop,Array.getElem?_toList]
    congr 1
    omega
 obtain ⟨ρ',g1,g2,g3⟩:=upd_rows hinv (w':=w.setRow L.block (cs.toList.take (i * sz + off) ++ v.cells.toList ++ cs.toList.drop (i * sz + off + v.cells.toList.length)).toArray) (rows':=rows.set i (splice row off cells)) (ver':=ver) (L':=L) ho hL (.inl ⟨rfl,rfl⟩) h1 (by rw [List.length_set]; exact h2) h4 h5
  (cs:=(cs.toList.take (i * sz + off) ++ v.cells.toList ++ cs.toList.drop (i * sz + off + v.cells.toList.length)).toArray) (by simp [hs]; omega) (.inl rfl)
  (fun r hr'=>by
   rcases List.mem_or_eq_of_mem_set hr' with hm | rfl
   ·exact h7 r hm
   ·rw [splice_length hfit]; exact hrl)
  (fun i' row' j p hi' hj=>by
   rw [hget]
   by_cases hii:i' = i
   ·subst hii
    rw [List.getElem?_set_self hi] at hi'
    cases hi'
    rcases splice_get hfit hj with ⟨q1,q2,q3⟩ | ⟨q1,q2⟩
    ·rw [if_pos (by omega)]
     have:=hr _ p q3
     rw [show i' * sz + j - (i' * sz + off) = j - off from by omega]
     exact this
    ·rw [if_neg (by omega)]
     exact h8 i' row j p hrow q2
   ·rw [List.getElem?_set_ne (Ne.symm hii)] at hi'
    have hj':j < sz:=by rw [← h7 row' (List.mem_of_getElem? hi')]; exact (List.getElem?_eq_some_iff.1 hj).1
    rw [if_neg (by
     rintro ⟨q1,q2⟩
     rcases Nat.lt_or_gt_of_ne hii with hlt | hlt
     ·have:=Nat.mul_le_mul_right sz (show i' + 1 ≤ i from hlt)
      rw [Nat.add_mul] at this
      omega
     ·have:=Nat.mul_le_mul_right sz (show i + 1 ≤ i' from hlt)
      rw [Nat.add_mul] at this
      omega)]
    exact h8 i' row' j p hi' hj)
  (setRow_heap w _ _ _ _ _ h3) (fun b _ hb=>setRow_other w _ _ _ hb) (by simp) rfl rfl rfl
 exact ⟨_,ρ',_,hK,hstore,g1,g2⟩
theorem made_get {z:Array Value} {n i j sz:Nat} (hz:z.size = sz) (hi:i < n) (hj:j < sz):(madeCells z (n * sz))[i * sz + j]? = z[j]?:=by
 have h:=idx_lt hi hj
 have hm:(i * sz + j) % sz = j:=by rw [Nat.mul_comm,Nat.mul_add_mod,Nat.mod_eq_of_lt hj]
 simp only [madeCells,Array.getElem?_map,Array.getElem?_range]
 rw [if_pos h]
 simp only [Option.map_some,hz,hm]
 rw [getElem!_pos z j (by omega),Array.getElem?_eq_getElem (by omega)]
theorem does_make (hinv:Inv I ρ σ w) {t elem:TypeId} {kl kc:IntKind} {n:Int} {zs:List PV} {K:PV → Store → Prop} (h0:0 ≤ n) (hu:P.underlying t = some (.slice elem)) (hz:zeroCells P elem = some zs) (hlen:zs.length = P.cellsOf elem)
  (hb:n.toNat * P.bytesOf elem ≤ maxBytes) (hm:n ≤ 9223372036854775807) (hK:K (.msl σ.length 0) (σ ++ [.rows elem zs.length (List.replicate n.toNat zs) 0])):Does P I ρ σ w K (Instr.makeSlice t (.int kl n) (.int kc n)):=by
 obtain ⟨i,z,hi,hzz,hs,hr⟩:=zero_spec hz
 have hsize:P.cellsOf elem = i.size:=by simp [Program.cellsOf,hi]
 have hbytes:P.bytesOf elem = i.bytes:=by simp [Program.bytesOf,hi]
 have hrun:=run_make (P:=P) w t elem i z hu hi hzz kl kc n n h0 (Int.le_refl _) (by
  rw [hbytes] at hb
  have:(i.bytes:Int) * n = ((n.toNat * i.bytes:Nat):Int):=by rw [Int.natCast_mul,Int.toNat_of_nonneg h0,Int.mul_comm]
  rw [this]
  simp only [maxBytes] at hb
  omega) hm
 obtain ⟨I',ρ',h1,h2,h3⟩:=new_rows hinv (w':=w.alloc (.cells (madeCells z.cells (n.toNat * i.size)) elem)) (elem:=elem) (sz:=zs.length) (cap:=n.toNat) (rows:=List.replicate n.toNat zs) (cs:=madeCells z.cells (n.toNat * i.size))
  (fun row hrow=>by rw [(List.mem_replicate.1 hrow).2]) (by simp) (by simp only [maxLen]; omega) (by rw [size_madeCells,hlen,hsize])
  (fun i' row j p hi' hj=>by
   obtain ⟨hlt,he⟩:=List.getElem?_eq_some_iff.1 hi'
   simp at hlt he
   subst he
   have hj':=(List.getElem?_eq_some_iff.1 hj).1
   obtain ⟨u,hu',hR⟩:=hr j p hj
   refine ⟨u,?_,hR I ρ⟩
   rw [← hsize,← hlen,made_get hs (by omega) hj']
   exact hu')
  (heap_alloc_new w _) (fun b hb=>alloc_heap_old w _ b hb) rfl rfl rfl
 refine ⟨_,_,I',ρ',_,_,hK,?_,hrun,h1,h2⟩
 have:=R.msl (I:=I') (ρ:=ρ') _ _ _ h3
 simpa using this
theorem does_build (hinv:Inv I ρ σ w) {e:Operand → PV} {ev:Operand → Value} (he:∀ x,R I ρ (e x) (ev x)) {t:TypeId} {parts:Array (Nat × Operand)} {zs:List PV} {K:PV → Store → Prop} (hz:zeroCells P t = some zs)
  (h:match P.underlying t with
  | some (.struct fields)=>∃ cells,fillP (fun i=>(fields[i]?).map fun f=>(f.offset,P.cellsOf f.type)) zs (parts.toList.map fun (i,x)=>(i,e x)) = some cells ∧ fields.all (fun f=>(P.info? f.type).isSome) = true ∧ K (.agg cells) σ
  | some (.array _ elem)=>∃ cells,fillP (fun i=>some (i * P.cellsOf elem,P.cellsOf elem)) zs (parts.toList.map fun (i,x)=>(i,e x)) = some cells ∧ P.cellsOf elem ≠ 0 ∧ K (.agg cells) σ
  | _=>False):Does P I ρ σ w K (Instr.build t (parts.map fun (i,x)=>(i,ev x))):=by
 obtain ⟨i,z,hi,hzz,hs,hr⟩:=zero_spec hz
 have hzv:(zeroValue t).run P w = .ok z w:=by simp [zeroValue,typeInfo,hi,hzz]
 have hfill:∀ (place:Nat → Option (Nat × Nat)) (cells:List PV),fillP place zs (parts.toList.map fun (i,x)=>(i,e x)) = some cells →
   ∃ A',Instr.fill place z.cells (parts.map fun (i,x)=>(i,ev x)).toList = some A' ∧ A'.size = cells.length ∧ ∀ (j:Nat) (p:PV),cells[j]? = some p → ∃ u,A'[j]? = some u ∧ R I ρ p u:=fun place cells hf =>
  fill_sound place _ _ zs cells z.cells (by simp) (fun m q v hq hv=>by
   simp only [List.getElem?_map,Option.map_eq_some_iff,Array.toList_map] at hq hv
   obtain ⟨x,hx,rfl⟩:=hq
   obtain ⟨y,hy,rfl⟩:=hv
   cases hx.symm.trans hy
   exact ⟨rfl,he _⟩) hs (fun j q hj=>let ⟨u,hu,hR⟩:=hr j q hj; ⟨u,hu,hR I ρ⟩) hf
 have hend:∀ (cells:List PV) (A':Array Value),A'.size = cells.length → (∀ (j:Nat) (p:PV),cells[j]? = some p → ∃ u,A'[j]? = some u ∧ R I ρ p u) → R I ρ (.agg cells) (.agg A'):=fun cells A' h1 h2 =>
  .agg _ _ h1 (fun j p hj=>by
   obtain ⟨u,hu,hR⟩:=h2 j p hj
   rw [Array.getD_eq_getD_getElem?,hu]
   exact hR)
 split at h
 ·rename_i fields hu
  obtain ⟨cells,hf,hall,hK⟩:=h
  obtain ⟨A',e1,e2,e3⟩:=hfill _ _ hf
  refine ⟨_,_,I,ρ,.agg A',w,hK,hend _ _ e2 e3,?_,hinv,.refl _ _ _ _⟩
  have hmap:(fields.mapM fun f=>do pure (f.offset,← sizeOf f.type):Sem (Array (Nat × Nat))).run P w = .ok (fields.map fun f=>(f.offset,P.cellsOf f.type)) w:=by
   have hm:=run_mapM (P:=P) (w:=w) (fun f:Field=>(do pure (f.offset,← sizeOf f.type):Sem (Nat × Nat))) (fun f=>(f.offset,P.cellsOf f.type)) fields.toList
    (fun f hf=>by
     have hf':=Array.all_eq_true_iff_forall_mem.1 hall f (by simpa using hf)
     simp only [Sem.run_bind,run_sizeOf hf',Result.andThen_ok,Sem.run_pure])
   have hex:(fields.toList.map fun f=>(f.offset,P.cellsOf f.type)).toArray = fields.map fun f=>(f.offset,P.cellsOf f.type):=by apply Array.ext'; simp
   rw [Array.mapM_eq_mapM_toList,Sem.run_map,hm,Result.andThen_ok,hex]
  simp only [Instr.build,Sem.run_bind,hzv,Result.andThen_ok,run_underlying hu,hmap]
  rw [show (fun x:Nat=>(fields.map fun f=>(f.offset,P.cellsOf f.type))[x]?) = (fun i=>(fields[i]?).map fun f=>(f.offset,P.cellsOf f.type)) from funext fun x=>by simp,e1]
  rfl
 ·rename_i n elem hu
  obtain ⟨cells,hf,hne,hK⟩:=h
  obtain ⟨A',e1,e2,e3⟩:=hfill _ _ hf
  refine ⟨_,_,I,ρ,.agg A',w,hK,hend _ _ e2 e3,?_,hinv,.refl _ _ _ _⟩
  simp only [Instr.build,Sem.run_bind,hzv,Result.andThen_ok,run_underlying hu,run_sizeOf (info_of_cells hne)]
  rw [e1]
  rfl
 ·exact h.elim
theorem does_buildSlice (hinv:Inv I ρ σ w) {e:Operand → PV} {ev:Operand → Value} (he:∀ x,R I ρ (e x) (ev x)) {t elem:TypeId} {len:Nat} {parts:Array (Nat × Operand)} {zs:List PV} {rows:List (List PV)} {K:PV → Store → Prop}
  (hu:P.underlying t = some (.slice elem)) (hne:P.cellsOf elem ≠ 0) (hz:zeroCells P elem = some zs)
  (hrows:rowsP (P.cellsOf elem) 0 (parts.toList.map fun (i,x)=>(i,e x)) = some rows) (hlen:rows.length = len) (hfit:len * P.cellsOf elem ≤ 16777216)
  (hK:(rows = [] ∧ K (.sl []) σ) ∨ (rows ≠ [] ∧ K (.sl rows) σ) ∨ (True ∧ K (.msl σ.length 0) (σ ++ [.rows elem (P.cellsOf elem) rows 0]))) :
  Does P I ρ σ w K (Instr.buildSlice t len (parts.map fun (i,x)=>(i,ev x))):=by
 obtain ⟨i,z,hi,hzz,hs,hr⟩:=zero_spec hz
 have hzv:(zeroValue elem).run P w = .ok z w:=by simp [zeroValue,typeInfo,hi,hzz]
 obtain ⟨hpl,hsp⟩:=rowsP_spec _ _ _ _ hrows
 have hplen:parts.size = len:=by rw [← hlen,hpl]; simp
 have hall:∀ row ∈ rows,row.length = P.cellsOf elem:=fun row hrow=>by
  obtain ⟨m,hm,rfl⟩:=List.getElem_of_mem hrow
  obtain ⟨_,row',h1,h2,_⟩:=hsp m _ (List.getElem?_eq_getElem (by rw [← hpl]; exact hm))
  rw [List.getElem?_eq_getElem hm] at h1
  cases h1
  exact h2
 obtain ⟨A,f1,f2,f3⟩:=fill_rows (I:=I) (ρ:=ρ) (P.cellsOf elem) rows hall (parts.map fun (i,x)=>(i,ev x)).toList 0 ((Array.range (len * P.cellsOf elem)).map (z.cells[· % z.cells.size]!)) (by simp [hplen,hlen]) (by simp [hlen])
  (fun m v hv=>by
   simp only [Array.toList_map,List.getElem?_map,Option.map_eq_some_iff] at hv
   obtain ⟨q,hq,rfl⟩:=hv
   obtain ⟨g1,row,g2,g3,g4⟩:=hsp m (q.1,e q.2) (by simp [hq])
   obtain ⟨c1,c2,_⟩:=cellsV_spec (he q.2) g4
   refine ⟨g1,by simp only; rw [c1,g3],fun row' j p hr' hj=>?_⟩
   rw [Nat.zero_add,g2] at hr'
   cases hr'
   exact c2 j p hj) (fun _ _ _ _ h=>absurd h (Nat.not_lt_zero _))
 have hsz:A.size = len * P.cellsOf elem:=by rw [f2]; simp
 have hrun:(Instr.buildSlice t len (parts.map fun (i,x)=>(i,ev x))).run P w = .ok (.slice (some ⟨w.heap.size,0,none⟩) len len) (w.alloc (.cells A elem)):=by
  simp only [Instr.buildSlice,Sem.run_bind,run_underlying hu,Result.andThen_ok,run_sizeOf (info_of_cells hne)]
  rw [if_neg (by omega)]
  by_cases h0:len * P.cellsOf elem = 0
  ·simp only [h0,if_true,pure_bind] at f1 ⊢
   have:(Array.range 0).map (fun x=>(#[]:Array Value)[x % (#[]:Array Value).size]!) = (Array.range 0).map (z.cells[· % z.cells.size]!):=by simp
   rw [this,f1]
   simp [newRow]
  ·simp only [h0,if_false,Sem.run_bind,hzv,Result.andThen_ok,pure_bind]
   rw [f1]
   simp [newRow]
 rcases hK with ⟨hnil,hK⟩ | ⟨hnil,hK⟩ | ⟨hnil,hK⟩
 ·have hl0:len = 0:=by rw [← hlen,hnil]; rfl
  obtain ⟨h1,h2⟩:=hinv.newImm (w':=w.alloc (.cells A elem)) (b:=w.heap.size) (cs:=fun _=>none) (Nat.le_refl _) (fun _ _ h=>by cases h) (fun b hb=>alloc_heap_old w _ b hb) (by simp) rfl rfl rfl
  exact ⟨_,_,_,_,_,_,hK,by rw [hl0]; exact .slNil _ _,hrun,h1,h2⟩
 ·obtain ⟨h1,h2⟩:=hinv.newImm (w':=w.alloc (.cells A elem)) (b:=w.heap.size) (cs:=fun q=>A[q]?) (Nat.le_refl _) (fun off v h=>by rw [cell_of_row _ _ _ _ _ _ (heap_alloc_new w _)]; exact h)
   (fun b hb=>alloc_heap_old w _ b hb) (by simp) rfl rfl rfl
  refine ⟨_,_,_,_,_,_,hK,?_,hrun,h1,h2⟩
  rw [← hlen]
  refine R.sl rows w.heap.size 0 (P.cellsOf elem) rows.length (fun i j=>A.getD (i * P.cellsOf elem + j) Go.undef) (Nat.le_refl _) hall (fun i row j p hi' hj=>?_) (fun i row j p hi' hj=>?_)
  ·obtain ⟨u,hu',_⟩:=f3 i row j p hi' hj
   simp only [extI,if_true,Nat.zero_add,Array.getD_eq_getD_getElem?,hu',Option.getD_some]
  ·obtain ⟨u,hu',hR⟩:=f3 i row j p hi' hj
   simp only [Array.getD_eq_getD_getElem?,hu',Option.getD_some]
   exact h2.R hR
 ·obtain ⟨I',ρ',h1,h2,h3⟩:=new_rows hinv (w':=w.alloc (.cells A elem)) (elem:=elem) (sz:=P.cellsOf elem) (cap:=len) (rows:=rows) (cs:=A) hall (by omega) (by simp only [maxLen]; have:=Nat.le_mul_of_pos_right len (Nat.pos_of_ne_zero hne); omega) hsz
   f3 (heap_alloc_new w _) (fun b hb=>alloc_heap_old w _ b hb) rfl rfl rfl
  refine ⟨_,_,I',ρ',_,_,hK,?_,hrun,h1,h2⟩
  have:=R.msl (I:=I') (ρ:=ρ') _ _ _ h3
  simpa [hlen] using this
theorem does_append0 (hinv:Inv I ρ σ w) {t tx elem ty:TypeId} {zs:List PV} {s:PV} {vs:Value} (hs:R I ρ s vs) (hnp:∀ o ver h,s ≠ .mpre o ver h) {K:PV → Store → Prop}
  (hu:P.underlying t = some (.slice elem)) (hux:P.underlying tx = some (.slice elem)) (hz:zeroCells P elem = some zs) (hzl:zs.length = P.cellsOf elem)
  {a:Option Addr} {news:List (List PV)} {cap:Nat} (hnews:∀ row ∈ news,row.length = P.cellsOf elem ∧ row.all PV.cell = true) (hK:appW P σ K elem news s) (hnone:a = none → news = []) (cs:List Value) (c1:cs.length = news.length * P.cellsOf elem) (c2:∀ u ∈ cs,u.oneCell' = true)
  (c3:∀ ad,a = some ad → ∀ (j:Nat) (u:Value),cs[j]? = some u → w.cell? (ad.add j) = some u) (c4:∀ (i:Nat) (row:List PV) (j:Nat) (p:PV),news[i]? = some row → row[j]? = some p → ∃ u,cs[i * P.cellsOf elem + j]? = some u ∧ R I ρ p u) :
  Does P I ρ σ w K (Builtin.append_ #[t,tx] ty #[vs,.slice a news.length cap]):=by
 obtain ⟨i,z,hi,hzz,hzs,hzr⟩:=zero_spec hz
 have hsize:P.cellsOf elem = i.size:=by simp [Program.cellsOf,hi]
 have hbytes:P.bytesOf elem = i.bytes:=by simp [Program.bytesOf,hi]
 have hsrc:∀ w':World,(∀ ad,a = some ad → ∀ j u,cs[j]? = some u → w'.cell? (ad.add j) = some u) → Src P i.size tx (.slice a news.length cap) news.length cs w':=fun w' hc=>by
  cases a with
  | none =>
   have hn:=hnone rfl
   subst hn
   have:cs = []:=List.eq_nil_of_length_eq_zero (by simpa using c1)
   subst this
   exact Src.ofNil w' hux cap
  | some ad=>exact Src.ofSlice w' hux ad news.length cap cs (by rw [← hsize]; exact c1) (hc ad rfl) c2
 have grown:∀ (base:Option Addr) (sLen sCap:Nat) (olds:List Value) (rows:List (List PV)),rows.length = sLen → olds.length = sLen * P.cellsOf elem → (∀ row ∈ rows,row.length = P.cellsOf elem) →
   (Builtin.firstCells i.size sLen (.slice base sLen sCap)).run P w.drew = .ok olds.toArray w.drew → (∀ (i:Nat) (row:List PV) (j:Nat) (p:PV),rows[i]? = some row → row[j]? = some p → ∃ u,olds[i * P.cellsOf elem + j]? = some u ∧ R I ρ p u) →
   sCap < sLen + news.length → sLen + news.length ≤ maxLen → (sLen + news.length) * P.bytesOf elem ≤ maxBytes →
   ∃ (A:Array Value) (c:Nat),(Builtin.append_ #[t,tx] ty #[.slice base sLen sCap,.slice a news.length cap]).run P w = .ok (.slice (some ⟨w.heap.size,0,none⟩) (sLen + news.length) c) (w.drew.alloc (.cells A elem)) ∧
    A.size = c * P.cellsOf elem ∧ sLen + news.length ≤ c ∧ c ≤ maxLen ∧ ∀ (i:Nat) (row:List PV) (j:Nat) (p:PV),(rows ++ news)[i]? = some row → row[j]? = some p → ∃ u,A[i * P.cellsOf elem + j]? = some u ∧ R I ρ p u:=by
  intro base sLen sCap olds rows hrl hol hrsz hold hor hg hm hb
  have hrun:=run_append_grow_src (P:=P) w t tx ty elem i z hu hi hzz base sLen sCap olds hold (.slice a news.length cap) news.length cs (hsrc w c3) hg (by simp only [maxLen] at hm; omega) (growslice_fits hg (by rw [← hbytes]; exact hb))
  have hge:=grownCap_ge w (sLen + news.length) sCap elem
  refine ⟨_,_,hrun,?_,hge,grownCap_le_maxLen w _ _ _ hm,?_⟩
  ·simp only [Array.size_append,List.size_toArray,List.length_append,size_zeroCells,hol,c1,hzs,hzl,← Nat.add_mul]
   congr 1
   omega
  ·intro i' row j p hi' hj
   have hlt:i' < (rows ++ news).length:=(List.getElem?_eq_some_iff.1 hi').1
   rw [List.length_append,hrl] at hlt
   have hjs:j < P.cellsOf elem:=by
    have:=(List.getElem?_eq_some_iff.1 hj).1
    rcases List.mem_append.1 (List.mem_of_getElem? hi') with hm | hm
    ·rw [hrsz row hm] at this; exact this
    ·rw [(hnews row hm).1] at this; exact this
   have hidx:=idx_lt hlt hjs
   rw [Nat.add_mul] at hidx
   rw [Array.getElem?_append_left (by simp [hol,c1]; omega),List.getElem?_toArray]
   rw [List.getElem?_append] at hi'
   by_cases hir:i' < rows.length
   ·rw [if_pos hir] at hi'
    obtain ⟨u,hu',hR⟩:=hor i' row j p hi' hj
    exact ⟨u,by rw [List.getElem?_append_left (List.getElem?_eq_some_iff.1 hu').1]; exact hu',hR⟩
   ·rw [if_neg hir] at hi'
    obtain ⟨u,hu',hR⟩:=c4 _ row j p hi' hj
    refine ⟨u,?_,hR⟩
    have hmul:i' * P.cellsOf elem = sLen * P.cellsOf elem + (i' - rows.length) * P.cellsOf elem:=by rw [← Nat.add_mul]; congr 1; omega
    rw [List.getElem?_append_right (by rw [hol,hmul]; omega),hol,hmul,← hu']
    congr 1
    omega
 cases hs <;> simp only [appW] at hK
 ·obtain ⟨hb,hm,hK⟩:=hK
  by_cases hn:news = []
  ·subst hn
   have hcs:cs = []:=List.eq_nil_of_length_eq_zero (by simpa using c1)
   subst hcs
   rcases hK with ⟨_,hK⟩ | ⟨hn',_⟩
   ·have hkind:=(hsrc w c3)
    refine ⟨_,_,I,ρ,.slice none 0 0,w,hK,.nils,?_,hinv,.refl _ _ _ _⟩
    have h1:=hkind.len w
    have h2:=hkind.cells
    simp [Builtin.append_,run_underlying hu,run_underlying hux,sizeOf,typeInfo,hi,h1,h2] at h1 h2 ⊢
    all_goals simp [h2]
   ·exact absurd rfl hn'
  ·have hpos:0 < news.length:=List.length_pos_iff.2 hn
   rcases hK with ⟨hn',_⟩ | ⟨_,hK⟩
   ·exact absurd hn' hn
   ·obtain ⟨A,c,g1,g2,g3,g4,g5⟩:=grown none 0 0 [] [] rfl (by simp) (by simp) (by simp [Builtin.firstCells]) (by simp) (by omega) (by omega) (by rw [Nat.zero_add]; exact hb)
    simp only [List.nil_append,Nat.zero_add] at g1 g3 g5
    have hd:=hinv.of_heap (w':=w.drew) rfl
    obtain ⟨I',ρ',h1,h2,h3⟩:=new_rows hd (w':=w.drew.alloc (.cells A elem)) (elem:=elem) (sz:=P.cellsOf elem) (cap:=c) (rows:=news) (cs:=A) (fun row hr=>(hnews row hr).1) g3 g4 g2 g5 (heap_alloc_new w.drew _) (fun b hb=>alloc_heap_old w.drew _ b hb) rfl rfl rfl
    refine ⟨_,_,I',ρ',_,_,hK,?_,g1,h1,(Grow.of_heap I ρ σ (w:=w) (w':=w.drew) rfl rfl rfl rfl).trans h2⟩
    have:=R.msl (I:=I') (ρ:=ρ') _ _ _ h3
    simpa using this
 ·rename_i o ver L hL
  obtain ⟨rows,ho,hb,hm,hK⟩:=hK
  obtain ⟨L',cur,hL',q1,q2,q3,q4,q5,q6,q7,q8,q9,q10⟩:=hinv.objs o _ ho
  cases hL.symm.trans hL'
  have hsizes:∀ row ∈ rows ++ news,row.length = P.cellsOf elem:=fun row hr=>by
   rcases List.mem_append.1 hr with hm | hm
   ·exact q7 row hm
   ·exact (hnews row hm).1
  by_cases hroom:L.len + news.length ≤ L.cap
  ·
   have hmul:(L.len + news.length) * P.cellsOf elem ≤ L.cap * P.cellsOf elem:=Nat.mul_le_mul_right _ hroom
   rw [Nat.add_mul] at hmul
   have hst:=run_storeCells_at P L.block (L.len * P.cellsOf elem) elem cs 0 cur w q3 (by rw [c1,q6]; omega) c2
   simp only [Nat.add_zero] at hst
   have hrun:(Builtin.append_ #[t,tx] ty #[.slice (some ⟨L.block,0,none⟩) L.len L.cap,.slice a news.length cap]).run P w = .ok (.slice (some ⟨L.block,0,none⟩) (L.len + news.length) L.cap)
     (w.setRow L.block (cur.toList.take (L.len * P.cellsOf elem) ++ cs ++ cur.toList.drop (L.len * P.cellsOf elem + cs.length)).toArray):=by
    have hk:=hsrc w c3
    have h1:=hk.len w
    have h2:=hk.cells
    rw [hsize] at hst ⊢
    simp [Builtin.append_,run_underlying hu,run_underlying hux,sizeOf,typeInfo,hi,h1,h2,hroom,Addr.add_lit,hst]
   have hget:∀ q,q < (L.len + news.length) * P.cellsOf elem → (cur.toList.take (L.len * P.cellsOf elem) ++ cs ++ cur.toList.drop (L.len * P.cellsOf elem + cs.length)).toArray[q]? = if q < L.len * P.cellsOf elem then cur[q]? else cs[q - L.len * P.cellsOf elem]?:=by
    intro q hq
    rw [Nat.add_mul] at hq
    simp only [List.getElem?_toArray,List.append_assoc,List.getElem?_append,List.length_take,Array.length_toList]
    rw [Nat.min_eq_left (by rw [q6]; omega)]
    by_cases hq1:q < L.len * P.cellsOf elem
    ·rw [if_pos hq1,if_pos hq1,List.getElem?_take,if_pos hq1,Array.getElem?_toList]
    ·rw [if_neg hq1,if_neg hq1,if_pos (by rw [c1]; omega)]
   obtain ⟨ρ',g1,g2,g3⟩:=upd_rows hinv (w':=w.setRow L.block (cur.toList.take (L.len * P.cellsOf elem) ++ cs ++ cur.toList.drop (L.len * P.cellsOf elem + cs.length)).toArray) (rows':=rows ++ news) (ver':=ver + 1)
    (L':=⟨L.block,L.sz,L.len + news.length,L.cap⟩) ho hL (.inr rfl) q1 (by simp [q2]) hroom q5
    (cs:=(cur.toList.take (L.len * P.cellsOf elem) ++ cs ++ cur.toList.drop (L.len * P.cellsOf elem + cs.length)).toArray)
    (by rw [List.size_toArray]; simp only [List.length_append,List.length_take,List.length_drop,Array.length_toList,c1,q6]; omega) (.inl rfl) hsizes
    (fun i' row j p hi' hj=>by
     have hlt:i' < (rows ++ news).length:=(List.getElem?_eq_some_iff.1 hi').1
     rw [List.length_append,← q2] at hlt
     have hjs:j < P.cellsOf elem:=by rw [← hsizes row (List.mem_of_getElem? hi')]; exact (List.getElem?_eq_some_iff.1 hj).1
     rw [hget _ (idx_lt hlt hjs)]
     rw [List.getElem?_append] at hi'
     by_cases hir:i' < rows.length
     ·rw [if_pos hir] at hi'
      rw [if_pos (by rw [q2]; exact idx_lt hir hjs)]
      exact q8 i' row j p hi' hj
     ·rw [if_neg hir] at hi'
      have hmul':i' * P.cellsOf elem = L.len * P.cellsOf elem + (i' - rows.length) * P.cellsOf elem:=by rw [← Nat.add_mul]; congr 1; omega
      rw [if_neg (by omega)]
      obtain ⟨u,hu',hR⟩:=c4 _ row j p hi' hj
      exact ⟨u,by rw [← hu']; congr 1; omega,hR⟩)
    (setRow_heap w _ _ _ _ _ q3) (fun b _ hb=>setRow_other w _ _ _ hb) (by simp) rfl rfl rfl
   refine ⟨_,_,I,ρ',_,_,hK,?_,hrun,g1,g2⟩
   have:=R.msl (I:=I) (ρ:=ρ') _ _ _ g3
   simpa using this
  ·
   have hroom':L.cap < L.len + news.length:=by omega
   have holds:∃ olds:List Value,olds.length = L.len * P.cellsOf elem ∧ (∀ (j:Nat) (u:Value),olds[j]? = some u → cur[j]? = some u) ∧ (∀ (i:Nat) (row:List PV) (j:Nat) (p:PV),rows[i]? = some row → row[j]? = some p → ∃ u,olds[i * P.cellsOf elem + j]? = some u ∧ R I ρ p u):=by
    have hmul:L.len * P.cellsOf elem ≤ L.cap * P.cellsOf elem:=Nat.mul_le_mul_right _ q4
    refine ⟨cur.toList.take (L.len * P.cellsOf elem),by rw [List.length_take,Array.length_toList,q6]; omega,fun j u hj=>?_,fun i' row j p hi' hj=>?_⟩
    ·rw [List.getElem?_take] at hj
     split at hj
     ·rwa [Array.getElem?_toList] at hj
     ·cases hj
    ·obtain ⟨u,hu',hR⟩:=q8 i' row j p hi' hj
     have hjs:j < P.cellsOf elem:=by rw [← q7 row (List.mem_of_getElem? hi')]; exact (List.getElem?_eq_some_iff.1 hj).1
     refine ⟨u,?_,hR⟩
     rw [List.getElem?_take,if_pos (by rw [q2]; exact idx_lt (List.getElem?_eq_some_iff.1 hi').1 hjs),Array.getElem?_toList]
     exact hu'
   obtain ⟨olds,o1,o2,o3⟩:=holds
   have hfirst:(Builtin.firstCells i.size L.len (.slice (some ⟨L.block,0,none⟩) L.len L.cap)).run P w.drew = .ok olds.toArray w.drew :=
    run_firstCells_some (P:=P) w.drew i.size L.len ⟨L.block,0,none⟩ L.len L.cap olds (by rw [← hsize]; exact o1) (fun j u hj=>by
     rw [Addr.add_lit,Nat.zero_add,cell_of_row w.drew _ _ _ _ _ (show w.drew.heap[L.block]? = _ from q3)]
     exact o2 j u hj)
   obtain ⟨A,c,g1,g2,g3,g4,g5⟩:=grown (some ⟨L.block,0,none⟩) L.len L.cap olds rows q2.symm o1 q7 hfirst o3 hroom' (by rw [q2]; exact hm) (by rw [q2]; exact hb)
   have hd:=hinv.of_heap (w':=w.drew) rfl
   obtain ⟨ρ',h1,h2,h3⟩:=upd_rows hd (w':=w.drew.alloc (.cells A elem)) (rows':=rows ++ news) (ver':=ver + 1) (L':=⟨w.heap.size,L.sz,L.len + news.length,c⟩) ho hL (.inr rfl) q1 (by simp [q2]) g3 g4 (cs:=A) g2 (.inr (Nat.le_refl _)) hsizes
    g5 (heap_alloc_new w.drew _) (fun b hb _=>alloc_heap_old w.drew _ b hb) (by simp) rfl rfl rfl
   refine ⟨_,_,I,ρ',_,_,hK,?_,g1,h1,(Grow.of_heap I ρ σ (w:=w) (w':=w.drew) rfl rfl rfl rfl).trans h2⟩
   have:=R.msl (I:=I) (ρ:=ρ') _ _ _ h3
   simpa using this
 ·exact absurd rfl (hnp _ _ _)
theorem take_rows (hinv:Inv I ρ σ w) {o ver h el sz:Nat} {rows:List (List PV)} {L:Loc} (hL:ρ o ver = some L) (ho:σ[o]? = some (.rows el sz rows ver)) (hh:h ≤ rows.length) :
  ∃ ρ',Inv I ρ' (σ.set o (.rows el sz (rows.take h) (ver + 1))) w ∧ Grow I ρ σ w I ρ' (σ.set o (.rows el sz (rows.take h) (ver + 1))) w ∧ ρ' o (ver + 1) = some ⟨L.block,L.sz,h,L.cap⟩:=by
 obtain ⟨L',cur,hL',q1,q2,q3,q4,q5,q6,q7,q8,q9,q10⟩:=hinv.objs o _ ho
 cases hL.symm.trans hL'
 have hlen:(rows.take h).length = h:=by simp; omega
 exact upd_rows hinv (w':=w) (rows':=rows.take h) (ver':=ver + 1) (L':=⟨L.block,L.sz,h,L.cap⟩) ho hL (.inr rfl) q1 hlen.symm (by simp only; omega) q5 (cs:=cur) q6 (.inl rfl)
  (fun row hrow=>q7 row (List.mem_of_mem_take hrow)) (fun i row j p hi' hj=>q8 i row j p (by
   rw [List.getElem?_take] at hi'
   split at hi'
   ·exact hi'
   ·cases hi') hj) q3 (fun _ _ _=>rfl) (Nat.le_refl _) rfl rfl rfl
theorem does_append (hinv:Inv I ρ σ w) {t tx elem ty:TypeId} {zs:List PV} {s x:PV} {vs vx:Value} (hs:R I ρ s vs) (hx:R I ρ x vx) {K:PV → Store → Prop}
  (hu:P.underlying t = some (.slice elem)) (hux:P.underlying tx = some (.slice elem)) (hz:zeroCells P elem = some zs) (hzl:zs.length = P.cellsOf elem)
  (h:rowsOf σ (fun news=>(∀ row ∈ news,row.length = P.cellsOf elem ∧ row.all PV.cell = true) ∧ appW P σ K elem news s) x) :
  Does P I ρ σ w K (Builtin.append_ #[t,tx] ty #[vs,vx]):=by
 obtain ⟨a,news,cap,rfl,⟨hnews,hK⟩,hnone,cs,c1,c2,c3,c4⟩:=rowsOf_cells hinv hx h (P.cellsOf elem) (fun rows hr=>hr.1)
 by_cases hp:∃ o ver h,s = .mpre o ver h
 ·obtain ⟨o,ver,h',rfl⟩:=hp
  cases hs
  rename_i L hL hh
  simp only [appW] at hK
  obtain ⟨rows,ho,hhr,hb,hm,hK⟩:=hK
  obtain ⟨ρ',g1,g2,g3⟩:=take_rows hinv hL ho hhr
  have hol:=(List.getElem?_eq_some_iff.1 ho).1
  obtain ⟨p,σ',I',ρ2,v,w',h1,h2,h3,h4,h5⟩:=does_append0 (ty:=ty) (K:=K) g1 (.msl o (ver + 1) _ g3) (fun _ _ _=>by simp) hu hux hz hzl (cap:=cap) hnews (by
   simp only [appW]
   exact ⟨rows.take h',List.getElem?_set_self hol,hb,hm,hK⟩) hnone cs c1 c2 c3 (fun i row j p hi hj=>by
   obtain ⟨u,hu',hR⟩:=c4 i row j p hi hj
   exact ⟨u,hu',hR.mono (fun _ _ _ h=>h) g2.rho⟩)
  exact ⟨p,σ',I',ρ2,v,w',h1,h2,h3,h4,g2.trans h5⟩
 ·exact does_append0 hinv hs (fun o ver h' e=>hp ⟨o,ver,h',e⟩) hu hux hz hzl hnews hK hnone cs c1 c2 c3 c4
theorem run_slice_lowhigh {t elem:TypeId} (hu:P.underlying t = some (.slice elem)) (hne:P.cellsOf elem ≠ 0) (a:Option Addr) (len cap l h:Nat) (lo hi:Option Value) (hlo:lo = none ∧ l = 0 ∨ lo = some (.int .i64 l)) (hhi:hi = none ∧ h = len ∨ hi = some (.int .i64 h))
  (hlh:l ≤ h) (hhc:h ≤ cap) (w:World):(Instr.sliceAt t (.slice a len cap) lo hi none).run P w = .ok (.slice (if cap = l then a else a.map (·.add (l * P.cellsOf elem))) (h - l) (cap - l)) w:=by
 have hb:∀ (n y:Nat) (c:BoundsCode),n ≤ y → (Instr.sliceBound (.int .i64 (n:Int)) y c).run P w = .ok n w:=fun n y c hn=>by
  have:=run_sliceBound (P:=P) w .i64 n y c (by omega) (by omega)
  simpa using this
 simp only [Instr.sliceAt,Sem.run_bind,run_underlying hu,Result.andThen_ok,Instr.slice,Instr.sliceBounds]
 rcases hlo with ⟨rfl,rfl⟩ | rfl <;> rcases hhi with ⟨rfl,rfl⟩ | rfl <;>
  simp [hb,hlh,hhc,run_sizeOf (info_of_cells hne)]
theorem does_slice (hinv:Inv I ρ σ w) {e:Operand → PV} {ev:Operand → Value} (he:∀ x,R I ρ (e x) (ev x)) {t:TypeId} {x:Operand} {lo hi mx:Option Operand} {K:PV → Store → Prop} (h:evE P σ e K (.slice t x lo hi mx)) :
  Does P I ρ σ w K (Instr.sliceAt t (ev x) (lo.map ev) (hi.map ev) (mx.map ev)):=by
 simp only [evE] at h
 split at h
 ·rename_i elem hu
  obtain ⟨l,hh,hl,hle,h⟩:=h
  have hlo:(lo.map ev) = none ∧ l = 0 ∨ (lo.map ev) = some (.int .i64 l):=by
   cases lo with
   | none=>exact .inl ⟨rfl,hl⟩
   | some a =>
    refine .inr ?_
    have:=he a
    rw [show e a = .int .i64 l from hl] at this
    simp only [Option.map_some]
    generalize ev a = va at this ⊢
    cases this
    rfl
  have hhi:∀ len:Nat,(match hi with | none=>hh = len | some b=>e b = .int .i64 hh) → ((hi.map ev) = none ∧ hh = len ∨ (hi.map ev) = some (.int .i64 hh)):=fun len hq=>by
   cases hi with
   | none=>exact .inl ⟨rfl,hq⟩
   | some b =>
    refine .inr ?_
    have:=he b
    rw [show e b = .int .i64 hh from hq] at this
    simp only [Option.map_some]
    generalize ev b = vb at this ⊢
    cases this
    rfl
  simp only [Option.map_none]
  have hr:=he x
  split at h
  ·rename_i hx
   obtain ⟨hq,h0,hne,hK⟩:=h
   rw [hx] at hr
   generalize ev x = vx at hr ⊢
   cases hr
   subst h0
   have hl0:l = 0:=by omega
   subst hl0
   refine ⟨_,_,I,ρ,_,w,hK,?_,run_slice_lowhigh hu hne _ 0 0 0 0 _ _ hlo (hhi 0 (by cases hi <;> exact hq)) (Nat.le_refl _) (Nat.le_refl _) w,hinv,.refl _ _ _ _⟩
   simp only [Nat.sub_self]
   exact .nils
  ·rename_i rows hx
   obtain ⟨hq,hhl,hne,hsz,hK⟩:=h
   rw [hx] at hr
   generalize ev x = vx at hr ⊢
   cases hr
   case slNil =>
    have h0:hh = 0:=by simpa using hhl
    subst h0
    have hl0:l = 0:=by omega
    subst hl0
    refine ⟨_,_,I,ρ,_,w,hK,?_,run_slice_lowhigh hu hne _ 0 _ 0 0 _ _ hlo (hhi 0 (by cases hi <;> exact hq)) (Nat.le_refl _) (Nat.zero_le _) w,hinv,.refl _ _ _ _⟩
    exact .slNil _ _
   rename_i b base sz cap vs hcap h1 h2 h3
   refine ⟨_,_,I,ρ,_,w,hK,?_,run_slice_lowhigh hu hne _ rows.length cap l hh _ _ hlo (hhi _ (by cases hi <;> exact hq)) hle (by omega) w,hinv,.refl _ _ _ _⟩
   have hlen:((rows.take hh).drop l).length = hh - l:=by simp; omega
   rw [← hlen]
   have hmem:∀ (i:Nat) (row:List PV),((rows.take hh).drop l)[i]? = some row → rows[l + i]? = some row:=fun i row hi'=>by
    rw [List.getElem?_drop,List.getElem?_take] at hi'
    split at hi'
    ·exact hi'
    ·cases hi'
   by_cases hcl:cap = l
   ·have hnil:(rows.take hh).drop l = []:=List.eq_nil_of_length_eq_zero (by rw [hlen]; omega)
    rw [if_pos hcl,hnil]
    exact R.sl [] b base 0 (cap - l) (fun _ _=>Go.undef) (by simp) (by simp) (by simp) (by simp)
   ·rw [if_neg hcl]
    simp only [Option.map_some,Addr.add_lit]
    refine R.sl _ b (base + l * P.cellsOf elem) sz (cap - l) (fun i j=>vs (l + i) j) (by rw [hlen]; omega) (fun row hrow=>?_) (fun i row j p hi' hj=>?_) (fun i row j p hi' hj=>?_)
    ·exact h1 row (List.mem_of_mem_take (List.mem_of_mem_drop hrow))
    ·have hrow:=hmem i row hi'
     have hss:sz = P.cellsOf elem:=(h1 row (List.mem_of_getElem? hrow)).symm.trans (hsz row (List.mem_of_getElem? hrow))
     have:=h2 (l + i) row j p hrow hj
     rw [← this,hss]
     congr 1
     rw [Nat.add_mul]
     omega
    ·exact h3 (l + i) row j p (hmem i row hi') hj
  ·rename_i o ver hx
   obtain ⟨el,rows,ho,hq,hhl,hne,hK⟩:=h
   rw [hx] at hr
   generalize ev x = vx at hr ⊢
   cases hr
   rename_i L hL
   obtain ⟨L',cur,hL',q1,q2,q3,q4,q5,q6,q7,q8,q9,q10⟩:=hinv.objs o _ ho
   cases hL.symm.trans hL'
   have hmemr:∀ (i:Nat) (row:List PV),(rows.take hh)[i]? = some row → rows[i]? = some row:=fun i row hi'=>by
    rw [List.getElem?_take] at hi'
    split at hi'
    ·exact hi'
    ·cases hi'
   have hlen:(rows.take hh).length = hh:=by simp; omega
   have ha:(if L.cap = 0 then some (⟨L.block,0,none⟩:Addr) else (some (⟨L.block,0,none⟩:Addr)).map (·.add (0 * P.cellsOf elem))) = some ⟨L.block,0,none⟩:=by
    simp [Addr.add_lit]
   have hrun:=run_slice_lowhigh hu hne (some ⟨L.block,0,none⟩) L.len L.cap l hh _ _ hlo (hhi _ (by rw [q2]; cases hi <;> exact hq)) (by omega) (by omega) w
   rcases hK with ⟨hl0,hK⟩ | ⟨hhe,hK⟩
   case inr =>
    refine ⟨_,_,I,ρ,_,w,hK,?_,hrun,hinv,.refl _ _ _ _⟩
    have e1:hh = L.len:=by omega
    rw [e1]
    refine .msuf o ver l L _ hL (by omega) (fun hlt=>?_)
    rw [if_neg (by omega)]
    simp [Addr.add_lit,q1]
   subst hl0
   rw [ha] at hrun
   rcases hK with hK | hK
   ·obtain ⟨ρ',g1,g2,g3⟩:=take_rows hinv hL ho hhl
    refine ⟨_,_,I,ρ',_,w,hK,?_,hrun,g1,g2⟩
    have:=R.msl (I:=I) (ρ:=ρ') _ _ _ g3
    simpa using this
   ·refine ⟨_,_,I,ρ,_,w,hK,?_,hrun,hinv,.refl _ _ _ _⟩
    have:=R.mpre (I:=I) (ρ:=ρ) o ver hh L hL (by omega)
    simpa using this
  ·rename_i o ver h0 hx
   obtain ⟨hq,hhl,hl0,hne,hK⟩:=h
   subst hl0
   rw [hx] at hr
   generalize ev x = vx at hr ⊢
   cases hr
   rename_i L hL hle2
   refine ⟨_,_,I,ρ,_,w,hK,?_,run_slice_lowhigh hu hne _ h0 L.cap 0 hh _ _ hlo (hhi _ (by cases hi <;> exact hq)) (by omega) (by omega) w,hinv,.refl _ _ _ _⟩
   have:=R.mpre (I:=I) (ρ:=ρ) o ver hh L hL (by omega)
   have ha:(if L.cap = 0 then some (⟨L.block,0,none⟩:Addr) else (some (⟨L.block,0,none⟩:Addr)).map (·.add (0 * P.cellsOf elem))) = some ⟨L.block,0,none⟩:=by
    simp [Addr.add_lit]
   rw [ha]
   simpa using this
  ·exact h.elim
 ·exact h.elim
theorem does_clear (hinv:Inv I ρ σ w) {t ty elem:TypeId} {zs:List PV} {x:PV} {vx:Value} (hx:R I ρ x vx) {K:PV → Store → Prop} (hu:P.underlying t = some (.slice elem)) (hz:zeroCells P elem = some zs) (hzl:zs.length = P.cellsOf elem)
  (hone:zs.all PV.cell = true) (hK:clrW P σ K elem zs x):Does P I ρ σ w K (Builtin.clear_ #[t] ty #[vx]):=by
 obtain ⟨i,z,hi,hzz,hs,hr⟩:=zero_spec hz
 cases hx <;> simp only [clrW] at hK
 rename_i o ver l L a hL hl ha
 obtain ⟨el,rows,ho,hlr,hK⟩:=hK
 obtain ⟨L',cs,hL',h1,h2,h3,h4,h5,h6,h7,h8,h9,h10⟩:=hinv.objs o _ ho
 cases hL.symm.trans hL'
 have hol:=(List.getElem?_eq_some_iff.1 ho).1
 by_cases hl0:l = L.len
 ·have hrun:(Builtin.clear_ #[t] ty #[.slice a (L.len - l) (L.cap - l)]).run P w = .ok (.tuple #[]) w:=by
   rw [hl0,Nat.sub_self]
   cases a <;> simp [Builtin.clear_,run_underlying hu]
  have e:rows.take l ++ List.replicate (rows.length - l) zs = rows:=by
   rw [List.take_of_length_le (by omega),show rows.length - l = 0 by omega]; simp
  rw [e] at hK
  have e2:σ.set o (.rows el (P.cellsOf elem) rows ver) = σ:=by
   obtain ⟨q1,q2⟩:=List.getElem?_eq_some_iff.1 ho
   rw [← q2]; exact List.set_getElem_self q1
  rw [e2] at hK
  exact ⟨_,σ,I,ρ,_,w,hK,.tup [] #[] rfl (by simp),hrun,hinv,.refl _ _ _ _⟩
 ·obtain rfl:=ha (by omega)
  obtain ⟨n,hn⟩:∃ n,L.len - l = n + 1:=⟨L.len - l - 1,by omega⟩
  have hzs:z.cells.size = P.cellsOf elem:=hs.trans hzl
  have hsize:(Builtin.zeroCells z.cells (L.len - l)).size = (L.len - l) * P.cellsOf elem:=by rw [size_zeroCells,hzs]
  have hzall:∀ u ∈ z.cells,u.oneCell' = true:=fun u hu'=>by
   obtain ⟨j,hj,rfl⟩:=Array.getElem_of_mem hu'
   obtain ⟨u',hu2,hR⟩:=hr j (zs[j]'(by omega)) (List.getElem?_eq_getElem _)
   rw [Array.getElem?_eq_getElem hj] at hu2
   cases hu2
   exact (hR I ρ).oneCell (List.all_eq_true.1 hone _ (List.getElem_mem _))
  have hmul:L.len * P.cellsOf elem ≤ L.cap * P.cellsOf elem:=Nat.mul_le_mul_right _ h4
  have hadd:l * P.cellsOf elem + (L.len - l) * P.cellsOf elem = L.len * P.cellsOf elem:=by rw [← Nat.add_mul]; congr 1; omega
  have hst:=run_storeCells_at P L.block (l * P.cellsOf elem) el (Builtin.zeroCells z.cells (L.len - l)).toList 0 cs w h3 (by rw [Array.length_toList,hsize,h6]; omega) (fun v hv=>by
   rw [Array.mem_toList_iff] at hv
   simp only [Builtin.zeroCells,Array.mem_map,Array.mem_range] at hv
   obtain ⟨q,hq,rfl⟩:=hv
   have hp:0 < z.cells.size:=by
    rcases Nat.eq_zero_or_pos z.cells.size with h0 | h0
    ·rw [h0] at hq; simp at hq
    ·exact h0
   have hq2:q % z.cells.size < z.cells.size:=Nat.mod_lt _ hp
   rw [getElem!_pos z.cells _ hq2]
   exact hzall _ (Array.getElem_mem _))
  have hrun:(Builtin.clear_ #[t] ty #[.slice (some ⟨L.block,l * L.sz,none⟩) (L.len - l) (L.cap - l)]).run P w = .ok (.tuple #[]) (w.setRow L.block (cs.toList.take (l * P.cellsOf elem) ++ (Builtin.zeroCells z.cells (L.len - l)).toList ++ cs.toList.drop (l * P.cellsOf elem + (Builtin.zeroCells z.cells (L.len - l)).toList.length)).toArray):=by
   have hzv:(zeroValue elem).run P w = .ok z w:=by simp [zeroValue,typeInfo,hi,hzz]
   simp only [Nat.add_zero] at hst
   simp only [Builtin.clear_]
   rw [hn] at hst ⊢
   simp only [List.getElem?_toArray,List.getElem?_cons_zero,Sem.run_bind,run_underlying hu,Result.andThen_ok,hzv,h1,hst,Sem.run_pure]
  obtain ⟨ρ',g1,g2,g3⟩:=upd_rows hinv (w':=w.setRow L.block (cs.toList.take (l * P.cellsOf elem) ++ (Builtin.zeroCells z.cells (L.len - l)).toList ++ cs.toList.drop (l * P.cellsOf elem + (Builtin.zeroCells z.cells (L.len - l)).toList.length)).toArray)
   (rows':=rows.take l ++ List.replicate (rows.length - l) zs) (ver':=ver) (L':=L) ho hL (.inl ⟨rfl,rfl⟩) h1 (by simp; omega) h4 h5
   (cs:=(cs.toList.take (l * P.cellsOf elem) ++ (Builtin.zeroCells z.cells (L.len - l)).toList ++ cs.toList.drop (l * P.cellsOf elem + (Builtin.zeroCells z.cells (L.len - l)).toList.length)).toArray) (by simp only [List.size_toArray,List.length_append,List.length_take,List.length_drop,Array.length_toList,hsize,h6]; rw [Nat.min_eq_left (by omega)]; omega) (.inl rfl)
   (fun r hr'=>by
    rcases List.mem_append.1 hr' with hm | hm
    ·exact h7 r (List.mem_of_mem_take hm)
    ·rw [(List.mem_replicate.1 hm).2]; exact hzl)
   (fun i' row' j p hi' hj=>by
    simp only [List.getElem?_toArray,List.append_assoc]
    rw [List.getElem?_append] at hi'
    have hlt:(rows.take l).length = l:=by simp; omega
    rw [hlt] at hi'
    by_cases hil:i' < l
    ·rw [if_pos hil,List.getElem?_take,if_pos hil] at hi'
     obtain ⟨u,hu',hR⟩:=h8 i' row' j p hi' hj
     refine ⟨u,?_,hR⟩
     have hj':j < P.cellsOf elem:=by rw [← h7 row' (List.mem_of_getElem? hi')]; exact (List.getElem?_eq_some_iff.1 hj).1
     have hx:i' * P.cellsOf elem + j < l * P.cellsOf elem:=idx_lt hil hj'
     rw [List.getElem?_append_left (by rw [List.length_take,Array.length_toList,h6]; omega),List.getElem?_take,if_pos hx,Array.getElem?_toList]
     exact hu'
    ·rw [if_neg hil,List.getElem?_replicate] at hi'
     split at hi'
     case isFalse=>cases hi'
     rename_i hin
     cases hi'
     have hj':j < P.cellsOf elem:=by rw [← hzl]; exact (List.getElem?_eq_some_iff.1 hj).1
     obtain ⟨u,hu',hR⟩:=hr j p hj
     refine ⟨u,?_,hR I ρ⟩
     have hx:(i' - l) * P.cellsOf elem + j < (L.len - l) * P.cellsOf elem:=idx_lt (show i' - l < L.len - l by omega) hj'
     have hsub:i' * P.cellsOf elem + j = l * P.cellsOf elem + ((i' - l) * P.cellsOf elem + j):=by
      rw [← Nat.add_assoc,← Nat.add_mul]; congr 2; omega
     have htl:(cs.toList.take (l * P.cellsOf elem)).length = l * P.cellsOf elem:=by rw [List.length_take,Array.length_toList,h6]; omega
     rw [hsub,List.getElem?_append_right (by omega),htl,Nat.add_sub_cancel_left,List.getElem?_append_left (by rw [Array.length_toList,hsize]; exact hx),Array.getElem?_toList]
     have:=made_get (z:=z.cells) (n:=L.len - l) hzs (show i' - l < L.len - l by omega) hj'
     rw [← hu',← this,← hzs]; rfl)
   (setRow_heap w _ _ _ _ _ h3) (fun b _ hb=>setRow_other w _ _ _ hb) (by simp) rfl rfl rfl
  exact ⟨_,_,I,ρ',_,_,hK,.tup [] #[] rfl (by simp),hrun,g1,g2⟩
theorem evE_sound (hinv:Inv I ρ σ w) {e:Operand → PV} {ev:Operand → Value} (he:∀ x,R I ρ (e x) (ev x)) {K:PV → Store → Prop} {o:Oper} (h:evE P σ e K o.op) :
  ∃ p σ' I' ρ' w',K p σ' ∧ Inv I' ρ' σ' w' ∧ Grow I ρ σ w I' ρ' σ' w' ∧ ((∃ v,R I' ρ' p v ∧ (execOp ev o).run P w = .ok (.value v) w') ∨ (p = .undef ∧ (execOp ev o).run P w = .ok .skip w')):=by
 have fin:∀ (s:Sem Value),Does P I ρ σ w K s → (execOp ev o = (do pure (Next.value (← s)))) → ∃ p σ' I' ρ' w',K p σ' ∧ Inv I' ρ' σ' w' ∧ Grow I ρ σ w I' ρ' σ' w' ∧ ((∃ v,R I' ρ' p v ∧ (execOp ev o).run P w = .ok (.value v) w') ∨ (p = .undef ∧ (execOp ev o).run P w = .ok .skip w')):=by
  rintro s ⟨p,σ',I',ρ',v,w',h1,h2,h3,h4,h5⟩ hs
  exact ⟨p,σ',I',ρ',w',h1,h4,h5,.inl ⟨v,h2,by rw [hs,Sem.run_bind,h3]; rfl⟩⟩
 obtain ⟨dst,op,type,pos,after,guard⟩:=o
 simp only at h
 cases op <;> try exact h.elim
 case alloc t =>
  obtain ⟨zs,hz,hK⟩:=h
  exact fin _ (does_alloc hinv hz hK) rfl
 case box t x =>
  obtain ⟨cells,hc,hK⟩:=h
  exact fin _ (does_box hinv (he x) hc hK) rfl
 case store t a x =>
  obtain ⟨cells,hc,hl,hne,hK⟩:=h
  obtain ⟨σ',ρ',w',h1,h2,h3,h4⟩:=does_store hinv (he x) (he a) hc hl hne hK
  exact ⟨_,σ',I,ρ',w',h1,h3,h4,.inr ⟨rfl,by simp [execOp,h2]⟩⟩
 case makeSlice t l c =>
  simp only [evE] at h
  split at h
  ·rename_i kl n kc m hl hc
   obtain ⟨rfl,h0,elem,zs,hu,hz,hzl,hb,hm,hK⟩:=h
   have hrl:=he l
   rw [hl] at hrl
   generalize hevl:ev l = vl at hrl
   cases hrl
   have hrc:=he c
   rw [hc] at hrc
   generalize hevc:ev c = vc at hrc
   cases hrc
   refine fin _ (does_make hinv (kl:=kl) (kc:=kc) h0 hu hz hzl hb hm hK) ?_
   simp only [execOp,hevl,hevc]
  ·exact h.elim
 case slice t x lo hi mx=>exact fin _ (does_slice hinv he h) rfl
 case build t parts =>
  obtain ⟨zs,hz,h⟩:=h
  exact fin _ (does_build hinv he hz h) rfl
 case buildSlice t len parts =>
  obtain ⟨elem,rows,zs,hu,hne,hz,_,hr,hl,hf,hK⟩:=h
  exact fin _ (does_buildSlice hinv he hu hne hz hr hl hf hK) rfl
 case call c =>
  obtain ⟨callee,args,argTypes⟩:=c
  simp only [evE] at h
  split at h
  ·rename_i s x t tx hargs htypes
   have ha:args = #[s,x]:=by rw [← Array.toArray_toList (xs:=args),hargs]
   have ht:argTypes = #[t,tx]:=by rw [← Array.toArray_toList (xs:=argTypes),htypes]
   subst ha ht
   obtain ⟨elem,zs,hu,hux,hz,hzl,_,h⟩:=h
   exact fin _ (does_append (ty:=type) hinv (he s) (he x) hu hux hz hzl h) (by simp [execOp,resolve,invoke,builtin])
  ·rename_i x t hargs htypes
   have ha:args = #[x]:=by rw [← Array.toArray_toList (xs:=args),hargs]
   have ht:argTypes = #[t]:=by rw [← Array.toArray_toList (xs:=argTypes),htypes]
   subst ha ht
   obtain ⟨elem,zs,hu,hz,hzl,hone,h⟩:=h
   exact fin _ (does_clear (ty:=type) hinv (he x) hu hz hzl hone h) (by simp [execOp,resolve,invoke,builtin])
  ·exact h.elim
end
end Go.PV
