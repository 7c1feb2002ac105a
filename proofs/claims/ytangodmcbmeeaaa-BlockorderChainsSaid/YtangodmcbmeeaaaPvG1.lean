import Derived.Test.YtangodmcbmeeaaaPvG
set_option maxRecDepth 8000
namespace Go.PV
def Bel (k:Nat) (p:PV):Prop:=∀ (I:Imm) (ρ ρ':Rho) (v:Value),(∀ o,o < k → ∀ ver,ρ o ver = ρ' o ver) → R I ρ p v → R I ρ' p v
theorem bel_unk (k:Nat):Bel k .unk:=fun _ _ _ v _ _=>.unk v
theorem bel_undef (k:Nat):Bel k .undef:=fun _ _ _ _ _ h=>by cases h; exact .undef
theorem bel_bool (k:Nat) (b:Bool):Bel k (.bool b):=fun _ _ _ _ _ h=>by cases h; exact .bool b
theorem bel_int (k:Nat) (i:IntKind) (n:Int):Bel k (.int i n):=fun _ _ _ _ _ h=>by cases h; exact .int i n
theorem bel_str (k:Nat) (s:ByteArray):Bel k (.str s):=fun _ _ _ _ _ h=>by cases h; exact .str s
theorem bel_nilp (k:Nat):Bel k .nilp:=fun _ _ _ _ _ h=>by cases h; exact .nilp
theorem bel_nils (k:Nat):Bel k .nils:=fun _ _ _ _ _ h=>by cases h; exact .nils
theorem bel_nilm (k:Nat):Bel k .nilm:=fun _ _ _ _ _ h=>by cases h; exact .nilm
theorem bel_nilf (k:Nat):Bel k .nilf:=fun _ _ _ _ _ h=>by cases h; exact .nilf
theorem bel_ptr {k o:Nat} (h:o < k) (ver i off:Nat):Bel k (.ptr o ver i off):=fun _ _ _ _ hρ hr=>by cases hr; rename_i L hL; exact .ptr _ _ _ _ L (by rw [← hρ o h]; exact hL)
theorem bel_msl {k o:Nat} (h:o < k) (ver:Nat):Bel k (.msl o ver):=fun _ _ _ _ hρ hr=>by cases hr; rename_i L hL; exact .msl _ _ L (by rw [← hρ o h]; exact hL)
theorem bel_mpre {k o:Nat} (h:o < k) (ver hh:Nat):Bel k (.mpre o ver hh):=fun _ _ _ _ hρ hr=>by cases hr; rename_i L hL hc; exact .mpre _ _ _ L (by rw [← hρ o h]; exact hL) hc
theorem bel_msuf {k o:Nat} (h:o < k) (ver l:Nat):Bel k (.msuf o ver l):=fun _ _ _ _ hρ hr=>by cases hr; rename_i L a hL h1 h2; exact .msuf _ _ _ L a (by rw [← hρ o h]; exact hL) h1 h2
theorem bel_map {k o:Nat} (h:o < k):Bel k (.map o):=fun _ _ _ _ hρ hr=>by cases hr; rename_i L hL; exact .map _ L (by rw [← hρ o h]; exact hL)
theorem bel_sl {k:Nat} {rows:List (List PV)} (h:∀ row ∈ rows,∀ p ∈ row,Bel k p):Bel k (.sl rows):=fun I ρ ρ' v hρ hr=>by
 cases hr with
 | sl rows b base sz cap vs h0 h1 h2 h3=>exact .sl rows b base sz cap vs h0 h1 h2 (fun i row j p hi hj=>h row (List.mem_of_getElem? hi) p (List.mem_of_getElem? hj) I ρ ρ' _ hρ (h3 i row j p hi hj))
 | slNil a c=>exact .slNil a c
theorem bel_iptr {k:Nat} {row:List PV} (h:∀ p ∈ row,Bel k p) (off:Nat):Bel k (.iptr row off):=fun I ρ ρ' v hρ hr=>by
 cases hr with
 | iptr row off b base vs h1 h2=>exact .iptr row off b base vs h1 (fun j p hj=>h p (List.mem_of_getElem? hj) I ρ ρ' _ hρ (h2 j p hj))
theorem bel_agg {k:Nat} {cells:List PV} (h:∀ p ∈ cells,Bel k p):Bel k (.agg cells):=fun I ρ ρ' v hρ hr=>by
 cases hr with
 | agg cells cs h1 h2=>exact .agg cells cs h1 (fun j p hj=>h p (List.mem_of_getElem? hj) I ρ ρ' _ hρ (h2 j p hj))
theorem bel_tup {k:Nat} {cells:List PV} (h:∀ p ∈ cells,Bel k p):Bel k (.tup cells):=fun I ρ ρ' v hρ hr=>by
 cases hr with
 | tup cells cs h1 h2=>exact .tup cells cs h1 (fun j p hj=>h p (List.mem_of_getElem? hj) I ρ ρ' _ hρ (h2 j p hj))
theorem bel_of_R {I:Imm} {ρ:Rho} {k:Nat} (hk:∀ o ver,k ≤ o → ρ o ver = none) {p:PV} {v:Value} (h:R I ρ p v):Bel k p:=by
 have lt:∀ o ver L,ρ o ver = some L → o < k:=fun o ver L hL=>by
  rcases Nat.lt_or_ge o k with h | h
  ·exact h
  ·rw [hk o ver h] at hL; cases hL
 induction h with
 | unk v=>exact bel_unk k
 | undef=>exact bel_undef k
 | bool b=>exact bel_bool k b
 | int i n=>exact bel_int k i n
 | str s=>exact bel_str k s
 | nilp=>exact bel_nilp k
 | ptr o ver i off L h=>exact bel_ptr (lt _ _ _ h) ver i off
 | iptr row off b base vs h1 h2 ih=>exact bel_iptr (fun p hp=>let ⟨j,hj⟩:=List.mem_iff_getElem?.1 hp; ih j p hj) off
 | nils=>exact bel_nils k
 | sl rows b base sz cap vs h0 h1 h2 h3 ih=>exact bel_sl (fun row hr p hp=>let ⟨i,hi⟩:=List.mem_iff_getElem?.1 hr; let ⟨j,hj⟩:=List.mem_iff_getElem?.1 hp; ih i row j p hi hj)
 | slNil a c=>exact bel_sl (by simp)
 | msl o ver L h=>exact bel_msl (lt _ _ _ h) ver
 | mpre o ver hh L h _=>exact bel_mpre (lt _ _ _ h) ver hh
 | msuf o ver l L a h _ _=>exact bel_msuf (lt _ _ _ h) ver l
 | nilm=>exact bel_nilm k
 | map o L h=>exact bel_map (lt _ _ _ h)
 | nilf=>exact bel_nilf k
 | func fn first cap fs cs h1 h2 h3 h4 ih1 ih2 =>
  intro I' ρ1 ρ2 v hρ hr
  cases hr with
  | func _ _ _ fs' cs' g1 g2 g3 g4=>exact .func fn first cap fs' cs' g1 g2 (fun j p hj=>ih1 j p hj I' ρ1 ρ2 _ hρ (g3 j p hj)) (fun j p hj=>ih2 j p hj I' ρ1 ρ2 _ hρ (g4 j p hj))
 | agg cells cs h1 h2 ih=>exact bel_agg (fun p hp=>let ⟨j,hj⟩:=List.mem_iff_getElem?.1 hp; ih j p hj)
 | tup vs cs h1 h2 ih=>exact bel_tup (fun p hp=>let ⟨j,hj⟩:=List.mem_iff_getElem?.1 hp; ih j p hj)
def ObjBel (k:Nat):Obj → Prop
 | .dead=>True
 | .rows _ _ rows _=>∀ row ∈ rows,∀ p ∈ row,Bel k p
 | .map es=>∀ e ∈ es,Bel k e.1 ∧ Bel k e.2
def cutR (k:Nat) (ρ:Rho):Rho:=fun o v=>if o < k then ρ o v else none
section
variable {I:Imm} {ρ:Rho} {σ:Store} {w:World}
theorem objBel_of_inv (hinv:Inv I ρ σ w) {o:Nat} {obj:Obj} (ho:σ[o]? = some obj):ObjBel σ.length obj:=by
 have hk:∀ o ver,σ.length ≤ o → ρ o ver = none:=hinv.free
 have h:=hinv.objs o obj ho
 cases obj with
 | dead=>trivial
 | rows elem sz rows ver =>
  obtain ⟨L,cs,_,_,_,_,_,_,_,_,h8,_⟩:=h
  intro row hr p hp
  obtain ⟨i,hi⟩:=List.mem_iff_getElem?.1 hr
  obtain ⟨j,hj⟩:=List.mem_iff_getElem?.1 hp
  obtain ⟨u,_,hR⟩:=h8 i row j p hi hj
  exact bel_of_R hk hR
 | map es =>
  obtain ⟨L,ms,clock,_,_,_,h3,_⟩:=h
  intro e he
  obtain ⟨i,hi⟩:=List.mem_iff_getElem?.1 he
  obtain ⟨m,_,hk1,hv1⟩:=h3 i e hi
  exact ⟨bel_of_R hk hk1,bel_of_R hk hv1⟩
def Obj.isDead:Obj → Bool
 | .dead=>true
 | _=>false
theorem Obj.isDead_iff {o:Obj}:o.isDead = true ↔ o = .dead:=by cases o <;> simp [Obj.isDead]
structure Killed (σd σ:Store):Prop where
 len:σd.length = σ.length
 at_:∀ o:Nat,σd[o]? = some .dead ∨ σd[o]? = σ[o]?
theorem Killed.block {σd:Store} (hk:Killed σd σ) {o b:Nat} (h:BlockIs ρ σd o b):BlockIs ρ σ o b ∧ σd[o]? ≠ some .dead:=by
 obtain ⟨obj,L,h1,h2,h3,h4⟩:=h
 have hne:σd[o]? ≠ some .dead:=fun e=>by rw [e] at h1; exact h2 (Option.some.inj h1).symm
 rcases hk.at_ o with h | h
 ·exact absurd h hne
 ·exact ⟨⟨obj,L,by rw [← h]; exact h1,h2,h3,h4⟩,hne⟩
theorem Inv.kill {σd:Store} (hinv:Inv I ρ σ w) (hk:Killed σd σ):Inv I ρ σd w:=by
 refine ⟨fun o obj ho=>?_,fun o o' b h h'=>hinv.apart o o' b (hk.block h).1 (hk.block h').1,hinv.imm,fun o ver ho=>hinv.free o ver (by rw [← hk.len]; exact ho)⟩
 rcases hk.at_ o with h | h
 ·rw [h] at ho
  cases ho
  trivial
 ·exact hinv.objs o obj (by rw [← h]; exact ho)
theorem Inv.revive {I':Imm} {ρ':Rho} {σd σd' σ':Store} {w':World} (hinv:Inv I ρ σ w) (hk:Killed σd σ) (hinv':Inv I' ρ' σd' w') (hg:Grow I ρ σd w I' ρ' σd' w') (hlen:σ'.length = σd'.length)
  (h1:∀ o:Nat,σd[o]? = some .dead → σ'[o]? = σ[o]?) (h2:∀ o:Nat,σd[o]? ≠ some .dead → σ'[o]? = σd'[o]?):Inv I' ρ' σ' w' ∧ Grow I ρ σ w I' ρ' σ' w':=by
 have hlt:∀ o b,BlockIs ρ σ o b → b < w.heap.size:=fun o b ⟨obj,L,h1,h2,h3,h4⟩=>h4 ▸ (hinv.objs o obj h1).block_lt h2 h3
 have hnl:∀ o b,σd[o]? = some .dead → BlockIs ρ σ o b → ¬ Live ρ σd b:=fun o b hd hb ⟨o2,hb2⟩=>by
  obtain ⟨k1,k2⟩:=hk.block hb2
  cases hinv.apart o o2 b hb k1
  exact k2 hd
 have hrho:∀ o ver,σd[o]? = some .dead → ρ' o ver = ρ o ver:=hg.deadR
 have hblk:∀ o b,BlockIs ρ' σ' o b → (σd[o]? = some .dead ∧ BlockIs ρ σ o b) ∨ BlockIs ρ' σd' o b:=fun o b ⟨obj,L,k1,k2,k3,k4⟩=>by
  by_cases hd:σd[o]? = some .dead
  ·exact .inl ⟨hd,obj,L,by rw [← h1 o hd]; exact k1,k2,by rw [← hrho o _ hd]; exact k3,k4⟩
  ·exact .inr ⟨obj,L,by rw [← h2 o hd]; exact k1,k2,k3,k4⟩
 have hlive:∀ b,Live ρ σd b → Live ρ σ b:=fun b ⟨o,ho⟩=>⟨o,(hk.block ho).1⟩
 refine ⟨⟨fun o obj ho=>?_,fun o o' b hb hb'=>?_,hinv'.imm,fun o ver ho=>hinv'.free o ver (by rw [← hlen]; exact ho)⟩,⟨hg.imm,hg.rho,hg.os,hg.tape,hg.output,hg.size,fun b hb hn=>hg.frame b hb (fun hl=>hn (hlive b hl)),fun b off hn hs=>?_,fun b ⟨o,ho⟩=>?_,fun o ver hd=>?_,fun o hd=>?_⟩⟩
 ·by_cases hd:σd[o]? = some .dead
  ·rw [h1 o hd] at ho
   refine (hinv.objs o obj ho).keep hg.imm hg.rho (fun L hne hL=>?_) (fun v' _ hv'=>by rw [hrho o v' hd]; exact hv')
   have hb:BlockIs ρ σ o L.block:=⟨obj,L,ho,hne,hL,rfl⟩
   refine ⟨hg.frame _ (hlt o _ hb) (hnl o _ hd hb),fun off=>?_⟩
   apply Classical.byContradiction
   intro hx
   rcases hg.newImm L.block off ((hinv.objs o obj ho).imm_none hne hL off) hx with h3 | h3
   ·exact hnl o _ hd hb h3
   ·have:=hlt o _ hb; omega
  ·exact hinv'.objs o obj (by rw [← h2 o hd]; exact ho)
 ·rcases hblk o b hb with ⟨hd,hx⟩ | hx
  ·rcases hblk o' b hb' with ⟨hd',hx'⟩ | hx'
   ·exact hinv.apart o o' b hx hx'
   ·rcases hg.newLive b ⟨o',hx'⟩ with h3 | h3
    ·exact absurd h3 (hnl o b hd hx)
    ·have:=hlt o b hx; omega
  ·rcases hblk o' b hb' with ⟨hd',hx'⟩ | hx'
   ·rcases hg.newLive b ⟨o,hx⟩ with h3 | h3
    ·exact absurd h3 (hnl o' b hd' hx')
    ·have:=hlt o' b hx'; omega
   ·exact hinv'.apart o o' b hx hx'
 ·rcases hg.newImm b off hn hs with h3 | h3
  ·exact .inl (hlive b h3)
  ·exact .inr h3
 ·rcases hblk o b ho with ⟨_,hx⟩ | hx
  ·exact .inl ⟨o,hx⟩
  ·rcases hg.newLive b ⟨o,hx⟩ with h3 | h3
   ·exact .inl (hlive b h3)
   ·exact .inr h3
 ·refine hg.deadR o ver ?_
  rcases hk.at_ o with h | h
  ·exact h
  ·rw [h]; exact hd
 ·have hdd:σd[o]? = some .dead:=by
   rcases hk.at_ o with h | h
   ·exact h
   ·rw [h]; exact hd
  rw [h1 o hdd]; exact hd
def backS (σd σ σd':Store):Store:=(List.range σd'.length).map fun o=>if ((σd[o]?).map Obj.isDead).getD false then (σ[o]?).getD .dead else (σd'[o]?).getD .dead
theorem backS_len (σd σ σd':Store):(backS σd σ σd').length = σd'.length:=by simp [backS]
theorem backS_dead {σd σ σd':Store} (hk:Killed σd σ) (hS:∀ o:Nat,σd[o]? = some .dead → σd'[o]? = some .dead) (o:Nat) (hd:σd[o]? = some .dead):(backS σd σ σd')[o]? = σ[o]?:=by
 have h1:=(List.getElem?_eq_some_iff.1 (hS o hd)).1
 have h2:=(List.getElem?_eq_some_iff.1 hd).1
 rw [hk.len] at h2
 simp [backS,h1,hd,Obj.isDead,List.getElem?_eq_getElem h2]
theorem backS_other {σd σ σd':Store} (o:Nat) (hd:σd[o]? ≠ some .dead):(backS σd σ σd')[o]? = σd'[o]?:=by
 have hf:((σd[o]?).map Obj.isDead).getD false = false:=by
  cases h:σd[o]? with
  | none=>rfl
  | some x =>
   cases x with
   | dead=>exact absurd h hd
   | _=>rfl
 rcases Nat.lt_or_ge o σd'.length with h1 | h1
 ·simp [backS,h1,hf]
 ·rw [List.getElem?_eq_none h1,List.getElem?_eq_none (by rw [backS_len]; exact h1)]
def moveR (ρ':Rho) (n o:Nat):Rho:=fun x ver=>if x = o then ρ' n ver else if x < n then ρ' x ver else none
theorem Inv.float {I':Imm} {ρ':Rho} {w':World} {obj:Obj} {o:Nat} (hinv:Inv I ρ σ w) (hd:σ[o]? = some .dead) (hr:∀ ver,ρ o ver = none) (hinv':Inv I' ρ' (σ ++ [obj]) w') (hg:Grow I ρ σ w I' ρ' (σ ++ [obj]) w') (hb:ObjBel 0 obj)
  {I0:Imm} {ρ0:Rho} {σ0:Store} {w0:World} (h0:Grow I0 ρ0 σ0 w0 I ρ σ w) (hlt:σ0.length ≤ o) :
  Inv I' (moveR ρ' σ.length o) (σ.set o obj) w' ∧ Grow I0 ρ0 σ0 w0 I' (moveR ρ' σ.length o) (σ.set o obj) w' ∧ (∀ x ver L,ρ x ver = some L → moveR ρ' σ.length o x ver = some L) ∧ ∀ ver,moveR ρ' σ.length o o ver = ρ' σ.length ver:=by
 have holt:o < σ.length:=(List.getElem?_eq_some_iff.1 hd).1
 have hself:∀ ver,moveR ρ' σ.length o o ver = ρ' σ.length ver:=fun ver=>by simp [moveR]
 have hoth:∀ x ver,x ≠ o → x < σ.length → moveR ρ' σ.length o x ver = ρ' x ver:=fun x ver h1 h2=>by simp [moveR,h1,h2]
 have hro:∀ ver,ρ' o ver = none:=fun ver=>(hg.deadR o ver hd).trans (hr ver)
 have hle:∀ x ver L,ρ x ver = some L → moveR ρ' σ.length o x ver = some L:=fun x ver L hL=>by
  have hx:x < σ.length:=by
   rcases Nat.lt_or_ge x σ.length with h | h
   ·exact h
   ·rw [hinv.free x ver h] at hL; cases hL
  have hne:x ≠ o:=fun e=>by rw [e,hr] at hL; cases hL
  rw [hoth x ver hne hx]; exact hg.rho x ver L hL
 have hnewlast:(σ ++ [obj])[σ.length]? = some obj:=List.getElem?_concat_length
 have hR:∀ (p:PV) (v:Value),Bel σ.length p → R I' ρ' p v → R I' (moveR ρ' σ.length o) p v:=fun p v hbp h=>by
  have h1:=hbp I' ρ' (cutR σ.length ρ') v (fun y hy ver=>by simp [cutR,hy]) h
  refine h1.mono (fun _ _ _ h=>h) (fun y ver L hy=>?_)
  simp only [cutR] at hy
  split at hy
  ·rename_i hyl
   by_cases hyo:y = o
   ·rw [hyo,hro] at hy; cases hy
   ·rw [hoth y ver hyo hyl]; exact hy
  ·cases hy
 have hbel0:∀ (k:Nat) (p:PV),Bel 0 p → Bel k p:=fun k p h I ρ ρ' v _ hr=>h I ρ ρ' v (fun o ho=>absurd ho (Nat.not_lt_zero _)) hr
 have hmv:∀ {x y:Nat} {ob:Obj},ObjBel σ.length ob → ObjInv I' ρ' w' x ob → (∀ ver,moveR ρ' σ.length o y ver = ρ' x ver) → ObjInv I' (moveR ρ' σ.length o) w' y ob:=@fun x y ob hb h he=>by
  cases ob with
  | dead=>trivial
  | rows elem sz rows ver =>
   obtain ⟨L,cs,hL,k1,k2,k3,k4,k5,k6,k7,k8,k9,k10⟩:=h
   refine ⟨L,cs,by rw [he]; exact hL,k1,k2,k3,k4,k5,k6,k7,fun i row j p hi hj=>?_,k9,fun v' hv'=>by rw [he]; exact k10 v' hv'⟩
   obtain ⟨u,hu,hRu⟩:=k8 i row j p hi hj
   exact ⟨u,hu,hR p u (hb row (List.mem_of_getElem? hi) p (List.mem_of_getElem? hj)) hRu⟩
  | map es =>
   obtain ⟨L,ms,clock,hL,k1,k2,k3,k4⟩:=h
   refine ⟨L,ms,clock,by rw [he]; exact hL,k1,k2,fun i e hi=>?_,k4⟩
   obtain ⟨m,hm,hk1,hv1⟩:=k3 i e hi
   have hbe:=hb e (List.mem_of_getElem? hi)
   exact ⟨m,hm,hR _ _ hbe.1 hk1,hR _ _ hbe.2 hv1⟩
 have hobN:ObjBel σ.length obj:=by
  cases obj with
  | dead=>trivial
  | rows elem sz rows ver=>exact fun row hr p hp=>hbel0 _ p (hb row hr p hp)
  | map es=>exact fun e he=>⟨hbel0 _ _ (hb e he).1,hbel0 _ _ (hb e he).2⟩
 have hblk:∀ x b,BlockIs (moveR ρ' σ.length o) (σ.set o obj) x b → ∃ y,BlockIs ρ' (σ ++ [obj]) y b ∧ (x = o ∧ y = σ.length ∨ x ≠ o ∧ y = x ∧ x < σ.length):=fun x b ⟨ob,L,k1,k2,k3,k4⟩=>by
  by_cases hx:x = o
  ·rw [hx] at k1 k3
   rw [List.getElem?_set_self holt] at k1
   have hoe:=Option.some.inj k1
   rw [← hoe] at k2 k3
   exact ⟨_,⟨obj,L,hnewlast,k2,by rw [← hself]; exact k3,k4⟩,.inl ⟨hx,rfl⟩⟩
  ·rw [List.getElem?_set_ne (Ne.symm hx)] at k1
   have hxl:=(List.getElem?_eq_some_iff.1 k1).1
   rw [hoth x _ hx hxl] at k3
   exact ⟨_,⟨ob,L,by rw [List.getElem?_append_left hxl]; exact k1,k2,k3,k4⟩,.inr ⟨hx,rfl,hxl⟩⟩
 refine ⟨⟨fun x ob hx=>?_,fun x x' b hb1 hb2=>?_,hinv'.imm,fun x ver hx=>?_⟩,⟨fun b off v hv=>hg.imm b off v (h0.imm b off v hv),fun x ver L hL=>hle x ver L (h0.rho x ver L hL),hg.os.trans h0.os,hg.tape.trans h0.tape,hg.output.trans h0.output,Nat.le_trans h0.size hg.size,fun b hb hn=>?_,fun b off hn hs=>?_,fun b ⟨x,hx⟩=>?_,fun x ver hx=>?_,fun x hx=>?_⟩,hle,hself⟩
 ·by_cases hxo:x = o
  ·rw [hxo] at hx ⊢
   rw [List.getElem?_set_self holt] at hx
   obtain rfl:=Option.some.inj hx
   exact hmv hobN (hinv'.objs σ.length obj hnewlast) hself
  ·rw [List.getElem?_set_ne (Ne.symm hxo)] at hx
   have hxl:=(List.getElem?_eq_some_iff.1 hx).1
   exact hmv (objBel_of_inv hinv hx) (hinv'.objs x ob (by rw [List.getElem?_append_left hxl]; exact hx)) (fun ver=>hoth x ver hxo hxl)
 ·obtain ⟨y,hy,hc⟩:=hblk x b hb1
  obtain ⟨y',hy',hc'⟩:=hblk x' b hb2
  have:=hinv'.apart y y' b hy hy'
  rcases hc with ⟨h1,h2⟩ | ⟨h1,h2,h3⟩ <;> rcases hc' with ⟨h1',h2'⟩ | ⟨h1',h2',h3'⟩ <;> omega
 ·simp only [List.length_set] at hx
  simp only [moveR]
  rw [if_neg (by omega),if_neg (by omega)]
 ·rw [hg.frame b (Nat.lt_of_lt_of_le hb h0.size) (fun hl=>?_),h0.frame b hb hn]
  rcases h0.newLive b hl with h1 | h1
  ·exact hn h1
  ·omega
 ·cases hI1:I b off with
  | some v=>exact h0.newImm b off hn (by simp [hI1])
  | none =>
   rcases hg.newImm b off hI1 hs with h' | h'
   ·exact h0.newLive b h'
   ·exact .inr (Nat.le_trans h0.size h')
 ·obtain ⟨y,hy,_⟩:=hblk x b hx
  rcases hg.newLive b ⟨y,hy⟩ with h' | h'
  ·exact h0.newLive b h'
  ·exact .inr (Nat.le_trans h0.size h')
 ·have hxl:=(List.getElem?_eq_some_iff.1 hx).1
  have hs:=h0.deadS x hx
  rw [hoth x ver (by omega) (List.getElem?_eq_some_iff.1 hs).1,hg.deadR x ver hs,h0.deadR x ver hx]
 ·have hxl:=(List.getElem?_eq_some_iff.1 hx).1
  rw [List.getElem?_set_ne (by omega)]
  exact h0.deadS x hx
end
end Go.PV
