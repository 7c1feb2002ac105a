import Derived.Test.YthjoehaglonjaaaGreatPvX
import Derived.Test.YthjoehaglonjaaaGreatTy
import Derived.Test.YthjoehaglonjaaaGreatProg
import Derived.KernelRfl
import Derived.Test.YthjoehaglonjaaaGreatPvN
import Derived.Test.YthjoehaglonjaaaGreatRows
set_option maxRecDepth 8000
set_option linter.unusedSimpArgs false
set_option linter.unusedVariables false
namespace Go.Proofs.YthjoehaglonjaaaGreat
open Go.PV
theorem mix:Tryz.prog.follows .mixedOrders = true:=by kernel_rfl
theorem u_bool:Tryz.prog.underlying 4 = some .bool:=by kernel_rfl
theorem u_int:Tryz.prog.underlying 3 = some (.int .i64):=by kernel_rfl
theorem c_int:Tryz.prog.cellsOf 3 = 1:=by kernel_rfl
theorem a_int:aggT Tryz.prog 3 = false:=by kernel_rfl
theorem wrap_i64 (n:Int) (h1:-9223372036854775808 ≤ n) (h2:n ≤ 9223372036854775807):IntKind.i64.wrap n = n:=Go.IntWalk.i64_in n ⟨h1,by omega⟩
theorem wrap_succ (n:Nat) (h:n < 2 ^ 62):IntKind.i64.wrap ((n:Int) + 1) = ((n + 1:Nat):Int):=by rw [wrap_i64 _ (by omega) (by omega)]; rfl
abbrev ints (l:List Int):List (List PV):=encI .i64 l
abbrev intss (l:List (List Int)):List (List PV):=encII .i64 l
theorem enc_length (k:IntKind) (l:List Int):(encI k l).length = l.length:=by simp [encI]
theorem enc_getD (k:IntKind) (l:List Int) (i:Nat) (h:i < l.length):(encI k l).getD i [] = [.int k (l.getD i 0)]:=by simp [encI,List.getD_eq_getElem?_getD,h]
theorem encs_length (k:IntKind) (l:List (List Int)):(encII k l).length = l.length:=by simp [encII]
theorem encs_getD (k:IntKind) (l:List (List Int)) (i:Nat) (h:i < l.length):(encII k l).getD i [] = [.sl (encI k (l.getD i []))]:=by simp [encII,List.getD_eq_getElem?_getD,h]
theorem enc_set (k:IntKind) (l:List Int) (i:Nat) (x:Int):(encI k l).set i [.int k x] = encI k (l.set i x):=by simp [encI,List.map_set]
theorem enc_bel (k:IntKind) (n:Nat) (l:List Int):∀ row ∈ encI k l,∀ p ∈ row,Bel n p:=fun row hr p hp=>by
 obtain ⟨x,_,rfl⟩:=List.mem_map.1 hr
 rw [List.mem_singleton] at hp
 rw [hp]
 exact bel_int _ _ _
theorem set_last (σ:Store) (x y:Go.PV.Obj):List.set (σ ++ [x]) (List.length σ) y = σ ++ [y]:=by
 rw [List.set_append_right _ _ (Nat.le_refl _),Nat.sub_self]; rfl
theorem splice_one (x y:PV):splice [x] 0 [y] = [y]:=by simp [splice]
theorem bel_tup2 {k:Nat} {a b:PV} (ha:Bel k a) (hb:Bel k b):Bel k (.tup [a,b]):=bel_tup (fun p hp=>by simp at hp; rcases hp with rfl | rfl <;> assumption)
theorem bel_ints (k:Nat) (l:List Int):Bel k (.sl (ints l)):=bel_sl (enc_bel _ _ _)
set_option linter.defProp false in
def vsE:=And.intro vsU (And.intro (And.intro (And.intro (And.intro (And.intro @enc_length @encs_length) (And.intro tyU (And.intro tyC tyB))) (And.intro (And.intro tyA (And.intro tyI tyZ)) (And.intro tyF (And.intro tyP @enc_getD)))) (And.intro (And.intro (And.intro @encs_getD @wrap_i64) (And.intro @enc_set (And.intro @splice_one @set_last))) (And.intro (And.intro @bin_snn (And.intro @bin_snm @bin_sns)) (And.intro @bin_tnn (And.intro @bin_tnm @bin_tns))))) (And.intro @Bool.or_false (And.intro @Bool.true_or @ne_eq.{1})))
set_option linter.defProp false in
def vdA:=And.intro (And.intro @false_implies (And.intro @implies_true.{0} @implies_true.{1})) (And.intro (And.intro (And.intro (And.intro (And.intro @vdx_none @vkp_go) (And.intro @place_nil (And.intro @place_cons @vdo_eff))) (And.intro (And.intro @vdo_effA (And.intro @vdo_noeff_s @vdo_noeff_n)) (And.intro @vdo_nofloat (And.intro @vdo_noread @vdo_read)))) (And.intro (And.intro (And.intro @vdo_floatS (And.intro @vdo_floatA @vde_s)) (And.intro @vde_n (And.intro @vde_c @vdx_s))) (And.intro (And.intro @vdr_s (And.intro @vdr_b @vdf_m)) (And.intro @vdf_p (And.intro @gval_some @vdr_o))))) (And.intro (And.intro (And.intro (And.intro @vdq_eq (And.intro @vdw_s @outR_v)) (And.intro @rowsAt_none (And.intro @mapAt_none @lnil))) (And.intro (And.intro @drop0 (And.intro @List.take_succ_cons.{0} @List.take_zero.{0})) (And.intro @List.drop_succ_cons.{0} (And.intro @List.drop_zero.{0} @List.forall_mem_cons.{0})))) (And.intro (And.intro (And.intro @List.not_mem_nil.{0} (And.intro @List.length_append.{0} @List.length_replicate.{0})) (And.intro @List.replicate_zero.{0} (And.intro @List.replicate_succ.{0} @List.contains_nil.{0}))) (And.intro (And.intro @List.contains_cons.{0} (And.intro @Bool.or_false @Bool.false_or)) (And.intro @Bool.or_self (And.intro @Bool.or_true @Bool.true_or))))))
set_option linter.defProp false in
def vdD:=(And.intro (And.intro @vd_end @vdm_go) (And.intro @vd_op (And.intro @guard_none @guard_some)))
end Go.Proofs.YthjoehaglonjaaaGreat
namespace Go.PV
open Go.ChangeShapes Go.WideShapes Go.ChangeAt Go.RowKit
section
variable {P:Program} {H:Type} {enc:TypeId × Value → H}
end
end Go.PV
namespace Go.PV
abbrev Known:=List PV → Store → Option (Prop × PV × Store)
def Known.Ok (P:Program) (F:FuncId) (g:Known):Prop:=∀ args σ c p σ',g args σ = some (c,p,σ') → c → PCall P F args σ (fun q τ=>q = p ∧ τ = σ')
def Ext.add (E:Ext) (F:FuncId) (g:Known):Ext:=⟨fun F' args σ=>if F' = F then g args σ else E.f F' args σ,E.pu⟩
def Ext.addP (E:Ext) (F:FuncId) (g:Known):Ext:=⟨fun F' args σ=>if F' = F then g args σ else E.f F' args σ,F :: E.pu⟩
theorem ExtOk.add {P:Program} {E:Ext} (h:ExtOk P E) {F:FuncId} {g:Known} (hF:E.pu.contains F = false) (hg:g.Ok P F):ExtOk P (E.add F g):=by
 refine ⟨fun F' args σ c p σ' he hc=>?_,fun F' hF' args σ=>?_⟩
 ·simp only [Ext.add] at he
  split at he
  ·rename_i e; subst e; exact hg _ _ _ _ _ he hc
  ·exact h.ok _ _ _ _ _ _ he hc
 ·have:F' ≠ F:=fun e=>by
   have h1:E.pu.contains F' = true:=List.contains_iff_mem.2 hF'
   rw [e,hF] at h1
   cases h1
  simp only [Ext.add,this,if_false]
  exact h.pure F' hF' args σ
theorem ExtOk.addP {P:Program} {E:Ext} (h:ExtOk P E) {F:FuncId} {g:Known} (hg:g.Ok P F) (hp:∀ args σ,∃ c p,g args σ = some (c,p,σ)):ExtOk P (E.addP F g):=by
 refine ⟨fun F' args σ c p σ' he hc=>?_,fun F' hF' args σ=>?_⟩
 ·simp only [Ext.addP] at he
  split at he
  ·rename_i e; subst e; exact hg _ _ _ _ _ he hc
  ·exact h.ok _ _ _ _ _ _ he hc
 ·simp only [Ext.addP] at hF' ⊢
  by_cases e:F' = F
  ·subst e; simp only [if_true]; exact hp args σ
  ·simp only [e,if_false]
   exact h.pure F' ((List.mem_cons.1 hF').resolve_left e) args σ
theorem PCall.frz {P:Program} {F:FuncId} {args args2:List PV} {σ:Store} {K:PV → Store → Prop} (zs:List Nat) (h:PCall P F args2 (killZ zs σ) K) (hl:args2.length = args.length)
  (hz:∀ (j:Nat) (p p2:PV),args[j]? = some p → args2[j]? = some p2 → Frzn zs σ p p2):PCall P F args σ K:=by
 refine ⟨h.1,fun I ρ w vs hinv ha=>?_⟩
 have hinv':=hinv.freeze zs
 have hg:=Grow.freeze hinv zs
 have ha2:ArgsR (frnI I ρ σ w zs) ρ args2 vs:=by
  refine ⟨by rw [ha.1,hl],fun j p2 hj=>?_⟩
  have hlt:j < args.length:=by have:=(List.getElem?_eq_some_iff.1 hj).1; omega
  have h1:=List.getElem?_eq_getElem hlt
  exact (hz j _ _ h1 hj).sound hinv _ (ha.2 j _ h1)
 refine (h.2 _ _ w vs hinv' ha2).mono ?_
 rintro e w' ⟨rv,p,I',ρ',σ',rfl,hR,hi,hg',hK⟩
 exact ⟨rv,p,I',ρ',σ',rfl,hR,hi,hg.trans hg',hK⟩
theorem gapp0 (σ X:Store):(σ ++ X)[σ.length]? = X[0]?:=by rw [List.getElem?_append_right (Nat.le_refl _),Nat.sub_self]
theorem gappk (σ X:Store) (k:Nat):(σ ++ X)[σ.length + k]? = X[k]?:=by rw [List.getElem?_append_right (Nat.le_add_right _ _),Nat.add_sub_cancel_left]
theorem sapp0 (σ X:Store) (y:Obj):(σ ++ X).set σ.length y = σ ++ X.set 0 y:=by rw [List.set_append_right _ _ (Nat.le_refl _),Nat.sub_self]
theorem sappk (σ X:Store) (k:Nat) (y:Obj):(σ ++ X).set (σ.length + k) y = σ ++ X.set k y:=by rw [List.set_append_right _ _ (Nat.le_add_right _ _),Nat.add_sub_cancel_left]
theorem gappn0 (σ X Y:Store):(σ ++ X ++ Y)[σ.length]? = (X ++ Y)[0]?:=by rw [List.append_assoc,gapp0]
theorem gappnk (σ X Y:Store) (k:Nat):(σ ++ X ++ Y)[σ.length + k]? = (X ++ Y)[k]?:=by rw [List.append_assoc,gappk]
theorem sappn0 (σ X Y:Store) (y:Obj):(σ ++ X ++ Y).set σ.length y = σ ++ (X ++ Y).set 0 y:=by rw [List.append_assoc,sapp0]
theorem sappnk (σ X Y:Store) (k:Nat) (y:Obj):(σ ++ X ++ Y).set (σ.length + k) y = σ ++ (X ++ Y).set k y:=by rw [List.append_assoc,sappk]
theorem fin_app {σ X:Store} {K:PV → Store → Prop} {p p2:PV} (hf:Frz σ.length (σ ++ X) p p2) (hk:K p2 σ):Fin σ K p (σ ++ X) :=
 ⟨p2,hf,fun o ho=>⟨σ[o],by rw [List.getElem?_append_left ho,List.getElem?_eq_getElem ho],.inl (List.getElem?_eq_getElem ho)⟩,by rw [List.take_append_of_le_length (Nat.le_refl _),List.take_length]; exact hk⟩
theorem PCall.lift {P:Program} {F:FuncId} {args:List PV} {Φ:PV → Prop} {K:PV → Store → Prop} {σ:Store} (h:PCall P F args [] (fun p _=>Φ p)) (ha:∀ p ∈ args,Bel 0 p) (hK:∀ p,Φ p → Bel 0 p ∧ K p σ):PCall P F args σ K :=
 PCall.use h ⟨rfl,fun j p p2 h1 h2=>by
  have e:p = p2:=by rw [h1] at h2; exact Option.some.inj h2
  subst e
  exact .keep _ (ha p (List.mem_of_getElem? h1))⟩ hK
def rowAtO (K:List PV → Nat → Prop) (ver i off:Nat):Option Obj → Prop
 | some (.rows _ _ rows v)=>v = ver ∧ i < rows.length ∧ K (rows.getD i []) off
 | _=>False
theorem rowAt_ptr (σ:Store) (K:List PV → Nat → Prop) (o ver i off:Nat):rowAt σ K (.ptr o ver i off) = rowAtO K ver i off σ[o]?:=by
 apply propext
 simp only [rowAt]
 constructor
 ·rintro ⟨elem,sz,rows,row,h1,h2,h3⟩
  rw [h1]
  exact ⟨rfl,(List.getElem?_eq_some_iff.1 h2).1,by rw [List.getD_eq_getElem?_getD,h2]; exact h3⟩
 ·intro h
  cases ho:σ[o]? with
  | none=>rw [ho] at h; exact h.elim
  | some x =>
   cases x with
   | rows el sz rows v =>
    rw [ho] at h
    obtain ⟨rfl,h2,h3⟩:=h
    exact ⟨el,sz,rows,_,rfl,List.getElem?_eq_getElem h2,by rwa [List.getD_eq_getElem?_getD,List.getElem?_eq_getElem h2] at h3⟩
   | _=>rw [ho] at h; exact h.elim
theorem rowAtO_some (K:List PV → Nat → Prop) (ver i off:Nat) (el sz:Nat) (rows:List (List PV)) (v:Nat):rowAtO K ver i off (some (.rows el sz rows v)) = (v = ver ∧ i < rows.length ∧ K (rows.getD i []) off):=rfl
def loadPB (P:Program) (t:TypeId) (row:List PV) (off:Nat) (K:PV → Prop):Bool → Prop
 | true=>(P.underlying t).isSome = true ∧ off + P.cellsOf t ≤ row.length ∧ K (.agg ((row.drop off).take (P.cellsOf t)))
 | false=>(P.underlying t).isSome = true ∧ off < row.length ∧ K (row.getD off .unk)
theorem loadP_B (P:Program) (t:TypeId) (row:List PV) (off:Nat) (K:PV → Prop):loadP P t row off K = loadPB P t row off K (aggT P t):=by
 unfold loadP
 cases aggT P t with
 | true=>simp [loadPB]
 | false =>
  simp only [loadPB,Bool.false_eq_true,if_false]
  apply propext
  constructor
  ·rintro ⟨h1,p,h2,h3⟩
   exact ⟨h1,(List.getElem?_eq_some_iff.1 h2).1,by rw [List.getD_eq_getElem?_getD,h2]; exact h3⟩
  ·rintro ⟨h1,h2,h3⟩
   exact ⟨h1,row[off],List.getElem?_eq_getElem h2,by rwa [List.getD_eq_getElem?_getD,List.getElem?_eq_getElem h2] at h3⟩
theorem loadPB_t (P:Program) (t:TypeId) (row:List PV) (off:Nat) (K:PV → Prop):loadPB P t row off K true = ((P.underlying t).isSome = true ∧ off + P.cellsOf t ≤ row.length ∧ K (.agg ((row.drop off).take (P.cellsOf t)))):=rfl
theorem loadPB_f (P:Program) (t:TypeId) (row:List PV) (off:Nat) (K:PV → Prop):loadPB P t row off K false = ((P.underlying t).isSome = true ∧ off < row.length ∧ K (row.getD off .unk)):=rfl
set_option linter.defProp false in
def vcel:=And.intro (And.intro @rowAt_ptr @rowAtO_some) (And.intro @loadP_B (And.intro @loadPB_t @loadPB_f))
set_option linter.defProp false in
def vgap:=And.intro (And.intro (And.intro @gapp0 @gappk) (And.intro @sapp0 @sappk)) (And.intro (And.intro @gappn0 @gappnk) (And.intro @sappn0 @sappnk))
end Go.PV
namespace Go.Proofs.YthjoehaglonjaaaGreat
open Go.PV
theorem own:ownKnob Tryz.prog.godebug = none:=by kernel_rfl
theorem laidOut:laidOutB Tryz.prog = true:=by kernel_rfl
end Go.Proofs.YthjoehaglonjaaaGreat
namespace Go.Proofs.YthjoehaglonjaaaGreat
open Go.PV
def encT (l:List (Int × Int)):List (List PV):=l.map fun t=>[.int .i64 t.1,.int .i64 t.2]
theorem encT_length (l:List (Int × Int)):(encT l).length = l.length:=by simp [encT]
theorem encT_getD (l:List (Int × Int)) (i:Nat) (h:i < l.length):(encT l).getD i [] = [.int .i64 (l.getD i (0,0)).1,.int .i64 (l.getD i (0,0)).2]:=by simp [encT,List.getD_eq_getElem?_getD,h]
theorem encT_bel (n:Nat) (l:List (Int × Int)):∀ row ∈ encT l,∀ p ∈ row,Bel n p:=fun row hr p hp=>by
 simp only [encT,List.mem_map] at hr
 obtain ⟨t,_,rfl⟩:=hr
 simp only [List.mem_cons,List.not_mem_nil,or_false] at hp
 rcases hp with rfl | rfl <;> exact bel_int _ _ _
theorem bel_pairs (k:Nat) (l:List (Int × Int)):Bel k (.sl (encT l)):=bel_sl (encT_bel _ _)
structure Site where
 blk:Int
 ins:Int
 tg:List (Int × Int)
instance:Inhabited Site:=⟨⟨0,0,[]⟩⟩
def Site.row (s:Site):List PV:=[.int .i64 s.blk,.int .i64 s.ins,.sl (encT s.tg)]
def encS (l:List Site):List (List PV):=l.map Site.row
theorem encS_length (l:List Site):(encS l).length = l.length:=by simp [encS]
theorem encS_getD (l:List Site) (i:Nat) (h:i < l.length):(encS l).getD i [] = [.int .i64 (l.getD i default).blk,.int .i64 (l.getD i default).ins,.sl (encT (l.getD i default).tg)]:=by simp [encS,Site.row,List.getD_eq_getElem?_getD,h]
theorem encS_bel (n:Nat) (l:List Site):∀ row ∈ encS l,∀ p ∈ row,Bel n p:=fun row hr p hp=>by
 simp only [encS,List.mem_map] at hr
 obtain ⟨s,_,rfl⟩:=hr
 simp only [Site.row,List.mem_cons,List.not_mem_nil,or_false] at hp
 rcases hp with rfl | rfl | rfl
 ·exact bel_int _ _ _
 ·exact bel_int _ _ _
 ·exact bel_pairs _ _
theorem bel_sites (k:Nat) (l:List Site):Bel k (.sl (encS l)):=bel_sl (encS_bel _ _)
structure FC where
 ent:Int
 blocks:List Int
 edges:List (Int × Int)
 sites:List Site
instance:Inhabited FC:=⟨⟨0,[],[],[]⟩⟩
def FC.row (x:FC):List PV:=[.int .i64 x.ent,.sl (ints x.blocks),.sl (encT x.edges),.sl (encS x.sites)]
theorem FC.row_bel (x:FC) (n:Nat):∀ p ∈ x.row,Bel n p:=fun p hp=>by
 simp only [FC.row,List.mem_cons,List.not_mem_nil,or_false] at hp
 rcases hp with rfl | rfl | rfl | rfl
 ·exact bel_int _ _ _
 ·exact bel_ints _ _
 ·exact bel_pairs _ _
 ·exact bel_sites _ _
def encF (l:List FC):List (List PV):=l.map FC.row
theorem encF_length (l:List FC):(encF l).length = l.length:=by simp [encF]
theorem encF_getD (l:List FC) (i:Nat) (h:i < l.length):(encF l).getD i [] = [.int .i64 (l.getD i default).ent,.sl (ints (l.getD i default).blocks),.sl (encT (l.getD i default).edges),.sl (encS (l.getD i default).sites)]:=by simp [encF,FC.row,List.getD_eq_getElem?_getD,h]
theorem encF_bel (n:Nat) (l:List FC):∀ row ∈ encF l,∀ p ∈ row,Bel n p:=fun row hr p hp=>by
 simp only [encF,List.mem_map] at hr
 obtain ⟨s,_,rfl⟩:=hr
 exact s.row_bel n p hp
def validR (num den:Int):Prop:=0 ≤ num ∧ num ≤ den ∧ 1 ≤ den ∧ den ≤ 4
def ageOk (n:Int):Prop:=0 ≤ n ∧ n ≤ 8
instance (num den:Int):Decidable (validR num den):=by unfold validR; infer_instance
instance (n:Int):Decidable (ageOk n):=by unfold ageOk; infer_instance
end Go.Proofs.YthjoehaglonjaaaGreat
