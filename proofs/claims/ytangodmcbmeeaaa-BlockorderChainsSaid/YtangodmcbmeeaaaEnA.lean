import Derived.Test.YtangodmcbmeeaaaPvX
import Derived.Test.YtangodmcbmeeaaaTy
import Derived.Test.YtangodmcbmeeaaaProg
import Derived.KernelRfl
set_option maxRecDepth 8000
set_option linter.unusedSimpArgs false
set_option linter.unusedVariables false
namespace Go.Proofs.Ytangodmcbmeeaaa
open Go.PV
theorem mix:Try.prog.follows .mixedOrders = true:=by kernel_rfl
theorem u_bool:Try.prog.underlying 4 = some .bool:=by kernel_rfl
theorem u_int:Try.prog.underlying 3 = some (.int .i64):=by kernel_rfl
theorem c_int:Try.prog.cellsOf 3 = 1:=by kernel_rfl
theorem b_int:Try.prog.bytesOf 3 = 8:=by kernel_rfl
theorem a_int:aggT Try.prog 3 = false:=by kernel_rfl
theorem z_int:zeroCells Try.prog 3 = some [.int .i64 0]:=by kernel_rfl
theorem u_ints:Try.prog.underlying 29 = some (.slice 3):=by kernel_rfl
theorem c_ints:Try.prog.cellsOf 29 = 1:=by kernel_rfl
theorem b_ints:Try.prog.bytesOf 29 = 24:=by kernel_rfl
theorem a_ints:aggT Try.prog 29 = false:=by kernel_rfl
theorem z_ints:zeroCells Try.prog 29 = some [.nils]:=by kernel_rfl
theorem loadV_int (x:PV):loadV Try.prog 3 [x] 0 = x:=by simp [loadV,a_int]
theorem loadOk_int (x:PV):loadOk Try.prog 3 [x] 0 = True:=by simp [loadOk,a_int,u_int]
theorem loadV_ints (x:PV):loadV Try.prog 29 [x] 0 = x:=by simp [loadV,a_ints]
theorem loadOk_ints (x:PV):loadOk Try.prog 29 [x] 0 = True:=by simp [loadOk,a_ints,u_ints]
theorem wrap_i64 (n:Int) (h1:-9223372036854775808 ≤ n) (h2:n ≤ 9223372036854775807):IntKind.i64.wrap n = n:=Go.IntWalk.i64_in n ⟨h1,by omega⟩
theorem wrap_succ (n:Nat) (h:n < 2 ^ 62):IntKind.i64.wrap ((n:Int) + 1) = ((n + 1:Nat):Int):=by rw [wrap_i64 _ (by omega) (by omega)]; rfl
abbrev ints (l:List Int):List (List PV):=encI .i64 l
abbrev intss (l:List (List Int)):List (List PV):=encII .i64 l
theorem enc_length (k:IntKind) (l:List Int):(encI k l).length = l.length:=by simp [encI]
theorem enc_getD (k:IntKind) (l:List Int) (i:Nat) (h:i < l.length):(encI k l).getD i [] = [.int k (l.getD i 0)]:=by simp [encI,List.getD_eq_getElem?_getD,h]
theorem encs_length (k:IntKind) (l:List (List Int)):(encII k l).length = l.length:=by simp [encII]
theorem encs_getD (k:IntKind) (l:List (List Int)) (i:Nat) (h:i < l.length):(encII k l).getD i [] = [.sl (encI k (l.getD i []))]:=by simp [encII,List.getD_eq_getElem?_getD,h]
theorem enc_set (k:IntKind) (l:List Int) (i:Nat) (x:Int):(encI k l).set i [.int k x] = encI k (l.set i x):=by simp [encI,List.map_set]
theorem enc_replicate (k:IntKind) (n:Nat) (x:Int):List.replicate n [PV.int k x] = encI k (List.replicate n x):=by simp [encI]
theorem enc_append (k:IntKind) (l:List Int) (x:Int):encI k l ++ [[PV.int k x]] = encI k (l ++ [x]):=by simp [encI]
theorem enc_bel (k:IntKind) (n:Nat) (l:List Int):∀ row ∈ encI k l,∀ p ∈ row,Bel n p:=fun row hr p hp=>by
 obtain ⟨x,_,rfl⟩:=List.mem_map.1 hr
 rw [List.mem_singleton] at hp
 rw [hp]
 exact bel_int _ _ _
theorem encs_bel (k:IntKind) (n:Nat) (l:List (List Int)):∀ row ∈ encII k l,∀ p ∈ row,Bel n p:=fun row hr p hp=>by
 obtain ⟨x,_,rfl⟩:=List.mem_map.1 hr
 rw [List.mem_singleton] at hp
 rw [hp]
 exact bel_sl (enc_bel k n x)
theorem set_last (σ:Store) (x y:Go.PV.Obj):List.set (σ ++ [x]) (List.length σ) y = σ ++ [y]:=by
 rw [List.set_append_right _ _ (Nat.le_refl _),Nat.sub_self]; rfl
theorem splice_one (x y:PV):splice [x] 0 [y] = [y]:=by simp [splice]
def modest (l:List (List Int)):Prop:=l.length < 2 ^ 40 ∧ ∀ li ∈ l,li.length < 2 ^ 40
theorem frz_tup3 {k:Nat} {σ:Store} {a b c a2 b2 c2:PV} (ha:Frz k σ a a2) (hb:Frz k σ b b2) (hc:Frz k σ c c2):Frz k σ (.tup [a,b,c]) (.tup [a2,b2,c2]) :=
 .tup _ _ rfl (fun j p hj=>by
  match j with
  | 0=>simp at hj; subst hj; exact ha
  | 1=>simp at hj; subst hj; exact hb
  | 2=>simp at hj; subst hj; exact hc
  | j + 3=>simp at hj)
theorem bel_tup2 {k:Nat} {a b:PV} (ha:Bel k a) (hb:Bel k b):Bel k (.tup [a,b]):=bel_tup (fun p hp=>by simp at hp; rcases hp with rfl | rfl <;> assumption)
theorem bel_tup3 {k:Nat} {a b c:PV} (ha:Bel k a) (hb:Bel k b) (hc:Bel k c):Bel k (.tup [a,b,c]):=bel_tup (fun p hp=>by simp at hp; rcases hp with rfl | rfl | rfl <;> assumption)
theorem bel_ints (k:Nat) (l:List Int):Bel k (.sl (ints l)):=bel_sl (enc_bel _ _ _)
theorem bel_intss (k:Nat) (l:List (List Int)):Bel k (.sl (intss l)):=bel_sl (encs_bel _ _ _)
theorem getD_mem {l:List Int} {k:Nat} (h:k < l.length):l.getD k 0 ∈ l:=by
 rw [List.getD_eq_getElem?_getD,List.getElem?_eq_getElem h]
 exact List.getElem_mem h
theorem gets_mem {l:List (List Int)} {k:Nat} (h:k < l.length):l.getD k [] ∈ l:=by
 rw [List.getD_eq_getElem?_getD,List.getElem?_eq_getElem h]
 exact List.getElem_mem h
theorem take_succ_getD (l:List Int) (k:Nat) (hk:k < l.length):l.take (k + 1) = l.take k ++ [l.getD k 0]:=by
 rw [List.take_add_one,List.getElem?_eq_getElem hk,Option.toList_some,List.getD_eq_getElem?_getD,List.getElem?_eq_getElem hk,Option.getD_some]
theorem takes_succ_getD (l:List (List Int)) (k:Nat) (hk:k < l.length):l.take (k + 1) = l.take k ++ [l.getD k []]:=by
 rw [List.take_add_one,List.getElem?_eq_getElem hk,Option.toList_some,List.getD_eq_getElem?_getD,List.getElem?_eq_getElem hk,Option.getD_some]
theorem frz_tup2 {k:Nat} {σ:Store} {a b a2 b2:PV} (ha:Frz k σ a a2) (hb:Frz k σ b b2):Frz k σ (.tup [a,b]) (.tup [a2,b2]) :=
 .tup _ _ rfl (fun j p hj=>by
  match j with
  | 0=>simp at hj; subst hj; exact ha
  | 1=>simp at hj; subst hj; exact hb
  | j + 2=>simp at hj)
set_option linter.defProp false in
def vsE:=And.intro vsU (And.intro (And.intro (And.intro (And.intro (And.intro @enc_length @encs_length) (And.intro tyU (And.intro tyC tyB))) (And.intro (And.intro tyA (And.intro tyI tyZ)) (And.intro tyF (And.intro tyP @enc_getD)))) (And.intro (And.intro (And.intro @encs_getD @wrap_i64) (And.intro @enc_set (And.intro @splice_one @set_last))) (And.intro (And.intro @bin_snn (And.intro @bin_snm @bin_sns)) (And.intro @bin_tnn (And.intro @bin_tnm @bin_tns))))) (And.intro @Bool.or_false (And.intro @Bool.true_or @ne_eq.{1})))
set_option linter.defProp false in
def vdA:=And.intro (And.intro @false_implies (And.intro @implies_true.{0} @implies_true.{1})) (And.intro (And.intro (And.intro (And.intro (And.intro @vdx_none @vkp_go) (And.intro @place_nil (And.intro @place_cons @vdo_eff))) (And.intro (And.intro @vdo_effA (And.intro @vdo_noeff_s @vdo_noeff_n)) (And.intro @vdo_nofloat (And.intro @vdo_noread @vdo_read)))) (And.intro (And.intro (And.intro @vdo_floatS (And.intro @vdo_floatA @vde_s)) (And.intro @vde_n (And.intro @vde_c @vdx_s))) (And.intro (And.intro @vdr_s (And.intro @vdr_b @vdf_m)) (And.intro @vdf_p (And.intro @gval_some @vdr_o))))) (And.intro (And.intro (And.intro (And.intro @vdq_eq (And.intro @vdw_s @outR_v)) (And.intro @rowsAt_none (And.intro @mapAt_none @lnil))) (And.intro (And.intro @drop0 (And.intro @List.take_succ_cons.{0} @List.take_zero.{0})) (And.intro @List.drop_succ_cons.{0} (And.intro @List.drop_zero.{0} @List.forall_mem_cons.{0})))) (And.intro (And.intro (And.intro @List.not_mem_nil.{0} (And.intro @List.length_append.{0} @List.length_replicate.{0})) (And.intro @List.replicate_zero.{0} (And.intro @List.replicate_succ.{0} @List.contains_nil.{0}))) (And.intro (And.intro @List.contains_cons.{0} (And.intro @Bool.or_false @Bool.false_or)) (And.intro @Bool.or_self (And.intro @Bool.or_true @Bool.true_or))))))
set_option linter.defProp false in
def vdD:=(And.intro (And.intro @vd_end @vdm_go) (And.intro @vd_op (And.intro @guard_none @guard_some)))
end Go.Proofs.Ytangodmcbmeeaaa
