/-
  SYM, part 29: the simp set of the walks.
-/
import Derived.Test.YtmjlnndnpdbagaaSym28
set_option linter.all false
set_option linter.unusedSimpArgs false
set_option linter.unusedVariables false
set_option linter.deprecated false
namespace Go.Sym
open Go
attribute [go_sem] drops GK_tt GK_tf GK_ft GK_ff decide_true decide_false Bool.not_true Bool.not_false K_move K_pick K_binOp K_not K_neg K_nilCheck K_extract K_load K_store K_indexAddr K_fieldAddr K_field K_index K_slice K_makeSlice K_buildSlice K_alloc K_box K_build K_convert K_len K_append K_min K_max D_move D_pick D_binOp D_not D_neg D_nilCheck D_extract D_load D_store D_indexAddr D_fieldAddr D_field D_index D_slice D_makeSlice D_buildSlice D_alloc D_box D_build D_convert D_len D_append D_min D_max K_assignV D_assignV K_assignF K_assignC D_assignC K_call D_call put_some put_none ev_tmp ev_const ev_func ofV_int ofV_bool ofV_str ofV_nil ofV_ptr ops_nil ops_cons ops_guard opsD_nil opsD_cons opsD_guard fin_mk finD_mk R.val tget Value.oneCell' bop bopInt bopBool arith opLen opIndexAddr opLoad ldCells opFieldAddr opField opIndex Sym.elemOf opSlice opSliceS opStore opAppend Hp.get Hp.has cells_lit cells_sl cells_ptI cells_agg cells_slO cells_ptO cells_bad cells_fn s1_lit s2_lit s1_sl s2_sl s1_ptI s2_ptI s1_fn s2_fn s1_slO s2_slO s2_agg p1_lit p2_lit p1_sl p2_sl p1_ptI p2_ptI p1_slO p2_slO p2_agg r1_lit r2_lit r1_sl r2_sl r1_ptI r2_ptI r1_ptO r2_ptO r1_fn r2_fn r1_bad r2_bad r1_slO r2_slO r2_agg one_lit one_sl one_ptI one_ptO one_slO one_fn parts_0 parts_1 parts_2 parts_3 parts_4 parts_5 parts_6 parts_7 parts_8 parts_9 all_cons all_nil all_ints all_rows ints_set ints_snoc rows_snoc List.length_range List.length_set List.length_append List.length_replicate dstOf QThen QBlock Option.map_some Option.map_none Option.getD_some Option.getD_none Option.bind_some List.getElem?_cons_zero List.getElem?_cons_succ List.length_cons List.length_nil List.length_map List.getD_cons_zero List.getD_cons_succ List.map_cons List.map_nil List.flatMap_cons List.flatMap_nil List.append_nil List.nil_append List.singleton_append List.cons_append Nat.le_refl if_true if_false true_and and_true Bool.false_eq_true not_false_eq_true not_true_eq_false eq_self ints_length rows_length Int.toNat_natCast evs List.take_succ_cons List.take_zero List.drop_zero List.drop_succ_cons List.drop_nil Nat.add_zero Nat.zero_add
end Go.Sym
