/- Part 1. No condition. -/
import Derived.Below
import Derived.Laws.OwnMore
import Derived.Laws.Rows
import Derived.Deep.Draws
import Derived.Laws.Slices
import Derived.Test.YtidojbkhlenahaaGreatDoorProg
import Derived.WalkKit
import Derived.Maps.AppendAt
import Derived.Deep.AppendLies
import Derived.RegionTactic
import Derived.Lib.Hide
import Derived.OwnWalkIn
import Derived.Laws.BitsAllLaws
import Derived.Deep.OwnRows
import Derived.Laws.CopyOwn
set_option maxRecDepth 100000
set_option maxHeartbeats 16000000
namespace Go.Proofs.YtidojbkhlenahaaGreatDoor
open Go
theorem Xh2 {a b:Prop} (a1:a) (b1:b):RowKit.Hid (a∧b):=Lib.hid ⟨a1,b1⟩
theorem Xh3 {a b c:Prop} (a1:a) (b1:b) (c1:c):RowKit.Hid (a∧b∧c):=Lib.hid ⟨a1,b1,c1⟩
theorem Xh4 {a b c d:Prop} (a1:a) (b1:b) (c1:c) (d1:d):RowKit.Hid (a∧b∧c∧d):=Lib.hid ⟨a1,b1,c1,d1⟩
theorem Xh5 {a b c d e:Prop} (a1:a) (b1:b) (c1:c) (d1:d) (e1:e):RowKit.Hid (a∧b∧c∧d∧e):=Lib.hid ⟨a1,b1,c1,d1,e1⟩
theorem Xh6 {a b c d e f:Prop} (a1:a) (b1:b) (c1:c) (d1:d) (e1:e) (f1:f):RowKit.Hid (a∧b∧c∧d∧e∧f):=Lib.hid ⟨a1,b1,c1,d1,e1,f1⟩
theorem Xh7 {a b c d e f g:Prop} (a1:a) (b1:b) (c1:c) (d1:d) (e1:e) (f1:f) (g1:g):RowKit.Hid (a∧b∧c∧d∧e∧f∧g):=Lib.hid ⟨a1,b1,c1,d1,e1,f1,g1⟩
theorem Xh8 {a b c d e f g i:Prop} (a1:a) (b1:b) (c1:c) (d1:d) (e1:e) (f1:f) (g1:g) (i1:i):RowKit.Hid (a∧b∧c∧d∧e∧f∧g∧i):=Lib.hid ⟨a1,b1,c1,d1,e1,f1,g1,i1⟩
theorem Xh9 {a b c d e f g i j:Prop} (a1:a) (b1:b) (c1:c) (d1:d) (e1:e) (f1:f) (g1:g) (i1:i) (j1:j):RowKit.Hid (a∧b∧c∧d∧e∧f∧g∧i∧j):=Lib.hid ⟨a1,b1,c1,d1,e1,f1,g1,i1,j1⟩
theorem Xh10 {a b c d e f g i j k:Prop} (a1:a) (b1:b) (c1:c) (d1:d) (e1:e) (f1:f) (g1:g) (i1:i) (j1:j) (k1:k):RowKit.Hid (a∧b∧c∧d∧e∧f∧g∧i∧j∧k):=Lib.hid ⟨a1,b1,c1,d1,e1,f1,g1,i1,j1,k1⟩
theorem Xh11 {a b c d e f g i j k l:Prop} (a1:a) (b1:b) (c1:c) (d1:d) (e1:e) (f1:f) (g1:g) (i1:i) (j1:j) (k1:k) (l1:l):RowKit.Hid (a∧b∧c∧d∧e∧f∧g∧i∧j∧k∧l):=Lib.hid ⟨a1,b1,c1,d1,e1,f1,g1,i1,j1,k1,l1⟩
theorem Xh12 {a b c d e f g i j k l m:Prop} (a1:a) (b1:b) (c1:c) (d1:d) (e1:e) (f1:f) (g1:g) (i1:i) (j1:j) (k1:k) (l1:l) (m1:m):RowKit.Hid (a∧b∧c∧d∧e∧f∧g∧i∧j∧k∧l∧m):=Lib.hid ⟨a1,b1,c1,d1,e1,f1,g1,i1,j1,k1,l1,m1⟩
theorem Xh13 {a b c d e f g i j k l m n:Prop} (a1:a) (b1:b) (c1:c) (d1:d) (e1:e) (f1:f) (g1:g) (i1:i) (j1:j) (k1:k) (l1:l) (m1:m) (n1:n):RowKit.Hid (a∧b∧c∧d∧e∧f∧g∧i∧j∧k∧l∧m∧n):=Lib.hid ⟨a1,b1,c1,d1,e1,f1,g1,i1,j1,k1,l1,m1,n1⟩
theorem Xh14 {a b c d e f g i j k l m n p:Prop} (a1:a) (b1:b) (c1:c) (d1:d) (e1:e) (f1:f) (g1:g) (i1:i) (j1:j) (k1:k) (l1:l) (m1:m) (n1:n) (p1:p):RowKit.Hid (a∧b∧c∧d∧e∧f∧g∧i∧j∧k∧l∧m∧n∧p):=Lib.hid ⟨a1,b1,c1,d1,e1,f1,g1,i1,j1,k1,l1,m1,n1,p1⟩
theorem Xh15 {a b c d e f g i j k l m n p q:Prop} (a1:a) (b1:b) (c1:c) (d1:d) (e1:e) (f1:f) (g1:g) (i1:i) (j1:j) (k1:k) (l1:l) (m1:m) (n1:n) (p1:p) (q1:q):RowKit.Hid (a∧b∧c∧d∧e∧f∧g∧i∧j∧k∧l∧m∧n∧p∧q):=Lib.hid ⟨a1,b1,c1,d1,e1,f1,g1,i1,j1,k1,l1,m1,n1,p1,q1⟩
theorem Xh16 {a b c d e f g i j k l m n p q r:Prop} (a1:a) (b1:b) (c1:c) (d1:d) (e1:e) (f1:f) (g1:g) (i1:i) (j1:j) (k1:k) (l1:l) (m1:m) (n1:n) (p1:p) (q1:q) (r1:r):RowKit.Hid (a∧b∧c∧d∧e∧f∧g∧i∧j∧k∧l∧m∧n∧p∧q∧r):=Lib.hid ⟨a1,b1,c1,d1,e1,f1,g1,i1,j1,k1,l1,m1,n1,p1,q1,r1⟩
theorem Xh17 {a b c d e f g i j k l m n p q r s:Prop} (a1:a) (b1:b) (c1:c) (d1:d) (e1:e) (f1:f) (g1:g) (i1:i) (j1:j) (k1:k) (l1:l) (m1:m) (n1:n) (p1:p) (q1:q) (r1:r) (s1:s):RowKit.Hid (a∧b∧c∧d∧e∧f∧g∧i∧j∧k∧l∧m∧n∧p∧q∧r∧s):=Lib.hid ⟨a1,b1,c1,d1,e1,f1,g1,i1,j1,k1,l1,m1,n1,p1,q1,r1,s1⟩
theorem Xo0 {a b:Prop} (h:RowKit.Hid (a∧b)):a:=h.out.1
theorem Xo1 {a b c:Prop} (h:RowKit.Hid (a∧b∧c)):b:=h.out.2.1
theorem Xe1 {a b:Prop} (h:RowKit.Hid (a∧b)):b:=h.out.2
theorem Xo2 {a b c d:Prop} (h:RowKit.Hid (a∧b∧c∧d)):c:=h.out.2.2.1
theorem Xe2 {a b c:Prop} (h:RowKit.Hid (a∧b∧c)):c:=h.out.2.2
theorem Xo3 {a b c d e:Prop} (h:RowKit.Hid (a∧b∧c∧d∧e)):d:=h.out.2.2.2.1
theorem Xe3 {a b c d:Prop} (h:RowKit.Hid (a∧b∧c∧d)):d:=h.out.2.2.2
theorem Xo4 {a b c d e f:Prop} (h:RowKit.Hid (a∧b∧c∧d∧e∧f)):e:=h.out.2.2.2.2.1
theorem Xe4 {a b c d e:Prop} (h:RowKit.Hid (a∧b∧c∧d∧e)):e:=h.out.2.2.2.2
theorem Xo5 {a b c d e f g:Prop} (h:RowKit.Hid (a∧b∧c∧d∧e∧f∧g)):f:=h.out.2.2.2.2.2.1
theorem Xe5 {a b c d e f:Prop} (h:RowKit.Hid (a∧b∧c∧d∧e∧f)):f:=h.out.2.2.2.2.2
theorem Xo6 {a b c d e f g i:Prop} (h:RowKit.Hid (a∧b∧c∧d∧e∧f∧g∧i)):g:=h.out.2.2.2.2.2.2.1
theorem Xe6 {a b c d e f g:Prop} (h:RowKit.Hid (a∧b∧c∧d∧e∧f∧g)):g:=h.out.2.2.2.2.2.2
theorem Xo7 {a b c d e f g i j:Prop} (h:RowKit.Hid (a∧b∧c∧d∧e∧f∧g∧i∧j)):i:=h.out.2.2.2.2.2.2.2.1
theorem Xe7 {a b c d e f g i:Prop} (h:RowKit.Hid (a∧b∧c∧d∧e∧f∧g∧i)):i:=h.out.2.2.2.2.2.2.2
theorem Xo8 {a b c d e f g i j k:Prop} (h:RowKit.Hid (a∧b∧c∧d∧e∧f∧g∧i∧j∧k)):j:=h.out.2.2.2.2.2.2.2.2.1
theorem Xe8 {a b c d e f g i j:Prop} (h:RowKit.Hid (a∧b∧c∧d∧e∧f∧g∧i∧j)):j:=h.out.2.2.2.2.2.2.2.2
theorem Xo9 {a b c d e f g i j k l:Prop} (h:RowKit.Hid (a∧b∧c∧d∧e∧f∧g∧i∧j∧k∧l)):k:=h.out.2.2.2.2.2.2.2.2.2.1
theorem Xe9 {a b c d e f g i j k:Prop} (h:RowKit.Hid (a∧b∧c∧d∧e∧f∧g∧i∧j∧k)):k:=h.out.2.2.2.2.2.2.2.2.2
theorem Xo10 {a b c d e f g i j k l m:Prop} (h:RowKit.Hid (a∧b∧c∧d∧e∧f∧g∧i∧j∧k∧l∧m)):l:=h.out.2.2.2.2.2.2.2.2.2.2.1
theorem Xe10 {a b c d e f g i j k l:Prop} (h:RowKit.Hid (a∧b∧c∧d∧e∧f∧g∧i∧j∧k∧l)):l:=h.out.2.2.2.2.2.2.2.2.2.2
theorem Xo11 {a b c d e f g i j k l m n:Prop} (h:RowKit.Hid (a∧b∧c∧d∧e∧f∧g∧i∧j∧k∧l∧m∧n)):m:=h.out.2.2.2.2.2.2.2.2.2.2.2.1
theorem Xe11 {a b c d e f g i j k l m:Prop} (h:RowKit.Hid (a∧b∧c∧d∧e∧f∧g∧i∧j∧k∧l∧m)):m:=h.out.2.2.2.2.2.2.2.2.2.2.2
theorem Xo12 {a b c d e f g i j k l m n p:Prop} (h:RowKit.Hid (a∧b∧c∧d∧e∧f∧g∧i∧j∧k∧l∧m∧n∧p)):n:=h.out.2.2.2.2.2.2.2.2.2.2.2.2.1
theorem Xe12 {a b c d e f g i j k l m n:Prop} (h:RowKit.Hid (a∧b∧c∧d∧e∧f∧g∧i∧j∧k∧l∧m∧n)):n:=h.out.2.2.2.2.2.2.2.2.2.2.2.2
theorem Xo13 {a b c d e f g i j k l m n p q:Prop} (h:RowKit.Hid (a∧b∧c∧d∧e∧f∧g∧i∧j∧k∧l∧m∧n∧p∧q)):p:=h.out.2.2.2.2.2.2.2.2.2.2.2.2.2.1
theorem Xe13 {a b c d e f g i j k l m n p:Prop} (h:RowKit.Hid (a∧b∧c∧d∧e∧f∧g∧i∧j∧k∧l∧m∧n∧p)):p:=h.out.2.2.2.2.2.2.2.2.2.2.2.2.2
theorem Xo14 {a b c d e f g i j k l m n p q r:Prop} (h:RowKit.Hid (a∧b∧c∧d∧e∧f∧g∧i∧j∧k∧l∧m∧n∧p∧q∧r)):q:=h.out.2.2.2.2.2.2.2.2.2.2.2.2.2.2.1
theorem Xe14 {a b c d e f g i j k l m n p q:Prop} (h:RowKit.Hid (a∧b∧c∧d∧e∧f∧g∧i∧j∧k∧l∧m∧n∧p∧q)):q:=h.out.2.2.2.2.2.2.2.2.2.2.2.2.2.2
theorem Xo15 {a b c d e f g i j k l m n p q r s:Prop} (h:RowKit.Hid (a∧b∧c∧d∧e∧f∧g∧i∧j∧k∧l∧m∧n∧p∧q∧r∧s)):r:=h.out.2.2.2.2.2.2.2.2.2.2.2.2.2.2.2.1
theorem Xe15 {a b c d e f g i j k l m n p q r:Prop} (h:RowKit.Hid (a∧b∧c∧d∧e∧f∧g∧i∧j∧k∧l∧m∧n∧p∧q∧r)):r:=h.out.2.2.2.2.2.2.2.2.2.2.2.2.2.2.2
theorem Xo16 {a b c d e f g i j k l m n p q r s t:Prop} (h:RowKit.Hid (a∧b∧c∧d∧e∧f∧g∧i∧j∧k∧l∧m∧n∧p∧q∧r∧s∧t)):s:=h.out.2.2.2.2.2.2.2.2.2.2.2.2.2.2.2.2.1
theorem Xe16 {a b c d e f g i j k l m n p q r s:Prop} (h:RowKit.Hid (a∧b∧c∧d∧e∧f∧g∧i∧j∧k∧l∧m∧n∧p∧q∧r∧s)):s:=h.out.2.2.2.2.2.2.2.2.2.2.2.2.2.2.2.2
end Go.Proofs.YtidojbkhlenahaaGreatDoor
namespace Go.Proofs
open Go Go.RowKit
abbrev OA:=Option Addr
abbrev LU:=List UInt8
abbrev LN:=List Nat
abbrev LV:=List Value
abbrev Bw (w w':World):Prop:=Below w.heap.size w w'
theorem Ba {w:World} {o:Obj}:Below w.heap.size w (w.alloc o):=(Below.refl _ _).alloc (Nat.le_refl _) _
theorem Ua:type_of% @Go.Lib.hid:=@Go.Lib.hid
theorem Ub:type_of% @List.getElem?_eq_getElem:=@List.getElem?_eq_getElem
theorem Uc:type_of% @Nat.lt_of_lt_of_le:=@Nat.lt_of_lt_of_le
theorem Ud:type_of% @Go.RowKit.Below.refl:=@Go.RowKit.Below.refl
theorem Ue:type_of% @Nat.le_refl:=@Nat.le_refl
theorem Uf:type_of% @Go.World.cell?_setCell_other:=@Go.World.cell?_setCell_other
theorem Ug:type_of% @List.mem_of_getElem?:=@List.mem_of_getElem?
theorem Uh:type_of% @List.getElem?_eq_some_iff:=@List.getElem?_eq_some_iff
theorem Ui:type_of% @List.length_append:=@List.length_append
theorem Uj:type_of% @Nat.le_trans:=@Nat.le_trans
theorem Uk:type_of% @beq_eq_false_iff_ne:=@beq_eq_false_iff_ne
theorem Ul:type_of% @List.length_cons:=@List.length_cons
theorem Um:type_of% @List.setIfInBounds_toArray:=@List.setIfInBounds_toArray
theorem Un:type_of% @Option.some.injEq:=@Option.some.injEq
theorem Uo:type_of% @Array.getElem?_eq_some_iff:=@Array.getElem?_eq_some_iff
theorem Up:type_of% @Go.heap_alloc_new:=@Go.heap_alloc_new
theorem Uq:type_of% @if_neg:=@if_neg
theorem Ur:type_of% @Go.World.size_alloc:=@Go.World.size_alloc
theorem Us:type_of% @Go.World.frozen?_setCell:=@Go.World.frozen?_setCell
theorem Ut:type_of% @List.set_cons_succ:=@List.set_cons_succ
theorem Uu:type_of% @if_pos:=@if_pos
theorem Uv:type_of% @Nat.zero_le:=@Nat.zero_le
theorem Uw:type_of% @List.take_of_length_le:=@List.take_of_length_le
theorem Ux:type_of% @List.set_cons_zero:=@List.set_cons_zero
theorem Uy:type_of% @List.mem_singleton:=@List.mem_singleton
theorem Uz:type_of% @Go.block_lt_of_cell:=@Go.block_lt_of_cell
theorem UA:type_of% @Array.getD_eq_getD_getElem?:=@Array.getD_eq_getD_getElem?
theorem UB:type_of% @Nat.mul_comm:=@Nat.mul_comm
theorem UC:type_of% @List.length_eq_zero_iff:=@List.length_eq_zero_iff
theorem UD:type_of% @List.mem_cons:=@List.mem_cons
theorem UE:type_of% @List.length_map:=@List.length_map
theorem UF:type_of% @Go.World.cell?_setCell_same':=@Go.World.cell?_setCell_same'
theorem UG:type_of% @Option.map_some:=@Option.map_some
theorem UH:type_of% @Nat.zero_add:=@Nat.zero_add
theorem UI:type_of% @List.getElem?_map:=@List.getElem?_map
theorem UJ:type_of% @Nat.mul_assoc:=@Nat.mul_assoc
theorem UK:type_of% @Go.World.cell?_of_block:=@Go.World.cell?_of_block
theorem UL:type_of% @Go.cell_of_row:=@Go.cell_of_row
theorem UM:type_of% @ByteArray.data_append:=@ByteArray.data_append
theorem UN:type_of% @Nat.pow_le_pow_right:=@Nat.pow_le_pow_right
theorem UO:type_of% @List.getElem?_cons_zero:=@List.getElem?_cons_zero
theorem UP:type_of% @List.length_nil:=@List.length_nil
theorem UQ:type_of% @List.drop_eq_getElem_cons:=@List.drop_eq_getElem_cons
theorem UR:type_of% @List.length_take:=@List.length_take
theorem US:type_of% @List.mem_iff_getElem?:=@List.mem_iff_getElem?
theorem UT:type_of% @Nat.mul_le_mul_right:=@Nat.mul_le_mul_right
theorem UU:type_of% @decide_eq_false:=@decide_eq_false
theorem UV:type_of% @List.append_assoc:=@List.append_assoc
theorem UW:type_of% @decide_eq_true:=@decide_eq_true
theorem UX:type_of% @Go.RowKit.Below.heap_setCell:=@Go.RowKit.Below.heap_setCell
theorem UY:type_of% @Go.IntKind.wrap_i64:=@Go.IntKind.wrap_i64
theorem UZ:type_of% @Array.getElem?_eq_getElem:=@Array.getElem?_eq_getElem
theorem Ta:type_of% @List.getElem?_eq_none:=@List.getElem?_eq_none
theorem Tb:type_of% @Nat.pow_succ:=@Nat.pow_succ
theorem Tc:type_of% @List.getD_eq_getElem?_getD:=@List.getD_eq_getElem?_getD
theorem Td:type_of% @List.mem_of_mem_take:=@List.mem_of_mem_take
theorem Te:type_of% @List.getElem?_set_ne:=@List.getElem?_set_ne
theorem Tf:type_of% @Nat.not_lt_zero:=@Nat.not_lt_zero
theorem Tg:type_of% @List.getElem?_append_right:=@List.getElem?_append_right
theorem Th:type_of% @List.length_drop:=@List.length_drop
theorem Ti:type_of% @List.length_set:=@List.length_set
theorem Tj:type_of% @Nat.add_mul:=@Nat.add_mul
theorem Tk:type_of% @Go.World.size_setCell:=@Go.World.size_setCell
theorem Tl:type_of% @List.mem_append:=@List.mem_append
theorem Tm:type_of% @List.drop_of_length_le:=@List.drop_of_length_le
theorem Tn:type_of% @Nat.pow_pos:=@Nat.pow_pos
theorem To:type_of% @Nat.pow_add:=@Nat.pow_add
theorem Tp:type_of% @List.getElem?_append_left:=@List.getElem?_append_left
theorem Tq:type_of% @List.map_append:=@List.map_append
theorem Tr:type_of% @Array.getElem?_toList:=@Array.getElem?_toList
theorem Ts:type_of% @List.all_eq_true:=@List.all_eq_true
theorem Tt:type_of% @Nat.mul_add:=@Nat.mul_add
theorem Tu:type_of% @List.take_add_one:=@List.take_add_one
theorem Tv:type_of% @decide_eq_false_iff_not:=@decide_eq_false_iff_not
theorem Tw:type_of% @List.take_length:=@List.take_length
theorem Tx:type_of% @Go.frozen_of_row:=@Go.frozen_of_row
theorem Ty:type_of% @List.getElem?_take:=@List.getElem?_take
theorem Tz:type_of% @Go.World.news_of_block:=@Go.World.news_of_block
theorem TC:type_of% @decide_eq_true_iff:=@decide_eq_true_iff
theorem TD:type_of% @Nat.add_zero:=@Nat.add_zero
theorem TE:type_of% @List.mem_map:=@List.mem_map
theorem TF:type_of% @of_decide_eq_true:=@of_decide_eq_true
theorem TG:type_of% @List.pairwise_cons:=@List.pairwise_cons
theorem TH:type_of% @Nat.mod_lt:=@Nat.mod_lt
theorem TI:type_of% @List.getElem?_set_self:=@List.getElem?_set_self
theorem TJ:type_of% @Nat.mul_lt_mul_of_pos_right:=@Nat.mul_lt_mul_of_pos_right
theorem TK:type_of% @List.not_mem_nil:=@List.not_mem_nil
theorem TL:type_of% @Nat.div_add_mod:=@Nat.div_add_mod
theorem TM:type_of% @List.getElem?_replicate:=@List.getElem?_replicate
theorem TN:type_of% @List.eq_nil_of_length_eq_zero:=@List.eq_nil_of_length_eq_zero
theorem TO:type_of% @List.mem_zipIdx_iff_getElem?:=@List.mem_zipIdx_iff_getElem?
theorem TP:type_of% @Nat.lt_of_le_of_lt:=@Nat.lt_of_le_of_lt
theorem TQ:type_of% @Nat.zero_mul:=@Nat.zero_mul
theorem TR:type_of% @Nat.lt_of_not_le:=@Nat.lt_of_not_le
theorem TS:type_of% @Int.toNat_natCast:=@Int.toNat_natCast
theorem TU:type_of% @decide_eq_true_eq:=@decide_eq_true_eq
theorem TV:type_of% @Nat.div_lt_of_lt_mul:=@Nat.div_lt_of_lt_mul
theorem TW:type_of% @Nat.pow_mul:=@Nat.pow_mul
theorem TX:type_of% @List.drop_eq_nil_of_le:=@List.drop_eq_nil_of_le
theorem TY:type_of% @List.mem_cons_self:=@List.mem_cons_self
theorem TZ:type_of% @Nat.eq_zero_or_pos:=@Nat.eq_zero_or_pos
theorem Xaa:type_of% @List.nil_append:=@List.nil_append
theorem Xab:type_of% @List.cons_append:=@List.cons_append
theorem Xac:type_of% @Nat.mod_eq_of_lt:=@Nat.mod_eq_of_lt
theorem Xad:type_of% @Bool.and_eq_true:=@Bool.and_eq_true
theorem Xae:type_of% @List.eq_of_mem_replicate:=@List.eq_of_mem_replicate
theorem Xaf:type_of% @Nat.mul_le_mul_left:=@Nat.mul_le_mul_left
theorem Xag:type_of% @List.count_append:=@List.count_append
theorem Xah:type_of% @Ne.symm:=@Ne.symm
theorem Xai:type_of% @List.mem_cons_of_mem:=@List.mem_cons_of_mem
theorem Xaj:type_of% @Bool.false_eq_true:=@Bool.false_eq_true
theorem Xak:type_of% @Go.World.frozen?_of_block:=@Go.World.frozen?_of_block
theorem Xal:type_of% @Nat.div_eq_of_lt:=@Nat.div_eq_of_lt
theorem Xam:type_of% @List.mem_or_eq_of_mem_set:=@List.mem_or_eq_of_mem_set
theorem Xan:type_of% @Go.Exit.noGoto_ret:=@Go.Exit.noGoto_ret
theorem Xao:type_of% @List.append_nil:=@List.append_nil
theorem Xap:type_of% @Array.getElem?_setIfInBounds:=@Array.getElem?_setIfInBounds
theorem Xaq:type_of% @of_decide_eq_false:=@of_decide_eq_false
theorem Xar:type_of% @Nat.le_succ:=@Nat.le_succ
theorem Xas:type_of% @Nat.add_sub_cancel_left:=@Nat.add_sub_cancel_left
theorem Xat:type_of% @Option.bind_some:=@Option.bind_some
theorem Xau:type_of% @Go.World.cell?_alloc_lt:=@Go.World.cell?_alloc_lt
theorem Xav:type_of% @Array.toList_setIfInBounds:=@Array.toList_setIfInBounds
theorem Xaw:type_of% @List.getElem_of_mem:=@List.getElem_of_mem
theorem Xax:type_of% @Nat.min_eq_left:=@Nat.min_eq_left
theorem Xay:type_of% @Go.RowKit.Below.trans:=@Go.RowKit.Below.trans
theorem Xaz:type_of% @List.getElem?_drop:=@List.getElem?_drop
theorem Xa0:type_of% @Option.getD_some:=@Option.getD_some
theorem Xa1:type_of% @List.map_cons:=@List.map_cons
theorem Xa2:type_of% @Go.run_make_row':=@Go.run_make_row'
theorem Xa3:type_of% @List.drop_zero:=@List.drop_zero
theorem Xa4:type_of% @Bool.eq_iff_iff:=@Bool.eq_iff_iff
theorem Xa5:type_of% @Go.Value.int.injEq:=@Go.Value.int.injEq
theorem Xa6:type_of% @Go.Calls.mono:=@Go.Calls.mono
theorem Xa7:type_of% @UInt8.toNat_inj:=@UInt8.toNat_inj
theorem Xa8:type_of% @List.sum_cons:=@List.sum_cons
theorem Xa9:type_of% @Prod.mk.injEq:=@Prod.mk.injEq
theorem Xba:type_of% @List.any_eq_true:=@List.any_eq_true
theorem Xbb:type_of% @List.findIdx?_cons:=@List.findIdx?_cons
theorem Xbc:type_of% @List.take_append_drop:=@List.take_append_drop
theorem Xbd:type_of% @List.count_cons:=@List.count_cons
theorem Xbe:type_of% @Nat.add_mul_div_left:=@Nat.add_mul_div_left
theorem Xbf:type_of% @Nat.add_comm:=@Nat.add_comm
theorem Xbg:type_of% @List.mem_of_mem_drop:=@List.mem_of_mem_drop
theorem Xbh:type_of% @List.ext_getElem?:=@List.ext_getElem?
theorem Xbi:type_of% @Nat.le_of_lt:=@Nat.le_of_lt
theorem Xbj:type_of% @Go.World.drewN_drewN:=@Go.World.drewN_drewN
theorem Xbk:type_of% @Nat.pow_le_pow_left:=@Nat.pow_le_pow_left
theorem Xbl:type_of% @Array.length_toList:=@Array.length_toList
theorem Xbm:type_of% @or_false:=@or_false
theorem Xbn:type_of% @Go.info_parts:=@Go.info_parts
theorem Xbo:type_of% @Int.zero_add:=@Int.zero_add
theorem Xbp:type_of% @Nat.div_lt_self:=@Nat.div_lt_self
theorem Xbq:type_of% @Nat.div_le_self:=@Nat.div_le_self
theorem Xbr:type_of% @Dyadic.add_zero:=@Dyadic.add_zero
theorem Xbs:type_of% @if_false:=@if_false
end Go.Proofs
namespace Go.Proofs.YtidojbkhlenahaaGreatDoor
open Go.RowKit
def bv (b:UInt8):Value:=.int .u8 (b.toNat:Int)
def Rd (w:World) (B:Nat) (a:OA) (bs:LU):Prop:=
 bs=[]∨∃b o,a=some ⟨b,o,none⟩/\b<B/\∀(j:Nat) x,bs[j]?=some x->w.cell? ⟨b,o+j,none⟩=some (bv x)
section
variable {w w':World} {B B':Nat} {a:OA} {bs:LU}
end
def Qof (a:OA) (m l s:Nat):OA:=if m=l then a else a.map (·.add (l*s))
theorem Qbj (a:OA) (m s:Nat):Qof a m 0 s=a:=by
 unfold Qof
 split
 ·rfl
 ·cases a with
  |none=>rfl
  |some x=>simp[Addr.add]
structure Part where
 a:OA
 n:Nat
 c:Nat
 bs:LU
section
variable {w w':World} {B B':Nat} {a:OA} {ps:List Part}
end
theorem Qog:(Tryz.prog.info? 5).map (fun i=>(i.zero,i.size,i.bytes))=some (some (.int .u8 0),1,1):=by kernel_rfl
theorem Below.next0 {w0 w w':World} (h:Bw w0 w) (hb:Bw w w'):Bw w0 w':=h.trans (hb.mono h.size)
section
variable {w w':World} {B:Nat} {a:OA} {n c:Nat} {bs:LU}
end
section
variable {w w':World} {B:Nat} {a:OA} {n c:Nat} {bs:LU}
end
section
variable {o:Oper} {act:Act} {Q:Exit->Act->World->Prop}
theorem Qs9 (bs:LU) (s:ByteArray):(bs.map fun b=>(b.toNat:Int)).foldl (fun r n=>r.push (UInt8.ofNat n.toNat)) s=⟨s.data++bs.toArray⟩:=by
 induction bs generalizing s with
 |nil=>simp
 |cons b l ih=>
  simp only[Xa1,List.foldl_cons,TS];rw[ih,show UInt8.ofNat b.toNat=b from UInt8.ofNat_toNat];simp[ByteArray.push]
theorem Qai (w:World) (B:Nat) (a:OA) (n c:Nat) (bs:LU) (h:Rd w B a bs) (hn:bs.length=n):
 (convert 55 9 (.slice a n c)).run Tryz.prog w=.ok (.string ⟨bs.toArray⟩) w:=by
 rw[run_convert_bytes_string w _ _ 5 a n c Tryz.underlying55 Tryz.underlying5 Tryz.underlying9];cases a with
 |none=>
  have hb:bs=[]:=by rcases h with h|⟨_,_,h,_⟩ <;> first|exact h|cases h
  subst hb;simp[Conv.bytesToString,Sem.run_pure];rfl
 |some x=>
  have hl:(loadCells x n).run Tryz.prog w=.ok ((bs.map fun b=>(b.toNat:Int)).map (Value.int .u8)).toArray w:=by
   have:=run_loadCells_list (P:=Tryz.prog) w x ((bs.map fun b=>(b.toNat:Int)).map (Value.int .u8)) (fun j v hv=>by
    rcases h with rfl|⟨b,o,e,_,hc⟩
    ·simp at hv
    ·injection e with e;subst e;rw[List.map_map,UI] at hv;cases hx:bs[j]? with
     |none=>rw[hx] at hv;cases hv
     |some u=>
      rw[hx] at hv;simp only[UG,Un] at hv;subst hv;have e2:(⟨b,o,none⟩:Addr).add j=⟨b,o+j,none⟩:=(by unfold Addr.add;split <;> simp_all);rw[e2];exact hc j u hx)
   rw[UE,UE,hn] at this;exact this
  rw[run_bytesToString w x n c _ hl,Qs9];simp[ByteArray.empty,ByteArray.emptyWithCapacity];rfl
theorem Q0d {P:Program} {ops:Array Oper} {rest:List Oper} {w:World} (ZA:o.guard=none) (s x:Operand) (t1 t2:TypeId) (ho:o.op=.call { callee:=.builtin .append,args:= #[s,x],argTypes:= #[t1,t2] })
 (va vx:Value) (hs:act.eval s=va) (hx:act.eval x=vx) (v:Value) (w':World) (C2:(Builtin.append_ #[t1,t2] o.type #[va,vx]).run P w=.ok v w') (h:wpList P ops Q rest (act.put o.dst v) w'):wpList P ops Q (o::rest) act w:=
 wpList_plain ZA fun _ hK=>by
  unfold Oper.wp execOp;simp only[ho,resolve,invoke,builtin,Sem.run_bind,Sem.run_pure,Result.andThen_ok,List.map_toArray,Xa1,List.map_nil,hs,hx,C2];exact hK _ _ h
end
def Row (w:World) (B:Nat) (e:TypeId) (k:Nat) (a:OA) (n c:Nat) (xs:LV):Prop:=w.ownsRow B e k (.slice a n c) n xs
section
variable {w w':World} {B:Nat} {e:TypeId} {k:Nat} {a:OA} {n c:Nat} {xs:LV}
theorem Row.len (h:Row w B e k a n c xs):xs.length=n*k:=h.1
theorem Row.nil_ (w:World) (B:Nat) (e:TypeId) (k:Nat):Row w B e k none 0 0 []:=⟨by simp,.inl ⟨rfl,rfl⟩⟩
theorem Row.form (h:Row w B e k a n c xs):(a=none/\n=0/\c=0/\xs=[])∨∃g cur,a=some ⟨g,0,none⟩/\B<=g/\g<w.heap.size/\w.heap[g]?=some (.cells cur e (0,0))/\n<=c/\c<=maxLen/\cur.size=c*k/\cur.toList.take (n*k)=xs:=by
 obtain ⟨h1,⟨h2,h3⟩|⟨g,cap,cur,hv,hg,hh,hn,hc,hs,ht⟩⟩:=h
 ·injection h2 with e1 e2 e3;subst e1;subst e2;subst e3;exact .inl ⟨rfl,rfl,rfl,by simpa using h1⟩
 ·injection hv with e1 e2 e3;subst e1;subst e3;exact .inr ⟨g,cur,rfl,hg,(Uo.1 hh).1,hh,hn,hc,hs,ht⟩
theorem Row.cap (h:Row w B e k a n c xs):n<=c/\c<=maxLen:=by
 rcases h.form with ⟨_,rfl,rfl,_⟩|⟨g,cur,_,_,_,_,hn,hc,_,_⟩
 ·exact ⟨by omega,by omega⟩
 ·exact ⟨hn,hc⟩
theorem Row.at_ (h:Row w B e k a n c xs) {j:Nat} {x:Value} (hx:xs[j]?=some x):∃g,a=some ⟨g,0,none⟩/\B<=g/\g<w.heap.size/\w.cell? ⟨g,j,none⟩=some x:=by
 rcases h.form with ⟨_,_,_,rfl⟩|⟨g,cur,rfl,hB,hg,hh,hn,hc,hs,ht⟩
 ·simp at hx
 ·refine ⟨g,rfl,hB,hg,?_⟩;rw[<-ht,Ty] at hx
  split at hx
  ·rw[UL _ _ _ _ _ _ hh,<-Tr];exact hx
  ·cases hx
theorem Row.call (h:Row w B e k a n c xs) (hb:Bw w w'):Row w' B e k a n c xs:=by
 refine ⟨h.1,?_⟩;rcases h.2 with h2|⟨g,cap,cur,hv,hg,hh,hr⟩
 ·exact .inl h2
 ·exact .inr ⟨g,cap,cur,hv,hg,(hb.block g (Uo.1 hh).1).trans hh,hr⟩
theorem Row.lower {B':Nat} (h:Row w B e k a n c xs) (hB:B'<=B):Row w B' e k a n c xs:=by
 refine ⟨h.1,?_⟩;rcases h.2 with h2|⟨g,cap,cur,hv,hg,hr⟩
 ·exact .inl h2
 ·exact .inr ⟨g,cap,cur,hv,by omega,hr⟩
theorem Row.alloc (h:Row w B e k a n c xs) (o:Obj):Row (w.alloc o) B e k a n c xs:=h.call (Ba)
theorem Row.drew (h:Row w B e k a n c xs):Row w.drew B e k a n c xs:=h
theorem Row.drewN (h:Row w B e k a n c xs) (j:Nat):Row (w.drewN j) B e k a n c xs:=h
theorem Row.far (h:Row w B e k a n c xs) {p:Addr} (hp:∀x,a=some x->x.block≠p.block) (u:Value):Row (w.setCell p u) B e k a n c xs:=by
 refine ⟨h.1,?_⟩;rcases h.2 with h2|⟨g,cap,cur,hv,hg,hh,hr⟩
 ·exact .inl h2
 ·refine .inr ⟨g,cap,cur,hv,hg,(UX w p u g ?_).trans hh,hr⟩;injection hv with e1;exact hp _ e1
theorem Row.row_le (h:Row w B e k a n c xs):∀j,a.map (·.block)=some j->B<=j:=by
 intro j hj;rcases h.form with ⟨rfl,_⟩|⟨g,cur,rfl,hg,_⟩
 ·cases hj
 ·simp at hj;omega
theorem Row.lit (w:World) (hB:B<=w.heap.size) (e:TypeId) (k:Nat) (cs:Array Value) (n:Nat) (hm:n<=maxLen) (hk:cs.size=n*k):Row (w.alloc (.cells cs e)) B e k (some ⟨w.heap.size,0,none⟩) n n cs.toList:=
 ⟨by simp[hk],.inr ⟨w.heap.size,n,cs,rfl,hB,Up w _,Ue _,hm,hk,Uw (by simp[hk])⟩⟩
end
theorem Q5m (w0 w:World) (ty t e:TypeId) (i:TypeInfo) (z:Value) (size bytes:Nat) (ht:Tryz.prog.underlying t=some (.slice e)) (hi:Tryz.prog.info? e=some i) (hz:i.zero=some z)
 (F8:i.size=size) (Vu:i.bytes=bytes) (Xk:z.cells.size=size) (F2:0<size)
 (B:Nat) (Q0:Below B w0 w) (hB:B<=w.heap.size) (a:OA) (n c:Nat) (xs:LV) (J4:Row w B e size a n c xs)
 (ad:Addr) (m d:Nat) (news:LV) (hl:news.length=m*size) (G6:∀j u,news[j]?=some u->w.cell? (ad.add j)=some u) (h1:∀u∈news,u.oneCell'=true) (N:Nat) (hN:n+m=N) (M5:N<=9223372036854775807) (o9:N*bytes<=140737488355328):
 ∃a' c' w',(Builtin.append_ #[t,t] ty #[.slice a n c,.slice (some ad) m d]).run Tryz.prog w=.ok (.slice a' N c') w'/\Row w' B e size a' N c' (xs++news)/\w.grownBy w' (a.map (·.block))/\Below B w0 w'/\
  (a'.map (·.block)=a.map (·.block)∨a'.map (·.block)=some w.heap.size):=by
 subst hN;have D5:∀(x:OA) (k l:Nat),Value.ownBlock (.slice x k l)=x.map (·.block):=fun x k l=>by cases x <;> rfl
 obtain ⟨v',w',C2,h2,h3,_,h5⟩:=run_append_own_at (P:=Tryz.prog) w B t ty e i z size bytes ht hi hz F8 Vu Xk F2 (.slice a n c) n _ J4 ad m d news hl G6 h1 (by unfold maxLen;omega) o9 hB;rw[D5] at h3 h5;have h4:Below B w0 w':=Q0.grown h3 hB J4.row_le;rcases h2.2 with ⟨rfl,h0⟩|⟨g,cap,cur,rfl,hg⟩
 ·rw[h0] at h2⊢;exact ⟨none,0,w',C2,h2,h3,h4,by simpa[D5] using h5⟩
 ·exact ⟨_,cap,w',C2,h2,h3,h4,by simpa[D5] using h5⟩
section
variable {o:Oper} {act:Act} {Q:Exit->Act->World->Prop}
theorem Q0q {ops:Array Oper} {rest:List Oper} (ZA:o.guard=none) (s x:Operand) (t:TypeId) (ho:o.op=.call { callee:=.builtin .append,args:= #[s,x],argTypes:= #[t,t] })
 (w0 w:World) (e:TypeId) (i:TypeInfo) (z:Value) (size bytes:Nat) (ht:Tryz.prog.underlying t=some (.slice e)) (hi:Tryz.prog.info? e=some i) (hz:i.zero=some z)
 (F8:i.size=size) (Vu:i.bytes=bytes) (Xk:z.cells.size=size) (F2:0<size)
 (B:Nat) (Q0:Below B w0 w) (hB:B<=w.heap.size) (a:OA) (n c:Nat) (xs:LV) (hs:act.eval s=.slice a n c) (J4:Row w B e size a n c xs)
 (ad:Addr) (m d:Nat) (news:LV) (hx:act.eval x=.slice (some ad) m d) (hl:news.length=m*size) (G6:∀j u,news[j]?=some u->w.cell? (ad.add j)=some u) (h1:∀u∈news,u.oneCell'=true) (N:Nat) (hN:n+m=N) (M5:N<=9223372036854775807) (o9:N*bytes<=140737488355328)
 (h:∀a' c' w',Row w' B e size a' N c' (xs++news)->w.grownBy w' (a.map (·.block))->Below B w0 w'->(a'.map (·.block)=a.map (·.block)∨a'.map (·.block)=some w.heap.size)->wpList Tryz.prog ops Q rest (act.put o.dst (.slice a' N c')) w'):wpList Tryz.prog ops Q (o::rest) act w:=by
 obtain ⟨a',c',w',C2,h2,h3,h4,h5⟩:=Q5m w0 w o.type t e i z size bytes ht hi hz F8 Vu Xk F2 B Q0 hB a n c xs J4 ad m d news hl G6 h1 N hN M5 o9;exact Q0d ZA s x t t ho _ _ hs hx _ _ C2 (h a' c' w' h2 h3 h4 h5)
end
theorem Q3c (w:World) (cs:Array Value) (e:TypeId) (p:Nat × Nat):∀(j:Nat) u,cs.toList[j]?=some u->(w.alloc (.cells cs e p)).cell? ((⟨w.heap.size,0,none⟩:Addr).add j)=some u:=by
 intro j u hu;rw[Addr.add_lit,UH,UL _ _ _ _ _ _ (Up _ _),<-Tr];exact hu
structure Q0l (fp:Nat->Prop) (w w':World):Prop where
 os:w'.os=w.os
 tape:w'.tape=w.tape
 output:w'.output=w.output
 size:w.heap.size<=w'.heap.size
 block:∀k,k<w.heap.size->¬fp k->w'.heap[k]?=w.heap[k]?
section
variable {fp fp':Nat->Prop} {w w' w'':World} {B:Nat}
theorem Q0l.refl (fp:Nat->Prop) (w:World):Q0l fp w w:=⟨rfl,rfl,rfl,Ue _,fun _ _ _=>rfl⟩
theorem Q0l.trans (h:Q0l fp w w') (h':Q0l fp' w' w'') (hs:∀k,k<w.heap.size->fp' k->fp k):Q0l fp w w'':=
 ⟨h'.os.trans h.os,h'.tape.trans h.tape,h'.output.trans h.output,Uj h.size h'.size,fun k hk hn=>(h'.block k (Uc hk h.size) (fun e=>hn (hs k hk e))).trans (h.block k hk hn)⟩
theorem Q0l.trans0 (h:Q0l fp w w') (h':Q0l fp w' w''):Q0l fp w w'':=h.trans h' fun _ _ h=>h
theorem Q0l.of_below (h:Bw w w') (fp:Nat->Prop):Q0l fp w w':=⟨h.os,h.tape,h.output,h.size,fun k hk _=>h.block k hk⟩
theorem Q0l.of_grown {row:Option Nat} (h:w.grownBy w' row) (hr:∀r,row=some r->r<w.heap.size->fp r):Q0l fp w w':=
 ⟨h.os,h.tape,h.output,h.size,fun k hk hn=>h.block k hk (fun e=>hn (hr k e.symm hk))⟩
theorem Q0l.more (h:Q0l fp w w') (hs:∀k,k<w.heap.size->fp k->fp' k):Q0l fp' w w':=⟨h.os,h.tape,h.output,h.size,fun k hk hn=>h.block k hk (fun e=>hn (hs k hk e))⟩
theorem Q0l.setCell (fp:Nat->Prop) (w:World) {p:Addr} (hp:fp p.block) (v:Value):Q0l fp w (w.setCell p v):=
 ⟨rfl,rfl,rfl,by simp[World.setCell],fun k _ hn=>UX _ _ _ _ (fun e=>hn (by rw[e];exact hp))⟩
theorem Q0l.drewN (h:Q0l fp w w') (k:Nat):Q0l fp w (w'.drewN k):=⟨h.os,h.tape,h.output,h.size,h.block⟩
theorem Q0l.drew (h:Q0l fp w w'):Q0l fp w w'.drew:=⟨h.os,h.tape,h.output,h.size,h.block⟩
theorem Below.turn (h:Below B w w') (h':Q0l fp w' w'') (hB:B<=w'.heap.size) (hf:∀k,fp k->B<=k):Below B w w'':=
 h.trans ⟨h'.os,h'.tape,h'.output,h'.size,fun k hk=>h'.block k (by omega) (fun e=>by have:=hf k e;omega)⟩
theorem Q0l.cell (h:Q0l fp w w') {p:Addr} (hp:p.block<w.heap.size) (hn:¬fp p.block):w'.cell? p=w.cell? p:=UK (h.block _ hp hn)
theorem Q0l.frozen (h:Q0l fp w w') {p:Addr} (hp:p.block<w.heap.size) (hn:¬fp p.block):w'.frozen? p=w.frozen? p:=Xak (h.block _ hp hn)
end
theorem Row.turn {fp:Nat->Prop} {w w':World} {B:Nat} {e:TypeId} {k:Nat} {a:OA} {n c:Nat} {xs:LV} (h:Row w B e k a n c xs) (ht:Q0l fp w w') (hn:∀x,a=some x->¬fp x.block):Row w' B e k a n c xs:=by
 refine ⟨h.1,?_⟩;rcases h.2 with h2|⟨g,cap,cur,hv,hB,hh,hr⟩
 ·exact .inl h2
 ·refine .inr ⟨g,cap,cur,hv,hB,(ht.block g (Uo.1 hh).1 ?_).trans hh,hr⟩;injection hv with e1;exact hn _ e1
end Go.Proofs.YtidojbkhlenahaaGreatDoor
namespace Go.Proofs.YtidojbkhlenahaaGreatDoor
namespace WordsM
def val (B:Nat):LN->Nat
 |[]=>0
 |x::r=>x+B*val B r
def Qus (B:Nat):Nat->Nat->LN
 |0,_=>[]
 |k+1,n=>if n=0 then [] else n%B::Qus B k (n / B)
def dig (B n:Nat):LN:=Qus B n n
def trimL (l:LN):LN:=(l.reverse.dropWhile (·==0)).reverse
def Low (B:Nat) (l:LN):Prop:=∀x∈l,x<B
def Q5d (l:LN):Prop:=∀x,l.getLast?=some x->x≠0
section
variable {B:Nat}
theorem Q9y (l r:LN):val B (l++r)=val B l+B^l.length*val B r:=by
 induction l with
 |nil=>simp[val]
 |cons x l ih=>
  simp only[Xab,val,ih,Ul,Tb,Tt];rw[UB (B^l.length) B,UJ,Nat.add_assoc]
theorem Q8w (l:LN) (x:Nat):val B (l++[x])=val B l+B^l.length*x:=by rw[Q9y];simp[val]
theorem Q3d (_hB:0<B) (l:LN) (h:Low B l):val B l<B^l.length:=by
 induction l with
 |nil=>simp[val]
 |cons x r ih=>
  have h1:=h x (by simp);have h2:=ih fun y hy=>h y (by simp[hy]);simp only[val,Ul,Tb];have h3:B*(val B r+1)<=B*B^r.length:=Xaf B h2;rw[Tt,Nat.mul_one] at h3;rw[UB (B^r.length) B];omega
theorem Qoh (hB:2<=B):∀(k n j:Nat),n<=k->n<=j->Qus B k n=Qus B j n:=by
 intro k
 induction k with
 |zero=>intro n j h1 h2;obtain rfl:n=0:=by omega
        cases j <;> simp[Qus]
 |succ k ih=>
  intro n j h1 h2;cases j with
  |zero=>obtain rfl:n=0:=by omega
         simp[Qus]
  |succ j=>
   simp only[Qus]
   by_cases h0:n=0
   ·simp[h0]
   ·rw[Uq h0,Uq h0];have h3:n / B<n:=Xbp (by omega) (by omega);rw[ih (n / B) j (by omega) (by omega)]
theorem Q14:dig B 0=[]:=rfl
theorem Q4a (hB:2<=B) {n:Nat} (h:n≠0):dig B n=n%B::dig B (n / B):=by
 unfold dig;cases n with
 |zero=>exact absurd rfl h
 |succ n=>
  have h3:(n+1) / B<n+1:=Xbp (by omega) (by omega);simp only[Qus,Uq h];rw[Qoh hB n ((n+1) / B) ((n+1) / B) (by omega) (by omega)]
theorem Q10 (hB:2<=B) (n:Nat):val B (dig B n)=n:=by
 induction n using Nat.strongRecOn with
 |ind n ih=>
  by_cases h0:n=0
  ·subst h0;rfl
  ·rw[Q4a hB h0];have h3:n / B<n:=Xbp (by omega) (by omega);simp only[val,ih _ h3];exact Nat.mod_add_div n B
theorem Q29 (hB:2<=B) (n:Nat):Low B (dig B n):=by
 induction n using Nat.strongRecOn with
 |ind n ih=>
  by_cases h0:n=0
  ·subst h0;intro x hx;simp[Q14] at hx
  ·rw[Q4a hB h0];intro x hx;rcases UD.1 hx with rfl|hx
   ·exact TH _ (by omega)
   ·exact ih _ (Xbp (by omega) (by omega)) x hx
theorem Qks (hB:2<=B) (n:Nat):Q5d (dig B n):=by
 induction n using Nat.strongRecOn with
 |ind n ih=>
  by_cases h0:n=0
  ·subst h0;intro x hx;simp[Q14] at hx
  ·rw[Q4a hB h0];intro x hx
   by_cases h1:n / B=0
   ·rw[h1,Q14] at hx;simp at hx;subst hx;have:=TL n B;rw[h1] at this;omega
   ·have h2:=Q4a hB h1;rw[List.getLast?_cons,h2] at hx;refine ih (n / B) (Xbp (Nat.pos_of_ne_zero h0) hB) x ?_;rw[h2];simp only[List.getLast?_cons] at hx⊢;simpa using hx
theorem Qit (hB:2<=B):∀(l:LN),Low B l->Q5d l->dig B (val B l)=l:=by
 intro l
 induction l with
 |nil=>intro _ _;rfl
 |cons x r ih=>
  intro hl hn;have hx:=hl x (by simp);have hr:Low B r:=fun y hy=>hl y (by simp[hy])
  by_cases h0:r=[]
  ·subst h0;have Y5:x≠0:=hn x (by simp);simp only[val,Nat.mul_zero,TD];rw[Q4a hB Y5,Xac hx,Xal hx,Q14]
  ·have hnr:Q5d r:=fun y hy=>hn y (by rw[List.getLast?_cons,hy];rfl);have ih':=ih hr hnr;have hv:val B r≠0:=fun e=>by rw[e,Q14] at ih';exact h0 ih'.symm
   have p6:0<B*val B r:=Nat.mul_pos (by omega) (by omega);have C1:val B (x::r)≠0:=(by simp only[val];omega);rw[Q4a hB C1];simp only[val];rw[Nat.add_mul_mod_self_left,Xac hx,Xbe _ _ (by omega),Xal hx,UH,ih']
theorem Q3t (l:LN):trimL (l++[0])=trimL l:=by simp[trimL]
theorem Q4v (l:LN) {x:Nat} (h:x≠0):trimL (l++[x])=l++[x]:=by simp[trimL,h]
theorem Qiu (l:LN) (h:Q5d l):trimL l=l:=by
 rcases List.eq_nil_or_concat l with rfl|⟨r,x,rfl⟩
 ·rfl
 ·rw[List.concat_eq_append] at h⊢;exact Q4v _ (h x (by simp))
theorem Q8x (l:LN):∃k,l=trimL l++List.replicate k 0:=by
 induction h:l.length generalizing l with
 |zero=>obtain rfl:=UC.1 h;exact ⟨0,rfl⟩
 |succ n ih=>
  rcases List.eq_nil_or_concat l with rfl|⟨r,x,rfl⟩
  ·simp at h
  ·rw[List.concat_eq_append] at h⊢
   by_cases h0:x=0
   ·subst h0;obtain ⟨k,hk⟩:=ih r (by simpa using h);refine ⟨k+1,?_⟩;rw[Q3t]
    calc r++[0]=(trimL r++List.replicate k 0)++[0]:=by rw[<-hk]
     _=_:=by rw[UV,List.replicate_succ']
   ·exact ⟨0,by rw[Q4v _ h0];simp⟩
theorem Q77 (k:Nat):val B (List.replicate k 0)=0:=by
 induction k with
 |zero=>rfl
 |succ k ih=>simp[List.replicate_succ,val,ih]
theorem Q1c (l:LN):val B (trimL l)=val B l:=by
 obtain ⟨k,hk⟩:=Q8x l;have:=congrArg (val B) hk;rw[Q9y,Q77,Nat.mul_zero,TD] at this;exact this.symm
theorem Qbk (l:LN):Q5d (trimL l):=by
 intro x hx h0;subst h0;unfold trimL at hx;rw[List.getLast?_reverse] at hx;have:∀m:LN,(m.dropWhile (·==0)).head?≠some 0:=by
  intro m
  induction m with
  |nil=>simp
  |cons y r ih=>
   by_cases hy:y=0
   ·subst hy;simpa using ih
   ·simp[hy]
 exact this _ hx
theorem Qer {l:LN} (h:Low B l):Low B (trimL l):=by
 obtain ⟨k,hk⟩:=Q8x l;intro x hx;exact h x (by rw[hk];simp[hx])
theorem Q1r (hB:2<=B) {l:LN} (h:Low B l):trimL l=dig B (val B l):=by
 rw[<-Q1c l,Qit hB _ (Qer h) (Qbk l)]
theorem trim_len (l:LN):(trimL l).length<=l.length:=by
 obtain ⟨k,hk⟩:=Q8x l;have:=congrArg List.length hk;simp at this;omega
theorem Q3e (l:LN):l.take (trimL l).length=trimL l:=by
 obtain ⟨k,hk⟩:=Q8x l
 calc l.take (trimL l).length=(trimL l++List.replicate k 0).take (trimL l).length:=by rw[<-hk]
  _=_:=by rw[List.take_left' rfl]
theorem Q32 (hB:2<=B) {n k:Nat} (h:n<B^k):(dig B n).length<=k:=by
 induction k generalizing n with
 |zero=>obtain rfl:n=0:=by simpa using h
        simp[Q14]
 |succ k ih=>
  by_cases h0:n=0
  ·subst h0;simp[Q14]
  ·rw[Q4a hB h0,Ul];have:n / B<B^k:=TV (by rw[UB];rw[Tb] at h;exact h);have:=ih this;omega
theorem Q51 (hB:2<=B) {n:Nat}:dig B n=[]↔n=0:=by
 constructor
 ·intro h;have:=Q10 hB n;rw[h] at this;exact this.symm
 ·rintro rfl;rfl
end
end WordsM
namespace WordsM
section
variable {B:Nat}
theorem Q9z (l:LN) (i x y:Nat) (h:l[i]?=some y):val B (l.set i x)+y*B^i=val B l+x*B^i:=by
 induction l generalizing i with
 |nil=>simp at h
 |cons z r ih=>
  cases i with
  |zero=>
   simp only[UO,Un] at h;subst h;simp only[Ux,val,Nat.pow_zero,Nat.mul_one];omega
  |succ i=>
   have ih':=ih i (by simpa using h);simp only[Ut,val,Tb];have e1:y*(B^i*B)=B*(y*B^i):=(by rw[<-UJ,UB]);have e2:x*(B^i*B)=B*(x*B^i):=(by rw[<-UJ,UB]);rw[e1,e2];have e3:B*(val B (r.set i x)+y*B^i)=B*(val B r+x*B^i):=(by rw[ih']);rw[Tt,Tt] at e3;omega
theorem Qb0 {L:LN} {i x b c S:Nat} (hx:L[i]?=some x) (h:val B L+c*B^i=S):val B (L.set i ((x+b+c)%B))+(x+b+c) / B*B^(i+1)=S+b*B^i:=by
 have h1:=Q9z (B:=B) L i ((x+b+c)%B) x hx;have h2:=TL (x+b+c) B;have h3:(B*((x+b+c) / B)+(x+b+c)%B)*B^i=(x+b+c)*B^i:=by rw[h2]
 have h4:(x+b+c) / B*B^(i+1)=B*((x+b+c) / B)*B^i:=by rw[Tb,UB (B^i) B,<-UJ,UB B]
 rw[Tj] at h3;rw[Tj,Tj] at h3;omega
theorem Qkt {B x y o c:Nat} (hB:0<B) (hx:x<B) (hy:y<B) (ho:o<B) (hc:c<B):
 ((x*y%B+o)%B+c)%B=(o+x*y+c)%B/\x*y / B+(x*y%B+o) / B+((x*y%B+o)%B+c) / B=(o+x*y+c) / B/\(o+x*y+c) / B<B:=by
 have e1:=TL (x*y) B;have e2:=TL (x*y%B+o) B;have e3:=TL ((x*y%B+o)%B+c) B;have h3:((x*y%B+o)%B+c)%B<B:=TH _ hB;have hs:o+x*y+c=((x*y%B+o)%B+c)%B+B*(x*y / B+(x*y%B+o) / B+((x*y%B+o)%B+c) / B):=by
  rw[Tt,Tt];omega
 refine ⟨?_,?_,?_⟩
 ·rw[hs,Nat.add_mul_mod_self_left,Xac h3]
 ·rw[hs,Xbe _ _ hB,Xal h3,UH]
 ·refine TV ?_;have h4:x*y<=(B-1)*(B-1):=Nat.mul_le_mul (by omega) (by omega);obtain ⟨d,rfl⟩:∃d,B=d+1:=⟨B-1,by omega⟩;rw[Nat.add_sub_cancel] at h4;have h5:(d+1)*(d+1)=d*d+d+d+1:=by rw[Tj,Tt];omega
  omega
theorem Q43 {l:LN} (h:Low B l) {i x:Nat} (hx:x<B):Low B (l.set i x):=fun y hy=>by
 rcases Xam hy with h1|rfl
 ·exact h y h1
 ·exact hx
theorem Q1i (l:LN) (i x:Nat) (h:l[i]?=some x):val B (l.take (i+1))=val B (l.take i)+B^i*x:=by
 have hi:i<l.length:=(Uh.1 h).1;rw[Tu,h,Option.toList_some,Q8w,UR,Xax (by omega)]
theorem Q3u (l:LN) (i:Nat):val B l=val B (l.take i)+B^i*val B (l.drop i):=by
 by_cases h:i<=l.length
 ·have:=Q9y (B:=B) (l.take i) (l.drop i);rw[Xbc,UR,Xax h] at this;exact this
 ·rw[Uw (by omega),TX (by omega)];simp[val]
theorem Qku (hB:0<B) (l:LN) (hl:Low B l) (i:Nat) (h:i<=l.length):val B (l.drop i)=val B l / B^i:=by
 have h1:=Q3u (B:=B) l i;have h2:=Q3d hB (l.take i) fun x hx=>hl x (Td hx);rw[UR,Xax h] at h2;rw[h1,Xbe _ _ (Tn hB),Xal h2,UH]
def shr (s t:Nat):LN->LN
 |[]=>[]
 |x::r=>(x / 2^s+(r.headD 0*2^t)%2^(s+t))::shr s t r
theorem Qiv (s t:Nat) (l:LN):(shr s t l).length=l.length:=by
 induction l with
 |nil=>rfl
 |cons x r ih=>simp[shr,ih]
theorem Qiw (s t:Nat):∀l:LN,val (2^(s+t)) (shr s t l)=val (2^(s+t)) l / 2^s
 |[]=>by simp[shr,val]
 |x::r=>by
  have ih:=Qiw s t r;simp only[shr,val];rw[ih];obtain ⟨V,hV⟩:∃V,val (2^(s+t)) r=V:=⟨_,rfl⟩;have hp:2^(s+t)=2^s*2^t:=To ..;have WL:0<2^s:=Tn (by decide);have VV:0<2^t:=Tn (by decide);have hm:r.headD 0%2^s=V%2^s:=by
   rw[<-hV];cases r with
   |nil=>rfl
   |cons y r'=>
    simp only[List.headD_cons,val];rw[hp,UJ,Nat.add_mul_mod_self_left]
  rw[hV];have e1:(r.headD 0*2^t)%2^(s+t)=(V%2^s)*2^t:=by
   rw[hp,Nat.mul_mod_mul_right,hm]
  rw[e1,hp];have e2:x+2^s*2^t*V=x+2^s*(2^t*V):=by rw[UJ]
  rw[e2,Xbe _ _ WL];have e3:V=2^s*(V / 2^s)+V%2^s:=(TL V (2^s)).symm;obtain ⟨P,hP⟩:∃P,2^s=P:=⟨_,rfl⟩;obtain ⟨T,hT⟩:∃T,2^t=T:=⟨_,rfl⟩;obtain ⟨q,hq⟩:∃q,V / 2^s=q:=⟨_,rfl⟩;obtain ⟨m,YH⟩:∃m,V%2^s=m:=⟨_,rfl⟩;rw[hq,YH] at e3;rw[hq,YH,hP,hT,e3,hP,Tt,<-UJ T P q,UB T P,UB m T];omega
end
def Qkv (n z:Nat):Prop:=n%2^z=0/\n / 2^z%2=1
theorem Qkv.eq {n z y:Nat} (h:Qkv n z) (h':Qkv n y):z=y:=by
 have key:∀a b:Nat,Qkv n a->Qkv n b->¬a<b:=by
  intro a b ha hb F0;obtain ⟨d,rfl⟩:∃d,b=a+(d+1):=⟨b-a-1,by omega⟩;have h1:=hb.1;have h2:=ha.2;have Z9:0<2^a:=Tn (by decide);rw[To] at h1;obtain ⟨q,hq⟩:∃q,n=2^a*2^(d+1)*q:=⟨n / (2^a*2^(d+1)),by have:=TL n (2^a*2^(d+1));omega⟩;rw[hq,UJ,Nat.mul_div_cancel_left _ Z9,Tb,UJ,UB 2 q,<-UJ,Nat.mul_mod_left] at h2;omega
 have h1:=key z y h h';have h2:=key y z h' h;omega
theorem Qg0 {n:Nat} (h:n≠0):∃z,Qkv n z:=by
 induction n using Nat.strongRecOn with
 |ind n ih=>
  by_cases h1:n%2=1
  ·exact ⟨0,by simp[Nat.mod_one],by simpa using h1⟩
  ·obtain ⟨z,h2,h3⟩:=ih (n / 2) (by omega) (by omega);refine ⟨z+1,?_,?_⟩
   ·rw[Tb,UB,Nat.mod_mul,h2];omega
   ·rw[Tb,UB,<-Nat.div_div_eq_div_mul];exact h3
end WordsM
namespace WordsM
theorem Qix (s t:Nat):∀(l:LN) (i x:Nat),l[i]?=some x->(shr s t l)[i]?=some (x / 2^s+((l[i+1]?).getD 0*2^t)%2^(s+t))
 |[],i,x,h=>by simp at h
 |y::r,0,x,h=>by
  simp only[UO,Un] at h;subst h;cases r <;> simp[shr]
 |y::r,i+1,x,h=>by
  simp only[List.getElem?_cons_succ] at h;simp only[shr,List.getElem?_cons_succ];exact Qix s t r i x h
theorem Qkw (s t y:Nat):(y*2^t)%2^(s+t)=(y%2^s)*2^t:=by rw[To,Nat.mul_mod_mul_right]
theorem Qoi {s t x:Nat} (hx:x<2^(s+t)):x / 2^s<2^t:=TV (by rw[<-To];exact hx)
theorem Qoj {s t x y:Nat} (hx:x<2^(s+t)):x / 2^s+(y*2^t)%2^(s+t)<2^(s+t):=by
 have h1:=Qoi hx;have h2:y%2^s<2^s:=TH _ (Tn (by decide));rw[Qkw];have h3:(y%2^s+1)*2^t<=2^s*2^t:=UT _ h2;rw[Tj,Nat.one_mul,<-To] at h3;omega
theorem Qiy {s t:Nat}:∀{l:LN},Low (2^(s+t)) l->Low (2^(s+t)) (shr s t l)
 |[],_=>fun x hx=>by cases hx
 |y::r,h=>fun x hx=>by
  rcases UD.1 hx with rfl|hx
  ·exact Qoj (h _ (TY ..))
  ·exact Qiy (l:=r) (fun z hz=>h z (Xai _ hz)) x hx
theorem Qx9 {s t x y:Nat} (hx:x<2^(s+t)):(x / 2^s) |||((y*2^t)%2^(s+t))=x / 2^s+(y*2^t)%2^(s+t):=by
 rw[Qkw,Nat.or_comm,nat_join t _ _ (Nat.mul_mod_left _ _) (Qoi hx),Xbf]
theorem Qsa (A:LN) (hA:Low (2^64) A) (k s:Nat) (hk:k<=A.length) (hs:s<64):val (2^64) (shr s (64-s) (A.drop k))=val (2^64) A / 2^(64*k+s):=by
 have h1:=Qiw s (64-s) (A.drop k);rw[show s+(64-s)=64 by omega] at h1;rw[h1,Qku (Tn (by decide)) A hA k hk,Nat.div_div_eq_div_mul,<-TW,<-To]
theorem Qsb {A:LN} (hA:Low (2^64) A) (k s:Nat) (hs:s<64):Low (2^64) (shr s (64-s) (A.drop k)):=by
 have h:=Qiy (s:=s) (t:=64-s) (l:=A.drop k) (by rw[show s+(64-s)=64 by omega];exact fun x hx=>hA x (Xbg hx));rwa[show s+(64-s)=64 by omega] at h
theorem Qsc {A:LN} (hA:Low (2^64) A) {k s:Nat} (hk:A.length<=k):val (2^64) A / 2^(64*k+s)=0:=by
 apply Xal
 have h1:=Q3d (B:=2^64) (Tn (by decide)) A hA;rw[<-TW] at h1;exact Uc h1 (UN (by decide) (by omega))
theorem Qg1 {L R:LN} {i r:Nat} (h:∀j,j<i->L[j]?=R[j]?) (hr:R[i]?=some r) (hi:i<L.length):∀j,j<i+1->(L.set i r)[j]?=R[j]?:=by
 intro j hj
 by_cases hji:j=i
 ·subst hji;rw[TI hi,hr]
 ·rw[Te (fun e=>hji e.symm)];exact h j (by omega)
theorem Qes {L R:LN} (h:∀j,j<R.length->L[j]?=R[j]?) (hl:L.length=R.length):L=R:=by
 apply Xbh
 intro j
 by_cases hj:j<R.length
 ·exact h j hj
 ·rw[Ta (by omega),Ta (by omega)]
end WordsM
open Go.RowKit WordsM
def nv (K:IntKind) (x:Nat):Value:=.int K (x:Int)
theorem Qok (K:IntKind) (ls:LN):∀u∈ls.map (nv K),u.oneCell'=true:=by
 intro u hu;obtain ⟨x,_,rfl⟩:=TE.1 hu;rfl
def RdI (K:IntKind) (w:World) (B:Nat) (a:OA) (ls:LN):Prop:=
 ls=[]∨∃b o,a=some ⟨b,o,none⟩/\b<B/\∀(j:Nat) x,ls[j]?=some x->w.cell? ⟨b,o+j,none⟩=some (nv K x)
section
variable {K:IntKind} {w w':World} {B B':Nat} {a:OA} {ls:LN}
theorem RdI.keep (h:RdI K w B a ls) (hk:∀p:Addr,p.block<B->w'.cell? p=w.cell? p):RdI K w' B a ls:=by
 rcases h with rfl|⟨b,o,rfl,hb,hc⟩
 ·exact .inl rfl
 ·exact .inr ⟨b,o,rfl,hb,fun j x hx=>(hk _ hb).trans (hc j x hx)⟩
theorem RdI.more (h:RdI K w B a ls) (hB:B<=B'):RdI K w B' a ls:=by
 rcases h with rfl|⟨b,o,rfl,hb,hc⟩
 ·exact .inl rfl
 ·exact .inr ⟨b,o,rfl,by omega,hc⟩
theorem RdI.below (h:RdI K w B a ls) (hb:Below B w w'):RdI K w' B a ls:=h.keep fun _ hp=>hb.cell hp
theorem RdI.step (h:RdI K w w.heap.size a ls) (hb:Bw w w'):RdI K w' w'.heap.size a ls:=(h.below hb).more hb.size
theorem RdI.front (h:RdI K w B a ls) (k:Nat):RdI K w B a (ls.take k):=by
 rcases h with rfl|⟨b,o,rfl,hb,hc⟩
 ·exact .inl (by simp)
 ·refine .inr ⟨b,o,rfl,hb,fun j x hx=>hc j x ?_⟩;rw[Ty] at hx
  split at hx
  ·exact hx
  ·cases hx
theorem RdI.at_ {k x:Nat} (h:RdI K w B a ls) (hx:ls[k]?=some x):∃b o,a=some ⟨b,o,none⟩/\b<B/\w.cell? ⟨b,o+k,none⟩=some (.int K (x:Int)):=by
 rcases h with rfl|⟨b,o,rfl,hb,hc⟩
 ·simp at hx
 ·exact ⟨b,o,rfl,hb,hc k x hx⟩
end
def Arr (T:TypeId) (K:IntKind) (w:World) (g:Nat) (ls:LN):Prop:=w.heap[g]?=some (.cells (ls.map (nv K)).toArray T (0,0))
section
variable {T:TypeId} {K:IntKind} {w w':World} {g:Nat} {ls:LN}
theorem Arr.lt (h:Arr T K w g ls):g<w.heap.size:=(Uo.1 h).1
theorem Arr.cell (h:Arr T K w g ls) {i x:Nat} (hx:ls[i]?=some x):w.cell? ⟨g,i,none⟩=some (.int K (x:Int)):=by
 rw[UL _ _ _ _ _ _ h];simp[hx,nv]
theorem Arr.frozen (h:Arr T K w g ls) (i:Nat):w.frozen? ⟨g,i,none⟩=false:=Tx _ _ _ _ _ h
theorem Arr.set (h:Arr T K w g ls) (i x:Nat):Arr T K (w.setCell ⟨g,i,none⟩ (.int K (x:Int))) g (ls.set i x):=by
 unfold Arr;rw[heap_setCell_same _ _ _ _ _ _ h];rw[List.map_set,Um];rfl
theorem Arr.call (h:Arr T K w g ls) (hb:Bw w w'):Arr T K w' g ls:=(hb.block g h.lt).trans h
theorem Arr.rd (h:Arr T K w g ls):RdI K w w.heap.size (some ⟨g,0,none⟩) ls:=.inr ⟨g,0,rfl,h.lt,fun j x hx=>by rw[UH];exact h.cell hx⟩
theorem Arr.new (w:World) (T:TypeId) (K:IntKind) (ls:LN):Arr T K (w.alloc (.cells (ls.map (nv K)).toArray T)) w.heap.size ls:=Up _ _
theorem Qm6 (K:IntKind) (n:Nat):madeCells #[.int K 0] n=((List.replicate n 0).map (nv K)).toArray:=by
 apply Array.ext_getElem?
 intro i;simp only[madeCells];simp[Nat.mod_one,Array.getElem?_map,Array.getElem?_range,Array.getElem?_replicate,nv]
theorem Q2n (K:IntKind) (n:Nat):madeCells #[.int K 0] n=Array.replicate n (nv K 0):=by rw[Qm6];simp
theorem Arr.zeros (w:World) (T:TypeId) (K:IntKind) (n:Nat):Arr T K (w.alloc (.cells (Array.replicate n (nv K 0)) T)) w.heap.size (List.replicate n 0):=by
 have h:=Arr.new w T K (List.replicate n 0);rwa[show ((List.replicate n 0).map (nv K)).toArray=Array.replicate n (nv K 0) by simp] at h
end
theorem Qat {P:Program} {w:World} {ops:Array Oper} {rest:List Oper} {o:Oper} {act:Act} {Q:Exit->Act->World->Prop} (ZA:o.guard=none) (d s:Operand) (dT sT:TypeId)
 (ho:o.op=.call { callee:=.builtin .copy,args:= #[d,s],argTypes:= #[dT,sT] }) (elem:TypeId) (hu:P.underlying dT=some (.slice elem)) (F2:(P.info? elem).map (·.size)=some 1)
 (T:TypeId) (K:IntKind) (g D Dc:Nat) (L:LN) (hg:Arr T K w g L) (p:OA) (N pc B:Nat) (A:LN) (hd:act.eval d=.slice (some ⟨g,0,none⟩) D Dc) (hs:act.eval s=.slice p N pc)
 (hr:RdI K w B p A) (hA:A.length=N) (hN:N<=D) (hD:D<=L.length)
 (h:∀w',Arr T K w' g (A++L.drop N)->Q0l (fun k=>k=g) w w'->wpList P ops Q rest (act.put o.dst (goInt N)) w'):wpList P ops Q (o::rest) act w:=by
 rcases hr with rfl|⟨b,off,rfl,hb,hc⟩
 ·obtain rfl:N=0:=hA.symm;refine wpList_copy_nothing ZA d s dT sT ho elem hu F2 _ p D Dc 0 pc hd hs (by simp) ?_;exact h w (by simpa using hg) (Q0l.refl _ w)
 ·have hmin:Nat.min N D=N:=Xax hN;refine wpList_copy_own ZA d s dT sT ho elem hu F2 g 0 D Dc ⟨b,off,none⟩ N pc hd hs _ T hg (A.map (nv K)) (by rw[UE,hA,hmin]) (fun j v hv=>?_) (by simp;omega) (Qok K A) ?_
  ·rw[UI] at hv;cases hx:A[j]? with
   |none=>rw[hx] at hv;cases hv
   |some x=>
    rw[hx] at hv;simp only[UG,Un] at hv;subst hv;rw[show (⟨b,off,none⟩:Addr).add j=⟨b,off+j,none⟩ by unfold Addr.add;split <;> simp_all];exact hc j x hx
  ·rw[UE,hA];refine h _ ?_ ⟨rfl,rfl,rfl,by simp[World.setRow],fun k _ hk=>setRow_other w g k _ hk⟩;unfold Arr;rw[setRow_heap w g _ _ T _ hg];simp
end Go.Proofs.YtidojbkhlenahaaGreatDoor
