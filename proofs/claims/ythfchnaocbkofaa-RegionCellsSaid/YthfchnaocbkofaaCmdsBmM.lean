/- Commands of functions, and that they are what the code comes to. -/
import Derived.Test.YthfchnaocbkofaaEngK
import Derived.Test.YthfchnaocbkofaaRows
namespace Go.Proofs.Ythfchnaocbkofaa
open Go.Eng
/- (*tipstaff/bmap.Map).Len -/
def c_bmap_Map_Len : Cmd :=
  (.seq
   (.set 1 (.const (.int .i64 0)))
  (.seq
   (.cond (.isnil 0 false (.var 0))
     (.seq
      (.set 1 (.const (.int .i64 0)))
     .ret)
     .skip)
  (.seq
   (.set 1 (.len false (.ld none (.offp 4 (.nn (.var 0))))))
  .ret)))
abbrev v_bmap_Map_Len : List Nat := [0, 2]
abbrev k_bmap_Map_Len : List (List Nat) := []
abbrev r_bmap_Map_Len : List Ex := [(.var 1)]
abbrev v_tipstafflaw09_maps : List Nat := [0, 10, 1, 2, 14, 15, 16, 17, 18, 3, 21, 22, 23, 4, 5, 27, 6, 29, 30, 31, 32, 33, 7, 59, 57, 63, 61]
abbrev k_tipstafflaw09_maps : List (List Nat) := []
abbrev r_tipstafflaw09_maps : List Ex := [(.var 0)]
end Go.Proofs.Ythfchnaocbkofaa
