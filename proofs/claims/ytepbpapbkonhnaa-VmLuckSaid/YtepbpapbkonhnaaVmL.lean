/- Commands of Run and of the laws, their great constants named. -/
import Derived.Test.YtepbpapbkonhnaaVmI
set_option linter.unusedSimpArgs false
set_option maxRecDepth 100000
namespace Go.Proofs.Ytepbpapbkonhnaa
open Go.Eng

def VSt.init0 : VSt := ⟨fun _ => RVal.zero, 0, false, 0⟩
def initK (bm : Nat) : VK := ⟨.slice none 0 0, fun _ => 0, .slice none 0 0, 0, .slice none 0 0, 0, bm⟩
def initMach : Array Value := (VSt.init0.cells (initK 0)).setIfInBounds 37 (.pointer none)
def WorldArr (ctx : Nat → Int) (maps : Value) (clock : Int) (random : Value) (fuel : Int) : Array Value :=
  Array.ofFn (n := 36) fun i => if i.val < 32 then .int .u8 (ctx i.val) else if i.val = 32 then maps else if i.val = 33 then .int .u64 clock else if i.val = 34 then random else .int .i64 fuel
def zeroWorld : Array Value := WorldArr (fun _ => 0) (.slice none 0 0) 0 (.slice none 0 0) 0
def Ins.zero : Ins := ⟨0, 0, 0, 0, 0⟩
def codeArr (xs : List Ins) : Array Value := (xs.flatMap fun x => x.arr.toList).toArray
def Res (v p n e : Int) : Array Value := #[.int .u64 v, .int .i64 p, .int .i64 n, .int .i64 e]

/- tipstaff/vm.Run -/
def nc_vm_Run : Cmd :=
  (.seq
   (.seq
    (.new (some 3) 62 (.var 1) [])
   (.new (some 2) 58 (.const (.agg (Res 0 0 0 0))) []))
  (.seq
   (.seq
    .draw
   (.seq
    (.chk [(.var 0)])
   (.seq
    (.set 5 (.ld (some 36) (.var 3)))
   (.seq
    (.call (some 4) 14 [(.ld (some 32) (.offp 0 (.var 3))), (.ld none (.offp 32 (.var 3)))] [(.ld (some 36) (.var 3))])
   (.seq
    (.chk [(.upd 37 1 (.upd 1 36 (.upd 0 1 (.const (.agg initMach)) (.var 0)) (.var 5)) (.var 4))])
   (.seq
    (.new (some 6) 107 (.upd 37 1 (.upd 1 36 (.upd 0 1 (.const (.agg initMach)) (.var 0)) (.var 5)) (.var 4)) [])
   (.set 7 (.var 6))))))))
  (.seq
   (.seq
    (.chk [(.upd 0 1 (.const (.agg RVal.zero.arr)) (.const (.int .i64 2)))])
   (.store 4 (.ixArr 11 4 (.offp 38 (.nn (.var 7))) (.const (.int .i64 1))) (.upd 0 1 (.const (.agg RVal.zero.arr)) (.const (.int .i64 2))) []))
  (.seq
   (.seq
    (.chk [(.upd 0 1 (.const (.agg RVal.zero.arr)) (.const (.int .i64 3)))])
   (.store 4 (.ixArr 11 4 (.offp 38 (.nn (.var 7))) (.const (.int .i64 10))) (.upd 0 1 (.const (.agg RVal.zero.arr)) (.const (.int .i64 3))) []))
  (.seq
   (.set 8 (.mn (.mx (.ld none (.offp 35 (.var 3))) (.const (.int .i64 0))) (.const (.int .i64 4096))))
  (.seq
   (.seq
    (.seq
     (.set 10 (.var 8))
    (.set 9 (.const (.int .i64 0))))
   (.block 0
     (.loop [2, 7, 8, 9, 10]
       (.seq
        (.cond (.bin .lss (.var 9) (.var 10))
          .skip
          (.exit 0))
       (.seq
        (.block 1
          (.seq
           (.set 11 (.var 9))
          (.seq
           (.seq
            (.call (some 12) 43 [(.var 7)] [])
           (.cond (.un .not (.var 12))
             (.seq
              (.seq
               (.chk [(.upd 3 1 (.upd 2 1 (.upd 1 1 (.const (.agg (Res 0 0 0 0))) (.ld none (.offp 82 (.nn (.var 7))))) (.var 11)) (.const (.int .i64 14)))])
              (.store 4 (.var 2) (.upd 3 1 (.upd 2 1 (.upd 1 1 (.const (.agg (Res 0 0 0 0))) (.ld none (.offp 82 (.nn (.var 7))))) (.var 11)) (.const (.int .i64 14))) []))
             .ret)
             .skip))
          (.cond (.ld none (.offp 83 (.nn (.var 7))))
            (.seq
             (.seq
              .draw
             (.seq
              (.chk [(.upd 2 1 (.upd 1 1 (.upd 0 1 (.const (.agg (Res 0 0 0 0))) (.ld none (.offp 1 (.ixArr 11 4 (.offp 38 (.nn (.var 7))) (.const (.int .i64 0)))))) (.ld none (.offp 82 (.nn (.var 7))))) (.bin .add (.var 11) (.const (.int .i64 1))))])
             (.store 4 (.var 2) (.upd 2 1 (.upd 1 1 (.upd 0 1 (.const (.agg (Res 0 0 0 0))) (.ld none (.offp 1 (.ixArr 11 4 (.offp 38 (.nn (.var 7))) (.const (.int .i64 0)))))) (.ld none (.offp 82 (.nn (.var 7))))) (.bin .add (.var 11) (.const (.int .i64 1)))) [])))
            .ret)
            .skip))))
       (.set 9 (.bin .add (.var 9) (.const (.int .i64 1)))))))))
  (.seq
   (.seq
    (.chk [(.upd 3 1 (.upd 2 1 (.upd 1 1 (.const (.agg (Res 0 0 0 0))) (.ld none (.offp 82 (.nn (.var 7))))) (.var 8)) (.const (.int .i64 62)))])
   (.store 4 (.var 2) (.upd 3 1 (.upd 2 1 (.upd 1 1 (.const (.agg (Res 0 0 0 0))) (.ld none (.offp 82 (.nn (.var 7))))) (.var 8)) (.const (.int .i64 62))) []))
  .ret)))))))
abbrev nv_vm_Run : List Nat := [0, 1, 4, 3, 14, 9, 16, 5, 6, 32, 31, 7, 36]
abbrev nk_vm_Run : List (List Nat) := [[2, 7, 8, 9, 10]]
abbrev nr_vm_Run : List Ex := [(.ld (some 4) (.var 2))]
theorem nok_vm_Run : compile Try.prog Try.f22 nv_vm_Run nk_vm_Run = some (nc_vm_Run, nr_vm_Run) := by kernel_rfl

/- tipstaff/tipstafflaw20.runs -/
def nc_tipstafflaw20_runs : Cmd :=
  (.seq
   (.set 0 (.const (.bool false)))
  (.seq
   (.seq
    (.chk [(.upd 0 1 (.const (.agg Ins.zero.arr)) (.const (.int .u8 149))), (.upd 4 1 (.upd 0 1 (.const (.agg Ins.zero.arr)) (.const (.int .u8 183))) (.const (.int .i32 7)))])
   (.seq
    (.row (some 1) 55 2 (.upd 5 5 (.upd 0 5 (.const (.agg (codeArr (List.replicate 2 Ins.zero)))) (.upd 4 1 (.upd 0 1 (.const (.agg Ins.zero.arr)) (.const (.int .u8 183))) (.const (.int .i32 7)))) (.upd 0 1 (.const (.agg Ins.zero.arr)) (.const (.int .u8 149)))) [])
   (.set 2 (.var 1))))
  (.seq
   (.seq
    (.chk [(.upd 35 1 (.const (.agg zeroWorld)) (.const (.int .i64 2)))])
   (.seq
    (.call (some 3) 22 [(.var 2), (.upd 35 1 (.const (.agg zeroWorld)) (.const (.int .i64 2)))] [])
   (.seq
    (.chk [(.upd 35 1 (.const (.agg zeroWorld)) (.const (.int .i64 1)))])
   (.seq
    (.call (some 4) 22 [(.var 2), (.upd 35 1 (.const (.agg zeroWorld)) (.const (.int .i64 1)))] [])
   (.seq
    (.new (some 5) 58 (.const (.agg (Res 0 0 0 0))) [])
   (.seq
    (.new (some 6) 58 (.const (.agg (Res 0 0 0 0))) [])
   (.seq
    (.store 4 (.var 5) (.var 3) [])
   (.store 4 (.var 6) (.var 4) []))))))))
  (.seq
   (.seq
    (.chk [(.pick (.eqx false (.cons 0 none .int (.cons 1 none .int (.cons 2 none .int (.cons 3 none .int .nil)))) (.ld (some 4) (.var 5)) (.upd 2 1 (.upd 1 1 (.upd 0 1 (.const (.agg (Res 0 0 0 0))) (.const (.int .u64 7))) (.const (.int .i64 1))) (.const (.int .i64 2)))) (.eqx false (.cons 0 none .int (.cons 1 none .int (.cons 2 none .int (.cons 3 none .int .nil)))) (.ld (some 4) (.var 6)) (.upd 3 1 (.upd 2 1 (.upd 1 1 (.const (.agg (Res 0 0 0 0))) (.const (.int .i64 1))) (.const (.int .i64 1))) (.const (.int .i64 62)))) (.const (.bool false))), (.pick (.eqx false (.cons 0 none .int (.cons 1 none .int (.cons 2 none .int (.cons 3 none .int .nil)))) (.ld (some 4) (.var 5)) (.upd 2 1 (.upd 1 1 (.upd 0 1 (.const (.agg (Res 0 0 0 0))) (.const (.int .u64 7))) (.const (.int .i64 1))) (.const (.int .i64 2)))) (.eqx false (.cons 0 none .int (.cons 1 none .int (.cons 2 none .int (.cons 3 none .int .nil)))) (.ld (some 4) (.var 6)) (.upd 3 1 (.upd 2 1 (.upd 1 1 (.const (.agg (Res 0 0 0 0))) (.const (.int .i64 1))) (.const (.int .i64 1))) (.const (.int .i64 62)))) (.const (.bool false))), (.pick (.eqx false (.cons 0 none .int (.cons 1 none .int (.cons 2 none .int (.cons 3 none .int .nil)))) (.ld (some 4) (.var 5)) (.upd 2 1 (.upd 1 1 (.upd 0 1 (.const (.agg (Res 0 0 0 0))) (.const (.int .u64 7))) (.const (.int .i64 1))) (.const (.int .i64 2)))) (.upd 3 1 (.upd 2 1 (.upd 1 1 (.const (.agg (Res 0 0 0 0))) (.const (.int .i64 1))) (.const (.int .i64 1))) (.const (.int .i64 62))) (.const (.bool false))), (.pick (.eqx false (.cons 0 none .int (.cons 1 none .int (.cons 2 none .int (.cons 3 none .int .nil)))) (.ld (some 4) (.var 5)) (.upd 2 1 (.upd 1 1 (.upd 0 1 (.const (.agg (Res 0 0 0 0))) (.const (.int .u64 7))) (.const (.int .i64 1))) (.const (.int .i64 2)))) (.ld (some 4) (.var 6)) (.const (.bool false))), (.eqx false (.cons 0 none .int (.cons 1 none .int (.cons 2 none .int (.cons 3 none .int .nil)))) (.ld (some 4) (.var 5)) (.upd 2 1 (.upd 1 1 (.upd 0 1 (.const (.agg (Res 0 0 0 0))) (.const (.int .u64 7))) (.const (.int .i64 1))) (.const (.int .i64 2)))), (.eqx false (.cons 0 none .int (.cons 1 none .int (.cons 2 none .int (.cons 3 none .int .nil)))) (.ld (some 4) (.var 5)) (.upd 2 1 (.upd 1 1 (.upd 0 1 (.const (.agg (Res 0 0 0 0))) (.const (.int .u64 7))) (.const (.int .i64 1))) (.const (.int .i64 2)))), (.upd 2 1 (.upd 1 1 (.upd 0 1 (.const (.agg (Res 0 0 0 0))) (.const (.int .u64 7))) (.const (.int .i64 1))) (.const (.int .i64 2)))])
   (.set 0 (.pick (.eqx false (.cons 0 none .int (.cons 1 none .int (.cons 2 none .int (.cons 3 none .int .nil)))) (.ld (some 4) (.var 5)) (.upd 2 1 (.upd 1 1 (.upd 0 1 (.const (.agg (Res 0 0 0 0))) (.const (.int .u64 7))) (.const (.int .i64 1))) (.const (.int .i64 2)))) (.eqx false (.cons 0 none .int (.cons 1 none .int (.cons 2 none .int (.cons 3 none .int .nil)))) (.ld (some 4) (.var 6)) (.upd 3 1 (.upd 2 1 (.upd 1 1 (.const (.agg (Res 0 0 0 0))) (.const (.int .i64 1))) (.const (.int .i64 1))) (.const (.int .i64 62)))) (.const (.bool false)))))
  .ret))))
abbrev nv_tipstafflaw20_runs : List Nat := [0, 6, 1, 9, 12, 2, 3]
abbrev nk_tipstafflaw20_runs : List (List Nat) := []
abbrev nr_tipstafflaw20_runs : List Ex := [(.var 0)]
theorem nok_tipstafflaw20_runs : compile Try.prog Try.f23 nv_tipstafflaw20_runs nk_tipstafflaw20_runs = some (nc_tipstafflaw20_runs, nr_tipstafflaw20_runs) := by kernel_rfl

/- tipstaff/tipstafflaw20.VmCounts -/
def nc_tipstafflaw20_VmCounts : Cmd :=
  (.seq
   (.set 2 (.const (.bool false)))
  (.seq
   (.set 3 (.conv .i32 (.bin .rem (.conv .u64 (.var 0)) (.const (.int .u64 1000)))))
  (.seq
   (.seq
    (.chk [(.upd 0 1 (.const (.agg Ins.zero.arr)) (.const (.int .u8 149))), (.upd 3 1 (.upd 4 1 (.upd 0 1 (.const (.agg Ins.zero.arr)) (.const (.int .u8 85))) (.bin .add (.var 3) (.const (.int .i32 1)))) (.const (.int .i16 (-2)))), (.upd 4 1 (.upd 0 1 (.const (.agg Ins.zero.arr)) (.const (.int .u8 7))) (.const (.int .i32 1))), (.upd 0 1 (.const (.agg Ins.zero.arr)) (.const (.int .u8 183)))])
   (.seq
    (.row (some 4) 55 4 (.upd 15 5 (.upd 10 5 (.upd 5 5 (.upd 0 5 (.const (.agg (codeArr (List.replicate 4 Ins.zero)))) (.upd 0 1 (.const (.agg Ins.zero.arr)) (.const (.int .u8 183)))) (.upd 4 1 (.upd 0 1 (.const (.agg Ins.zero.arr)) (.const (.int .u8 7))) (.const (.int .i32 1)))) (.upd 3 1 (.upd 4 1 (.upd 0 1 (.const (.agg Ins.zero.arr)) (.const (.int .u8 85))) (.bin .add (.var 3) (.const (.int .i32 1)))) (.const (.int .i16 (-2))))) (.upd 0 1 (.const (.agg Ins.zero.arr)) (.const (.int .u8 149)))) [])
   (.set 5 (.var 4))))
  (.seq
   (.seq
    (.chk [(.upd 35 1 (.const (.agg zeroWorld)) (.const (.int .i64 4096)))])
   (.seq
    (.call (some 6) 22 [(.var 5), (.upd 35 1 (.const (.agg zeroWorld)) (.const (.int .i64 4096)))] [])
   (.seq
    (.new (some 7) 58 (.const (.agg (Res 0 0 0 0))) [])
   (.store 4 (.var 7) (.var 6) []))))
  (.seq
   (.seq
    (.chk [(.upd 35 1 (.const (.agg zeroWorld)) (.bin .add (.bin .mul (.const (.int .i64 2)) (.conv .i64 (.var 3))) (.const (.int .i64 3))))])
   (.seq
    (.call (some 8) 22 [(.var 5), (.upd 35 1 (.const (.agg zeroWorld)) (.bin .add (.bin .mul (.const (.int .i64 2)) (.conv .i64 (.var 3))) (.const (.int .i64 3))))] [])
   (.seq
    (.new (some 9) 58 (.const (.agg (Res 0 0 0 0))) [])
   (.store 4 (.var 9) (.var 8) []))))
  (.seq
   (.seq
    (.call (some 10) 23 [] [])
   (.seq
    (.chk [(.pick (.pick (.pick (.var 10) (.eqx false (.cons 0 none .int (.cons 1 none .int (.cons 2 none .int (.cons 3 none .int .nil)))) (.ld (some 4) (.var 7)) (.upd 2 1 (.upd 1 1 (.upd 0 1 (.const (.agg (Res 0 0 0 0))) (.bin .add (.conv .u64 (.var 3)) (.const (.int .u64 1)))) (.const (.int .i64 3))) (.bin .add (.bin .mul (.const (.int .i64 2)) (.conv .i64 (.var 3))) (.const (.int .i64 4))))) (.const (.bool false))) (.bin .eql (.ld none (.offp 3 (.var 9))) (.const (.int .i64 62))) (.const (.bool false))) (.bin .eql (.ld none (.offp 2 (.var 9))) (.bin .add (.bin .mul (.const (.int .i64 2)) (.conv .i64 (.var 3))) (.const (.int .i64 3)))) (.const (.bool false))), (.pick (.pick (.pick (.var 10) (.eqx false (.cons 0 none .int (.cons 1 none .int (.cons 2 none .int (.cons 3 none .int .nil)))) (.ld (some 4) (.var 7)) (.upd 2 1 (.upd 1 1 (.upd 0 1 (.const (.agg (Res 0 0 0 0))) (.bin .add (.conv .u64 (.var 3)) (.const (.int .u64 1)))) (.const (.int .i64 3))) (.bin .add (.bin .mul (.const (.int .i64 2)) (.conv .i64 (.var 3))) (.const (.int .i64 4))))) (.const (.bool false))) (.bin .eql (.ld none (.offp 3 (.var 9))) (.const (.int .i64 62))) (.const (.bool false))) (.bin .eql (.ld none (.offp 2 (.var 9))) (.bin .add (.bin .mul (.const (.int .i64 2)) (.conv .i64 (.var 3))) (.const (.int .i64 3)))) (.const (.bool false))), (.pick (.pick (.pick (.var 10) (.eqx false (.cons 0 none .int (.cons 1 none .int (.cons 2 none .int (.cons 3 none .int .nil)))) (.ld (some 4) (.var 7)) (.upd 2 1 (.upd 1 1 (.upd 0 1 (.const (.agg (Res 0 0 0 0))) (.bin .add (.conv .u64 (.var 3)) (.const (.int .u64 1)))) (.const (.int .i64 3))) (.bin .add (.bin .mul (.const (.int .i64 2)) (.conv .i64 (.var 3))) (.const (.int .i64 4))))) (.const (.bool false))) (.bin .eql (.ld none (.offp 3 (.var 9))) (.const (.int .i64 62))) (.const (.bool false))) (.bin .add (.bin .mul (.const (.int .i64 2)) (.conv .i64 (.var 3))) (.const (.int .i64 3))) (.const (.bool false))), (.pick (.pick (.pick (.var 10) (.eqx false (.cons 0 none .int (.cons 1 none .int (.cons 2 none .int (.cons 3 none .int .nil)))) (.ld (some 4) (.var 7)) (.upd 2 1 (.upd 1 1 (.upd 0 1 (.const (.agg (Res 0 0 0 0))) (.bin .add (.conv .u64 (.var 3)) (.const (.int .u64 1)))) (.const (.int .i64 3))) (.bin .add (.bin .mul (.const (.int .i64 2)) (.conv .i64 (.var 3))) (.const (.int .i64 4))))) (.const (.bool false))) (.bin .eql (.ld none (.offp 3 (.var 9))) (.const (.int .i64 62))) (.const (.bool false))) (.bin .mul (.const (.int .i64 2)) (.conv .i64 (.var 3))) (.const (.bool false))), (.pick (.pick (.pick (.var 10) (.eqx false (.cons 0 none .int (.cons 1 none .int (.cons 2 none .int (.cons 3 none .int .nil)))) (.ld (some 4) (.var 7)) (.upd 2 1 (.upd 1 1 (.upd 0 1 (.const (.agg (Res 0 0 0 0))) (.bin .add (.conv .u64 (.var 3)) (.const (.int .u64 1)))) (.const (.int .i64 3))) (.bin .add (.bin .mul (.const (.int .i64 2)) (.conv .i64 (.var 3))) (.const (.int .i64 4))))) (.const (.bool false))) (.bin .eql (.ld none (.offp 3 (.var 9))) (.const (.int .i64 62))) (.const (.bool false))) (.conv .i64 (.var 3)) (.const (.bool false))), (.pick (.pick (.pick (.var 10) (.eqx false (.cons 0 none .int (.cons 1 none .int (.cons 2 none .int (.cons 3 none .int .nil)))) (.ld (some 4) (.var 7)) (.upd 2 1 (.upd 1 1 (.upd 0 1 (.const (.agg (Res 0 0 0 0))) (.bin .add (.conv .u64 (.var 3)) (.const (.int .u64 1)))) (.const (.int .i64 3))) (.bin .add (.bin .mul (.const (.int .i64 2)) (.conv .i64 (.var 3))) (.const (.int .i64 4))))) (.const (.bool false))) (.bin .eql (.ld none (.offp 3 (.var 9))) (.const (.int .i64 62))) (.const (.bool false))) (.var 3) (.const (.bool false))), (.pick (.pick (.pick (.var 10) (.eqx false (.cons 0 none .int (.cons 1 none .int (.cons 2 none .int (.cons 3 none .int .nil)))) (.ld (some 4) (.var 7)) (.upd 2 1 (.upd 1 1 (.upd 0 1 (.const (.agg (Res 0 0 0 0))) (.bin .add (.conv .u64 (.var 3)) (.const (.int .u64 1)))) (.const (.int .i64 3))) (.bin .add (.bin .mul (.const (.int .i64 2)) (.conv .i64 (.var 3))) (.const (.int .i64 4))))) (.const (.bool false))) (.bin .eql (.ld none (.offp 3 (.var 9))) (.const (.int .i64 62))) (.const (.bool false))) (.ld none (.offp 2 (.var 9))) (.const (.bool false))), (.pick (.pick (.pick (.var 10) (.eqx false (.cons 0 none .int (.cons 1 none .int (.cons 2 none .int (.cons 3 none .int .nil)))) (.ld (some 4) (.var 7)) (.upd 2 1 (.upd 1 1 (.upd 0 1 (.const (.agg (Res 0 0 0 0))) (.bin .add (.conv .u64 (.var 3)) (.const (.int .u64 1)))) (.const (.int .i64 3))) (.bin .add (.bin .mul (.const (.int .i64 2)) (.conv .i64 (.var 3))) (.const (.int .i64 4))))) (.const (.bool false))) (.bin .eql (.ld none (.offp 3 (.var 9))) (.const (.int .i64 62))) (.const (.bool false))) (.offp 2 (.var 9)) (.const (.bool false))), (.pick (.pick (.var 10) (.eqx false (.cons 0 none .int (.cons 1 none .int (.cons 2 none .int (.cons 3 none .int .nil)))) (.ld (some 4) (.var 7)) (.upd 2 1 (.upd 1 1 (.upd 0 1 (.const (.agg (Res 0 0 0 0))) (.bin .add (.conv .u64 (.var 3)) (.const (.int .u64 1)))) (.const (.int .i64 3))) (.bin .add (.bin .mul (.const (.int .i64 2)) (.conv .i64 (.var 3))) (.const (.int .i64 4))))) (.const (.bool false))) (.bin .eql (.ld none (.offp 3 (.var 9))) (.const (.int .i64 62))) (.const (.bool false))), (.pick (.pick (.var 10) (.eqx false (.cons 0 none .int (.cons 1 none .int (.cons 2 none .int (.cons 3 none .int .nil)))) (.ld (some 4) (.var 7)) (.upd 2 1 (.upd 1 1 (.upd 0 1 (.const (.agg (Res 0 0 0 0))) (.bin .add (.conv .u64 (.var 3)) (.const (.int .u64 1)))) (.const (.int .i64 3))) (.bin .add (.bin .mul (.const (.int .i64 2)) (.conv .i64 (.var 3))) (.const (.int .i64 4))))) (.const (.bool false))) (.bin .eql (.ld none (.offp 3 (.var 9))) (.const (.int .i64 62))) (.const (.bool false))), (.pick (.pick (.var 10) (.eqx false (.cons 0 none .int (.cons 1 none .int (.cons 2 none .int (.cons 3 none .int .nil)))) (.ld (some 4) (.var 7)) (.upd 2 1 (.upd 1 1 (.upd 0 1 (.const (.agg (Res 0 0 0 0))) (.bin .add (.conv .u64 (.var 3)) (.const (.int .u64 1)))) (.const (.int .i64 3))) (.bin .add (.bin .mul (.const (.int .i64 2)) (.conv .i64 (.var 3))) (.const (.int .i64 4))))) (.const (.bool false))) (.bin .eql (.ld none (.offp 3 (.var 9))) (.const (.int .i64 62))) (.const (.bool false))), (.pick (.pick (.var 10) (.eqx false (.cons 0 none .int (.cons 1 none .int (.cons 2 none .int (.cons 3 none .int .nil)))) (.ld (some 4) (.var 7)) (.upd 2 1 (.upd 1 1 (.upd 0 1 (.const (.agg (Res 0 0 0 0))) (.bin .add (.conv .u64 (.var 3)) (.const (.int .u64 1)))) (.const (.int .i64 3))) (.bin .add (.bin .mul (.const (.int .i64 2)) (.conv .i64 (.var 3))) (.const (.int .i64 4))))) (.const (.bool false))) (.ld none (.offp 3 (.var 9))) (.const (.bool false))), (.pick (.pick (.var 10) (.eqx false (.cons 0 none .int (.cons 1 none .int (.cons 2 none .int (.cons 3 none .int .nil)))) (.ld (some 4) (.var 7)) (.upd 2 1 (.upd 1 1 (.upd 0 1 (.const (.agg (Res 0 0 0 0))) (.bin .add (.conv .u64 (.var 3)) (.const (.int .u64 1)))) (.const (.int .i64 3))) (.bin .add (.bin .mul (.const (.int .i64 2)) (.conv .i64 (.var 3))) (.const (.int .i64 4))))) (.const (.bool false))) (.offp 3 (.var 9)) (.const (.bool false))), (.pick (.var 10) (.eqx false (.cons 0 none .int (.cons 1 none .int (.cons 2 none .int (.cons 3 none .int .nil)))) (.ld (some 4) (.var 7)) (.upd 2 1 (.upd 1 1 (.upd 0 1 (.const (.agg (Res 0 0 0 0))) (.bin .add (.conv .u64 (.var 3)) (.const (.int .u64 1)))) (.const (.int .i64 3))) (.bin .add (.bin .mul (.const (.int .i64 2)) (.conv .i64 (.var 3))) (.const (.int .i64 4))))) (.const (.bool false))), (.pick (.var 10) (.eqx false (.cons 0 none .int (.cons 1 none .int (.cons 2 none .int (.cons 3 none .int .nil)))) (.ld (some 4) (.var 7)) (.upd 2 1 (.upd 1 1 (.upd 0 1 (.const (.agg (Res 0 0 0 0))) (.bin .add (.conv .u64 (.var 3)) (.const (.int .u64 1)))) (.const (.int .i64 3))) (.bin .add (.bin .mul (.const (.int .i64 2)) (.conv .i64 (.var 3))) (.const (.int .i64 4))))) (.const (.bool false))), (.pick (.var 10) (.eqx false (.cons 0 none .int (.cons 1 none .int (.cons 2 none .int (.cons 3 none .int .nil)))) (.ld (some 4) (.var 7)) (.upd 2 1 (.upd 1 1 (.upd 0 1 (.const (.agg (Res 0 0 0 0))) (.bin .add (.conv .u64 (.var 3)) (.const (.int .u64 1)))) (.const (.int .i64 3))) (.bin .add (.bin .mul (.const (.int .i64 2)) (.conv .i64 (.var 3))) (.const (.int .i64 4))))) (.const (.bool false))), (.pick (.var 10) (.upd 2 1 (.upd 1 1 (.upd 0 1 (.const (.agg (Res 0 0 0 0))) (.bin .add (.conv .u64 (.var 3)) (.const (.int .u64 1)))) (.const (.int .i64 3))) (.bin .add (.bin .mul (.const (.int .i64 2)) (.conv .i64 (.var 3))) (.const (.int .i64 4)))) (.const (.bool false)))])
   (.seq
    (.set 12 (.pick (.pick (.pick (.var 10) (.eqx false (.cons 0 none .int (.cons 1 none .int (.cons 2 none .int (.cons 3 none .int .nil)))) (.ld (some 4) (.var 7)) (.upd 2 1 (.upd 1 1 (.upd 0 1 (.const (.agg (Res 0 0 0 0))) (.bin .add (.conv .u64 (.var 3)) (.const (.int .u64 1)))) (.const (.int .i64 3))) (.bin .add (.bin .mul (.const (.int .i64 2)) (.conv .i64 (.var 3))) (.const (.int .i64 4))))) (.const (.bool false))) (.bin .eql (.ld none (.offp 3 (.var 9))) (.const (.int .i64 62))) (.const (.bool false))) (.bin .eql (.ld none (.offp 2 (.var 9))) (.bin .add (.bin .mul (.const (.int .i64 2)) (.conv .i64 (.var 3))) (.const (.int .i64 3)))) (.const (.bool false))))
   (.seq
    (.chk [(.pick (.var 12) (.upd 0 1 (.const (.agg Ins.zero.arr)) (.const (.int .u8 149))) (.const (.bool false))), (.pick (.var 12) (.upd 4 1 (.upd 0 1 (.const (.agg Ins.zero.arr)) (.const (.int .u8 183))) (.var 1)) (.const (.bool false)))])
   (.seq
    (.cond (.pick (.var 12) (.const (.bool true)) (.const (.bool false)))
      (.row (some 11) 55 2 (.upd 5 5 (.upd 0 5 (.const (.agg (codeArr (List.replicate 2 Ins.zero)))) (.upd 4 1 (.upd 0 1 (.const (.agg Ins.zero.arr)) (.const (.int .u8 183))) (.var 1))) (.upd 0 1 (.const (.agg Ins.zero.arr)) (.const (.int .u8 149)))) [])
      (.clr [11]))
   (.seq
    (.chk [(.pick (.var 12) (.upd 35 1 (.const (.agg zeroWorld)) (.const (.int .i64 9))) (.const (.bool false)))])
   (.seq
    (.cond (.pick (.var 12) (.const (.bool true)) (.const (.bool false)))
      (.call (some 13) 22 [(.var 11), (.upd 35 1 (.const (.agg zeroWorld)) (.const (.int .i64 9)))] [])
      (.clr [13]))
   (.set 2 (.pick (.var 12) (.bin .eql (.part none 0 (.var 13)) (.conv .u64 (.conv .i64 (.var 1)))) (.const (.bool false)))))))))))
  .ret))))))
abbrev nv_tipstafflaw20_VmCounts : List Nat := [0, 1, 4, 5, 19, 6, 22, 7, 29, 8, 30, 61, 57, 63]
abbrev nk_tipstafflaw20_VmCounts : List (List Nat) := []
abbrev nr_tipstafflaw20_VmCounts : List Ex := [(.var 2)]
theorem nok_tipstafflaw20_VmCounts : compile Try.prog Try.f4 nv_tipstafflaw20_VmCounts nk_tipstafflaw20_VmCounts = some (nc_tipstafflaw20_VmCounts, nr_tipstafflaw20_VmCounts) := by kernel_rfl

/- tipstaff/tipstafflaw20.VmSums -/
def nc_tipstafflaw20_VmSums : Cmd :=
  (.seq
   (.seq
    (.new (some 4) 38 (.var 0) [])
   (.seq
    (.new (some 5) 64 (.var 1) [])
   (.set 3 (.const (.bool false)))))
  (.seq
   (.seq
    .draw
   (.seq
    (.chk [(.conv .i16 (.bin .rem (.conv .u64 (.ld none (.ixArr 2 1 (.var 5) (.const (.int .i64 1))))) (.const (.int .u64 25))))])
   (.seq
    (.set 6 (.conv .i16 (.bin .rem (.conv .u64 (.ld none (.ixArr 2 1 (.var 5) (.const (.int .i64 0))))) (.const (.int .u64 25)))))
   (.set 7 (.conv .i16 (.bin .rem (.conv .u64 (.ld none (.ixArr 2 1 (.var 5) (.const (.int .i64 1))))) (.const (.int .u64 25))))))))
  (.seq
   (.seq
    (.row (some 8) 5 6 (.upd 5 1 (.upd 4 1 (.upd 3 1 (.upd 2 1 (.upd 1 1 (.upd 0 1 (.const (.agg (Array.replicate 6 (.int .u8 0)))) (.const (.int .u8 15))) (.const (.int .u8 31))) (.const (.int .u8 47))) (.const (.int .u8 79))) (.const (.int .u8 95))) (.const (.int .u8 175))) [])
   (.set 9 (.ld none (.ixSl 1 (.var 8) (.conv .i64 (.bin .rem (.conv .u64 (.var 2)) (.const (.int .u64 6))))))))
  (.seq
   (.seq
    (.chk [(.upd 0 1 (.const (.agg Ins.zero.arr)) (.const (.int .u8 149))), (.upd 2 1 (.upd 1 1 (.upd 0 1 (.const (.agg Ins.zero.arr)) (.var 9)) (.const (.int .u8 0))) (.const (.int .u8 6))), (.upd 3 1 (.upd 2 1 (.upd 1 1 (.upd 0 1 (.const (.agg Ins.zero.arr)) (.const (.int .u8 121))) (.const (.int .u8 0))) (.const (.int .u8 1))) (.var 7)), (.upd 3 1 (.upd 2 1 (.upd 1 1 (.upd 0 1 (.const (.agg Ins.zero.arr)) (.const (.int .u8 121))) (.const (.int .u8 6))) (.const (.int .u8 1))) (.var 6))])
   (.seq
    (.row (some 10) 55 4 (.upd 15 5 (.upd 10 5 (.upd 5 5 (.upd 0 5 (.const (.agg (codeArr (List.replicate 4 Ins.zero)))) (.upd 3 1 (.upd 2 1 (.upd 1 1 (.upd 0 1 (.const (.agg Ins.zero.arr)) (.const (.int .u8 121))) (.const (.int .u8 6))) (.const (.int .u8 1))) (.var 6))) (.upd 3 1 (.upd 2 1 (.upd 1 1 (.upd 0 1 (.const (.agg Ins.zero.arr)) (.const (.int .u8 121))) (.const (.int .u8 0))) (.const (.int .u8 1))) (.var 7))) (.upd 2 1 (.upd 1 1 (.upd 0 1 (.const (.agg Ins.zero.arr)) (.var 9)) (.const (.int .u8 0))) (.const (.int .u8 6)))) (.upd 0 1 (.const (.agg Ins.zero.arr)) (.const (.int .u8 149)))) [])
   (.set 11 (.var 10))))
  (.seq
   (.seq
    (.chk [(.upd 35 1 (.upd 0 32 (.const (.agg zeroWorld)) (.ld (some 32) (.var 4))) (.const (.int .i64 4)))])
   (.seq
    (.call (some 12) 22 [(.var 11), (.upd 35 1 (.upd 0 32 (.const (.agg zeroWorld)) (.ld (some 32) (.var 4))) (.const (.int .i64 4)))] [])
   (.seq
    (.new (some 13) 58 (.const (.agg (Res 0 0 0 0))) [])
   (.store 4 (.var 13) (.var 12) []))))
  (.seq
   (.seq
    (.set 14 (.const (.int .u64 0)))
   (.set 15 (.const (.int .u64 0))))
  (.seq
   (.seq
    (.set 16 (.const (.int .i16 7)))
   (.block 0
     (.loop [2, 4, 6, 7, 13, 14, 15, 16]
       (.seq
        (.cond (.bin .geq (.var 16) (.const (.int .i16 0)))
          .skip
          (.exit 0))
       (.seq
        (.block 1
          (.seq
           .draw
          (.seq
           (.chk [(.bin .or (.bin .shl (.var 15) (.const (.int .u64 8))) (.conv .u64 (.ld none (.ixArr 32 1 (.var 4) (.bin .add (.var 7) (.var 16))))))])
          (.seq
           (.set 14 (.bin .or (.bin .shl (.var 14) (.const (.int .u64 8))) (.conv .u64 (.ld none (.ixArr 32 1 (.var 4) (.bin .add (.var 6) (.var 16)))))))
          (.set 15 (.bin .or (.bin .shl (.var 15) (.const (.int .u64 8))) (.conv .u64 (.ld none (.ixArr 32 1 (.var 4) (.bin .add (.var 7) (.var 16)))))))))))
       (.set 16 (.bin .sub (.var 16) (.const (.int .i16 1)))))))))
  (.seq
   (.seq
    (.row (some 17) 32 6 (.upd 5 1 (.upd 4 1 (.upd 3 1 (.upd 2 1 (.upd 1 1 (.upd 0 1 (.const (.agg (Array.replicate 6 (.int .u64 0)))) (.bin .add (.var 15) (.var 14))) (.bin .sub (.var 15) (.var 14))) (.bin .mul (.var 15) (.var 14))) (.bin .or (.var 15) (.var 14))) (.bin .and (.var 15) (.var 14))) (.bin .xor (.var 15) (.var 14))) [])
   (.set 18 (.ld none (.ixSl 1 (.var 17) (.conv .i64 (.bin .rem (.conv .u64 (.var 2)) (.const (.int .u64 6))))))))
  (.seq
   (.seq
    (.call (some 19) 23 [] [])
   (.seq
    (.chk [(.pick (.var 19) (.eqx false (.cons 0 none .int (.cons 1 none .int (.cons 2 none .int (.cons 3 none .int .nil)))) (.ld (some 4) (.var 13)) (.upd 2 1 (.upd 1 1 (.upd 0 1 (.const (.agg (Res 0 0 0 0))) (.var 18)) (.const (.int .i64 3))) (.const (.int .i64 4)))) (.const (.bool false))), (.pick (.var 19) (.eqx false (.cons 0 none .int (.cons 1 none .int (.cons 2 none .int (.cons 3 none .int .nil)))) (.ld (some 4) (.var 13)) (.upd 2 1 (.upd 1 1 (.upd 0 1 (.const (.agg (Res 0 0 0 0))) (.var 18)) (.const (.int .i64 3))) (.const (.int .i64 4)))) (.const (.bool false))), (.pick (.var 19) (.upd 2 1 (.upd 1 1 (.upd 0 1 (.const (.agg (Res 0 0 0 0))) (.var 18)) (.const (.int .i64 3))) (.const (.int .i64 4))) (.const (.bool false)))])
   (.set 3 (.pick (.var 19) (.eqx false (.cons 0 none .int (.cons 1 none .int (.cons 2 none .int (.cons 3 none .int .nil)))) (.ld (some 4) (.var 13)) (.upd 2 1 (.upd 1 1 (.upd 0 1 (.const (.agg (Res 0 0 0 0))) (.var 18)) (.const (.int .i64 3))) (.const (.int .i64 4)))) (.const (.bool false))))))
  .ret)))))))))
abbrev nv_tipstafflaw20_VmSums : List Nat := [0, 1, 2, 6, 3, 4, 7, 8, 26, 9, 40, 10, 44, 11, 12, 13, 14, 85, 15, 92]
abbrev nk_tipstafflaw20_VmSums : List (List Nat) := [[2, 4, 6, 7, 13, 14, 15, 16]]
abbrev nr_tipstafflaw20_VmSums : List Ex := [(.var 3)]
theorem nok_tipstafflaw20_VmSums : compile Try.prog Try.f5 nv_tipstafflaw20_VmSums nk_tipstafflaw20_VmSums = some (nc_tipstafflaw20_VmSums, nr_tipstafflaw20_VmSums) := by kernel_rfl

/- tipstaff/tipstafflaw20.VmLuck -/
def nc_tipstafflaw20_VmLuck : Cmd :=
  (.seq
   (.set 3 (.const (.bool false)))
  (.seq
   (.seq
    (.row (some 4) 32 0 (.const (.agg #[])) [])
   (.seq
    (.bi (some 5) .append [60, 60] 60 [(.var 4), (.slSl 1 (.var 1) (.const (.int .i64 0)) (.mn (.len false (.var 1)) (.const (.int .i64 6))))] [])
   (.set 1 (.var 5))))
  (.seq
   (.set 6 (.conv .i64 (.bin .rem (.conv .u64 (.var 2)) (.const (.int .u64 8)))))
  (.seq
   (.seq
    (.chk [(.upd 2 1 (.upd 1 1 (.upd 0 1 (.const (.agg Ins.zero.arr)) (.const (.int .u8 191))) (.const (.int .u8 6))) (.const (.int .u8 0))), (.upd 4 1 (.upd 0 1 (.const (.agg Ins.zero.arr)) (.const (.int .u8 133))) (.const (.int .i32 5)))])
   (.seq
    (.row (some 7) 55 2 (.upd 5 5 (.upd 0 5 (.const (.agg (codeArr (List.replicate 2 Ins.zero)))) (.upd 4 1 (.upd 0 1 (.const (.agg Ins.zero.arr)) (.const (.int .u8 133))) (.const (.int .i32 5)))) (.upd 2 1 (.upd 1 1 (.upd 0 1 (.const (.agg Ins.zero.arr)) (.const (.int .u8 191))) (.const (.int .u8 6))) (.const (.int .u8 0)))) [])
   (.set 8 (.var 7))))
  (.seq
   (.set 9 (.var 0))
  (.seq
   (.seq
    (.set 10 (.const (.int .i64 0)))
   (.block 0
     (.loop [0, 1, 6, 8, 9, 10]
       (.seq
        (.cond (.bin .lss (.var 10) (.var 6))
          .skip
          (.exit 0))
       (.seq
        (.block 1
          (.seq
           (.seq
            (.chk [(.upd 2 1 (.upd 1 1 (.upd 0 1 (.const (.agg Ins.zero.arr)) (.const (.int .u8 15))) (.const (.int .u8 6))) (.const (.int .u8 0))), (.upd 4 1 (.upd 0 1 (.const (.agg Ins.zero.arr)) (.const (.int .u8 133))) (.const (.int .i32 7))), (.var 8)])
           (.seq
            (.row (some 11) 55 2 (.upd 5 5 (.upd 0 5 (.const (.agg (codeArr (List.replicate 2 Ins.zero)))) (.upd 4 1 (.upd 0 1 (.const (.agg Ins.zero.arr)) (.const (.int .u8 133))) (.const (.int .i32 7)))) (.upd 2 1 (.upd 1 1 (.upd 0 1 (.const (.agg Ins.zero.arr)) (.const (.int .u8 15))) (.const (.int .u8 6))) (.const (.int .u8 0)))) [])
           (.seq
            (.bi (some 12) .append [56, 56] 56 [(.var 8), (.var 11)] [])
           (.set 8 (.var 12)))))
          (.cond (.bin .lss (.var 10) (.len false (.var 1)))
            (.set 9 (.bin .add (.var 9) (.ld none (.ixSl 1 (.var 1) (.var 10)))))
            .skip)))
       (.set 10 (.bin .add (.var 10) (.const (.int .i64 1)))))))))
  (.seq
   (.seq
    (.chk [(.upd 0 1 (.const (.agg Ins.zero.arr)) (.const (.int .u8 149))), (.upd 2 1 (.upd 1 1 (.upd 0 1 (.const (.agg Ins.zero.arr)) (.const (.int .u8 191))) (.const (.int .u8 0))) (.const (.int .u8 6))), (.var 8)])
   (.seq
    (.row (some 13) 55 2 (.upd 5 5 (.upd 0 5 (.const (.agg (codeArr (List.replicate 2 Ins.zero)))) (.upd 2 1 (.upd 1 1 (.upd 0 1 (.const (.agg Ins.zero.arr)) (.const (.int .u8 191))) (.const (.int .u8 0))) (.const (.int .u8 6)))) (.upd 0 1 (.const (.agg Ins.zero.arr)) (.const (.int .u8 149)))) [])
   (.seq
    (.bi (some 14) .append [56, 56] 56 [(.var 8), (.var 13)] [])
   (.set 8 (.var 14)))))
  (.seq
   (.seq
    (.chk [(.upd 35 1 (.upd 34 1 (.upd 33 1 (.const (.agg zeroWorld)) (.var 0)) (.var 1)) (.const (.int .i64 99)))])
   (.seq
    (.call (some 15) 22 [(.var 8), (.upd 35 1 (.upd 34 1 (.upd 33 1 (.const (.agg zeroWorld)) (.var 0)) (.var 1)) (.const (.int .i64 99)))] [])
   (.seq
    (.new (some 16) 58 (.const (.agg (Res 0 0 0 0))) [])
   (.store 4 (.var 16) (.var 15) []))))
  (.seq
   (.seq
    (.call (some 17) 23 [] [])
   (.set 3 (.pick (.pick (.var 17) (.bin .eql (.ld none (.offp 3 (.var 16))) (.const (.int .i64 0))) (.const (.bool false))) (.bin .eql (.ld none (.offp 0 (.var 16))) (.var 9)) (.const (.bool false)))))
  .ret)))))))))
abbrev nv_tipstafflaw20_VmLuck : List Nat := [0, 1, 2, 6, 12, 18, 7, 25, 8, 9, 10, 35, 36, 50, 51, 56, 11, 57]
abbrev nk_tipstafflaw20_VmLuck : List (List Nat) := [[0, 1, 6, 8, 9, 10]]
abbrev nr_tipstafflaw20_VmLuck : List Ex := [(.var 3)]
theorem nok_tipstafflaw20_VmLuck : compile Try.prog Try.f6 nv_tipstafflaw20_VmLuck nk_tipstafflaw20_VmLuck = some (nc_tipstafflaw20_VmLuck, nr_tipstafflaw20_VmLuck) := by kernel_rfl

/- tipstaff/tipstafflaw20.VmAtomic -/
def nc_tipstafflaw20_VmAtomic : Cmd :=
  (.seq
   (.seq
    (.new (some 3) 67 (.var 0) [])
   (.set 2 (.const (.bool false))))
  (.seq
   (.set 4 (.conv .i64 (.bin .rem (.conv .u64 (.var 1)) (.const (.int .u64 4)))))
  (.seq
   (.seq
    (.row (some 5) 21 4 (.upd 3 1 (.upd 2 1 (.upd 1 1 (.upd 0 1 (.const (.agg (Array.replicate 4 (.int .i32 0)))) (.const (.int .i32 0))) (.const (.int .i32 64))) (.const (.int .i32 80))) (.const (.int .i32 160))) [])
   (.set 6 (.ld none (.ixSl 1 (.var 5) (.var 4)))))
  (.seq
   (.seq
    (.chk [(.upd 0 1 (.const (.agg Ins.zero.arr)) (.const (.int .u8 149))), (.upd 3 1 (.upd 2 1 (.upd 1 1 (.upd 0 1 (.const (.agg Ins.zero.arr)) (.const (.int .u8 121))) (.const (.int .u8 0))) (.const (.int .u8 10))) (.const (.int .i16 (-8)))), (.upd 3 1 (.upd 4 1 (.upd 1 1 (.upd 0 1 (.const (.agg Ins.zero.arr)) (.const (.int .u8 85))) (.const (.int .u8 0))) (.const (.int .i32 5))) (.const (.int .i16 1))), (.upd 3 1 (.upd 2 1 (.upd 1 1 (.upd 0 1 (.const (.agg Ins.zero.arr)) (.const (.int .u8 121))) (.const (.int .u8 0))) (.const (.int .u8 10))) (.const (.int .i16 (-16)))), (.upd 4 1 (.upd 3 1 (.upd 2 1 (.upd 1 1 (.upd 0 1 (.const (.agg Ins.zero.arr)) (.const (.int .u8 219))) (.const (.int .u8 10))) (.const (.int .u8 6))) (.const (.int .i16 (-8)))) (.var 6)), (.upd 4 1 (.upd 1 1 (.upd 0 1 (.const (.agg Ins.zero.arr)) (.const (.int .u8 183))) (.const (.int .u8 6))) (.ld none (.ixArr 2 1 (.var 3) (.const (.int .i64 1))))), (.upd 4 1 (.upd 3 1 (.upd 1 1 (.upd 0 1 (.const (.agg Ins.zero.arr)) (.const (.int .u8 122))) (.const (.int .u8 10))) (.const (.int .i16 (-16)))) (.const (.int .i32 5))), (.upd 4 1 (.upd 3 1 (.upd 1 1 (.upd 0 1 (.const (.agg Ins.zero.arr)) (.const (.int .u8 122))) (.const (.int .u8 10))) (.const (.int .i16 (-8)))) (.ld none (.ixArr 2 1 (.var 3) (.const (.int .i64 0)))))])
   (.seq
    (.row (some 7) 55 8 (.upd 35 5 (.upd 30 5 (.upd 25 5 (.upd 20 5 (.upd 15 5 (.upd 10 5 (.upd 5 5 (.upd 0 5 (.const (.agg (codeArr (List.replicate 8 Ins.zero)))) (.upd 4 1 (.upd 3 1 (.upd 1 1 (.upd 0 1 (.const (.agg Ins.zero.arr)) (.const (.int .u8 122))) (.const (.int .u8 10))) (.const (.int .i16 (-8)))) (.ld none (.ixArr 2 1 (.var 3) (.const (.int .i64 0)))))) (.upd 4 1 (.upd 3 1 (.upd 1 1 (.upd 0 1 (.const (.agg Ins.zero.arr)) (.const (.int .u8 122))) (.const (.int .u8 10))) (.const (.int .i16 (-16)))) (.const (.int .i32 5)))) (.upd 4 1 (.upd 1 1 (.upd 0 1 (.const (.agg Ins.zero.arr)) (.const (.int .u8 183))) (.const (.int .u8 6))) (.ld none (.ixArr 2 1 (.var 3) (.const (.int .i64 1)))))) (.upd 4 1 (.upd 3 1 (.upd 2 1 (.upd 1 1 (.upd 0 1 (.const (.agg Ins.zero.arr)) (.const (.int .u8 219))) (.const (.int .u8 10))) (.const (.int .u8 6))) (.const (.int .i16 (-8)))) (.var 6))) (.upd 3 1 (.upd 2 1 (.upd 1 1 (.upd 0 1 (.const (.agg Ins.zero.arr)) (.const (.int .u8 121))) (.const (.int .u8 0))) (.const (.int .u8 10))) (.const (.int .i16 (-16))))) (.upd 3 1 (.upd 4 1 (.upd 1 1 (.upd 0 1 (.const (.agg Ins.zero.arr)) (.const (.int .u8 85))) (.const (.int .u8 0))) (.const (.int .i32 5))) (.const (.int .i16 1)))) (.upd 3 1 (.upd 2 1 (.upd 1 1 (.upd 0 1 (.const (.agg Ins.zero.arr)) (.const (.int .u8 121))) (.const (.int .u8 0))) (.const (.int .u8 10))) (.const (.int .i16 (-8))))) (.upd 0 1 (.const (.agg Ins.zero.arr)) (.const (.int .u8 149)))) [])
   (.set 8 (.var 7))))
  (.seq
   (.seq
    (.chk [(.upd 35 1 (.const (.agg zeroWorld)) (.const (.int .i64 99)))])
   (.seq
    (.call (some 9) 22 [(.var 8), (.upd 35 1 (.const (.agg zeroWorld)) (.const (.int .i64 99)))] [])
   (.seq
    (.new (some 10) 58 (.const (.agg (Res 0 0 0 0))) [])
   (.store 4 (.var 10) (.var 9) []))))
  (.seq
   (.seq
    .draw
   (.seq
    (.chk [(.conv .u64 (.conv .i64 (.ld none (.ixArr 2 1 (.var 3) (.const (.int .i64 1))))))])
   (.seq
    (.set 11 (.conv .u64 (.conv .i64 (.ld none (.ixArr 2 1 (.var 3) (.const (.int .i64 0)))))))
   (.set 12 (.conv .u64 (.conv .i64 (.ld none (.ixArr 2 1 (.var 3) (.const (.int .i64 1))))))))))
  (.seq
   (.seq
    .draw
   (.seq
    (.call (some 13) 23 [] [])
   (.seq
    (.set 16 (.pick (.var 13) (.bin .eql (.ld none (.offp 3 (.var 10))) (.const (.int .i64 0))) (.const (.bool false))))
   (.seq
    (.chk [(.pick (.var 16) (.offp 0 (.var 10)) (.const (.bool false)))])
   (.seq
    (.cond (.pick (.var 16) (.const (.bool true)) (.const (.bool false)))
      (.set 17 (.ld none (.offp 0 (.var 10))))
      (.clr [17]))
   (.seq
    (.chk [(.pick (.var 16) (.bin .xor (.var 11) (.var 12)) (.const (.bool false))), (.pick (.var 16) (.bin .and (.var 11) (.var 12)) (.const (.bool false))), (.pick (.var 16) (.bin .or (.var 11) (.var 12)) (.const (.bool false))), (.pick (.var 16) (.bin .add (.var 11) (.var 12)) (.const (.bool false)))])
   (.seq
    (.cond (.pick (.var 16) (.const (.bool true)) (.const (.bool false)))
      (.set 15 (.var 4))
      (.clr [15]))
   (.seq
    (.cond (.pick (.var 16) (.const (.bool true)) (.const (.bool false)))
      (.row (some 14) 32 4 (.upd 3 1 (.upd 2 1 (.upd 1 1 (.upd 0 1 (.const (.agg (Array.replicate 4 (.int .u64 0)))) (.bin .add (.var 11) (.var 12))) (.bin .or (.var 11) (.var 12))) (.bin .and (.var 11) (.var 12))) (.bin .xor (.var 11) (.var 12))) [(.ld none (.offp 0 (.var 10)))])
      (.clr [14]))
   (.set 2 (.pick (.var 16) (.bin .eql (.var 17) (.ld none (.ixSl 1 (.var 14) (.var 15)))) (.const (.bool false))))))))))))
  .ret)))))))
abbrev nv_tipstafflaw20_VmAtomic : List Nat := [0, 1, 4, 2, 5, 15, 6, 32, 7, 35, 8, 9, 10, 44, 65, 66, 50, 52]
abbrev nk_tipstafflaw20_VmAtomic : List (List Nat) := []
abbrev nr_tipstafflaw20_VmAtomic : List Ex := [(.var 2)]
theorem nok_tipstafflaw20_VmAtomic : compile Try.prog Try.f7 nv_tipstafflaw20_VmAtomic nk_tipstafflaw20_VmAtomic = some (nc_tipstafflaw20_VmAtomic, nr_tipstafflaw20_VmAtomic) := by kernel_rfl

/- tipstaff/tipstafflaw20.VmPlaces -/
def nc_tipstafflaw20_VmPlaces : Cmd :=
  (.seq
   (.seq
    (.new (some 3) 67 (.var 0) [])
   (.set 2 (.const (.bool false))))
  (.seq
   (.seq
    .draw
   (.seq
    (.chk [(.bin .rem (.ld none (.ixArr 2 1 (.var 3) (.const (.int .i64 1)))) (.const (.int .i32 1000)))])
   (.seq
    (.set 4 (.bin .rem (.ld none (.ixArr 2 1 (.var 3) (.const (.int .i64 0)))) (.const (.int .i32 1000))))
   (.set 5 (.bin .rem (.ld none (.ixArr 2 1 (.var 3) (.const (.int .i64 1)))) (.const (.int .i32 1000)))))))
  (.seq
   (.seq
    (.chk [(.upd 3 1 (.upd 0 1 (.const (.agg Ins.zero.arr)) (.const (.int .u8 5))) (.const (.int .i16 (-1)))), (.upd 0 1 (.const (.agg Ins.zero.arr)) (.const (.int .u8 149))), (.upd 3 1 (.upd 2 1 (.upd 1 1 (.upd 0 1 (.const (.agg Ins.zero.arr)) (.const (.int .u8 93))) (.const (.int .u8 0))) (.const (.int .u8 7))) (.const (.int .i16 1))), (.upd 2 1 (.upd 1 1 (.upd 0 1 (.const (.agg Ins.zero.arr)) (.const (.int .u8 121))) (.const (.int .u8 7))) (.const (.int .u8 6))), (.upd 3 1 (.upd 2 1 (.upd 1 1 (.upd 0 1 (.const (.agg Ins.zero.arr)) (.const (.int .u8 121))) (.const (.int .u8 0))) (.const (.int .u8 10))) (.const (.int .i16 (-8)))), (.upd 4 1 (.upd 1 1 (.upd 0 1 (.const (.agg Ins.zero.arr)) (.const (.int .u8 122))) (.const (.int .u8 6))) (.var 1)), (.upd 4 1 (.upd 1 1 (.upd 0 1 (.const (.agg Ins.zero.arr)) (.const (.int .u8 7))) (.const (.int .u8 6))) (.bin .sub (.bin .sub (.var 5) (.var 4)) (.const (.int .i32 8)))), (.upd 4 1 (.upd 1 1 (.upd 0 1 (.const (.agg Ins.zero.arr)) (.const (.int .u8 23))) (.const (.int .u8 6))) (.var 5)), (.upd 4 1 (.upd 1 1 (.upd 0 1 (.const (.agg Ins.zero.arr)) (.const (.int .u8 7))) (.const (.int .u8 6))) (.var 4)), (.upd 2 1 (.upd 1 1 (.upd 0 1 (.const (.agg Ins.zero.arr)) (.const (.int .u8 191))) (.const (.int .u8 6))) (.const (.int .u8 10)))])
   (.seq
    (.row (some 6) 55 10 (.upd 45 5 (.upd 40 5 (.upd 35 5 (.upd 30 5 (.upd 25 5 (.upd 20 5 (.upd 15 5 (.upd 10 5 (.upd 5 5 (.upd 0 5 (.const (.agg (codeArr (List.replicate 10 Ins.zero)))) (.upd 2 1 (.upd 1 1 (.upd 0 1 (.const (.agg Ins.zero.arr)) (.const (.int .u8 191))) (.const (.int .u8 6))) (.const (.int .u8 10)))) (.upd 4 1 (.upd 1 1 (.upd 0 1 (.const (.agg Ins.zero.arr)) (.const (.int .u8 7))) (.const (.int .u8 6))) (.var 4))) (.upd 4 1 (.upd 1 1 (.upd 0 1 (.const (.agg Ins.zero.arr)) (.const (.int .u8 23))) (.const (.int .u8 6))) (.var 5))) (.upd 4 1 (.upd 1 1 (.upd 0 1 (.const (.agg Ins.zero.arr)) (.const (.int .u8 7))) (.const (.int .u8 6))) (.bin .sub (.bin .sub (.var 5) (.var 4)) (.const (.int .i32 8))))) (.upd 4 1 (.upd 1 1 (.upd 0 1 (.const (.agg Ins.zero.arr)) (.const (.int .u8 122))) (.const (.int .u8 6))) (.var 1))) (.upd 3 1 (.upd 2 1 (.upd 1 1 (.upd 0 1 (.const (.agg Ins.zero.arr)) (.const (.int .u8 121))) (.const (.int .u8 0))) (.const (.int .u8 10))) (.const (.int .i16 (-8))))) (.upd 2 1 (.upd 1 1 (.upd 0 1 (.const (.agg Ins.zero.arr)) (.const (.int .u8 121))) (.const (.int .u8 7))) (.const (.int .u8 6)))) (.upd 3 1 (.upd 2 1 (.upd 1 1 (.upd 0 1 (.const (.agg Ins.zero.arr)) (.const (.int .u8 93))) (.const (.int .u8 0))) (.const (.int .u8 7))) (.const (.int .i16 1)))) (.upd 0 1 (.const (.agg Ins.zero.arr)) (.const (.int .u8 149)))) (.upd 3 1 (.upd 0 1 (.const (.agg Ins.zero.arr)) (.const (.int .u8 5))) (.const (.int .i16 (-1))))) [])
   (.set 7 (.var 6))))
  (.seq
   (.seq
    (.chk [(.upd 35 1 (.const (.agg zeroWorld)) (.const (.int .i64 40)))])
   (.seq
    (.call (some 8) 22 [(.var 7), (.upd 35 1 (.const (.agg zeroWorld)) (.const (.int .i64 40)))] [])
   (.seq
    (.new (some 9) 58 (.const (.agg (Res 0 0 0 0))) [])
   (.store 4 (.var 9) (.var 8) []))))
  (.seq
   (.seq
    (.call (some 10) 23 [] [])
   (.seq
    (.chk [(.pick (.var 10) (.eqx false (.cons 0 none .int (.cons 1 none .int (.cons 2 none .int (.cons 3 none .int .nil)))) (.ld (some 4) (.var 9)) (.upd 2 1 (.upd 1 1 (.upd 0 1 (.const (.agg (Res 0 0 0 0))) (.conv .u64 (.conv .i64 (.var 1)))) (.const (.int .i64 8))) (.const (.int .i64 9)))) (.const (.bool false))), (.pick (.var 10) (.eqx false (.cons 0 none .int (.cons 1 none .int (.cons 2 none .int (.cons 3 none .int .nil)))) (.ld (some 4) (.var 9)) (.upd 2 1 (.upd 1 1 (.upd 0 1 (.const (.agg (Res 0 0 0 0))) (.conv .u64 (.conv .i64 (.var 1)))) (.const (.int .i64 8))) (.const (.int .i64 9)))) (.const (.bool false))), (.pick (.var 10) (.upd 2 1 (.upd 1 1 (.upd 0 1 (.const (.agg (Res 0 0 0 0))) (.conv .u64 (.conv .i64 (.var 1)))) (.const (.int .i64 8))) (.const (.int .i64 9))) (.const (.bool false)))])
   (.set 2 (.pick (.var 10) (.eqx false (.cons 0 none .int (.cons 1 none .int (.cons 2 none .int (.cons 3 none .int .nil)))) (.ld (some 4) (.var 9)) (.upd 2 1 (.upd 1 1 (.upd 0 1 (.const (.agg (Res 0 0 0 0))) (.conv .u64 (.conv .i64 (.var 1)))) (.const (.int .i64 8))) (.const (.int .i64 9)))) (.const (.bool false))))))
  .ret)))))
abbrev nv_tipstafflaw20_VmPlaces : List Nat := [0, 1, 4, 2, 5, 6, 32, 7, 35, 8, 36]
abbrev nk_tipstafflaw20_VmPlaces : List (List Nat) := []
abbrev nr_tipstafflaw20_VmPlaces : List Ex := [(.var 2)]
theorem nok_tipstafflaw20_VmPlaces : compile Try.prog Try.f8 nv_tipstafflaw20_VmPlaces nk_tipstafflaw20_VmPlaces = some (nc_tipstafflaw20_VmPlaces, nr_tipstafflaw20_VmPlaces) := by kernel_rfl

/- tipstaff/tipstafflaw20.VmFaults -/
def nc_tipstafflaw20_VmFaults : Cmd :=
  (.seq
   (.set 2 (.const (.bool false)))
  (.seq
   (.set 3 (.conv .i64 (.bin .rem (.conv .u64 (.var 0)) (.const (.int .u64 50)))))
  (.seq
   (.set 4 (.const (.slice none 0 0)))
  (.seq
   (.seq
    (.set 5 (.const (.int .i64 0)))
   (.block 0
     (.loop [1, 3, 4, 5]
       (.seq
        (.cond (.bin .lss (.var 5) (.var 3))
          .skip
          (.exit 0))
       (.seq
        (.block 1
          (.seq
           (.chk [(.upd 1 1 (.upd 0 1 (.const (.agg Ins.zero.arr)) (.const (.int .u8 183))) (.const (.int .u8 6))), (.var 4)])
          (.seq
           (.row (some 6) 55 1 (.upd 0 5 (.const (.agg Ins.zero.arr)) (.upd 1 1 (.upd 0 1 (.const (.agg Ins.zero.arr)) (.const (.int .u8 183))) (.const (.int .u8 6)))) [])
          (.seq
           (.bi (some 7) .append [56, 56] 56 [(.var 4), (.var 6)] [])
          (.set 4 (.var 7))))))
       (.set 5 (.bin .add (.var 5) (.const (.int .i64 1)))))))))
  (.seq
   (.seq
    (.chk [(.upd 2 1 (.upd 1 1 (.upd 0 1 (.const (.agg Ins.zero.arr)) (.const (.int .u8 191))) (.const (.int .u8 11))) (.const (.int .u8 6))), (.upd 4 1 (.upd 0 1 (.const (.agg Ins.zero.arr)) (.const (.int .u8 133))) (.const (.int .i32 6))), (.upd 4 1 (.upd 2 1 (.upd 1 1 (.upd 0 1 (.const (.agg Ins.zero.arr)) (.const (.int .u8 24))) (.const (.int .u8 6))) (.const (.int .u8 1))) (.const (.int .i32 0))), (.upd 3 1 (.upd 2 1 (.upd 1 1 (.upd 0 1 (.const (.agg Ins.zero.arr)) (.const (.int .u8 121))) (.const (.int .u8 0))) (.const (.int .u8 10))) (.const (.int .i16 (-8)))), (.upd 2 1 (.upd 1 1 (.upd 0 1 (.const (.agg Ins.zero.arr)) (.const (.int .u8 123))) (.const (.int .u8 1))) (.const (.int .u8 6))), (.upd 2 1 (.upd 1 1 (.upd 0 1 (.const (.agg Ins.zero.arr)) (.const (.int .u8 15))) (.const (.int .u8 6))) (.const (.int .u8 9))), (.upd 4 1 (.upd 0 1 (.const (.agg Ins.zero.arr)) (.const (.int .u8 133))) (.const (.int .i32 1))), (.upd 1 1 (.upd 0 1 (.const (.agg Ins.zero.arr)) (.const (.int .u8 183))) (.const (.int .u8 10))), (.upd 0 1 (.const (.agg Ins.zero.arr)) (.const (.int .u8 255))), (.upd 2 1 (.upd 1 1 (.upd 0 1 (.const (.agg Ins.zero.arr)) (.const (.int .u8 121))) (.const (.int .u8 0))) (.const (.int .u8 6))), (.upd 0 1 (.const (.agg Ins.zero.arr)) (.const (.int .u8 149)))])
   (.seq
    (.row (some 8) 55 12 (.upd 55 5 (.upd 50 5 (.upd 45 5 (.upd 40 5 (.upd 35 5 (.upd 30 5 (.upd 25 5 (.upd 20 5 (.upd 15 5 (.upd 10 5 (.upd 5 5 (.upd 0 5 (.const (.agg (codeArr (List.replicate 12 Ins.zero)))) (.upd 0 1 (.const (.agg Ins.zero.arr)) (.const (.int .u8 149)))) (.upd 2 1 (.upd 1 1 (.upd 0 1 (.const (.agg Ins.zero.arr)) (.const (.int .u8 121))) (.const (.int .u8 0))) (.const (.int .u8 6)))) (.upd 0 1 (.const (.agg Ins.zero.arr)) (.const (.int .u8 255)))) (.upd 1 1 (.upd 0 1 (.const (.agg Ins.zero.arr)) (.const (.int .u8 183))) (.const (.int .u8 10)))) (.upd 4 1 (.upd 0 1 (.const (.agg Ins.zero.arr)) (.const (.int .u8 133))) (.const (.int .i32 1)))) (.upd 2 1 (.upd 1 1 (.upd 0 1 (.const (.agg Ins.zero.arr)) (.const (.int .u8 15))) (.const (.int .u8 6))) (.const (.int .u8 9)))) (.upd 2 1 (.upd 1 1 (.upd 0 1 (.const (.agg Ins.zero.arr)) (.const (.int .u8 123))) (.const (.int .u8 1))) (.const (.int .u8 6)))) (.upd 3 1 (.upd 2 1 (.upd 1 1 (.upd 0 1 (.const (.agg Ins.zero.arr)) (.const (.int .u8 121))) (.const (.int .u8 0))) (.const (.int .u8 10))) (.const (.int .i16 (-8))))) (.const (.agg Ins.zero.arr))) (.upd 4 1 (.upd 2 1 (.upd 1 1 (.upd 0 1 (.const (.agg Ins.zero.arr)) (.const (.int .u8 24))) (.const (.int .u8 6))) (.const (.int .u8 1))) (.const (.int .i32 0)))) (.upd 4 1 (.upd 0 1 (.const (.agg Ins.zero.arr)) (.const (.int .u8 133))) (.const (.int .i32 6)))) (.upd 2 1 (.upd 1 1 (.upd 0 1 (.const (.agg Ins.zero.arr)) (.const (.int .u8 191))) (.const (.int .u8 11))) (.const (.int .u8 6)))) [])
   (.set 9 (.var 8))))
  (.seq
   (.seq
    (.chk [(.var 4)])
   (.seq
    (.row (some 10) 55 2 (.upd 5 5 (.upd 0 5 (.const (.agg (codeArr (List.replicate 2 Ins.zero)))) (.ld (some 5) (.ixSl 5 (.var 9) (.conv .i64 (.bin .rem (.conv .u64 (.var 1)) (.const (.int .u64 12))))))) (.const (.agg Ins.zero.arr))) [])
   (.seq
    (.bi (some 11) .append [56, 56] 56 [(.var 4), (.var 10)] [])
   (.set 4 (.var 11)))))
  (.seq
   (.seq
    (.chk [(.upd 35 1 (.const (.agg zeroWorld)) (.const (.int .i64 100)))])
   (.seq
    (.call (some 12) 22 [(.var 4), (.upd 35 1 (.const (.agg zeroWorld)) (.const (.int .i64 100)))] [])
   (.seq
    (.new (some 13) 58 (.const (.agg (Res 0 0 0 0))) [])
   (.store 4 (.var 13) (.var 12) []))))
  (.seq
   (.seq
    (.call (some 14) 23 [] [])
   (.seq
    (.chk [(.pick (.var 14) (.eqx false (.cons 0 none .int (.cons 1 none .int (.cons 2 none .int (.cons 3 none .int .nil)))) (.ld (some 4) (.var 13)) (.upd 3 1 (.upd 2 1 (.upd 1 1 (.const (.agg (Res 0 0 0 0))) (.var 3)) (.var 3)) (.const (.int .i64 14)))) (.const (.bool false))), (.pick (.var 14) (.eqx false (.cons 0 none .int (.cons 1 none .int (.cons 2 none .int (.cons 3 none .int .nil)))) (.ld (some 4) (.var 13)) (.upd 3 1 (.upd 2 1 (.upd 1 1 (.const (.agg (Res 0 0 0 0))) (.var 3)) (.var 3)) (.const (.int .i64 14)))) (.const (.bool false))), (.pick (.var 14) (.upd 3 1 (.upd 2 1 (.upd 1 1 (.const (.agg (Res 0 0 0 0))) (.var 3)) (.var 3)) (.const (.int .i64 14))) (.const (.bool false)))])
   (.set 2 (.pick (.var 14) (.eqx false (.cons 0 none .int (.cons 1 none .int (.cons 2 none .int (.cons 3 none .int .nil)))) (.ld (some 4) (.var 13)) (.upd 3 1 (.upd 2 1 (.upd 1 1 (.const (.agg (Res 0 0 0 0))) (.var 3)) (.var 3)) (.const (.int .i64 14)))) (.const (.bool false))))))
  .ret))))))))
abbrev nv_tipstafflaw20_VmFaults : List Nat := [0, 1, 4, 5, 6, 7, 21, 22, 35, 8, 45, 46, 49, 9, 50]
abbrev nk_tipstafflaw20_VmFaults : List (List Nat) := [[1, 3, 4, 5]]
abbrev nr_tipstafflaw20_VmFaults : List Ex := [(.var 2)]
theorem nok_tipstafflaw20_VmFaults : compile Try.prog Try.f9 nv_tipstafflaw20_VmFaults nk_tipstafflaw20_VmFaults = some (nc_tipstafflaw20_VmFaults, nr_tipstafflaw20_VmFaults) := by kernel_rfl

end Go.Proofs.Ytepbpapbkonhnaa
