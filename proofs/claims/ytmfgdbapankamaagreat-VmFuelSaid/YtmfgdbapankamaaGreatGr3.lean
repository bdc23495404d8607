/- Engine, part E: from a function's code to a command over slots. -/
import Derived.Test.YtmfgdbapankamaaGreatGr2
set_option linter.unusedSimpArgs false
set_option linter.unusedVariables false
namespace Go.Eng
def posV : List Nat → Nat → Option Nat
  | [], _ => none
  | x :: r, t => if x = t then some 0 else (posV r t).map (· + 1)
structure Ent where
  tmp : Nat
  path : List (Nat × Bool)
  ex : Ex
def findE (s : List Ent) (t : Nat) : Option Ent := s.find? (fun e => e.tmp == t)
def isPre (p q : List (Nat × Bool)) : Bool := p.all fun x => q.contains x
def lookT (V : List Nat) (s : List Ent) (p : List (Nat × Bool)) (t : Nat) : Option Ex :=
  match findE s t with
  | some en => if isPre en.path p then some en.ex else (posV V t).map .var
  | none => (posV V t).map .var
def look (V : List Nat) (s : List Ent) (p : List (Nat × Bool)) : Operand → Option Ex
  | .tmp t => lookT V s p t
  | .const v => some (.const v)
  | .global g => some (.const (.pointer (some ⟨g, 0, none⟩)))
  | .func f => some (.const (.func (.func f) #[] #[]))
def opPath (ops : Array Oper) (s : List Ent) (o : Oper) : Option (List (Nat × Bool)) :=
  match o.guard with
  | none => some []
  | some (j, b) => match (ops[j]?).bind (·.dst) with
    | some tg => match findE s tg with
      | some en => some (en.path ++ [(tg, b)])
      | none => some [(tg, b)]
    | none => none
def wrapP (V : List Nat) (s : List Ent) : List (Nat × Bool) → List (Nat × Bool) → Ex → Option Ex
  | _, [], e => some e
  | pre, (t, b) :: r, e => match lookT V s pre t, wrapP V s (pre ++ [(t, b)]) r e with
    | some g, some x => some (if b then .pick g x (.const (.bool false)) else .pick g (.const (.bool false)) x)
    | _, _ => none
def Ex.uses (i : Nat) : Ex → Bool
  | .var j => i == j
  | .const _ => false
  | .op1 _ x => x.uses i
  | .op2 _ x y => x.uses i || y.uses i
  | .op3 _ x y z => x.uses i || y.uses i || z.uses i
  | .eqx _ _ x y => x.uses i || y.uses i
  | .pick c a b => c.uses i || a.uses i || b.uses i
  | .ld _ x => x.uses i
  | .bstr x => x.uses i
def Ex.dep : Ex → Bool
  | .var _ => false
  | .const _ => false
  | .op1 _ x => x.dep
  | .op2 _ x y => x.dep || y.dep
  | .op3 _ x y z => x.dep || y.dep || z.dep
  | .eqx _ _ _ _ => true
  | .pick c a b => c.dep || a.dep || b.dep
  | .ld _ _ => true
  | .bstr _ => true
def valBeq : Value → Value → Bool
  | .int k n, .int k' n' => k == k' && n == n'
  | .bool a, .bool b => a == b
  | .pointer none, .pointer none => true
  | .nilFunc, .nilFunc => true
  | .nilIface, .nilIface => true
  | _, _ => false
def Ex.beq : Ex → Ex → Bool
  | .var i, .var j => i == j
  | .const a, .const b => valBeq a b
  | .op1 o x, .op1 o' x' => o == o' && x.beq x'
  | .op2 o x y, .op2 o' x' y' => o == o' && x.beq x' && y.beq y'
  | .op3 o x y z, .op3 o' x' y' z' => o == o' && x.beq x' && y.beq y' && z.beq z'
  | .eqx n d x y, .eqx n' d' x' y' => n == n' && d == d' && x.beq x' && y.beq y'
  | .pick c a b, .pick c' a' b' => c.beq c' && a.beq a' && b.beq b'
  | .ld s x, .ld s' x' => s == s' && x.beq x'
  | .bstr x, .bstr x' => x.beq x'
  | _, _ => false
def isC : Ex → Bool
  | .const _ => true
  | _ => false
def inside : Ex → Ex → Bool
  | e, .var i => e.beq (.var i) || isC e
  | e, .const v => e.beq (.const v) || isC e
  | e, .op1 o x => e.beq (.op1 o x) || inside e x
  | e, .op2 o x y => e.beq (.op2 o x y) || inside e x || inside e y
  | e, .op3 o x y z => e.beq (.op3 o x y z) || inside e x || inside e y || inside e z
  | e, .eqx n d x y => e.beq (.eqx n d x y) || inside e x || inside e y
  | e, .pick c a b => e.beq (.pick c a b) || inside e c || (match e with
      | .pick g x y => g.beq c && ((isC y && inside x a) || (isC x && inside y b))
      | _ => false)
  | e, .ld s x => e.beq (.ld s x) || inside e x
  | e, .bstr x => e.beq (.bstr x) || inside e x
def reduce : List Ex → List Ex → List Ex
  | [], _ => []
  | e :: r, cov => if isC e || cov.any (inside e) then reduce r cov else e :: reduce r (e :: cov)
def Cmd.covers : Cmd → List Ex
  | .set _ e => [e]
  | .call _ _ args _ => args
  | .dyn _ f args _ => f :: args
  | .bi _ _ _ _ args _ => args
  | .sem _ _ args _ => args
  | .store _ x v _ => [x, v]
  | .new _ _ e _ => [e]
  | .row _ _ _ e _ => [e]
  | _ => []
def seqC : Cmd → Cmd → Cmd
  | .skip, b => b
  | a, .skip => a
  | a, b => .seq a b
def chkC : List Ex → Cmd
  | [] => .skip
  | l => .chk l
def maskOf (l : List Nat) : Option Oper → Nat
  | none => 0
  | some o => o.after.toList.foldl (fun m e => if Region.binds .any e then m ||| (2 ^ e.on ||| l.getD e.on 0) else m) 0
def masksTo (ops : Array Oper) : Nat → List Nat
  | 0 => []
  | k + 1 => masksTo ops k ++ [maskOf (masksTo ops k) ops[k]?]
def waitsT (ops : Array Oper) (n i j : Nat) : Bool := ((masksTo ops n).getD i 0).testBit j
def stillOp (P : Program) : Op → Bool
  | .move _ | .assign _ | .pick _ _ _ | .nilCheck _ | .sliceToArrayPointer _ _ | .binOp _ _ _ _ _ | .unOp _ _ _ | .makeInterface _ _ | .makeFunc _ _ _ | .slice _ _ _ _ none
  | .fieldAddr _ _ _ | .field _ _ _ | .indexAddr _ _ _ | .index _ _ _ | .extract _ _ | .load _ _ | .build _ _ => true
  | .call { callee := .builtin b, argTypes, .. } => match b with
    | .len => match argTypes.toList with
      | [t] => match P.underlying t with
        | some (.map _ _) => false
        | _ => true
      | _ => true
    | .min | .max => true
    | _ => false
  | .convert _ d _ => match P.underlying d with
    | some (.slice _) => false
    | _ => true
  | _ => false
def stillEx (P : Program) (V : List Nat) (s : List Ent) (p : List (Nat × Bool)) : Op → Option Ex
  | .pick (.tmp c) a b => match look V s p (.tmp c), look V s (p ++ [(c, true)]) a, look V s (p ++ [(c, false)]) b with
    | some c, some a, some b => some (.pick c a b)
    | _, _, _ => none
  | .pick _ _ _ => none
  | op => opEx P (look V s p) op
def freshT (s : List Ent) (t : Nat) : Bool := s.all fun en => en.tmp != t && en.path.all fun x => x.1 != t
def killV (i t : Nat) (s : List Ent) : List Ent := s.filter fun en => !(en.ex.uses i) && en.tmp != t && en.path.all fun x => x.1 != t
def killT (t : Nat) (s : List Ent) : List Ent := s.filter fun en => en.tmp != t && en.path.all fun x => x.1 != t
def killW (s : List Ent) : List Ent := s.filter fun en => !en.ex.dep
def killE (V : List Nat) (dst : Option Nat) (s : List Ent) : List Ent :=
  match dst with
  | none => killW s
  | some t => match posV V t with
    | some i => killV i t (killW s)
    | none => killT t (killW s)
def isNilP (p : List (Nat × Bool)) : Bool :=
  match p with
  | [] => true
  | _ => false
def entP (p : List (Nat × Bool)) (t k : Nat) (s : List Ent) : List Ent := if isNilP p then s else ⟨t, p, .var k⟩ :: s
def entE (V : List Nat) (p : List (Nat × Bool)) (dst : Option Nat) (s : List Ent) : List Ent :=
  match dst with
  | none => s
  | some t => match posV V t with
    | none => s
    | some k => entP p t k s
def storeOk (o : Oper) : Bool :=
  match o.op with
  | .store _ _ _ => o.dst.isNone
  | _ => true
def flat : Ex → Bool
  | .ld _ a => !a.dep
  | .bstr a => !a.dep
  | .eqx _ _ x y => !x.dep && !y.dep
  | _ => false
inductive PT where
  | nil
  | one (i : Nat) (r : PT)
  | alt (a b : PT)
def PT.heads : PT → List Nat
  | .nil => []
  | .one i _ => [i]
  | .alt a b => a.heads ++ b.heads
def PT.depth : PT → Nat
  | .nil => 0
  | .one _ r => r.depth + 1
  | .alt a b => max a.depth b.depth
def PT.ofList : List Nat → PT
  | [] => .nil
  | i :: r => .one i (PT.ofList r)
def PT.allW (ops : Array Oper) (j : Nat) : PT → Bool
  | .nil => true
  | .one i r => waitsT ops ops.size i j && r.allW ops j
  | .alt a b => a.allW ops j && b.allW ops j
abbrev Live := List (Nat × Ex)
def liveOf (draw : Bool) (i : Nat) (o : Oper) (e : Ex) (live : Live) : Live := if draw && reader e && !isMove o.op then (i, e) :: live else live
def cOps (P : Program) (V : List Nat) (N : Nat) (ops : Array Oper) (draw : Bool) : PT → List Ent → List Ex → Live → List Nat → Option (Cmd × List Ent × List Ex)
  | .nil, s, pend, _, _ => some (.skip, s, pend)
  | .alt a b, s, pend, live, dead =>
    (cOps P V N ops draw a s pend live dead).bind fun x => (cOps P V N ops draw b s pend live dead).map fun y =>
      (.alt (seqC x.1 (chkC x.2.2)) (seqC y.1 (chkC y.2.2)), [], [])
  | .one i r, s, pend, live, dead =>
    (ops[i]?).bind fun o => (opPath ops s o).bind fun p =>
    if dead.all (waitsT ops ops.size i) && o.dst.all (fun t => decide (t < N) && p.all fun x => x.1 != t) then
      if stillOp P o.op then
        (stillEx P V s p o.op).bind fun e => (wrapP V s [] p e).bind fun x =>
          let live' := liveOf draw i o e live
          match o.dst with
          | none => cOps P V N ops draw r s (x :: pend) live' dead
          | some t => match posV V t with
            | some k =>
              (cOps P V N ops draw r (entP p t k (killV k t s)) [] (live'.filter fun y => !y.2.uses k) (dead ++ (live'.filter fun y => y.2.uses k).map (·.1))).bind fun z =>
              if isNilP p then some (seqC (chkC (reduce pend [e])) (seqC (.set k e) z.1), z.2)
              else (wrapP V s [] p (.const (.bool true))).map fun g => (seqC (chkC (reduce pend [g])) (seqC (.cond g (.set k e) (.clr [k])) z.1), z.2)
            | none =>
              if freshT s t then cOps P V N ops draw r (⟨t, p, e⟩ :: s) (x :: pend) live' dead else none
      else
        (opEff P (look V s p) o).bind fun mk => (wrapP V s [] p (.const (.bool true))).bind fun x =>
          let dst := o.dst.bind (posV V)
          let keep := live.filter fun y => !(waitsT ops ops.size i y.1 && r.allW ops y.1)
          let gone := live.filter fun y => waitsT ops ops.size i y.1 && r.allW ops y.1
          if keep.all (fun y => flat y.2) && storeOk o then
            let c0 := mk dst (keep.map (·.2))
            let keep' := keep.filter fun y => !(dst.any fun k => y.2.uses k)
            let gone' := keep.filter fun y => dst.any fun k => y.2.uses k
            (cOps P V N ops draw r (entE V p o.dst (killE V o.dst s)) [] keep' (dead ++ gone.map (·.1) ++ gone'.map (·.1))).map fun z =>
              if isNilP p then (seqC (chkC (reduce pend c0.covers)) (seqC c0 z.1), z.2)
              else (seqC (chkC (reduce pend [x])) (seqC (.cond x c0 (.clr dst.toList)) z.1), z.2)
          else none
    else none
def stillAt (P : Program) (ops : Array Oper) (i : Nat) : Bool := ((ops[i]?).map fun o => stillOp P o.op).getD false
def altL : List PT → PT
  | [] => .nil
  | [x] => x
  | x :: r => .alt x (altL r)
def piOf (P : Program) (ops : Array Oper) : Nat → Array Bool → PT
  | 0, _ => .nil
  | n + 1, listed =>
    match (Region.ready .any ops listed).find? (stillAt P ops) with
    | some i => .one i (piOf P ops n (listed.setIfInBounds i true))
    | none => altL ((Region.ready .any ops listed).map fun i => .one i (piOf P ops n (listed.setIfInBounds i true)))
def piOk (P : Program) (ops : Array Oper) : Bool → PT → Array Bool → Bool
  | br, .nil, listed => !br && (Region.ready .any ops listed).isEmpty
  | br, .one i r, listed =>
    (if br then !stillAt P ops i
     else if stillAt P ops i then (Region.ready .any ops listed).contains i && Region.free .any ops listed i
     else Region.ready .any ops listed == [i]) && piOk P ops false r (listed.setIfInBounds i true)
  | br, .alt a b, listed => (br || Region.ready .any ops listed == a.heads ++ b.heads) && piOk P ops true a listed && piOk P ops true b listed
structure St where
  ents : List Ent
  pend : List Ex
  ks : List (List Nat)
def cRegion (P : Program) (V : List Nat) (N : Nat) (ops : Array Oper) (draw : Bool) (st : St) : Option (Cmd × St) :=
  if draw then
    let r := piOf P ops ops.size (Array.replicate ops.size false)
    if piOk P ops false r (Array.replicate ops.size false) && Region.noSelect ops && P.follows .mixedOrders && decide (r.depth ≤ ops.size) then
      (cOps P V N ops true r [] [] [] []).map fun z => (seqC (chkC st.pend) (seqC .draw z.1), ⟨z.2.1, z.2.2, st.ks⟩)
    else none
  else (cOps P V N ops false (.ofList (List.range ops.size)) st.ents st.pend [] []).map fun z => (z.1, ⟨z.2.1, z.2.2, st.ks⟩)
def cCode (P : Program) (V : List Nat) (N : Nat) : Code → St → Option (Cmd × St)
  | .skip, st => some (.skip, st)
  | .region _ ops draw, st => cRegion P V N ops draw st
  | .seq a b, st => (cCode P V N a st).bind fun x => (cCode P V N b x.2).map fun y => (seqC x.1 y.1, y.2)
  | .cond c x y, st => (look V st.ents [] c).bind fun e =>
      (cCode P V N x ⟨st.ents, [], st.ks⟩).bind fun a => (cCode P V N y ⟨st.ents, [], a.2.ks⟩).map fun b =>
        (seqC (chkC (reduce st.pend [e])) (.cond e (seqC a.1 (chkC a.2.pend)) (seqC b.1 (chkC b.2.pend))), ⟨[], [], b.2.ks⟩)
  | .block id b, st => (cCode P V N b ⟨st.ents, [], st.ks⟩).map fun a => (seqC (chkC st.pend) (.block id (seqC a.1 (chkC a.2.pend))), ⟨[], [], a.2.ks⟩)
  | .loop b, st => match st.ks with
    | [] => none
    | k :: ks => (cCode P V N b ⟨[], [], ks⟩).map fun a => (seqC (chkC st.pend) (.loop k (seqC a.1 (chkC a.2.pend))), ⟨[], [], a.2.ks⟩)
  | .exit id, st => some (seqC (chkC st.pend) (.exit id), ⟨[], [], st.ks⟩)
  | .ret, st => some (seqC (chkC st.pend) .ret, ⟨[], [], st.ks⟩)
  | _, _ => none
def resEx (P : Program) (V : List Nat) : List ResultVar → Option (List Ex)
  | [] => some []
  | .tmp t :: r => match posV V t, resEx P V r with
    | some i, some es => some (.var i :: es)
    | _, _ => none
  | .cell a T :: r => match posV V a, aggOf P T, resEx P V r with
    | some i, some sz, some es => some (.ld sz (.var i) :: es)
    | _, _, _ => none
def compile (P : Program) (fn : Func) (V : List Nat) (ks : List (List Nat)) : Option (Cmd × List Ex) :=
  match fn.body with
  | some c => (cCode P V fn.ntmps c ⟨[], [], ks⟩).bind fun x => (resEx P V fn.results.toList).map fun rs => (seqC x.1 (chkC x.2.pend), rs)
  | none => none
end Go.Eng
