/- PROVED: the law ParseBlanks of layer 4 answers true for every string, as its given card says (the listed package variables as the program lays them); no other condition. The parser, the lexer and the writer of the awake test are walked whole. Text 1 of 16. -/
import Derived.Test.YtbplaekabeggkaaGreatDoorProg
import Derived.WalkKit
import Derived.WalkSpells
import Derived.WalkLawsBesides
import Derived.Deep.QuietTactic
import Derived.BigQuiet
import Derived.Lib.Hide
import Derived.KernelRfl
import Derived.Deep.RegionHeld3
set_option linter.unusedSimpArgs false
set_option linter.unusedVariables false
/-
  OWN: the parser as plain functions on lists: nothing of Go in it.
-/
namespace Go.Proofs.YtbplaekabeggkaaGreatDoor

structure Tok where
  kind : Int
  text : List UInt8
  at_ : Int
  deriving DecidableEq

def noTok (en : Int) : Tok := ⟨0, [], en⟩
def tokAt (toks : List Tok) (en : Int) (pos : Nat) : Tok := toks[pos]?.getD (noTok en)
def isTok (t : Tok) (s : List UInt8) : Bool := t.text == s && (t.kind == 2 || t.kind == 4)

/-- what a part of the parser comes to -/
inductive Res (α : Type) where
  | ok (a : α) (pos : Nat)
  | stop (at_ err : Int)
  deriving DecidableEq

/-- a tree -/
inductive T where
  | mk (op : Int) (name typ : List UInt8) (n at_ : Int) (kids : List T)

def T.op : T → Int | .mk o _ _ _ _ _ => o
def T.name : T → List UInt8 | .mk _ x _ _ _ _ => x
def T.typ : T → List UInt8 | .mk _ _ x _ _ _ => x
def T.n : T → Int | .mk _ _ _ x _ _ => x
def T.at_ : T → Int | .mk _ _ _ _ x _ => x
def T.kids : T → List T | .mk _ _ _ _ _ x => x

def kStar : List UInt8 := [42]
def kInt : List UInt8 := [105, 110, 116]
def kBool : List UInt8 := [98, 111, 111, 108]
def kClose : List UInt8 := [125]
def kOpen : List UInt8 := [123]
def kSemi : List UInt8 := [59]
def kStruct : List UInt8 := [115, 116, 114, 117, 99, 116]
def kLpar : List UInt8 := [40]
def kRpar : List UInt8 := [41]
def kComma : List UInt8 := [44]
def kDot : List UInt8 := [46]
def kEq : List UInt8 := [61]
def kDef : List UInt8 := [58, 61]
def kMinus : List UInt8 := [45]
def kBang : List UInt8 := [33]
def kOrs : List UInt8 := [124, 124]
def kAnds : List UInt8 := [38, 38]
def kIf : List UInt8 := [105, 102]
def kElse : List UInt8 := [101, 108, 115, 101]
def kFor : List UInt8 := [102, 111, 114]
def kPrint : List UInt8 := [112, 114, 105, 110, 116]
def kReturn : List UInt8 := [114, 101, 116, 117, 114, 110]
def kNil : List UInt8 := [110, 105, 108]
def kTrue : List UInt8 := [116, 114, 117, 101]
def kFalse : List UInt8 := [102, 97, 108, 115, 101]
def kNew : List UInt8 := [110, 101, 119]
def kRead : List UInt8 := [114, 101, 97, 100]
def kType : List UInt8 := [116, 121, 112, 101]
def kFunc : List UInt8 := [102, 117, 110, 99]
def kVar : List UInt8 := [118, 97, 114]

/-- the signs by their ops -/
def signsL : List (List UInt8) := [[], [43], [45], [42], [47], [37], [38], [124], [94], [60, 60], [62, 62], [61, 61], [33, 61], [60], [60, 61], [62], [62, 61], [45], [33]]
def signed2 (s : List UInt8) : Nat := ((signsL.take 17).findIdx? (· == s)).getD 0
def signed1 (s : List UInt8) : Nat := if s = [45] then 17 else if s = [33] then 18 else 0
def levelOp (op : Nat) : Nat :=
  if op = 3 ∨ op = 4 ∨ op = 5 ∨ op = 9 ∨ op = 10 ∨ op = 6 then 5 else if op = 1 ∨ op = 2 ∨ op = 7 ∨ op = 8 then 4 else if 11 ≤ op ∧ op ≤ 16 then 3 else 0
/-- how tightly a token binds, and its op -/
def levelTok (t : Tok) : Nat × Nat :=
  if t.kind ≠ 4 then (0, 0) else if t.text = kOrs then (1, 0) else if t.text = kAnds then (2, 0) else (levelOp (signed2 t.text), signed2 t.text)
def opLevel (l : Nat) : Int := if l = 1 then 26 else if l = 2 then 25 else if l = 0 then 0 else 24

def isDig (c : UInt8) : Bool := 48 ≤ c && c ≤ 57
/-- digits' number -/
def digVal (s : List UInt8) : Nat := s.foldl (fun n c => n * 10 + (c.toNat - 48)) 0
def isDigitsL (s : List UInt8) : Bool := s != [] && s.all isDig && (s.head? != some 48 || s == [48])
/-- num.Parse -/
def numParse (s : List UInt8) : Int × Int :=
  let d := if s.head? = some 45 then s.tail else s
  if !isDigitsL d || s == [45, 48] then (0, 1) else
  let v : Int := if s.head? = some 45 then -(digVal d : Int) else digVal d
  if -9223372036854775808 ≤ v ∧ v ≤ 9223372036854775807 then (v, 0) else (0, 2)

def pType (toks : List Tok) (en : Int) (pos : Nat) : Res (List UInt8) :=
  if isTok (tokAt toks en pos) kStar then
    if (tokAt toks en (pos + 1)).kind = 1 then .ok (42 :: (tokAt toks en (pos + 1)).text) (pos + 2) else .stop (tokAt toks en (pos + 1)).at_ 1
  else if isTok (tokAt toks en pos) kInt then .ok (tokAt toks en pos).text (pos + 1)
  else if isTok (tokAt toks en pos) kBool then .ok (tokAt toks en pos).text (pos + 1)
  else .stop (tokAt toks en pos).at_ 1

/-- a name and a type: the node's type, and how far it goes -/
def pPart (toks : List Tok) (en : Int) (pos : Nat) : Res (Tok × List UInt8) :=
  if (tokAt toks en pos).kind = 1 then
    match pType toks en (pos + 1) with
    | .ok s p => .ok (tokAt toks en pos, s) p
    | .stop a e => .stop a e
  else .stop (tokAt toks en pos).at_ 1

def leafT (op : Int) (x : Tok × List UInt8) : T := .mk op x.1.text x.2 0 x.1.at_ []

/-- the fields of a struct, up to the brace -/
def pFields : Nat → List Tok → Int → Nat → List T → Option (Res (List T))
  | 0, _, _, _, _ => none
  | k + 1, toks, en, pos, acc =>
    if isTok (tokAt toks en pos) kClose then some (.ok acc (pos + 1)) else
    match pPart toks en pos with
    | .stop a e => some (.stop a e)
    | .ok x p => if isTok (tokAt toks en p) kSemi then pFields k toks en (p + 1) (acc ++ [leafT 5 x]) else some (.stop (tokAt toks en p).at_ 1)

def pStruct (k : Nat) (toks : List Tok) (en : Int) (pos : Nat) : Option (Res T) :=
  if (tokAt toks en pos).kind = 1 then
    if isTok (tokAt toks en (pos + 1)) kStruct then
      if isTok (tokAt toks en (pos + 2)) kOpen then
        (pFields k toks en (pos + 3) []).map fun r => match r with
          | .ok ts p => .ok (.mk 2 (tokAt toks en pos).text [] 0 (tokAt toks en pos).at_ ts) p
          | .stop a e => .stop a e
      else some (.stop (tokAt toks en (pos + 2)).at_ 1)
    else some (.stop (tokAt toks en (pos + 1)).at_ 1)
  else some (.stop (tokAt toks en pos).at_ 1)

/-- an expression that begins with a key -/
def pKey (toks : List Tok) (en : Int) (pos : Nat) : Res T :=
  let t := tokAt toks en pos
  if t.text = kTrue then .ok (.mk 16 [] [] 1 t.at_ []) (pos + 1)
  else if t.text = kFalse then .ok (.mk 16 [] [] 0 t.at_ []) (pos + 1)
  else if t.text = kNew then
    if isTok (tokAt toks en (pos + 1)) kLpar then
      if (tokAt toks en (pos + 2)).kind = 1 then
        if isTok (tokAt toks en (pos + 3)) kRpar then .ok (.mk 19 (tokAt toks en (pos + 2)).text [] 0 (tokAt toks en (pos + 2)).at_ []) (pos + 4)
        else .stop (tokAt toks en (pos + 3)).at_ 1
      else .stop (tokAt toks en (pos + 2)).at_ 1
    else .stop (tokAt toks en (pos + 1)).at_ 1
  else if t.text = kRead then
    if isTok (tokAt toks en (pos + 1)) kLpar then
      if isTok (tokAt toks en (pos + 2)) kRpar then .ok (.mk 22 [] [] 0 t.at_ []) (pos + 3)
      else .stop (tokAt toks en (pos + 2)).at_ 1
    else .stop (tokAt toks en (pos + 1)).at_ 1
  else .ok (.mk 17 [] [] 0 t.at_ []) (pos + 1)

mutual
def pExpr : Nat → List Tok → Int → Nat → Nat → Nat → Option (Res T)
  | 0, _, _, _, _, _ => none
  | k + 1, toks, en, dep, least, pos =>
    match pUnary k toks en dep pos with
    | some (.ok t p) => pLoop k toks en dep least t p
    | o => o
def pLoop : Nat → List Tok → Int → Nat → Nat → T → Nat → Option (Res T)
  | 0, _, _, _, _, _, _ => none
  | k + 1, toks, en, dep, least, left, pos =>
    let l := levelTok (tokAt toks en pos)
    if l.1 = 0 ∨ l.1 < least then some (.ok left pos) else
    match pExpr k toks en dep (l.1 + 1) (pos + 1) with
    | some (.ok t p) => pLoop k toks en dep least (.mk (opLevel l.1) [] [] l.2 (tokAt toks en pos).at_ [left, t]) p
    | o => o
def pUnary : Nat → List Tok → Int → Nat → Nat → Option (Res T)
  | 0, _, _, _, _ => none
  | k + 1, toks, en, dep, pos =>
    if isTok (tokAt toks en pos) kMinus ∨ isTok (tokAt toks en pos) kBang then
      if 40 < dep + 1 then some (.stop (tokAt toks en pos).at_ 3) else
      match pUnary k toks en (dep + 1) (pos + 1) with
      | some (.ok t p) => some (.ok (.mk 23 [] [] (signed1 (tokAt toks en pos).text) (tokAt toks en pos).at_ [t]) p)
      | o => o
    else pPostfix k toks en dep pos
def pPostfix : Nat → List Tok → Int → Nat → Nat → Option (Res T)
  | 0, _, _, _, _ => none
  | k + 1, toks, en, dep, pos =>
    match pPrimary k toks en dep pos with
    | some (.ok t p) => pDots k toks en t p
    | o => o
def pDots : Nat → List Tok → Int → T → Nat → Option (Res T)
  | 0, _, _, _, _ => none
  | k + 1, toks, en, t, pos =>
    if isTok (tokAt toks en pos) kDot then
      if (tokAt toks en (pos + 1)).kind = 1 then pDots k toks en (.mk 20 (tokAt toks en (pos + 1)).text [] 0 (tokAt toks en (pos + 1)).at_ [t]) (pos + 2)
      else some (.stop (tokAt toks en (pos + 1)).at_ 1)
    else some (.ok t pos)
def pPrimary : Nat → List Tok → Int → Nat → Nat → Option (Res T)
  | 0, _, _, _, _ => none
  | k + 1, toks, en, dep, pos =>
    let t := tokAt toks en pos
    if t.kind = 3 then some (.ok (.mk 15 [] [] (numParse t.text).1 t.at_ []) (pos + 1))
    else if t.kind = 1 then pNamed k toks en dep pos
    else if isTok t kLpar then pBrackets k toks en dep pos
    else if isTok t kNil ∨ isTok t kTrue ∨ isTok t kFalse ∨ isTok t kNew ∨ isTok t kRead then some (pKey toks en pos)
    else some (.stop t.at_ 1)
def pNamed : Nat → List Tok → Int → Nat → Nat → Option (Res T)
  | 0, _, _, _, _ => none
  | k + 1, toks, en, dep, pos =>
    let t := tokAt toks en pos
    if isTok (tokAt toks en (pos + 1)) kLpar then
      if 40 < dep + 1 then some (.stop (tokAt toks en (pos + 1)).at_ 3) else
      match pArgs k toks en (dep + 1) [] (pos + 2) with
      | some (.ok ts p) => some (.ok (.mk 21 t.text [] 0 t.at_ ts) p)
      | some (.stop a e) => some (.stop a e)
      | none => none
    else some (.ok (.mk 18 t.text [] 0 t.at_ []) (pos + 1))
def pArgs : Nat → List Tok → Int → Nat → List T → Nat → Option (Res (List T))
  | 0, _, _, _, _, _ => none
  | k + 1, toks, en, dep, acc, pos =>
    if isTok (tokAt toks en pos) kRpar then some (.ok acc (pos + 1)) else
    match pExpr k toks en dep 1 pos with
    | some (.ok t p) =>
      if isTok (tokAt toks en p) kRpar then pArgs k toks en dep (acc ++ [t]) p
      else if isTok (tokAt toks en p) kComma then
        if isTok (tokAt toks en (p + 1)) kRpar then some (.stop (tokAt toks en (p + 1)).at_ 1) else pArgs k toks en dep (acc ++ [t]) (p + 1)
      else some (.stop (tokAt toks en p).at_ 1)
    | some (.stop a e) => some (.stop a e)
    | none => none
def pBrackets : Nat → List Tok → Int → Nat → Nat → Option (Res T)
  | 0, _, _, _, _ => none
  | k + 1, toks, en, dep, pos =>
    if isTok (tokAt toks en pos) kLpar then
      if 40 < dep + 1 then some (.stop (tokAt toks en pos).at_ 3) else
      match pExpr k toks en (dep + 1) 1 (pos + 1) with
      | some (.ok t p) => if isTok (tokAt toks en p) kRpar then some (.ok t (p + 1)) else some (.stop (tokAt toks en p).at_ 1)
      | o => o
    else some (.stop (tokAt toks en pos).at_ 1)
 end

/-- an assignment, or a call -/
def pChange (k : Nat) (toks : List Tok) (en : Int) (dep pos : Nat) : Option (Res T) :=
  match pPostfix k toks en dep pos with
  | some (.ok left p) =>
    if isTok (tokAt toks en pos) kLpar && (tokAt toks en (p - 1)).text == kRpar then some (.stop (tokAt toks en p).at_ 1)
    else if left.op = 21 ∧ isTok (tokAt toks en p) kEq = false then some (.ok (.mk 14 [] [] 0 left.at_ [left]) p)
    else if left.op = 18 then
      if isTok (tokAt toks en p) kEq then
        match pExpr k toks en dep 1 (p + 1) with
        | some (.ok t q) => some (.ok (.mk 8 left.name [] 0 left.at_ [t]) q)
        | o => o
      else some (.stop (tokAt toks en p).at_ 1)
    else if left.op = 20 then
      if isTok (tokAt toks en p) kEq then
        match pExpr k toks en dep 1 (p + 1) with
        | some (.ok t q) => some (.ok (.mk 9 left.name [] 0 left.at_ [left.kids.headD (.mk 0 [] [] 0 0 []), t]) q)
        | o => o
      else some (.stop (tokAt toks en p).at_ 1)
    else some (.stop (tokAt toks en p).at_ 1)
  | o => o

/-- a statement that ends with a semicolon -/
def pSimple (k : Nat) (toks : List Tok) (en : Int) (dep pos : Nat) : Option (Res T) :=
  let t := tokAt toks en pos
  if isTok t kPrint then
    match pBrackets k toks en dep (pos + 1) with
    | some (.ok x p) => some (.ok (.mk 12 [] [] 0 t.at_ [x]) p)
    | o => o
  else if isTok t kReturn then
    if isTok (tokAt toks en (pos + 1)) kSemi then some (.ok (.mk 13 [] [] 0 t.at_ []) (pos + 1)) else
    match pExpr k toks en dep 1 (pos + 1) with
    | some (.ok x p) => some (.ok (.mk 13 [] [] 0 t.at_ [x]) p)
    | o => o
  else if t.kind = 1 ∧ (tokAt toks en (pos + 1)).kind = 4 ∧ (tokAt toks en (pos + 1)).text = kDef then
    match pExpr k toks en dep 1 (pos + 2) with
    | some (.ok x p) => some (.ok (.mk 7 t.text [] 0 t.at_ [x]) p)
    | o => o
  else pChange k toks en dep pos

mutual
def pStmt : Nat → List Tok → Int → Nat → Nat → Option (Res T)
  | 0, _, _, _, _ => none
  | k + 1, toks, en, dep, pos =>
    let t := tokAt toks en pos
    if isTok t kIf then pBranch k toks en dep pos
    else if isTok t kFor then
      match pExpr k toks en dep 1 (pos + 1) with
      | some (.ok x p) =>
        match pBlock k toks en dep p with
        | some (.ok b q) => some (.ok (.mk 11 [] [] 0 t.at_ [x, b]) q)
        | o => o
      | o => o
    else
      match pSimple k toks en dep pos with
      | some (.ok x p) => if isTok (tokAt toks en p) kSemi then some (.ok x (p + 1)) else some (.stop (tokAt toks en p).at_ 1)
      | o => o
def pBranch : Nat → List Tok → Int → Nat → Nat → Option (Res T)
  | 0, _, _, _, _ => none
  | k + 1, toks, en, dep, pos =>
    let t := tokAt toks en pos
    if isTok t kIf then
      match pExpr k toks en dep 1 (pos + 1) with
      | some (.ok x p) =>
        match pBlock k toks en dep p with
        | some (.ok b q) =>
          if isTok (tokAt toks en q) kElse then
            match (if isTok (tokAt toks en (q + 1)) kIf then pBranch k toks en dep (q + 1) else pBlock k toks en dep (q + 1)) with
            | some (.ok y r) => some (.ok (.mk 10 [] [] 0 t.at_ [x, b, y]) r)
            | o => o
          else some (.ok (.mk 10 [] [] 0 t.at_ [x, b]) q)
        | o => o
      | o => o
    else some (.stop t.at_ 1)
def pBlock : Nat → List Tok → Int → Nat → Nat → Option (Res T)
  | 0, _, _, _, _ => none
  | k + 1, toks, en, dep, pos =>
    let t := tokAt toks en pos
    if isTok t kOpen then
      if 40 < dep + 1 then some (.stop t.at_ 3) else
      match pStmts k toks en (dep + 1) [] (pos + 1) with
      | some (.ok ts p) => some (.ok (.mk 6 [] [] 0 t.at_ ts) p)
      | some (.stop a e) => some (.stop a e)
      | none => none
    else some (.stop t.at_ 1)
def pStmts : Nat → List Tok → Int → Nat → List T → Nat → Option (Res (List T))
  | 0, _, _, _, _, _ => none
  | k + 1, toks, en, dep, acc, pos =>
    if isTok (tokAt toks en pos) kClose then some (.ok acc (pos + 1)) else
    match pStmt k toks en dep pos with
    | some (.ok x p) => pStmts k toks en dep (acc ++ [x]) p
    | some (.stop a e) => some (.stop a e)
    | none => none
 end

/-- the parameters of a func, up to the bracket -/
def pParams : Nat → List Tok → Int → List T → Nat → Option (Res (List T))
  | 0, _, _, _, _ => none
  | k + 1, toks, en, acc, pos =>
    if isTok (tokAt toks en pos) kRpar then some (.ok acc pos) else
    match pPart toks en pos with
    | .ok x p =>
      if isTok (tokAt toks en p) kRpar then pParams k toks en (acc ++ [leafT 5 x]) p
      else if isTok (tokAt toks en p) kComma then
        if isTok (tokAt toks en (p + 1)) kRpar then some (.stop (tokAt toks en (p + 1)).at_ 1) else pParams k toks en (acc ++ [leafT 5 x]) (p + 1)
      else some (.stop (tokAt toks en p).at_ 1)
    | .stop a e => some (.stop a e)

def pFunc (k : Nat) (toks : List Tok) (en : Int) (pos : Nat) : Option (Res T) :=
  let t := tokAt toks en pos
  if t.kind = 1 then
    if isTok (tokAt toks en (pos + 1)) kLpar then
      match pParams k toks en [] (pos + 2) with
      | some (.ok ts p) =>
        match (if isTok (tokAt toks en (p + 1)) kOpen then Res.ok [] (p + 1) else pType toks en (p + 1)) with
        | .ok ty q =>
          match pBlock k toks en 0 q with
          | some (.ok b r) => some (.ok (.mk 4 t.text ty 0 t.at_ (ts ++ [b])) r)
          | o => o
        | .stop a e => some (.stop a e)
      | some (.stop a e) => some (.stop a e)
      | none => none
    else some (.stop (tokAt toks en (pos + 1)).at_ 1)
  else some (.stop t.at_ 1)

def pDecl (k : Nat) (toks : List Tok) (en : Int) (pos : Nat) : Option (Res T) :=
  let t := tokAt toks en pos
  if isTok t kType then pStruct k toks en (pos + 1)
  else if isTok t kFunc then pFunc k toks en (pos + 1)
  else if isTok t kVar then
    match pPart toks en (pos + 1) with
    | .ok x p => if isTok (tokAt toks en p) kSemi then some (.ok (leafT 3 x) (p + 1)) else some (.stop (tokAt toks en p).at_ 1)
    | .stop a e => some (.stop a e)
  else some (.stop t.at_ 1)

/-- all declarations -/
def pProg : Nat → List Tok → Int → List T → Nat → Option (Res (List T))
  | 0, _, _, _, _ => none
  | k + 1, toks, en, acc, pos =>
    if pos < toks.length then
      match pDecl k toks en pos with
      | some (.ok x p) => pProg k toks en (acc ++ [x]) p
      | some (.stop a e) => some (.stop a e)
      | none => none
    else some (.ok acc pos)

end Go.Proofs.YtbplaekabeggkaaGreatDoor

namespace Go.Proofs.YtbplaekabeggkaaGreatDoor
open Go.RowKit

@[go_sem] theorem field35_0 (a b c : Value) (w : World) : (Instr.field 35 (.agg #[a, b, c]) 0).run Tryz.prog w = .ok a w := by kernel_rfl
@[go_sem] theorem field35_1 (a b c : Value) (w : World) : (Instr.field 35 (.agg #[a, b, c]) 1).run Tryz.prog w = .ok b w := by kernel_rfl
@[go_sem] theorem field35_2 (a b c : Value) (w : World) : (Instr.field 35 (.agg #[a, b, c]) 2).run Tryz.prog w = .ok c w := by kernel_rfl
@[go_sem] theorem field108_0 (a b c d e f : Value) (w : World) : (Instr.field 108 (.agg #[a, b, c, d, e, f]) 0).run Tryz.prog w = .ok a w := by kernel_rfl
@[go_sem] theorem field108_1 (a b c d e f : Value) (w : World) : (Instr.field 108 (.agg #[a, b, c, d, e, f]) 1).run Tryz.prog w = .ok b w := by kernel_rfl
@[go_sem] theorem field108_2 (a b c d e f : Value) (w : World) : (Instr.field 108 (.agg #[a, b, c, d, e, f]) 2).run Tryz.prog w = .ok c w := by kernel_rfl
@[go_sem] theorem field108_3 (a b c d e f : Value) (w : World) : (Instr.field 108 (.agg #[a, b, c, d, e, f]) 3).run Tryz.prog w = .ok d w := by kernel_rfl
@[go_sem] theorem field108_4 (a b c d e f : Value) (w : World) : (Instr.field 108 (.agg #[a, b, c, d, e, f]) 4).run Tryz.prog w = .ok e w := by kernel_rfl
@[go_sem] theorem field108_5 (a b c d e f : Value) (w : World) : (Instr.field 108 (.agg #[a, b, c, d, e, f]) 5).run Tryz.prog w = .ok f w := by kernel_rfl
@[go_sem] theorem field125_0 (a b : Value) (w : World) : (Instr.field 125 (.agg #[a, b]) 0).run Tryz.prog w = .ok a w := by kernel_rfl
@[go_sem] theorem field125_1 (a b : Value) (w : World) : (Instr.field 125 (.agg #[a, b]) 1).run Tryz.prog w = .ok b w := by kernel_rfl

/-- below block number n, but for the blocks of S, the world w' is as w was -/
structure Kp (n : Nat) (S : List Nat) (w w' : World) : Prop where
  os : w'.os = w.os
  tape : w'.tape = w.tape
  output : w'.output = w.output
  size : w.heap.size ≤ w'.heap.size
  block : ∀ k, k < n → k ∉ S → w'.heap[k]? = w.heap[k]?

namespace Kp
variable {n m : Nat} {S : List Nat} {a w w' : World}
theorem refl (n : Nat) (S : List Nat) (w : World) : Kp n S w w := ⟨rfl, rfl, rfl, Nat.le_refl _, fun _ _ _ => rfl⟩
theorem trans (h : Kp n S a w) (k : Kp n S w w') : Kp n S a w' :=
  ⟨k.os.trans h.os, k.tape.trans h.tape, k.output.trans h.output, Nat.le_trans h.size k.size,
   fun i hi hs => (k.block i hi hs).trans (h.block i hi hs)⟩
theorem mono {S' : List Nat} (h : Kp n S a w) (hm : m ≤ n) (hS : ∀ k, k ∈ S → k ∈ S') : Kp m S' a w :=
  ⟨h.os, h.tape, h.output, h.size, fun i hi hs => h.block i (Nat.lt_of_lt_of_le hi hm) (fun hk => hs (hS i hk))⟩
theorem le (h : Kp n S a w) (hm : m ≤ n) : Kp m S a w := h.mono hm (fun _ hk => hk)
theorem of0 (h : Kp n [] a w) (hm : m ≤ n) : Kp m S a w := h.mono hm (fun _ hk => by cases hk)
/-- a callee's word, behind the caller's own way so far -/
theorem then_ (h : Kp n S a w) (k : Kp m S w w') (hm : n ≤ m) : Kp n S a w' := h.trans (k.le hm)
theorem then0 (h : Kp n S a w) (k : Kp m [] w w') (hm : n ≤ m) : Kp n S a w' := h.trans (k.of0 hm)
theorem alloc (h : Kp n S a w) (hn : n ≤ w.heap.size) (o : Obj) : Kp n S a (w.alloc o) :=
  h.trans ⟨rfl, rfl, rfl, by simp, fun k hk _ => Below.heap_alloc _ _ _ (Nat.lt_of_lt_of_le hk hn)⟩
theorem drew (h : Kp n S a w) : Kp n S a w.drew := ⟨h.os, h.tape, h.output, h.size, h.block⟩
theorem drewN (h : Kp n S a w) (q : Nat) : Kp n S a (w.drewN q) := ⟨h.os, h.tape, h.output, h.size, h.block⟩
theorem setCell (h : Kp n S a w) {p : Addr} (hp : n ≤ p.block ∨ p.block ∈ S) (u : Value) : Kp n S a (w.setCell p u) :=
  ⟨h.os, h.tape, h.output, by simpa [World.setCell] using h.size, fun k hk hs => by
    rw [Below.heap_setCell _ _ _ _ (by rintro rfl; rcases hp with hp | hp <;> first | exact hs hp | omega)]
    exact h.block k hk hs⟩
theorem grown {row : Option Nat} (h : Kp n S a w) (hn : n ≤ w.heap.size) (hg : w.grownBy w' row) (hr : ∀ k, row = some k → n ≤ k ∨ k ∈ S) : Kp n S a w' :=
  ⟨hg.os.trans h.os, hg.tape.trans h.tape, hg.output.trans h.output, Nat.le_trans h.size hg.size, fun k hk hs => by
    rw [hg.block k (Nat.lt_of_lt_of_le hk hn) (fun e => by rcases hr k e.symm with hh | hh <;> first | exact hs hh | omega)]
    exact h.block k hk hs⟩
theorem cell (h : Kp n S a w) (b o : Nat) (hb : b < n) (hs : b ∉ S) : w.cell? ⟨b, o, none⟩ = a.cell? ⟨b, o, none⟩ :=
  World.cell?_of_block (a := ⟨b, o, none⟩) (h.block b hb hs)
theorem frozen (h : Kp n S a w) (b o : Nat) (hb : b < n) (hs : b ∉ S) : w.frozen? ⟨b, o, none⟩ = a.frozen? ⟨b, o, none⟩ :=
  World.frozen?_of_block (a := ⟨b, o, none⟩) (h.block b hb hs)
/-- the walk's two rules behind a call that changes nothing old -/
theorem rules0 (h : Kp n [] a w) : (∀ b o, b < n → w.cell? ⟨b, o, none⟩ = a.cell? ⟨b, o, none⟩) ∧ (∀ b o, b < n → w.frozen? ⟨b, o, none⟩ = a.frozen? ⟨b, o, none⟩) :=
  ⟨fun b o hb => h.cell b o hb (by simp), fun b o hb => h.frozen b o hb (by simp)⟩
theorem rules1 {r : Nat} (h : Kp n [r] a w) : (∀ b o, b < n → b ≠ r → w.cell? ⟨b, o, none⟩ = a.cell? ⟨b, o, none⟩) ∧ (∀ b o, b < n → b ≠ r → w.frozen? ⟨b, o, none⟩ = a.frozen? ⟨b, o, none⟩) :=
  ⟨fun b o hb hr => h.cell b o hb (by simpa using hr), fun b o hb hr => h.frozen b o hb (by simpa using hr)⟩
end Kp

/-- bytes as a Go string -/
def B (l : List UInt8) : ByteArray := ⟨l.toArray⟩
@[go_sem] theorem B_toList (l : List UInt8) : (B l).toList = l := by rw [ByteArray.toList_eq]; rfl
@[go_sem] theorem B_size (l : List UInt8) : (B l).size = l.length := by simp [B, ByteArray.size]
theorem B_inj {a b : List UInt8} : B a = B b ↔ a = b := ⟨fun h => by have := congrArg ByteArray.toList h; rwa [B_toList, B_toList] at this, fun h => h ▸ rfl⟩
theorem B_of (s : ByteArray) : B s.toList = s := by rw [ByteArray.toList_eq]; rfl
theorem mk_toList (a : Array UInt8) : (⟨a⟩ : ByteArray).toList = a.toList := ByteArray.toList_eq _

@[reducible] def Tok.val (t : Tok) : Value := .agg #[.int .i64 t.kind, .string (B t.text), .int .i64 t.at_]

theorem cell_of_cells {w : World} {b : Nat} {c : Array Value} {t : TypeId} {f : Nat × Nat} (h : w.heap[b]? = some (.cells c t f)) (o : Nat) : w.cell? ⟨b, o, none⟩ = c[o]? := by
  simp [World.cell?, h]
theorem frozen_of_cells {w : World} {b : Nat} {c : Array Value} {t : TypeId} (h : w.heap[b]? = some (.cells c t (0, 0))) (o : Nat) : w.frozen? ⟨b, o, none⟩ = false := by
  simp [World.frozen?, h]
theorem heap_setCell_same {w : World} {b o : Nat} {c : Array Value} {t : TypeId} {f : Nat × Nat} (h : w.heap[b]? = some (.cells c t f)) (u : Value) :
    (w.setCell ⟨b, o, none⟩ u).heap[b]? = some (.cells (c.setIfInBounds o u) t f) := by
  simp [World.setCell, Array.getElem?_modify, h]

/-- the reader's block br, and its tokens: all below lim -/
structure Rdr (toks : List Tok) (en : Int) (br lim pos dep : Nat) (w : World) : Prop where
  lt : br < lim
  limle : lim ≤ w.heap.size
  small : toks.length ≤ 100000
  posle : pos ≤ toks.length
  deple : dep ≤ 41
  txt : ∀ (i : Nat) (t : Tok), toks[i]? = some t → t.text.length ≤ 100000
  num : ∀ (i : Nat) (t : Tok), toks[i]? = some t → t.kind = 3 → (numParse t.text).2 = 0
  row : ∃ bt cap sp, w.heap[br]? = some (.cells #[.slice sp toks.length cap, .int .i64 pos, .int .i64 en, .int .i64 dep] 75 (0, 0)) ∧
    (toks ≠ [] → sp = some ⟨bt, 0, none⟩) ∧ bt < lim ∧ bt ≠ br ∧
    ∀ i t, toks[i]? = some t → w.cell? ⟨bt, i * 3, none⟩ = some (.int .i64 t.kind) ∧ w.cell? ⟨bt, i * 3 + 1, none⟩ = some (.string (B t.text)) ∧ w.cell? ⟨bt, i * 3 + 2, none⟩ = some (.int .i64 t.at_)

theorem hA_old {w : World} {o : Obj} {k : Nat} (h : k < w.heap.size) : (w.alloc o).heap[k]? = w.heap[k]? := Below.heap_alloc _ _ _ h
theorem hA_new {w : World} {o : Obj} : (w.alloc o).heap[w.heap.size]? = some o := heap_alloc_new w o
theorem hS_ne {w : World} {b o : Nat} {u : Value} {k : Nat} (h : ¬ k = b) : (w.setCell ⟨b, o, none⟩ u).heap[k]? = w.heap[k]? := Below.heap_setCell _ _ _ _ h
theorem hS_eq {w : World} {b o : Nat} {u : Value} : (w.setCell ⟨b, o, none⟩ u).heap[b]? = (w.heap[b]?).map fun | .cells c t f => .cells (c.setIfInBounds o u) t f | x => x := by
  simp only [World.setCell, Array.getElem?_modify, if_true]; rfl
theorem hD {w : World} {k : Nat} : w.drew.heap[k]? = w.heap[k]? := rfl
theorem hDN {w : World} {n k : Nat} : (w.drewN n).heap[k]? = w.heap[k]? := rfl

theorem tok_lt {toks : List Tok} {en : Int} {pos : Nat} (h : (tokAt toks en pos).kind ≠ 0) : pos < toks.length := by
  rcases Nat.lt_or_ge pos toks.length with h' | h'
  · exact h'
  · exfalso; apply h; simp [tokAt, List.getElem?_eq_none h', noTok]

namespace Rdr
variable {toks : List Tok} {en : Int} {br lim pos dep n : Nat} {w w' : World}
theorem kp (h : Rdr toks en br lim pos dep w) (k : Kp n [] w w') (hn : lim ≤ n) : Rdr toks en br lim pos dep w' := by
  obtain ⟨bt, cap, sp, h1, h2, h3, h4, h5⟩ := h.row
  refine ⟨h.lt, Nat.le_trans h.limle k.size, h.small, h.posle, h.deple, h.txt, h.num, bt, cap, sp, ?_, h2, h3, h4, ?_⟩
  · rw [k.block br (Nat.lt_of_lt_of_le h.lt hn) (by simp)]; exact h1
  · intro i t ht
    have hb := Nat.lt_of_lt_of_le h3 hn
    rw [k.cell bt _ hb (by simp), k.cell bt _ hb (by simp), k.cell bt _ hb (by simp)]
    exact h5 i t ht
theorem alloc (h : Rdr toks en br lim pos dep w) (o : Obj) : Rdr toks en br lim pos dep (w.alloc o) := h.kp ((Kp.refl lim [] w).alloc h.limle o) (Nat.le_refl _)
theorem drew (h : Rdr toks en br lim pos dep w) : Rdr toks en br lim pos dep w.drew := h.kp ((Kp.refl lim [] w).drew) (Nat.le_refl _)
theorem drewN (h : Rdr toks en br lim pos dep w) (q : Nat) : Rdr toks en br lim pos dep (w.drewN q) := h.kp ((Kp.refl lim [] w).drewN q) (Nat.le_refl _)
theorem setCell (h : Rdr toks en br lim pos dep w) {p : Addr} (hp : lim ≤ p.block) (u : Value) : Rdr toks en br lim pos dep (w.setCell p u) := h.kp ((Kp.refl lim [] w).setCell (.inl hp) u) (Nat.le_refl _)
theorem grown (h : Rdr toks en br lim pos dep w) {row : Option Nat} (hg : w.grownBy w' row) (hr : ∀ k, row = some k → lim ≤ k) : Rdr toks en br lim pos dep w' :=
  h.kp ((Kp.refl lim [] w).grown h.limle hg (fun k e => .inl (hr k e))) (Nat.le_refl _)
theorem cells (h : Rdr toks en br lim pos dep w) :
    ∃ cap sp, w.cell? ⟨br, 0, none⟩ = some (.slice sp toks.length cap) ∧ w.cell? ⟨br, 1, none⟩ = some (.int .i64 pos) ∧ w.cell? ⟨br, 2, none⟩ = some (.int .i64 en) ∧ w.cell? ⟨br, 3, none⟩ = some (.int .i64 dep) ∧
      w.frozen? ⟨br, 1, none⟩ = false ∧ w.frozen? ⟨br, 3, none⟩ = false := by
  obtain ⟨bt, cap, sp, h1, -⟩ := h.row
  exact ⟨cap, sp, by rw [cell_of_cells h1]; rfl, by rw [cell_of_cells h1]; rfl, by rw [cell_of_cells h1]; rfl, by rw [cell_of_cells h1]; rfl, frozen_of_cells h1 _, frozen_of_cells h1 _⟩
theorem setAt (h : Rdr toks en br lim pos dep w) (o pos' dep' : Nat) (u : Value) (hp : pos' ≤ toks.length) (hd : dep' ≤ 41)
    (ho : ∀ sv : Value, (#[sv, .int .i64 pos, .int .i64 en, .int .i64 dep] : Array Value).setIfInBounds o u = #[sv, .int .i64 pos', .int .i64 en, .int .i64 dep']) : Rdr toks en br lim pos' dep' (w.setCell ⟨br, o, none⟩ u) := by
  obtain ⟨bt, cap, sp, h1, h2, h3, h4, h5⟩ := h.row
  refine ⟨h.lt, by simpa [World.setCell] using h.limle, h.small, hp, hd, h.txt, h.num, bt, cap, sp, ?_, h2, h3, h4, ?_⟩
  · rw [heap_setCell_same h1, ho]
  · intro i t ht
    have e : ∀ q, (w.setCell ⟨br, o, none⟩ u).cell? ⟨bt, q, none⟩ = w.cell? ⟨bt, q, none⟩ := fun q => World.cell?_of_block (a := ⟨bt, q, none⟩) (Below.heap_setCell _ _ _ _ h4)
    rw [e, e, e]; exact h5 i t ht
theorem setPos (h : Rdr toks en br lim pos dep w) (p : Nat) (hp : p ≤ toks.length) : Rdr toks en br lim p dep (w.setCell ⟨br, 1, none⟩ (.int .i64 p)) := h.setAt 1 p dep _ hp h.deple (fun _ => rfl)
theorem setDep (h : Rdr toks en br lim pos dep w) (p : Nat) (hp : p ≤ 41) : Rdr toks en br lim pos p (w.setCell ⟨br, 3, none⟩ (.int .i64 p)) := h.setAt 3 pos p _ h.posle hp (fun _ => rfl)
theorem text (h : Rdr toks en br lim pos dep w) (p : Nat) : (tokAt toks en p).text.length ≤ 100000 := by
  unfold tokAt
  cases e : toks[p]? with
  | none => simp [noTok]
  | some t => simpa using h.txt p t e
theorem numOk (h : Rdr toks en br lim pos dep w) (p : Nat) (hk : (tokAt toks en p).kind = 3) : (numParse (tokAt toks en p).text).2 = 0 := by
  unfold tokAt at hk ⊢
  cases e : toks[p]? with
  | none => rw [e] at hk; simp [noTok] at hk
  | some t => rw [e] at hk; simpa using h.num p t e hk
end Rdr

set_option maxHeartbeats 400000 in
theorem now_in (br bt n cap : Nat) (at_ k at2 : Int) (tx : ByteArray) (w : World)
   (h0 : w.cell? ⟨br, 0, none⟩ = some (.slice (some ⟨bt, 0, none⟩) n cap))
   (h1 : w.cell? ⟨br, 1, none⟩ = some (.int .i64 at_))
   (hb : br < w.heap.size) (hb2 : bt < w.heap.size)
   (hn0 : 0 ≤ at_) (hn : at_ < (n : Int)) (_hm : n ≤ 100000)
   (t0 : w.cell? ⟨bt, at_.toNat * 3, none⟩ = some (.int .i64 k))
   (t1 : w.cell? ⟨bt, at_.toNat * 3 + 1, none⟩ = some (.string tx))
   (t2 : w.cell? ⟨bt, at_.toNat * 3 + 2, none⟩ = some (.int .i64 at2)) :
   Calls Tryz.prog 136 #[.pointer (some ⟨br, 0, none⟩)] w fun e w' => e = .returned (.agg #[.int .i64 k, .string tx, .int .i64 at2]) ∧ Kp w.heap.size [] w w' := by
  go_enter Tryz.func136, Tryz.ntmps136
  go_wp2
  go_quiet (fail)
  go_wp2
  go_region
  all_goals go_wp2
  refine bodyPost_ret (v := .agg #[.int .i64 k, .string tx, .int .i64 at2]) (by simp [results, Tryz.results136, go_sem]) rfl ⟨rfl, ?_⟩
  exact (((((Kp.refl _ _ _).alloc (Nat.le_refl _) _).drewN _).setCell (.inl (Nat.le_refl _)) _).setCell (.inl (Nat.le_refl _)) _).setCell (.inl (Nat.le_refl _)) _

set_option maxHeartbeats 400000 in
theorem now_out (br n cap : Nat) (sp : Option Addr) (at_ en : Int) (w : World)
   (h0 : w.cell? ⟨br, 0, none⟩ = some (.slice sp n cap))
   (h1 : w.cell? ⟨br, 1, none⟩ = some (.int .i64 at_))
   (h2 : w.cell? ⟨br, 2, none⟩ = some (.int .i64 en))
   (hb : br < w.heap.size)
   (hn : (n : Int) ≤ at_) (_hm : n ≤ 100000) :
   Calls Tryz.prog 136 #[.pointer (some ⟨br, 0, none⟩)] w fun e w' => e = .returned (noTok en).val ∧ Kp w.heap.size [] w w' := by
  go_enter Tryz.func136, Tryz.ntmps136
  go_wp2
  go_quiet (fail)
  go_wp2
  refine bodyPost_ret (v := .agg #[.int .i64 0, .string ⟨#[]⟩, .int .i64 en]) (by simp [results, Tryz.results136, go_sem]) rfl ⟨rfl, ?_⟩
  exact (((((Kp.refl _ _ _).alloc (Nat.le_refl _) _).drewN _).setCell (.inl (Nat.le_refl _)) _).setCell (.inl (Nat.le_refl _)) _).setCell (.inl (Nat.le_refl _)) _

theorem now_c {toks : List Tok} {en : Int} {br lim pos dep : Nat} {w : World} (h : Rdr toks en br lim pos dep w) :
    Calls Tryz.prog 136 #[.pointer (some ⟨br, 0, none⟩)] w fun e w' => e = .returned (.agg #[.int .i64 (tokAt toks en pos).kind, .string (B (tokAt toks en pos).text), .int .i64 (tokAt toks en pos).at_]) ∧ Kp w.heap.size [] w w' := by
  obtain ⟨bt, cap, sp, h1, h2, h3, h4, h5⟩ := h.row
  have hs := h.small
  have hl := h.limle
  have hlt := h.lt
  by_cases hp : pos < toks.length
  · have hne : toks ≠ [] := by rintro rfl; simp at hp
    obtain rfl := h2 hne
    have hg : toks[pos]? = some toks[pos] := List.getElem?_eq_getElem hp
    obtain ⟨c0, c1, c2⟩ := h5 pos _ hg
    have := now_in br bt toks.length cap pos toks[pos].kind toks[pos].at_ (B toks[pos].text) w (by rw [cell_of_cells h1]; rfl) (by rw [cell_of_cells h1]; rfl) (by omega) (by omega) (by omega) (by omega) hs c0 c1 c2
    refine this.mono ?_
    rintro e w' ⟨he, hk⟩
    refine ⟨?_, hk⟩
    rw [he, tokAt, hg]; rfl
  · have := now_out br toks.length cap sp pos en w (by rw [cell_of_cells h1]; rfl) (by rw [cell_of_cells h1]; rfl) (by rw [cell_of_cells h1]; rfl) (by omega) (by omega) hs
    refine this.mono ?_
    rintro e w' ⟨he, hk⟩
    refine ⟨?_, hk⟩
    rw [he, tokAt, List.getElem?_eq_none (by omega)]; rfl

/-- closers: the proof script is the argument's default -/
theorem sza {p : Prop} (h : p := by first | omega | (simp; done) | (simp; omega)) : p := h
theorem kpa {n : Nat} {S : List Nat} {w w' : World} (h : Kp n S w w' := by (repeat' (first | exact Kp.refl _ _ _ | (refine Kp.setCell ?_ ?_ _; rotate_left; focus (first | (apply Or.inl; first | omega | (simp; done) | (simp; omega)) | (apply Or.inr; simp; done))) | (refine Kp.alloc ?_ ?_ _) | (refine Kp.drewN ?_ _) | (refine Kp.drew ?_) | (refine Kp.then_ ?_ (by assumption) ?_) | (refine Kp.then0 ?_ (by assumption) ?_) | assumption | omega | (simp; done) | (simp; omega)))) : Kp n S w w' := h
theorem rda {toks : List Tok} {en : Int} {br lim pos dep : Nat} {w : World} (h : Rdr toks en br lim pos dep w := by (repeat' (first | assumption | (refine Rdr.setCell ?_ ?_ _) | (refine Rdr.alloc ?_ _) | (refine Rdr.drewN ?_ _) | (refine Rdr.drew ?_) | (refine Rdr.kp ?_ (by assumption) ?_) | omega | (simp; done) | (simp; omega)))) : Rdr toks en br lim pos dep w := h
/-- what a taken operation leaves, written out -/
theorem pz {α : Type} : (∀ (l : List α) (i : Nat) (h : i < l.toArray.size), l.toArray[i] = l[i]'(by simpa using h)) ∧ (∀ (a : α) (l : List α), (a :: l)[0] = a) ∧ (∀ (a : α) (l : List α) (i : Nat) (h : i + 1 < (a :: l).length), (a :: l)[i + 1] = l[i]'(by simpa using h)) ∧
    (∀ (l : List α) (i : Nat) (a : α), l.toArray.setIfInBounds i a = (l.set i a).toArray) ∧ (∀ (x : α) (l : List α) (a : α), (x :: l).set 0 a = a :: l) ∧ (∀ (x : α) (l : List α) (i : Nat) (a : α), (x :: l).set (i + 1) a = x :: l.set i a) := by
  refine ⟨?_, ?_, ?_, ?_, ?_, ?_⟩ <;> intros <;> simp
theorem sz3 : (∀ (w : World) (o : Obj), (w.alloc o).heap.size = w.heap.size + 1) ∧ (∀ w : World, w.drew.heap.size = w.heap.size) ∧ (∀ (w : World) (a : Addr) (v : Value), (w.setCell a v).heap.size = w.heap.size) :=
  ⟨World.size_alloc, World.size_drew, World.size_setCell⟩

end Go.Proofs.YtbplaekabeggkaaGreatDoor

namespace Go.Proofs.YtbplaekabeggkaaGreatDoor
open Go.RowKit

theorem isTok_lt {toks : List Tok} {en : Int} {pos : Nat} {s : List UInt8} (h : isTok (tokAt toks en pos) s = true) : pos < toks.length := by
  apply tok_lt (en := en)
  intro h0
  simp [isTok, h0] at h

set_option maxHeartbeats 400000 in
theorem is_c {toks : List Tok} {en : Int} {br lim pos dep : Nat} {w : World} (h : Rdr toks en br lim pos dep w) (s : ByteArray) :
    Calls Tryz.prog 131 #[.pointer (some ⟨br, 0, none⟩), .string s] w fun e w' => e = .returned (.bool (isTok (tokAt toks en pos) s.toList)) ∧ Kp w.heap.size [] w w' := by
  go_enter Tryz.func131, Tryz.ntmps131
  have hc := now_c h
  generalize tokAt toks en pos = t at hc ⊢
  go_wp2_with (go_at_call 136; refine hc.mono ?_; rintro e w1 ⟨rfl, hk⟩)
  all_goals
    go_ret
    refine ⟨?_, hk.alloc hk.size _⟩
    unfold isTok
    simp [*]

set_option maxHeartbeats 400000 in
theorem take_c {toks : List Tok} {en : Int} {br lim pos dep : Nat} {w : World} (h : Rdr toks en br lim pos dep w) (hp : pos < toks.length) :
    Calls Tryz.prog 137 #[.pointer (some ⟨br, 0, none⟩)] w fun e w' => e = .returned (.agg #[.int .i64 (tokAt toks en pos).kind, .string (B (tokAt toks en pos).text), .int .i64 (tokAt toks en pos).at_]) ∧ Rdr toks en br lim (pos + 1) dep w' ∧ Kp w.heap.size [br] w w' := by
  have hc := now_c (h.alloc (.cells #[.int .i64 0, .string { data := #[] }, .int .i64 0] 35))
  have hlt := h.lt
  have hlim := h.limle
  have hsm := h.small
  generalize tokAt toks en pos = t at hc ⊢
  go_enter Tryz.func137, Tryz.ntmps137
  go_wp2_with fail
  refine hc.mono ?_
  rintro e w1 ⟨rfl, hk⟩
  obtain ⟨cap, sp, c0, c1, c2, c3, f1, f3⟩ := h.cells
  obtain ⟨r0, r1⟩ := hk.rules0
  have hz := hk.size
  simp at hz r0 r1
  have hlt1 : br < w1.heap.size := by omega
  have hlt2 : br < w.heap.size + 1 := by omega
  have hlt3 : w.heap.size < w1.heap.size := by omega
  have hlt4 : br < w.heap.size := by omega
  go_wp2
  have hr := (h.alloc _).kp hk (by simp; omega)
  refine bodyPost_ret (v := .agg #[.int .i64 t.kind, .string (B t.text), .int .i64 t.at_]) (by simp [results, Tryz.results137, go_sem, *]) rfl ⟨rfl, ?_, ?_⟩
  · exact ((((hr.setPos (pos + 1) hp).setCell (by simpa using hlim) _).setCell (by simpa using hlim) _).setCell (by simpa using hlim) _).alloc _
  · refine Kp.alloc ?_ (by simp; omega) _
    exact (((((((Kp.refl w.heap.size [br] w).alloc (Nat.le_refl _) _).then0 hk (by simp))).setCell (.inr (by simp)) _).setCell (.inl (Nat.le_refl _)) _).setCell (.inl (Nat.le_refl _)) _).setCell (.inl (Nat.le_refl _)) _

end Go.Proofs.YtbplaekabeggkaaGreatDoor

namespace Go.Proofs.YtbplaekabeggkaaGreatDoor
open Go.RowKit

/-- the chain of one panic of the parser -/
@[reducible] def stopV (at_ err : Int) : List PanicEntry := [{ v := .iface 77 (.agg #[.int .i64 at_, .int .i64 err]), recovered := false }]

set_option maxHeartbeats 400000 in
theorem fail_c {toks : List Tok} {en : Int} {br lim pos dep : Nat} {w : World} (h : Rdr toks en br lim pos dep w) :
    Calls Tryz.prog 102 #[.pointer (some ⟨br, 0, none⟩)] w fun e w' => e = .panicked (stopV (tokAt toks en pos).at_ 1) ∧ Kp w.heap.size [] w w' := by
  have hc := now_c h
  generalize tokAt toks en pos = t at hc ⊢
  go_enter Tryz.func102, Tryz.ntmps102
  go_wp2_with fail
  refine hc.mono ?_
  rintro e w1 ⟨rfl, hk⟩
  clear hc
  go_wp2
  exact ⟨rfl, rfl, hk⟩

set_option maxHeartbeats 400000 in
theorem accept_yes {toks : List Tok} {en : Int} {br lim pos dep : Nat} {w : World} (h : Rdr toks en br lim pos dep w) (s : ByteArray) (hs : isTok (tokAt toks en pos) s.toList = true) :
    Calls Tryz.prog 99 #[.pointer (some ⟨br, 0, none⟩), .string s] w fun e w' => e = .returned (.bool true) ∧ Rdr toks en br lim (pos + 1) dep w' ∧ Kp w.heap.size [br] w w' := by
  have hp := isTok_lt hs
  have hsm := h.small
  have hc := is_c h s
  rw [hs] at hc
  have hlt := h.lt
  have hlim := h.limle
  have hlt4 : br < w.heap.size := by omega
  go_enter Tryz.func99, Tryz.ntmps99
  go_wp2_with fail
  refine hc.mono ?_
  rintro e w1 ⟨rfl, hk⟩
  obtain ⟨cap, sp, c0, c1, c2, c3, f1, f3⟩ := h.cells
  obtain ⟨r0, r1⟩ := hk.rules0
  have hz := hk.size
  have hlt1 : br < w1.heap.size := by omega
  go_wp2
  go_ret
  have hr := h.kp hk (by omega)
  exact ⟨rfl, hr.setPos (pos + 1) hp, ((Kp.refl _ _ _).then0 hk (Nat.le_refl _)).setCell (.inr (by simp)) _⟩

set_option maxHeartbeats 400000 in
theorem accept_no {toks : List Tok} {en : Int} {br lim pos dep : Nat} {w : World} (h : Rdr toks en br lim pos dep w) (s : ByteArray) (hs : isTok (tokAt toks en pos) s.toList = false) :
    Calls Tryz.prog 99 #[.pointer (some ⟨br, 0, none⟩), .string s] w fun e w' => e = .returned (.bool false) ∧ Kp w.heap.size [] w w' := by
  have hc := is_c h s
  rw [hs] at hc
  go_enter Tryz.func99, Tryz.ntmps99
  go_wp2_with fail
  refine hc.mono ?_
  rintro e w1 ⟨rfl, hk⟩
  go_wp2
  go_ret
  exact ⟨rfl, hk⟩

set_option maxHeartbeats 400000 in
theorem expect_yes {toks : List Tok} {en : Int} {br lim pos dep : Nat} {w : World} (h : Rdr toks en br lim pos dep w) (s : ByteArray) (hs : isTok (tokAt toks en pos) s.toList = true) :
    Calls Tryz.prog 104 #[.pointer (some ⟨br, 0, none⟩), .string s] w fun e w' => e = .returned (.int .i64 (tokAt toks en pos).at_) ∧ Rdr toks en br lim (pos + 1) dep w' ∧ Kp w.heap.size [br] w w' := by
  have hp := isTok_lt hs
  have hc := is_c h s
  rw [hs] at hc
  have hlim := h.limle
  go_enter Tryz.func104, Tryz.ntmps104
  go_wp2_with fail
  refine hc.mono ?_
  rintro e w1 ⟨rfl, hk⟩
  have hr := h.kp hk hlim
  have ht := take_c hr hp
  go_wp2_with (go_at_call 137; refine ht.mono ?_; rintro e w2 ⟨rfl, hr2, hk2⟩)
  go_ret
  exact ⟨rfl, hr2, ((Kp.refl _ _ _).then0 hk (Nat.le_refl _)).then_ hk2 hk.size⟩

set_option maxHeartbeats 400000 in
theorem expect_no {toks : List Tok} {en : Int} {br lim pos dep : Nat} {w : World} (h : Rdr toks en br lim pos dep w) (s : ByteArray) (hs : isTok (tokAt toks en pos) s.toList = false) :
    Calls Tryz.prog 104 #[.pointer (some ⟨br, 0, none⟩), .string s] w fun e w' => e = .panicked (stopV (tokAt toks en pos).at_ 1) ∧ Kp w.heap.size [] w w' := by
  have hc := is_c h s
  rw [hs] at hc
  have hlim := h.limle
  go_enter Tryz.func104, Tryz.ntmps104
  go_wp2_with fail
  refine hc.mono ?_
  rintro e w1 ⟨rfl, hk⟩
  have hr := h.kp hk hlim
  have ht := fail_c hr
  go_wp2_with fail
  refine ht.mono ?_
  rintro e w2 ⟨rfl, hk2⟩
  go_wp2
  exact ⟨rfl, rfl, hk.then0 hk2 hk.size⟩

set_option maxHeartbeats 400000 in
theorem word_yes {toks : List Tok} {en : Int} {br lim pos dep : Nat} {w : World} (h : Rdr toks en br lim pos dep w) (hs : (tokAt toks en pos).kind = 1) :
    Calls Tryz.prog 133 #[.pointer (some ⟨br, 0, none⟩)] w fun e w' => e = .returned (.agg #[.int .i64 (tokAt toks en pos).kind, .string (B (tokAt toks en pos).text), .int .i64 (tokAt toks en pos).at_]) ∧ Rdr toks en br lim (pos + 1) dep w' ∧ Kp w.heap.size [br] w w' := by
  have hp : pos < toks.length := tok_lt (en := en) (by rw [hs]; decide)
  have hc := now_c (h.alloc (.cells #[.int .i64 0, .string { data := #[] }, .int .i64 0] 35))
  have ht := fun w1 (h1 : Rdr toks en br lim pos dep w1) => take_c h1 hp
  have hlim := h.limle
  generalize tokAt toks en pos = t at hc ht hs ⊢
  go_enter Tryz.func133, Tryz.ntmps133
  go_wp2_with fail
  refine hc.mono ?_
  rintro e w1 ⟨rfl, hk⟩
  have hr := (h.alloc (.cells #[.int .i64 0, .string { data := #[] }, .int .i64 0] 35)).kp hk (by simp; omega)
  have hb : (t.kind != 1) = false := by simp [hs]
  have HS := Lib.hid hs
  clear hs
  go_wp2_with fail
  refine (ht _ hr).mono ?_
  rintro e w2 ⟨rfl, hr2, hk2⟩
  have hlt := h.lt
  have hz := hk.size
  have hz2 := hk2.size
  simp at hz
  obtain ⟨r0, r1⟩ := hk.rules0
  obtain ⟨q0, q1⟩ := hk2.rules1
  simp at r0 r1
  have hlt1 : w.heap.size < w1.heap.size := by omega
  have hlt2 : w.heap.size ≠ br := by omega
  go_wp2
  refine bodyPost_ret (v := .agg #[.int .i64 t.kind, .string (B t.text), .int .i64 t.at_]) (by simp [results, Tryz.results133, go_sem, *]) rfl ⟨rfl, ?_, ?_⟩
  · exact ((hr2.setCell (by simpa using hlim) _).setCell (by simpa using hlim) _).setCell (by simpa using hlim) _
  · exact ((((((Kp.refl w.heap.size [br] w).alloc (Nat.le_refl _) _).then0 hk (by simp)).then_ hk2 (by omega)).setCell (.inl (Nat.le_refl _)) _).setCell (.inl (Nat.le_refl _)) _).setCell (.inl (Nat.le_refl _)) _

set_option maxHeartbeats 400000 in
theorem word_no {toks : List Tok} {en : Int} {br lim pos dep : Nat} {w : World} (h : Rdr toks en br lim pos dep w) (hs : (tokAt toks en pos).kind ≠ 1) :
    Calls Tryz.prog 133 #[.pointer (some ⟨br, 0, none⟩)] w fun e w' => e = .panicked (stopV (tokAt toks en pos).at_ 1) ∧ Kp w.heap.size [] w w' := by
  have h1 := h.alloc (.cells #[.int .i64 0, .string { data := #[] }, .int .i64 0] 35)
  have hc := now_c h1
  have ht := fun w1 (h1 : Rdr toks en br lim pos dep w1) => fail_c h1
  have hlim := h.limle
  generalize tokAt toks en pos = t at hc ht hs ⊢
  go_enter Tryz.func133, Tryz.ntmps133
  go_wp2_with fail
  refine hc.mono ?_
  rintro e w1 ⟨rfl, hk⟩
  have hr := h1.kp hk (by simp; omega)
  have hb : (t.kind != 1) = true := by simp [hs]
  have HS := Lib.hid hs
  clear hs
  go_wp2_with fail
  refine (ht _ hr).mono ?_
  rintro e w2 ⟨rfl, hk2⟩
  have hz := hk.size
  simp at hz
  go_wp2
  exact ⟨rfl, rfl, (((Kp.refl w.heap.size [] w).alloc (Nat.le_refl _) _).then0 hk (by simp)).then0 hk2 (by omega)⟩

theorem pointer_c (l : List UInt8) (w : World) (_hl : l.length ≤ 100000) :
    Calls Tryz.prog 157 #[.string (B l)] w fun e w' => e = .returned (.string (B (42 :: l))) ∧ w = w' := by
  go_enter Tryz.func157, Tryz.ntmps157
  go_wp2
  go_ret
  exact ⟨rfl, rfl⟩

end Go.Proofs.YtbplaekabeggkaaGreatDoor

namespace Go.Proofs.YtbplaekabeggkaaGreatDoor
open Go.RowKit

def PostS (toks : List Tok) (en : Int) (br lim dep : Nat) (w : World) (r : Res (List UInt8)) (e : Ending) (w' : World) : Prop :=
  match r with
  | .ok s p => e = .returned (.string (B s)) ∧ Rdr toks en br lim p dep w' ∧ Kp w.heap.size [br] w w'
  | .stop a er => e = .panicked (stopV a er) ∧ Kp w.heap.size [br] w w'

set_option maxRecDepth 100000 in
set_option maxHeartbeats 400000 in
theorem typ_c {toks : List Tok} {en : Int} {br lim pos dep : Nat} {w : World} (hR : Rdr toks en br lim pos dep w) (r : Res (List UInt8)) (hr : pType toks en pos = r) :
    Calls Tryz.prog 134 #[.pointer (some ⟨br, 0, none⟩)] w (PostS toks en br lim dep w r) := by
  have hlim := hR.limle
  unfold pType at hr
  by_cases g1 : isTok (tokAt toks en pos) kStar = true
  · rw [if_pos g1] at hr
    by_cases g2 : (tokAt toks en (pos + 1)).kind = 1
    · rw [if_pos g2] at hr
      subst hr
      have G2 := Lib.hid g2
      clear g2
      go_enter Tryz.func134, Tryz.ntmps134
      go_wp2_with fail
      refine (accept_yes hR ⟨#[42]⟩ (by rw [mk_toList]; exact g1)).mono ?_
      rintro e w1 ⟨rfl, hr1, hk1⟩
      have z1 := hk1.size
      try simp at z1
      go_wp2_with fail
      refine (word_yes hr1 G2.out).mono ?_
      rintro e w2 ⟨rfl, hr2, hk2⟩
      have z2 := hk2.size
      try simp at z2
      go_wp2_with fail
      refine (pointer_c _ _ (hR.text _)).mono ?_
      rintro e w3 ⟨rfl, rfl⟩
      go_wp2
      go_ret
      exact ⟨rfl, hr2, kpa⟩
    · rw [if_neg g2] at hr
      subst hr
      go_enter Tryz.func134, Tryz.ntmps134
      go_wp2_with fail
      refine (accept_yes hR ⟨#[42]⟩ (by rw [mk_toList]; exact g1)).mono ?_
      rintro e w1 ⟨rfl, hr1, hk1⟩
      have z1 := hk1.size
      try simp at z1
      go_wp2_with fail
      refine (word_no hr1 g2).mono ?_
      rintro e w2 ⟨rfl, hk2⟩
      have z2 := hk2.size
      try simp at z2
      go_wp2
      exact ⟨rfl, rfl, kpa⟩
  · rw [if_neg g1] at hr
    rw [Bool.not_eq_true] at g1
    have hi1 := fun w1 (h1 : Rdr toks en br lim pos dep w1) => is_c h1 ⟨#[105, 110, 116]⟩
    have hi2 := fun w1 (h1 : Rdr toks en br lim pos dep w1) => is_c h1 ⟨#[98, 111, 111, 108]⟩
    rw [mk_toList] at hi1 hi2
    by_cases g2 : isTok (tokAt toks en pos) kInt = true
    · rw [if_pos g2] at hr
      subst hr
      have hp := isTok_lt g2
      rw [show isTok (tokAt toks en pos) (#[105, 110, 116] : Array UInt8).toList = true from g2] at hi1
      clear g2 hi2
      go_enter Tryz.func134, Tryz.ntmps134
      go_wp2_with fail
      refine (accept_no hR ⟨#[42]⟩ (by rw [mk_toList]; exact g1)).mono ?_
      rintro e w1 ⟨rfl, hk1⟩
      have z1 := hk1.size
      try simp at z1
      go_wp2_with fail
      refine (hi1 _ (rda)).mono ?_
      rintro e w2 ⟨rfl, hk2⟩
      have z2 := hk2.size
      try simp at z2
      go_wp2_with fail
      refine (take_c (pos := pos) (dep := dep) (toks := toks) (en := en) (lim := lim) (rda) hp).mono ?_
      rintro e w3 ⟨rfl, hr3, hk3⟩
      have z3 := hk3.size
      try simp at z3
      go_wp2
      go_ret
      exact ⟨rfl, hr3, kpa⟩
    · rw [if_neg g2] at hr
      rw [Bool.not_eq_true] at g2
      rw [show isTok (tokAt toks en pos) (#[105, 110, 116] : Array UInt8).toList = false from g2] at hi1
      clear g2
      by_cases g3 : isTok (tokAt toks en pos) kBool = true
      · rw [if_pos g3] at hr
        subst hr
        have hp := isTok_lt g3
        rw [show isTok (tokAt toks en pos) (#[98, 111, 111, 108] : Array UInt8).toList = true from g3] at hi2
        clear g3
        go_enter Tryz.func134, Tryz.ntmps134
        go_wp2_with fail
        refine (accept_no hR ⟨#[42]⟩ (by rw [mk_toList]; exact g1)).mono ?_
        rintro e w1 ⟨rfl, hk1⟩
        have z1 := hk1.size
        try simp at z1
        go_wp2_with fail
        refine (hi1 _ (rda)).mono ?_
        rintro e w2 ⟨rfl, hk2⟩
        have z2 := hk2.size
        try simp at z2
        go_wp2_with fail
        refine (hi2 _ (rda)).mono ?_
        rintro e w3 ⟨rfl, hk3⟩
        have z3 := hk3.size
        try simp at z3
        go_wp2_with fail
        refine (take_c (pos := pos) (dep := dep) (toks := toks) (en := en) (lim := lim) (rda) hp).mono ?_
        rintro e w4 ⟨rfl, hr4, hk4⟩
        have z4 := hk4.size
        try simp at z4
        go_wp2
        go_ret
        exact ⟨rfl, hr4, kpa⟩
      · rw [if_neg g3] at hr
        subst hr
        rw [Bool.not_eq_true] at g3
        rw [show isTok (tokAt toks en pos) (#[98, 111, 111, 108] : Array UInt8).toList = false from g3] at hi2
        clear g3
        go_enter Tryz.func134, Tryz.ntmps134
        go_wp2_with fail
        refine (accept_no hR ⟨#[42]⟩ (by rw [mk_toList]; exact g1)).mono ?_
        rintro e w1 ⟨rfl, hk1⟩
        have z1 := hk1.size
        try simp at z1
        go_wp2_with fail
        refine (hi1 _ (rda)).mono ?_
        rintro e w2 ⟨rfl, hk2⟩
        have z2 := hk2.size
        try simp at z2
        go_wp2_with fail
        refine (hi2 _ (rda)).mono ?_
        rintro e w3 ⟨rfl, hk3⟩
        have z3 := hk3.size
        try simp at z3
        go_wp2_with fail
        refine (fail_c (pos := pos) (dep := dep) (toks := toks) (en := en) (lim := lim) (rda)).mono ?_
        rintro e w4 ⟨rfl, hk4⟩
        have z4 := hk4.size
        try simp at z4
        go_wp2
        exact ⟨rfl, rfl, kpa⟩

end Go.Proofs.YtbplaekabeggkaaGreatDoor

namespace Go.Proofs.YtbplaekabeggkaaGreatDoor
open Go.RowKit

set_option maxRecDepth 100000 in
set_option maxHeartbeats 400000 in
theorem node_c (op k at_ : Int) (tx : ByteArray) (sa : Option Addr) (sn sc : Nat) (w : World) :
    Calls Tryz.prog 132 #[.int .i64 op, .agg #[.int .i64 k, .string tx, .int .i64 at_], .slice sa sn sc] w fun e w' =>
      e = .returned (.agg #[.pointer (some ⟨w.heap.size + 2, 0, none⟩)]) ∧ w'.heap.size = w.heap.size + 3 ∧
      w'.heap[w.heap.size + 2]? = some (.cells #[.int .i64 op, .string tx, .string ⟨#[]⟩, .int .i64 0, .int .i64 at_, .slice sa sn sc] 108 (0, 0)) ∧ Kp w.heap.size [] w w' := by
  go_enter Tryz.func132, Tryz.ntmps132
  go_wp2
  refine bodyPost_ret (v := .agg #[.pointer (some ⟨w.heap.size + 2, 0, none⟩)]) (by simp [results, Tryz.results132, go_sem]) rfl ⟨rfl, by simp, ?_, kpa⟩
  have := heap_alloc_new ((w.alloc (Obj.cells #[Value.int IntKind.i64 k, Value.string tx, Value.int IntKind.i64 at_] 35)).alloc (Obj.cells #[Value.pointer (some { block := w.heap.size + 1 + 1, off := 0 })] 30)) (Obj.cells #[Value.int IntKind.i64 op, Value.string tx, Value.string { data := #[] }, Value.int IntKind.i64 0, Value.int IntKind.i64 at_, Value.slice sa sn sc] 108)
  simpa using this

set_option maxRecDepth 100000 in
set_option maxHeartbeats 400000 in
theorem plain_c (op at_ : Int) (sa : Option Addr) (sn sc : Nat) (w : World) :
    Calls Tryz.prog 73 #[.int .i64 op, .int .i64 at_, .slice sa sn sc] w fun e w' =>
      e = .returned (.agg #[.pointer (some ⟨w.heap.size + 1, 0, none⟩)]) ∧ w'.heap.size = w.heap.size + 2 ∧
      w'.heap[w.heap.size + 1]? = some (.cells #[.int .i64 op, .string ⟨#[]⟩, .string ⟨#[]⟩, .int .i64 0, .int .i64 at_, .slice sa sn sc] 108 (0, 0)) ∧ Kp w.heap.size [] w w' := by
  go_enter Tryz.func73, Tryz.ntmps73
  go_wp2
  refine bodyPost_ret (v := .agg #[.pointer (some ⟨w.heap.size + 1, 0, none⟩)]) (by simp [results, Tryz.results73, go_sem]) rfl ⟨rfl, by simp, ?_, kpa⟩
  have := heap_alloc_new (w.alloc (Obj.cells #[Value.pointer (some { block := w.heap.size + 1, off := 0 })] 30)) (Obj.cells #[Value.int IntKind.i64 op, Value.string ⟨#[]⟩, Value.string { data := #[] }, Value.int IntKind.i64 0, Value.int IntKind.i64 at_, Value.slice sa sn sc] 108)
  simpa using this

/-- a leaf node in one block of the call's own -/
def PostP (toks : List Tok) (en : Int) (br lim dep : Nat) (op : Int) (w : World) (r : Res (Tok × List UInt8)) (e : Ending) (w' : World) : Prop :=
  match r with
  | .ok (t, s) p => ∃ b, w.heap.size ≤ b ∧ b < w'.heap.size ∧ e = .returned (.agg #[.pointer (some ⟨b, 0, none⟩)]) ∧
      w'.heap[b]? = some (.cells #[.int .i64 op, .string (B t.text), .string (B s), .int .i64 0, .int .i64 t.at_, .slice none 0 0] 108 (0, 0)) ∧
      Rdr toks en br lim p dep w' ∧ Kp w.heap.size [br] w w'
  | .stop a er => e = .panicked (stopV a er) ∧ Kp w.heap.size [br] w w'

set_option maxRecDepth 100000 in
set_option maxHeartbeats 400000 in
theorem part_c {toks : List Tok} {en : Int} {br lim pos dep : Nat} {w : World} (op : Int) (hR : Rdr toks en br lim pos dep w) (r : Res (Tok × List UInt8)) (hr : pPart toks en pos = r) :
    Calls Tryz.prog 103 #[.pointer (some ⟨br, 0, none⟩), .int .i64 op] w (PostP toks en br lim dep op w r) := by
  have hlim := hR.limle
  unfold pPart at hr
  by_cases g1 : (tokAt toks en pos).kind = 1
  · rw [if_pos g1] at hr
    have G1 := Lib.hid g1
    clear g1
    cases hM : pType toks en (pos + 1) with
    | ok s p =>
      rw [hM] at hr
      have HM := Lib.hid hM
      clear hM
      subst hr
      have hbr := hR.lt
      have : ¬ w.heap.size = br := sza
      have : ¬ br = w.heap.size := sza
      go_enter Tryz.func103, Tryz.ntmps103
      go_wp2_with fail
      refine (word_yes (hR.alloc _) G1.out).mono ?_
      rintro e w1 ⟨rfl, hr1, hk1⟩
      have z1 := hk1.size
      try simp at z1
      have lc1_0 := fun o => hk1.cell (w.heap.size) o sza sza
      have lf1_0 := fun o => hk1.frozen (w.heap.size) o sza sza
      have ll1_0 : w.heap.size < w1.heap.size := sza
      try simp at lc1_0
      try simp at lf1_0
      have lb1_0 := hk1.block (w.heap.size) sza sza
      go_wp2_with fail
      refine (node_c _ _ _ _ _ _ _ _).mono ?_
      rintro e w2 ⟨rfl, s2, b2, hk2⟩
      have S2 : w1.heap.size + 3 ≤ w2.heap.size := by omega
      clear s2
      have z2 := hk2.size
      try simp at z2
      have lc2_0 := fun o => hk2.cell (w.heap.size) o sza sza
      have lf2_0 := fun o => hk2.frozen (w.heap.size) o sza sza
      have ll2_0 : w.heap.size < w2.heap.size := sza
      try simp at lc2_0
      try simp at lf2_0
      have lb2_0 := hk2.block (w.heap.size) sza sza
      have : ¬ w1.heap.size + 2 = w.heap.size := sza
      have : ¬ w.heap.size = w1.heap.size + 2 := sza
      have : ¬ w1.heap.size + 2 = br := sza
      have : ¬ br = w1.heap.size + 2 := sza
      have : ¬ w2.heap.size = w.heap.size := sza
      have : ¬ w.heap.size = w2.heap.size := sza
      have : ¬ w2.heap.size = w1.heap.size + 2 := sza
      have : ¬ w1.heap.size + 2 = w2.heap.size := sza
      have : ¬ w2.heap.size = br := sza
      have : ¬ br = w2.heap.size := sza
      have cb : w2.cell? ⟨w1.heap.size + 2, 2, none⟩ = some (.string ⟨#[]⟩) := by rw [cell_of_cells b2]; rfl
      have fb : w2.frozen? ⟨w1.heap.size + 2, 2, none⟩ = false := frozen_of_cells b2 _
      have n4 : w1.heap.size + 2 < w2.heap.size := by omega
      go_wp2_with fail
      go_region_held3 (fun W => W.cell? ⟨w2.heap.size, 0, none⟩ = some (.pointer (some ⟨w1.heap.size + 2, 0, none⟩))) (first | (simp; done) | (simp [World.cell?_setCell_other, World.cell?_alloc_lt, *]; done)) ((go_at_call 134; refine (typ_c (toks := toks) (en := en) (lim := lim) (dep := dep) (pos := pos + 1) (rda) _ HM.out).mono ?_; rintro e w3 ⟨rfl, hr3, hk3⟩; have z3 := hk3.size; try simp at z3; have lc3_0 := fun o => hk3.cell (w.heap.size) o sza sza; have lf3_0 := fun o => hk3.frozen (w.heap.size) o sza sza; have ll3_0 : w.heap.size < w3.heap.size := sza; try simp at lc3_0; try simp at lf3_0; have lb3_0 := hk3.block (w.heap.size) sza sza; have lc3_1 := fun o => hk3.cell (w1.heap.size + 2) o sza sza; have lf3_1 := fun o => hk3.frozen (w1.heap.size + 2) o sza sza; have ll3_1 : w1.heap.size + 2 < w3.heap.size := sza; try simp at lc3_1; try simp at lf3_1; have lb3_1 := hk3.block (w1.heap.size + 2) sza sza; have lc3_2 := fun o => hk3.cell (w2.heap.size) o sza sza; have lf3_2 := fun o => hk3.frozen (w2.heap.size) o sza sza; have ll3_2 : w2.heap.size < w3.heap.size := sza; try simp at lc3_2; try simp at lf3_2; have lb3_2 := hk3.block (w2.heap.size) sza sza))
      go_wp2
      refine bodyPost_ret (v := .agg #[.pointer (some ⟨w1.heap.size + 2, 0, none⟩)]) (by simp [results, Tryz.results103, go_sem, *]) rfl ?_
      refine ⟨w1.heap.size + 2, by omega, sza, rfl, by (simp only [hS_ne, hS_eq, hA_old, hA_new, hD, hDN, Option.map, not_false_eq_true, *]; rfl), rda, kpa⟩
    | stop a er =>
      rw [hM] at hr
      have HM := Lib.hid hM
      clear hM
      subst hr
      have hbr := hR.lt
      go_enter Tryz.func103, Tryz.ntmps103
      go_wp2_with fail
      refine (word_yes (hR.alloc _) G1.out).mono ?_
      rintro e w1 ⟨rfl, hr1, hk1⟩
      have z1 := hk1.size
      try simp at z1
      go_wp2_with fail
      refine (node_c _ _ _ _ _ _ _ _).mono ?_
      rintro e w2 ⟨rfl, s2, b2, hk2⟩
      have S2 : w1.heap.size + 3 ≤ w2.heap.size := by omega
      clear s2
      have z2 := hk2.size
      try simp at z2
      have : ¬ w1.heap.size + 2 = br := sza
      have : ¬ br = w1.heap.size + 2 := sza
      have : ¬ w2.heap.size = w1.heap.size + 2 := sza
      have : ¬ w1.heap.size + 2 = w2.heap.size := sza
      have : ¬ w2.heap.size = br := sza
      have : ¬ br = w2.heap.size := sza
      go_wp2_with fail
      refine wp_region_held_drew (S := (fun W => W.cell? ⟨w2.heap.size, 0, none⟩ = some (.pointer (some ⟨w1.heap.size + 2, 0, none⟩)))) (by kernel_rfl) (by (first | (simp; done) | (simp [World.cell?_setCell_other, World.cell?_alloc_lt, *]; done))) (fun hHeld => ?_)
      refine wpAnyH_take (i := 0) (v := ?_) rfl (by kernel_rfl) (by kernel_rfl) (by kernel_rfl) (fun _ _ _ h => h) (Or.inl ⟨by rfl, ?_⟩) (by assumption) ?_
      rotate_left
      · intro w hSw; (try dsimp only at hSw); go_simp; try with_reducible rfl
      try simp only [Act.put, pz]
      refine wpAnyH_take (i := 1) (v := ?_) rfl (by kernel_rfl) (by kernel_rfl) (by kernel_rfl) (fun _ _ _ h => h) (Or.inl ⟨by rfl, ?_⟩) (by assumption) ?_
      rotate_left
      · intro w hSw; (try dsimp only at hSw); go_simp; try with_reducible rfl
      try simp only [Act.put, pz]
      refine wpAnyH_take (i := 2) (v := ?_) rfl (by kernel_rfl) (by kernel_rfl) (by kernel_rfl) (fun _ _ _ h => h) (Or.inl ⟨by rfl, ?_⟩) (by assumption) ?_
      rotate_left
      · intro w hSw; (try dsimp only at hSw); go_simp; try with_reducible rfl
      try simp only [Act.put, pz]
      refine wpAnyH_ready (rs := [3]) (by kernel_rfl) (by simp) (AllReadyH.cons rfl (fun K hK => ?_) AllReadyH.nil)
      clear hK
      go_simp
      refine (typ_c (toks := toks) (en := en) (lim := lim) (dep := dep) (pos := pos + 1) (rda) _ HM.out).mono ?_
      rintro e w3 ⟨rfl, hk3⟩
      have z3 := hk3.size
      try simp at z3
      go_wp2
      exact ⟨rfl, rfl, kpa⟩
  · rw [if_neg g1] at hr
    subst hr
    go_enter Tryz.func103, Tryz.ntmps103
    go_wp2_with fail
    refine (word_no (hR.alloc _) g1).mono ?_
    rintro e w1 ⟨rfl, hk1⟩
    have z1 := hk1.size
    try simp at z1
    go_wp2
    exact ⟨rfl, rfl, kpa⟩
end Go.Proofs.YtbplaekabeggkaaGreatDoor

/-
  OWN: a region that draws its order: reads may be taken first where a condition S on the world holds; S is to be shown anew behind each operation but those of F, which all wait for what is taken.
-/
namespace Go.Proofs.YtbplaekabeggkaaGreatDoor
open Go
section
variable {P : Program} {ops : Array Oper} {Q : Exit → Act → World → Prop} {md : Region.Mode} {S : World → Prop} {F : List Nat}

def wpAnyU (P : Program) (md : Region.Mode) (ops : Array Oper) (Q : Exit → Act → World → Prop) (S : World → Prop) (F : List Nat) : Nat → Array Bool → Act → World → Prop
  | 0, listed, a, w => Region.ready md ops listed = [] ∧ Q .normal a w
  | fuel + 1, listed, a, w =>
    (Region.ready md ops listed = [] → Q .normal a w) ∧
    ∀ i ∈ Region.ready md ops listed, wpOp P ops Q i (fun a' w' => (F.contains i = false → S w') ∧ wpAnyU P md ops Q S F fuel (listed.setIfInBounds i true) a' w') a w

theorem wpAny_of_U : ∀ (fuel : Nat) (listed : Array Bool) (a : Act) (w : World), wpAnyU P md ops Q S F fuel listed a w → wpAny P md ops Q fuel listed a w
  | 0, _, _, _, h => h
  | fuel + 1, _, _, _, h => ⟨h.1, fun i hi => wpOp_mono (fun a' w' h' => wpAny_of_U fuel _ a' w' h'.2) (h.2 i hi)⟩

def waits (md : Region.Mode) (ops : Array Oper) (F : List Nat) (i : Nat) : Bool :=
  F.all fun j => ((ops[j]?).map fun o => o.after.any fun e => Region.binds md e && e.on == i).getD true

theorem waits_spec {i : Nat} (h : waits md ops F i = true) {j : Nat} {oj : Oper} (hj : ops[j]? = some oj) (hm : F.contains j = true) : ∃ e ∈ oj.after, Region.binds md e = true ∧ e.on = i := by
  unfold waits at h
  rw [List.all_eq_true] at h
  have := h j (by simpa using hm)
  simp only [hj, Option.map_some, Option.getD_some, Array.any_eq_true', Bool.and_eq_true, beq_iff_eq] at this
  obtain ⟨e, he, h1, h2⟩ := this
  exact ⟨e, he, h1, h2⟩

theorem wpAnyU_first {i : Nat} {oi : Oper} {v : Value} (hi : ops[i]? = some oi) (hsel : ∀ (j : Nat) (o : Oper) cs b, ops[j]? = some o → o.op ≠ .select cs b)
    (hQ : ∀ c a w, Q (.panic c) (a.put oi.dst v) w → Q (.panic c) a w) (hw : waits md ops F i = true) :
    ∀ (fuel : Nat) (listed : Array Bool) (a : Act) (w : World),
      (∀ j oj, ops[j]? = some oj → j ≠ i → listed.getD j true = false → (∀ e ∈ oj.after, Region.binds md e = true → e.on ≠ i) → oi.apart ops oj = true) →
      i ∈ Region.ready md ops listed → YieldsIf P ops S oi v a → S w →
      wpAnyU P md ops Q S F fuel (listed.setIfInBounds i true) (a.put oi.dst v) w → wpAnyU P md ops Q S F (fuel + 1) listed a w := by
  intro fuel
  induction fuel with
  | zero =>
    intro listed a w _ hr hy hS H
    refine ⟨fun h => (by rw [h] at hr; cases hr), fun j hj => ?_⟩
    by_cases hji : j = i
    · subst hji; exact hy.wpOp hi hS ⟨fun _ => hS, H⟩
    · have := ready_mono hj hji
      rw [H.1] at this
      cases this
  | succ fuel ih =>
    intro listed a w hfree hr hy hS H
    refine ⟨fun h => (by rw [h] at hr; cases hr), fun j hj => ?_⟩
    by_cases hji : j = i
    · subst hji; exact hy.wpOp hi hS ⟨fun _ => hS, H⟩
    · have h1 := H.2 j (ready_mono hj hji)
      obtain ⟨hjun, oj, hoj, hall⟩ := mem_ready.1 hj
      have hnot : ∀ e ∈ oj.after, Region.binds md e = true → e.on ≠ i := fun e he hb heq => by
        have h1 := hall e he hb
        have h0 := (mem_ready.1 hr).1
        rw [heq] at h1
        rcases Nat.lt_or_ge i listed.size with h' | h'
        · simp [h'] at h0 h1; rw [h0] at h1; cases h1
        · simp [Array.getElem?_eq_none h'] at h1
      have hF : F.contains j = false := by
        cases hc : F.contains j with
        | false => rfl
        | true =>
          obtain ⟨e, he, hb, ho⟩ := waits_spec hw hoj hc
          exact absurd ho (hnot e he hb)
      have h2 := wpOp_putIf hoj (hfree j oj hoj hji hjun hnot) (fun cs b => hsel i oi cs b hi) (fun cs b => hsel j oj cs b hoj) hQ hy h1
      have hfree' : ∀ k ok, ops[k]? = some ok → k ≠ i → (listed.setIfInBounds j true).getD k true = false →
          (∀ e ∈ ok.after, Region.binds md e = true → e.on ≠ i) → oi.apart ops ok = true := fun k ok hk hki hun hno => by
        refine hfree k ok hk hki ?_ hno
        by_cases hjk : j = k
        · subst hjk; exact hjun
        · rw [getD_set_ne true hjk] at hun; exact hun
      refine wpOp_mono (fun a' w' h3 => ⟨fun _ => h3.2.1 hF, ih (listed.setIfInBounds j true) a' w' hfree' (ready_mono hr (Ne.symm hji)) h3.1 (h3.2.1 hF) ?_⟩) h2
      rw [Array.setIfInBounds_comm _ _ hji]
      exact h3.2.2

/-- take number i first -/
theorem wpAnyU_take {i : Nat} {oi : Oper} {v : Value} {fuel : Nat} {listed : Array Bool} {a : Act} {w : World} (hi : ops[i]? = some oi)
    (hs : Region.noSelect ops = true) (hf : Region.free md ops listed i = true) (hr : (Region.ready md ops listed).contains i = true) (hw : waits md ops F i = true)
    (hQ : ∀ c a w, Q (.panic c) (a.put oi.dst v) w → Q (.panic c) a w) (hy : YieldsIf P ops S oi v a) (hS : S w)
    (h : wpAnyU P md ops Q S F fuel (listed.setIfInBounds i true) (a.put oi.dst v) w) : wpAnyU P md ops Q S F (fuel + 1) listed a w :=
  wpAnyU_first hi (Region.noSelect_spec hs) hQ hw fuel listed a w (Region.free_spec hi hf) (by simpa using hr) hy hS h

/-- .. its four closed facts in one -/
theorem tkU (i : Nat) {oi : Oper} {v : Value} {fuel : Nat} {listed : Array Bool} {a : Act} {w : World} (hi : ops[i]? = some oi)
    (hb : (Region.noSelect ops && Region.free md ops listed i && (Region.ready md ops listed).contains i && waits md ops F i) = true)
    (hQ : ∀ c a w, Q (.panic c) (a.put oi.dst v) w → Q (.panic c) a w) (hy : YieldsIf P ops S oi v a) (hS : S w)
    (h : wpAnyU P md ops Q S F fuel (listed.setIfInBounds i true) (a.put oi.dst v) w) : wpAnyU P md ops Q S F (fuel + 1) listed a w := by
  simp only [Bool.and_eq_true] at hb
  exact wpAnyU_take hi hb.1.1.1 hb.1.1.2 hb.1.2 hb.2 hQ hy hS h

/-- one alone may come up -/
theorem wpAnyU_one {i : Nat} {o : Oper} {fuel : Nat} {listed : Array Bool} {a : Act} {w : World} (hr : Region.ready md ops listed = [i]) (ho : ops[i]? = some o) (hg : o.guard = none)
    (h : ∀ K' : Act → World → Prop, Shut (∀ a w, (F.contains i = false → S w) → wpAnyU P md ops Q S F fuel (listed.setIfInBounds i true) a w → K' a w) → Oper.wp P o a w K' Q) :
    wpAnyU P md ops Q S F (fuel + 1) listed a w :=
  ⟨fun h0 => (by rw [hr] at h0; cases h0), fun j hj => by
    rw [hr] at hj
    obtain rfl := List.mem_singleton.1 hj
    refine wpOp_step ho (fun K' hK => ?_)
    rw [if_pos (by simp [Region.wanted, hg])]
    exact h K' (fun a w h1 h2 => hK a w ⟨h1, h2⟩)⟩

def AllU (P : Program) (md : Region.Mode) (ops : Array Oper) (Q : Exit → Act → World → Prop) (S : World → Prop) (F : List Nat) (fuel : Nat) (listed : Array Bool) (a : Act) (w : World) (rs : List Nat) : Prop :=
  ∀ i ∈ rs, wpOp P ops Q i (fun a' w' => (F.contains i = false → S w') ∧ wpAnyU P md ops Q S F fuel (listed.setIfInBounds i true) a' w') a w
theorem AllU.nil {fuel : Nat} {listed : Array Bool} {a : Act} {w : World} : AllU P md ops Q S F fuel listed a w [] := fun _ h => by cases h
theorem AllU.cons {fuel : Nat} {listed : Array Bool} {a : Act} {w : World} {i : Nat} {o : Oper} {rs : List Nat} (ho : ops[i]? = some o) (hg : o.guard = none)
    (h : ∀ K' : Act → World → Prop, Shut (∀ a w, (F.contains i = false → S w) → wpAnyU P md ops Q S F fuel (listed.setIfInBounds i true) a w → K' a w) → Oper.wp P o a w K' Q)
    (hs : AllU P md ops Q S F fuel listed a w rs) : AllU P md ops Q S F fuel listed a w (i :: rs) := fun j hj => by
  rcases List.mem_cons.1 hj with rfl | hj
  · refine wpOp_step ho (fun K' hK => ?_)
    rw [if_pos (by simp [Region.wanted, hg])]
    exact h K' (fun a w h1 h2 => hK a w ⟨h1, h2⟩)
  · exact hs j hj
theorem wpAnyU_rs {rs : List Nat} {fuel : Nat} {listed : Array Bool} {a : Act} {w : World} (hr : Region.ready md ops listed = rs) (hne : rs ≠ [])
    (h : AllU P md ops Q S F fuel listed a w rs) : wpAnyU P md ops Q S F (fuel + 1) listed a w :=
  ⟨fun h0 => absurd (hr ▸ h0) hne, hr ▸ h⟩

theorem wpAnyU_done {listed : Array Bool} {a : Act} {w : World} (hr : Region.ready md ops listed = []) (h : Q .normal a w) :
    ∀ fuel, wpAnyU P md ops Q S F fuel listed a w
  | 0 => ⟨hr, h⟩
  | _ + 1 => ⟨fun _ => h, by rw [hr]; simp⟩

theorem wp_region_U {id : Nat} {a : Act} {w : World} (hm : P.follows .mixedOrders = true) (hS : S w.drew)
    (h : S w.drew → wpAnyU P .any ops Q S F ops.size (Array.replicate ops.size false) a w.drew) : (Code.region id ops true).wp P Q a w :=
  wp_region_any hm (wpAny_of_U _ _ _ _ (h hS))

/-- the region's post cut by a word of one's own at its normal end -/
def CutQ (R : Act → World → Prop) (Q : Exit → Act → World → Prop) : Exit → Act → World → Prop
  | .normal, a, w => R a w
  | e, a, w => Q e a w
theorem wp_region_UR {R : Act → World → Prop} {id : Nat} {a : Act} {w : World} (hm : P.follows .mixedOrders = true) (hS : S w.drew) (hR : ∀ a w, R a w → Q .normal a w)
    (h : S w.drew → wpAnyU P .any ops (CutQ R Q) S F ops.size (Array.replicate ops.size false) a w.drew) : (Code.region id ops true).wp P Q a w :=
  Code.wp_mono (fun e a w h => by cases e <;> first | exact hR _ _ h | exact h) (wp_region_U hm hS h)

end
end Go.Proofs.YtbplaekabeggkaaGreatDoor
