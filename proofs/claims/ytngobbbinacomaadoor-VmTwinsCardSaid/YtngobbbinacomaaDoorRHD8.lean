/- The document's chapter 12: the stack behind an instruction, plain. -/
import Derived.Test.YtngobbbinacomaaDoorRG8
namespace Go.Proofs.YtngobbbinacomaaDoor
open Go.RowKit Go.Proofs.YtngobbbinacomaaDoor.c11 Go.Proofs.YtngobbbinacomaaDoor.c10
set_option linter.unusedVariables false
set_option linter.unusedSimpArgs false

/-- What a plain one puts. -/
def putsP (cells : List CellD) (s : Int) (a : Nat) : Int := if s = 1 then a else if s = 26 then 6 else if s = 3 then (cellD cells a).kind else 5

def does1 (cells : List CellD) (s : Int) (a : Nat) (base : List Int) (b : Int) : Option (List Int) :=
  if s = 4 then (if b = (cellD cells a).kind then some base else none)
  else if s = 5 then (if b = 5 then some (base ++ [(cellD cells a).kind]) else none)
  else if s = 15 then (if b = 1 ∨ b = 2 ∨ b = 3 then some (base ++ [b]) else none)
  else if s = 19 then (if b = 1 then some base else none)
  else if s = 21 then some (base ++ [b, b])
  else if s = 22 then some base
  else if s = 23 then some (base ++ [(a : Int)])
  else if s = 25 then (if b = 5 then some base else none)
  else none
def does2 (cells : List CellD) (s : Int) (a : Nat) (base : List Int) (aa b : Int) : Option (List Int) :=
  if s = 6 then (if b = (cellD cells a).kind ∧ aa = 5 then some base else none)
  else if kindE s aa b = 0 then some (base ++ [kindM s aa b]) else none
def does0 (cells : List CellD) (s : Int) (a : Nat) (st : List Int) : Option (List Int) :=
  if s = 1 ∨ s = 26 ∨ s = 2 ∨ s = 24 ∨ s = 3 then some (st ++ [putsP cells s a]) else some st
/-- The stack behind an instruction, if it may stand there. -/
def doesP (cells : List CellD) (s : Int) (a : Nat) (st : List Int) : Option (List Int) :=
  (if takesN s = 0 then does0 cells s a st
   else if takesN s = 1 then (match st.reverse with | b :: r => does1 cells s a r.reverse b | [] => none)
   else (match st.reverse with | b :: aa :: r => does2 cells s a r.reverse aa b | _ => none)).bind fun o => if o.length ≤ 8 then some o else none
end Go.Proofs.YtngobbbinacomaaDoor
