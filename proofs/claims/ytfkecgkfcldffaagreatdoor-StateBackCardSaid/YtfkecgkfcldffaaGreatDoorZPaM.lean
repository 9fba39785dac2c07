/-
  The parser of control sequences in plain terms: the machine that takes byte by byte, the document's reading of a whole stream, and that both say the same tokens.
-/
namespace Go.Proofs.YtfkecgkfcldffaaGreatDoor
set_option linter.unusedSimpArgs false
set_option linter.unusedVariables false

/-- A token: bytes and numbers as integers. -/
structure Tok where
  kind : Int
  code : Int
  mark : Int
  params : List Int
  inters : List Int
  data : List Int
deriving DecidableEq

/-- Where a parser stands. -/
structure PS where
  phase : Int
  kind : Int
  code : Int
  mark : Int
  inters : List Int
  data : List Int
  done : List Int
  now : Int
  begun : Bool
  first : Bool
  void : Bool
deriving DecidableEq

def PS.init : PS := ⟨0, 0, 0, 0, [], [], [], 0, false, false, false⟩
def accList (s : PS) : List Int := if s.begun ∧ s.done.length < 30 then s.done ++ [s.now] else s.done
def isAcc (c : Int) : Bool := decide (c = 59) || (decide (48 ≤ c) && decide (c ≤ 57))
def accByte (s : PS) (c : Int) : PS :=
  if c = 59 then { s with done := if s.done.length < 30 then s.done ++ [s.now] else s.done, now := 0, begun := true }
  else { s with now := min (s.now * 10 + (c - 48)) 65535, begun := true }
/-! ### The document's reading of a whole stream -/
structure HR where
  toks : List Tok
  bytes : List Int
  rest : List Int
  ended : Nat

def numR (l : List Int) : Int := l.foldl (fun n c => min (n * 10 + (c - 48)) 65535) 0
def splitSemi : List Int → List (List Int)
  | [] => [[]]
  | c :: l => if c = 59 then [] :: splitSemi l else match splitSemi l with | [] => [[c]] | p :: r => (c :: p) :: r
def numsR (l : List Int) : List Int := if l = [] then [] else ((splitSemi l).map numR).take 30

/-! ### Both say the same -/
/-- A byte of a plain stream. -/
def pb (c : Int) : Prop := 0 < c ∧ c ≠ 127 ∧ (c < 128 ∨ 160 ≤ c) ∧ c < 256

end Go.Proofs.YtfkecgkfcldffaaGreatDoor
