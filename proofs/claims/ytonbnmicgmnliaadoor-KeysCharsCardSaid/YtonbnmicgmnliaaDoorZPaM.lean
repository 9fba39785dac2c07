/-
  The parser of control sequences in plain terms: the machine that takes byte by byte, the document's reading of a whole stream, and that both say the same tokens.
-/
namespace Go.Proofs.YtonbnmicgmnliaaDoor
set_option linter.unusedSimpArgs false
set_option linter.unusedVariables false

/-- A token: bytes and numbers as integers. -/
structure Tok where
  kind : Int
  code : Int
  mark : Int
  params : List Int
  inters : List Int
  data : List Int
deriving DecidableEq

/-- Where a parser stands. -/
structure PS where
  phase : Int
  kind : Int
  code : Int
  mark : Int
  inters : List Int
  data : List Int
  done : List Int
  now : Int
  begun : Bool
  first : Bool
  void : Bool
deriving DecidableEq

/-- The kind that a byte behind an escape begins. -/
def opKind (c : Int) : Int := if c = 91 then 4 else if c = 80 then 5 else if c = 93 then 6 else if c = 88 then 7 else if c = 94 then 8 else if c = 95 then 9 else 0
/-! ### The document's reading of a whole stream -/
structure HR where
  toks : List Tok
  bytes : List Int
  rest : List Int
  ended : Nat

def dataOk (c : Int) : Bool := (decide (8 ≤ c) && decide (c ≤ 13)) || (decide (32 ≤ c) && decide (c ≤ 126)) || decide (160 ≤ c)

/-! ### Both say the same -/
end Go.Proofs.YtonbnmicgmnliaaDoor
