/-
  The parser of control sequences in plain terms: the machine that takes byte by byte, the document's reading of a whole stream, and that both say the same tokens.
-/
namespace Go.Proofs.YtfkecgkfcldffaaDoor
set_option linter.unusedSimpArgs false
set_option linter.unusedVariables false

/-- A token: bytes and numbers as integers. -/
structure Tok where
  kind : Int
  code : Int
  mark : Int
  params : List Int
  inters : List Int
  data : List Int
deriving DecidableEq

/-- Where a parser stands. -/
structure PS where
  phase : Int
  kind : Int
  code : Int
  mark : Int
  inters : List Int
  data : List Int
  done : List Int
  now : Int
  begun : Bool
  first : Bool
  void : Bool
deriving DecidableEq

def PS.init : PS := ⟨0, 0, 0, 0, [], [], [], 0, false, false, false⟩
/-! ### The document's reading of a whole stream -/
structure HR where
  toks : List Tok
  bytes : List Int
  rest : List Int
  ended : Nat

/-! ### Both say the same -/
/-- A byte of a plain stream. -/
def pb (c : Int) : Prop := 0 < c ∧ c ≠ 127 ∧ (c < 128 ∨ 160 ≤ c) ∧ c < 256

end Go.Proofs.YtfkecgkfcldffaaDoor
