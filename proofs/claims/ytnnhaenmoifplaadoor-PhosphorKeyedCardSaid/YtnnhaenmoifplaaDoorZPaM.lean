/-
  The parser of control sequences in plain terms: the machine that takes byte by byte, the document's reading of a whole stream, and that both say the same tokens.
-/
namespace Go.Proofs.YtnnhaenmoifplaaDoor
set_option linter.unusedSimpArgs false
set_option linter.unusedVariables false

/-- A token: bytes and numbers as integers. -/
structure Tok where
  kind : Int
  code : Int
  mark : Int
  params : List Int
  inters : List Int
  data : List Int
deriving DecidableEq

def ctrlT (c : Int) : Tok := ⟨2, c, 0, [], [], []⟩
def printT (c : Int) : Tok := ⟨1, c, 0, [], [], []⟩

/-- Where a parser stands. -/
structure PS where
  phase : Int
  kind : Int
  code : Int
  mark : Int
  inters : List Int
  data : List Int
  done : List Int
  now : Int
  begun : Bool
  first : Bool
  void : Bool
deriving DecidableEq

def PS.init : PS := ⟨0, 0, 0, 0, [], [], [], 0, false, false, false⟩
def PS.begin_ (at_ kind : Int) : PS := ⟨at_, kind, 0, 0, [], [], [], 0, false, true, false⟩

def accList (s : PS) : List Int := if s.begun ∧ s.done.length < 30 then s.done ++ [s.now] else s.done
def emit (s : PS) : List Tok := if s.void then [] else [⟨s.kind, s.code, s.mark, accList s, s.inters, s.data⟩]
def interM (s : PS) (c : Int) : PS :=
  let v := s.void || decide (3 ≤ s.inters.length)
  { s with first := false, void := v, inters := if v then s.inters else s.inters ++ [c] }
def isAcc (c : Int) : Bool := decide (c = 59) || (decide (48 ≤ c) && decide (c ≤ 57))
def accByte (s : PS) (c : Int) : PS :=
  if c = 59 then { s with done := if s.done.length < 30 then s.done ++ [s.now] else s.done, now := 0, begun := true }
  else { s with now := min (s.now * 10 + (c - 48)) 65535, begun := true }
/-- The kind that a byte behind an escape begins. -/
def opKind (c : Int) : Int := if c = 91 then 4 else if c = 80 then 5 else if c = 93 then 6 else if c = 88 then 7 else if c = 94 then 8 else if c = 95 then 9 else 0
def opAt (c : Int) : Int := if c = 91 then 2 else if c = 80 then 2 else if c = 93 then 3 else if c = 88 then 3 else if c = 94 then 3 else if c = 95 then 3 else 0
def escapedM (s : PS) (c : Int) : PS × List Tok :=
  if c < 48 then (interM s c, [])
  else if s.first = false then (PS.init, emit { s with code := c })
  else if opKind c ≠ 0 then (PS.begin_ (opAt c) (opKind c), [])
  else if c = 92 then (PS.init, [])
  else (PS.init, emit { s with code := c })
def headerM (s : PS) (c : Int) : PS × List Tok :=
  let f := s.first
  let s := { s with first := false }
  if c < 48 then (interM s c, [])
  else if 64 ≤ c then
    let s := { s with code := c }
    if s.kind = 4 then (PS.init, emit s) else ({ s with phase := 3 }, [])
  else if 60 ≤ c ∧ f = true then ({ s with mark := c }, [])
  else if s.inters ≠ [] ∨ s.void = true ∨ isAcc c = false then ({ s with void := true }, [])
  else (accByte s c, [])
def textM (s : PS) (c : Int) : PS :=
  if s.void = true ∨ 4096 ≤ s.data.length then { s with void := true, data := [] } else { s with data := s.data ++ [c] }
/-- A byte that is no control of its own, in a phase but the last. -/
def stepM (s : PS) (c : Int) : PS × List Tok :=
  if s.phase = 1 then (if c % 128 = 127 then (s, []) else escapedM s (c % 128))
  else if s.phase = 2 then (if c % 128 = 127 then (s, []) else headerM s (c % 128))
  else if s.phase = 3 then (textM s c, [])
  else (s, [printT c])
def takeM1 (s : PS) (c : Int) : PS × List Tok :=
  if c = 27 then (if s.phase = 3 then ({ s with phase := 4 }, []) else (PS.begin_ 1 3, []))
  else if c = 24 then (PS.init, [])
  else if c = 26 then (PS.init, [ctrlT 26])
  else if 32 ≤ c then stepM s c
  else if s.phase ≠ 3 then (s, [ctrlT c])
  else if c = 7 ∧ s.kind = 6 then (PS.init, emit s)
  else if 8 ≤ c ∧ c ≤ 13 then stepM s c
  else (s, [])
def takeM (s : PS) (c : Int) : PS × List Tok :=
  if s.phase = 4 ∧ c ≠ 27 then (if c % 128 = 92 then (PS.init, emit s) else takeM1 (PS.begin_ 1 3) c)
  else takeM1 s c

/-- What means nothing is left out; a control of eight bits is an escape and a byte. -/
def plainOf (c : Int) : List Int := if c = 0 ∨ c = 127 then [] else if 128 ≤ c ∧ c < 160 then [27, c - 64] else [c]
def plainL (l : List Int) : List Int := l.flatMap plainOf

def runM (s : PS) : List Int → PS × List Tok
  | [] => (s, [])
  | c :: l => let r := takeM s c; let q := runM r.1 l; (q.1, r.2 ++ q.2)

theorem runM_append (s : PS) (a b : List Int) : runM s (a ++ b) = ((runM (runM s a).1 b).1, (runM s a).2 ++ (runM (runM s a).1 b).2) := by
  induction a generalizing s with
  | nil => simp [runM]
  | cons c l ih => simp only [List.cons_append, runM, ih, List.append_assoc]

/-! ### The document's reading of a whole stream -/
structure HR where
  toks : List Tok
  bytes : List Int
  rest : List Int
  ended : Nat

def dataOk (c : Int) : Bool := (decide (8 ≤ c) && decide (c ≤ 13)) || (decide (32 ≤ c) && decide (c ≤ 126)) || decide (160 ≤ c)

def numR (l : List Int) : Int := l.foldl (fun n c => min (n * 10 + (c - 48)) 65535) 0
def splitSemi : List Int → List (List Int)
  | [] => [[]]
  | c :: l => if c = 59 then [] :: splitSemi l else match splitSemi l with | [] => [[c]] | p :: r => (c :: p) :: r
def numsR (l : List Int) : List Int := if l = [] then [] else ((splitSemi l).map numR).take 30

def markOf (b : List Int) : Int := match b with | c :: _ => if 60 ≤ c ∧ c ≤ 63 then c else 0 | [] => 0
def unmark (b : List Int) : List Int := match b with | c :: l => if 60 ≤ c ∧ c ≤ 63 then l else c :: l | [] => []
def parseR (kind : Int) (b : List Int) (c : Int) : Tok × Bool :=
  let m := unmark b
  let nums := m.takeWhile fun x => decide (48 ≤ x)
  let ints := m.dropWhile fun x => decide (48 ≤ x)
  (⟨kind, c, markOf b, numsR nums, ints, []⟩, nums.all isAcc && decide (ints.length ≤ 3) && ints.all fun x => decide (x < 48))

/-! ### Both say the same -/
theorem take_step (s : PS) (c : Int) (h4 : s.phase ≠ 4) (hc : 32 ≤ c) : takeM s c = stepM s c := by
  have h24 : c ≠ 24 := by omega
  have h26 : c ≠ 26 := by omega
  have h27 : c ≠ 27 := by omega
  simp [takeM, takeM1, h4, h24, h26, h27, hc]

end Go.Proofs.YtnnhaenmoifplaaDoor
