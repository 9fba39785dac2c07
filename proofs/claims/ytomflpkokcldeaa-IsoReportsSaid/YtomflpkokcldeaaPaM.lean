/-
  The parser of control sequences in plain terms: the machine that takes byte by byte, the document's reading of a whole stream, and that both say the same tokens.
-/
namespace Go.Proofs.Ytomflpkokcldeaa
set_option linter.unusedSimpArgs false
set_option linter.unusedVariables false

/-- A token: bytes and numbers as integers. -/
structure Tok where
  kind : Int
  code : Int
  mark : Int
  params : List Int
  inters : List Int
  data : List Int
deriving DecidableEq

def ctrlT (c : Int) : Tok := ⟨2, c, 0, [], [], []⟩
def printT (c : Int) : Tok := ⟨1, c, 0, [], [], []⟩

/-- Where a parser stands. -/
structure PS where
  phase : Int
  kind : Int
  code : Int
  mark : Int
  inters : List Int
  data : List Int
  done : List Int
  now : Int
  begun : Bool
  first : Bool
  void : Bool
deriving DecidableEq

def PS.init : PS := ⟨0, 0, 0, 0, [], [], [], 0, false, false, false⟩
def PS.begin_ (at_ kind : Int) : PS := ⟨at_, kind, 0, 0, [], [], [], 0, false, true, false⟩

def accList (s : PS) : List Int := if s.begun ∧ s.done.length < 30 then s.done ++ [s.now] else s.done
def emit (s : PS) : List Tok := if s.void then [] else [⟨s.kind, s.code, s.mark, accList s, s.inters, s.data⟩]
def interM (s : PS) (c : Int) : PS :=
  let v := s.void || decide (3 ≤ s.inters.length)
  { s with first := false, void := v, inters := if v then s.inters else s.inters ++ [c] }
def isAcc (c : Int) : Bool := decide (c = 59) || (decide (48 ≤ c) && decide (c ≤ 57))
def accByte (s : PS) (c : Int) : PS :=
  if c = 59 then { s with done := if s.done.length < 30 then s.done ++ [s.now] else s.done, now := 0, begun := true }
  else { s with now := min (s.now * 10 + (c - 48)) 65535, begun := true }
/-- The kind that a byte behind an escape begins. -/
def opKind (c : Int) : Int := if c = 91 then 4 else if c = 80 then 5 else if c = 93 then 6 else if c = 88 then 7 else if c = 94 then 8 else if c = 95 then 9 else 0
def opAt (c : Int) : Int := if c = 91 then 2 else if c = 80 then 2 else if c = 93 then 3 else if c = 88 then 3 else if c = 94 then 3 else if c = 95 then 3 else 0
def escapedM (s : PS) (c : Int) : PS × List Tok :=
  if c < 48 then (interM s c, [])
  else if s.first = false then (PS.init, emit { s with code := c })
  else if opKind c ≠ 0 then (PS.begin_ (opAt c) (opKind c), [])
  else if c = 92 then (PS.init, [])
  else (PS.init, emit { s with code := c })
def headerM (s : PS) (c : Int) : PS × List Tok :=
  let f := s.first
  let s := { s with first := false }
  if c < 48 then (interM s c, [])
  else if 64 ≤ c then
    let s := { s with code := c }
    if s.kind = 4 then (PS.init, emit s) else ({ s with phase := 3 }, [])
  else if 60 ≤ c ∧ f = true then ({ s with mark := c }, [])
  else if s.inters ≠ [] ∨ s.void = true ∨ isAcc c = false then ({ s with void := true }, [])
  else (accByte s c, [])
def textM (s : PS) (c : Int) : PS :=
  if s.void = true ∨ 4096 ≤ s.data.length then { s with void := true, data := [] } else { s with data := s.data ++ [c] }
/-- A byte that is no control of its own, in a phase but the last. -/
def stepM (s : PS) (c : Int) : PS × List Tok :=
  if s.phase = 1 then (if c % 128 = 127 then (s, []) else escapedM s (c % 128))
  else if s.phase = 2 then (if c % 128 = 127 then (s, []) else headerM s (c % 128))
  else if s.phase = 3 then (textM s c, [])
  else (s, [printT c])
def takeM1 (s : PS) (c : Int) : PS × List Tok :=
  if c = 27 then (if s.phase = 3 then ({ s with phase := 4 }, []) else (PS.begin_ 1 3, []))
  else if c = 24 then (PS.init, [])
  else if c = 26 then (PS.init, [ctrlT 26])
  else if 32 ≤ c then stepM s c
  else if s.phase ≠ 3 then (s, [ctrlT c])
  else if c = 7 ∧ s.kind = 6 then (PS.init, emit s)
  else if 8 ≤ c ∧ c ≤ 13 then stepM s c
  else (s, [])
def takeM (s : PS) (c : Int) : PS × List Tok :=
  if s.phase = 4 ∧ c ≠ 27 then (if c % 128 = 92 then (PS.init, emit s) else takeM1 (PS.begin_ 1 3) c)
  else takeM1 s c

/-- What means nothing is left out; a control of eight bits is an escape and a byte. -/
def plainOf (c : Int) : List Int := if c = 0 ∨ c = 127 then [] else if 128 ≤ c ∧ c < 160 then [27, c - 64] else [c]
def plainL (l : List Int) : List Int := l.flatMap plainOf

def runM (s : PS) : List Int → PS × List Tok
  | [] => (s, [])
  | c :: l => let r := takeM s c; let q := runM r.1 l; (q.1, r.2 ++ q.2)

theorem runM_append (s : PS) (a b : List Int) : runM s (a ++ b) = ((runM (runM s a).1 b).1, (runM s a).2 ++ (runM (runM s a).1 b).2) := by
  induction a generalizing s with
  | nil => simp [runM]
  | cons c l ih => simp only [List.cons_append, runM, ih, List.append_assoc]

/-! ### The document's reading of a whole stream -/
def brk (c : Int) : Bool := decide (c = 24) || decide (c = 26) || decide (c = 27)

structure HR where
  toks : List Tok
  bytes : List Int
  rest : List Int
  ended : Nat

def hdr (last : Int) : List Int → HR
  | [] => ⟨[], [], [], 0⟩
  | c :: l =>
    if brk c then ⟨[], [], c :: l, 2⟩
    else if c < 32 then let h := hdr last l; ⟨ctrlT c :: h.toks, h.bytes, h.rest, h.ended⟩
    else if c % 128 = 127 then hdr last l
    else if last ≤ c % 128 then ⟨[], [c % 128], l, 1⟩
    else let h := hdr last l; ⟨h.toks, (c % 128) :: h.bytes, h.rest, h.ended⟩

def brokenR (rest : List Int) (before : List Tok) : List Tok × Option (List Int) :=
  match rest with
  | [] => (before, none)
  | c :: l => if c = 24 then (before, some l) else if c = 26 then (before ++ [ctrlT 26], some l) else (before, some (c :: l))

def dataOk (c : Int) : Bool := (decide (8 ≤ c) && decide (c ≤ 13)) || (decide (32 ≤ c) && decide (c ≤ 126)) || decide (160 ≤ c)

def strR (t : Tok) (good : Bool) : List Int → List Tok → List Tok × Option (List Int)
  | [], before => (before, none)
  | c :: l, before =>
    if c = 27 ∧ l = [] then (before, none)
    else if c = 27 ∧ (l.headD 0) % 128 = 92 then (if good ∧ t.data.length ≤ 4096 then before ++ [t] else before, some l.tail)
    else if c = 7 ∧ t.kind = 6 then (if good ∧ t.data.length ≤ 4096 then before ++ [t] else before, some l)
    else if brk c then brokenR (c :: l) before
    else strR { t with data := if dataOk c then t.data ++ [c] else t.data } good l before

def numR (l : List Int) : Int := l.foldl (fun n c => min (n * 10 + (c - 48)) 65535) 0
def splitSemi : List Int → List (List Int)
  | [] => [[]]
  | c :: l => if c = 59 then [] :: splitSemi l else match splitSemi l with | [] => [[c]] | p :: r => (c :: p) :: r
def numsR (l : List Int) : List Int := if l = [] then [] else ((splitSemi l).map numR).take 30

def markOf (b : List Int) : Int := match b with | c :: _ => if 60 ≤ c ∧ c ≤ 63 then c else 0 | [] => 0
def unmark (b : List Int) : List Int := match b with | c :: l => if 60 ≤ c ∧ c ≤ 63 then l else c :: l | [] => []
def parseR (kind : Int) (b : List Int) (c : Int) : Tok × Bool :=
  let m := unmark b
  let nums := m.takeWhile fun x => decide (48 ≤ x)
  let ints := m.dropWhile fun x => decide (48 ≤ x)
  (⟨kind, c, markOf b, numsR nums, ints, []⟩, nums.all isAcc && decide (ints.length ≤ 3) && ints.all fun x => decide (x < 48))

def seqR (l : List Int) : List Tok × Option (List Int) :=
  let h := hdr 48 l
  if h.ended = 0 then (h.toks, none)
  else if h.ended = 2 then brokenR h.rest h.toks
  else
    let bs := h.bytes.dropLast
    let c := h.bytes.getLastD 0
    if bs ≠ [] ∨ opKind c = 0 then
      (if bs.length ≤ 3 ∧ (bs ≠ [] ∨ c ≠ 92) then h.toks ++ [⟨3, c, 0, [], bs, []⟩] else h.toks, some h.rest)
    else if 5 < opKind c then strR ⟨opKind c, 0, 0, [], [], []⟩ true h.rest h.toks
    else
      let g := hdr 64 h.rest
      let all := h.toks ++ g.toks
      if g.ended = 0 then (all, none)
      else if g.ended = 2 then brokenR g.rest all
      else
        let p := parseR (opKind c) g.bytes.dropLast (g.bytes.getLastD 0)
        if opKind c = 5 then strR p.1 p.2 g.rest all
        else (if p.2 then all ++ [p.1] else all, some g.rest)

def splitR : Nat → List Int → List Tok × Bool
  | 0, _ => ([], false)
  | _ + 1, [] => ([], false)
  | f + 1, c :: l =>
    if c = 27 then
      match seqR l with
      | (ts, none) => (ts, true)
      | (ts, some rest) => let q := splitR f rest; (ts ++ q.1, q.2)
    else
      let q := splitR f l
      ((if 32 ≤ c then [printT c] else if c ≠ 24 then [ctrlT c] else []) ++ q.1, q.2)

/-! ### Both say the same -/
/-- A byte of a plain stream. -/
def pb (c : Int) : Prop := 0 < c ∧ c ≠ 127 ∧ (c < 128 ∨ 160 ≤ c) ∧ c < 256

/-- What the machine has said, and where it is left to go on: the same as a reading that has not ended, or has. -/
def Agrees (r : PS × List Tok) (q : List Tok × Option (List Int)) (go_on : List Int → PS × List Tok) : Prop :=
  match q.2 with
  | none => r.2 = q.1 ∧ r.1.phase ≠ 0
  | some rest => r.1 = (go_on rest).1 ∧ r.2 = q.1 ++ (go_on rest).2

theorem runM_brk (s : PS) (c : Int) (l : List Int) (hp : s.phase ≠ 3) (hb : brk c = true) (before : List Tok) :
    Agrees ((runM s (c :: l)).1, before ++ (runM s (c :: l)).2) (brokenR (c :: l) before) (runM PS.init) := by
  simp only [brk, Bool.or_eq_true, decide_eq_true_eq] at hb
  rcases hb with (rfl | rfl) | rfl
  · simp [Agrees, brokenR, runM, takeM, takeM1]
  · simp [Agrees, brokenR, runM, takeM, takeM1]
  · simp [Agrees, brokenR, runM, takeM, takeM1, hp, PS.init]

theorem take_quiet (s : PS) (c : Int) (h4 : s.phase ≠ 4) (h3 : s.phase ≠ 3) (hb : brk c = false) (hc : c < 32) : takeM s c = (s, [ctrlT c]) := by
  simp only [brk, Bool.or_eq_false_iff, decide_eq_false_iff_not] at hb
  obtain ⟨⟨h24, h26⟩, h27⟩ := hb
  have : ¬ 32 ≤ c := by omega
  simp [takeM, takeM1, h4, h3, h24, h26, h27, this]
theorem take_step (s : PS) (c : Int) (h4 : s.phase ≠ 4) (hc : 32 ≤ c) : takeM s c = stepM s c := by
  have h24 : c ≠ 24 := by omega
  have h26 : c ≠ 26 := by omega
  have h27 : c ≠ 27 := by omega
  simp [takeM, takeM1, h4, h24, h26, h27, hc]

theorem hdr_run (p : Int) (hp : p = 1 ∨ p = 2) (f : PS → Int → PS × List Tok) (hf : ∀ s c, s.phase = p → stepM s c = if c % 128 = 127 then (s, []) else f s (c % 128))
    (last : Int) (F : List Int → PS) (hF : ∀ bs, (∀ x ∈ bs, x < last) → (F bs).phase = p) (hs : ∀ bs d, (∀ x ∈ bs, x < last) → 32 ≤ d → d < last → f (F bs) d = (F (bs ++ [d]), [])) :
    ∀ (l : List Int), (∀ c ∈ l, pb c) → ∀ bs : List Int, (∀ x ∈ bs, x < last) →
      (∀ c ∈ (hdr last l).rest, pb c) ∧ (hdr last l).rest.length ≤ l.length ∧
      (((hdr last l).ended = 0 ∧ (∀ x ∈ (hdr last l).bytes, x < last) ∧ runM (F bs) l = (F (bs ++ (hdr last l).bytes), (hdr last l).toks)) ∨
       ((hdr last l).ended = 2 ∧ (∀ x ∈ (hdr last l).bytes, x < last) ∧ (∃ c r, (hdr last l).rest = c :: r ∧ brk c = true) ∧ runM (F bs) l = ((runM (F (bs ++ (hdr last l).bytes)) (hdr last l).rest).1, (hdr last l).toks ++ (runM (F (bs ++ (hdr last l).bytes)) (hdr last l).rest).2)) ∨
       ((hdr last l).ended = 1 ∧ (hdr last l).rest.length < l.length ∧ ∃ b c, (hdr last l).bytes = b ++ [c] ∧ last ≤ c ∧ 32 ≤ c ∧ c < 127 ∧ (∀ x ∈ b, 32 ≤ x ∧ x < last) ∧
          runM (F bs) l = ((runM (f (F (bs ++ b)) c).1 (hdr last l).rest).1, (hdr last l).toks ++ ((f (F (bs ++ b)) c).2 ++ (runM (f (F (bs ++ b)) c).1 (hdr last l).rest).2)))) := by
  have hp4 : ∀ bs, (∀ x ∈ bs, x < last) → (F bs).phase ≠ 4 := fun bs h => by rw [hF bs h]; omega
  have hp3 : ∀ bs, (∀ x ∈ bs, x < last) → (F bs).phase ≠ 3 := fun bs h => by rw [hF bs h]; omega
  intro l
  induction l with
  | nil => intro _ bs _; exact ⟨by simp [hdr], by simp [hdr], .inl ⟨rfl, by simp [hdr], by simp [hdr, runM]⟩⟩
  | cons c l ih =>
    intro hl bs hbs
    have hc := hl c (by simp)
    have hl' : ∀ x ∈ l, pb x := fun x hx => hl x (by simp [hx])
    cases hb : brk c with
    | true =>
      have e : hdr last (c :: l) = ⟨[], [], c :: l, 2⟩ := by simp [hdr, hb]
      rw [e]
      exact ⟨hl, by simp, .inr (.inl ⟨rfl, by simp, ⟨c, l, rfl, hb⟩, by simp⟩)⟩
    | false =>
      by_cases h32 : c < 32
      · have e : hdr last (c :: l) = ⟨ctrlT c :: (hdr last l).toks, (hdr last l).bytes, (hdr last l).rest, (hdr last l).ended⟩ := by simp [hdr, hb, h32]
        have et : runM (F bs) (c :: l) = ((runM (F bs) l).1, ctrlT c :: (runM (F bs) l).2) := by
          simp [runM, take_quiet (F bs) c (hp4 bs hbs) (hp3 bs hbs) hb h32]
        obtain ⟨i1, i2, i3⟩ := ih hl' bs hbs
        rw [e]
        refine ⟨i1, by simp; omega, ?_⟩
        rcases i3 with ⟨q1, q0, q2⟩ | ⟨q1, q0, q2, q3⟩ | ⟨q1, q2, b, x, r1, r2, r3, r4, r5, r6⟩
        · exact .inl ⟨q1, q0, by rw [et, q2]⟩
        · exact .inr (.inl ⟨q1, q0, q2, by rw [et, q3]; rfl⟩)
        · exact .inr (.inr ⟨q1, by simp; omega, b, x, r1, r2, r3, r4, r5, by rw [et, r6]; rfl⟩)
      · have hm : 32 ≤ c % 128 := by unfold pb at hc; omega
        have hm2 : c % 128 < 128 := by omega
        have ets : takeM (F bs) c = if c % 128 = 127 then (F bs, []) else f (F bs) (c % 128) := by
          rw [take_step (F bs) c (hp4 bs hbs) (by omega), hf _ _ (hF bs hbs)]
        by_cases h127 : c % 128 = 127
        · have e : hdr last (c :: l) = hdr last l := by simp [hdr, hb, h32, h127]
          have et : runM (F bs) (c :: l) = runM (F bs) l := by
            simp [runM, ets, h127]
          obtain ⟨i1, i2, i3⟩ := ih hl' bs hbs
          rw [e]
          refine ⟨i1, by simp; omega, ?_⟩
          rcases i3 with ⟨q1, q0, q2⟩ | ⟨q1, q0, q2, q3⟩ | ⟨q1, q2, b, x, r1, r2, r3, r4, r5, r6⟩
          · exact .inl ⟨q1, q0, by rw [et, q2]⟩
          · exact .inr (.inl ⟨q1, q0, q2, by rw [et, q3]⟩)
          · exact .inr (.inr ⟨q1, by simp; omega, b, x, r1, r2, r3, r4, r5, by rw [et, r6]⟩)
        · by_cases hla : last ≤ c % 128
          · have e : hdr last (c :: l) = ⟨[], [c % 128], l, 1⟩ := by simp [hdr, hb, h32, h127, hla]
            rw [e]
            refine ⟨hl', by simp, .inr (.inr ⟨rfl, by simp, [], c % 128, rfl, hla, hm, by omega, by simp, ?_⟩)⟩
            simp [runM, ets, h127]
          · have e : hdr last (c :: l) = ⟨(hdr last l).toks, (c % 128) :: (hdr last l).bytes, (hdr last l).rest, (hdr last l).ended⟩ := by simp [hdr, hb, h32, h127, hla]
            have et : runM (F bs) (c :: l) = runM (F (bs ++ [c % 128])) l := by
              simp [runM, ets, h127, hs bs (c % 128) hbs hm (by omega)]
            obtain ⟨i1, i2, i3⟩ := ih hl' (bs ++ [c % 128]) (by
              intro y hy; rcases List.mem_append.1 hy with h | h
              · exact hbs y h
              · simp at h; omega)
            rw [e]
            refine ⟨i1, by simp; omega, ?_⟩
            have hcons : (∀ x ∈ (hdr last l).bytes, x < last) → ∀ x ∈ c % 128 :: (hdr last l).bytes, x < last := by
              intro h x hx
              rcases List.mem_cons.1 hx with rfl | hx
              · omega
              · exact h x hx
            rcases i3 with ⟨q1, q0, q2⟩ | ⟨q1, q0, q2, q3⟩ | ⟨q1, q2, b, x, r1, r2, r3, r4, r5, r6⟩
            · exact .inl ⟨q1, hcons q0, by rw [et, q2]; simp⟩
            · exact .inr (.inl ⟨q1, hcons q0, q2, by rw [et, q3]; simp⟩)
            · refine .inr (.inr ⟨q1, by simp; omega, c % 128 :: b, x, by simp [r1], r2, r3, r4, ?_, by rw [et, r6]; simp⟩)
              intro y hy
              rcases List.mem_cons.1 hy with rfl | hy
              · exact ⟨hm, by omega⟩
              · exact r5 y hy
end Go.Proofs.Ytomflpkokcldeaa
