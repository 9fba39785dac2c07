/-
  Every token that the machine says can be: the plain law.
-/
import Derived.Test.YtgbmjlajheeciaaDoorZPdD
namespace Go.Proofs.YtgbmjlajheeciaaDoor
set_option linter.unusedSimpArgs false
set_option linter.unusedVariables false

def IntsOk (l : List Int) : Prop := l.length ≤ 3 ∧ ∀ c ∈ l, 32 ≤ c ∧ c ≤ 47
def MarkOk (m : Int) : Prop := m = 0 ∨ 60 ≤ m ∧ m ≤ 63
def NumsL (l : List Int) : Prop := l.length ≤ 30 ∧ ∀ x ∈ l, 0 ≤ x ∧ x ≤ 65535
def DatOk (l : List Int) : Prop := l.length ≤ 4096 ∧ ∀ c ∈ l, dataOk c = true
/-- A token that can be. -/
inductive Can : Tok → Prop
  | print (c : Int) (h : (32 ≤ c ∧ c ≤ 126) ∨ (160 ≤ c ∧ c < 256)) : Can ⟨1, c, 0, [], [], []⟩
  | ctrl (c : Int) (h : 1 ≤ c ∧ c ≤ 31 ∧ c ≠ 24 ∧ c ≠ 27) : Can ⟨2, c, 0, [], [], []⟩
  | esc (c : Int) (l : List Int) (hc : 48 ≤ c ∧ c ≤ 126) (hl : IntsOk l) (h : l = [] → opKind c = 0 ∧ c ≠ 92) : Can ⟨3, c, 0, [], l, []⟩
  | csi (c m : Int) (ps l : List Int) (hc : 64 ≤ c ∧ c ≤ 126) (hm : MarkOk m) (hp : NumsL ps) (hl : IntsOk l) : Can ⟨4, c, m, ps, l, []⟩
  | dcs (c m : Int) (ps l d : List Int) (hc : 64 ≤ c ∧ c ≤ 126) (hm : MarkOk m) (hp : NumsL ps) (hl : IntsOk l) (hd : DatOk d) : Can ⟨5, c, m, ps, l, d⟩
  | str (k : Int) (d : List Int) (hk : 6 ≤ k ∧ k ≤ 9) (hd : DatOk d) : Can ⟨k, 0, 0, [], [], d⟩

theorem intsOk_nil : IntsOk [] := ⟨by simp, by simp⟩
end Go.Proofs.YtgbmjlajheeciaaDoor
