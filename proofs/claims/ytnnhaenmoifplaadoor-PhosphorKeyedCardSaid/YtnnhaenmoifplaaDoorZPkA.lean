/-
  What keys send, read by a parser: the plain law.
-/
import Derived.Test.YtnnhaenmoifplaaDoorZTkA
import Derived.Test.YtnnhaenmoifplaaDoorZKzE
namespace Go.Proofs.YtnnhaenmoifplaaDoor
set_option linter.unusedSimpArgs false
set_option linter.unusedVariables false
open Go.RowKit
set_option linter.unusedVariables false

/-- What a parser says of some bytes, if it stands again at the beginning then. -/
def Says (l : List Int) (ts : List Tok) : Prop := feedM PS.init l = (PS.init, ts)
theorem Says.one {t : Tok} (h : Can t) (e : Bool) : Says (bytesR t e) [t] := bytes_back h e
theorem Says.app {a b : List Int} {s t : List Tok} (h : Says a s) (k : Says b t) : Says (a ++ b) (s ++ t) := by
  unfold Says at h k ⊢
  rw [feed_append, h]
  simp only
  rw [k]
theorem Says.nil : Says [] [] := rfl
theorem Says.print {c : Int} (h : (32 ≤ c ∧ c ≤ 126) ∨ (160 ≤ c ∧ c < 256)) : Says [c] [⟨1, c, 0, [], [], []⟩] := Says.one (.print c h) false
theorem Says.sing (ei : Bool) {c : Int} (h : (32 ≤ c ∧ c ≤ 126) ∨ (160 ≤ c ∧ c < 256)) : Says (singR ei c) [⟨3, 79, 0, [], [], []⟩, ⟨1, c, 0, [], [], []⟩] :=
  Says.app (s := [⟨3, 79, 0, [], [], []⟩]) (Says.one (.esc 79 [] (by decide) ⟨by decide, by simp⟩ (fun _ => by decide)) ei) (Says.print h)
theorem csi0_bytes (f : Int) (h : 64 ≤ f ∧ f ≤ 126) (ei : Bool) : Can ⟨4, f, 0, [], [], []⟩ ∧ csiR [f] [] ei = bytesR ⟨4, f, 0, [], [], []⟩ ei := by
  have hc : Can ⟨4, f, 0, [], [], []⟩ := .csi f 0 [] [] h (.inl rfl) ⟨by decide, by simp⟩ ⟨by decide, by simp⟩
  exact ⟨hc, if_pos (check_can0 hc)⟩
theorem csi1_bytes (n : Int) (hn : 0 ≤ n ∧ n ≤ 65535) (ei : Bool) : Can ⟨4, 126, 0, [n], [], []⟩ ∧ csiR [126] [n] ei = bytesR ⟨4, 126, 0, [n], [], []⟩ ei := by
  have hc : Can ⟨4, 126, 0, [n], [], []⟩ := .csi 126 0 [n] [] (by decide) (.inl rfl) ⟨by simp, by simpa using hn⟩ ⟨by decide, by simp⟩
  refine ⟨hc, ?_⟩
  have e : funT 4 [126] [n] [] = ⟨4, 126, 0, [n], [], []⟩ := by
    have : clip16 n = n := by unfold clip16; rw [if_neg (by omega), if_neg (by omega)]
    show (⟨4, 126, 0, [clip16 n], [], []⟩ : Tok) = _
    rw [this]
  unfold csiR
  rw [e]
  exact if_pos (check_can0 hc)
/-- What is told of the bytes of a key. -/
structure KeyOk (E : List Int) (ts : List Tok) : Prop where
  says : Says E ts
  toks : ts.length ≤ 2
  len : E.length ≤ 6
  rng : ∀ c ∈ E, 0 ≤ c ∧ c < 256
theorem KeyOk.nil : KeyOk [] [] := ⟨Says.nil, by decide, by decide, by simp⟩
theorem KeyOk.print {c : Int} (h : (32 ≤ c ∧ c ≤ 126) ∨ (160 ≤ c ∧ c < 256)) : KeyOk [c] [⟨1, c, 0, [], [], []⟩] := ⟨Says.print h, by simp, by simp, by simp; omega⟩
theorem KeyOk.sing (ei : Bool) {c : Int} (h : (32 ≤ c ∧ c ≤ 126) ∨ (160 ≤ c ∧ c < 256)) : KeyOk (singR ei c) [⟨3, 79, 0, [], [], []⟩, ⟨1, c, 0, [], [], []⟩] :=
  ⟨Says.sing ei h, by simp, by cases ei <;> exact Nat.le_of_ble_eq_true rfl, by
    have e : singR ei c = pairR 79 ei ++ [c] := rfl
    rw [e]
    intro x hx
    rcases List.mem_append.1 hx with hx | hx
    · cases ei
      · have : x = 27 ∨ x = 79 := by simpa [pairR] using hx
        omega
      · have : x = 143 := by simpa [pairR] using hx
        omega
    · simp at hx; omega⟩
theorem KeyOk.csi0 (ei : Bool) {f : Int} (h : 64 ≤ f ∧ f ≤ 126) : KeyOk (csiR [f] [] ei) [⟨4, f, 0, [], [], []⟩] := by
  obtain ⟨hc, e⟩ := csi0_bytes f h ei
  rw [e]
  refine ⟨Says.one hc ei, by simp, by cases ei <;> exact Nat.le_of_ble_eq_true rfl, ?_⟩
  intro x hx
  cases ei
  · have : x = 27 ∨ x = 91 ∨ x = f := by simpa [bytesR, pairR, begR, fmtR, fmtGo] using hx
    omega
  · have : x = 155 ∨ x = f := by simpa [bytesR, pairR, begR, fmtR, fmtGo] using hx
    omega
theorem small_csi1 : ∀ n : Fin 35, ∀ ei : Bool, (bytesR ⟨4, 126, 0, [(n.val : Int)], [], []⟩ ei).length ≤ 6 ∧ ∀ c ∈ bytesR ⟨4, 126, 0, [(n.val : Int)], [], []⟩ ei, 0 ≤ c ∧ c < 256 := by decide +kernel
theorem KeyOk.csi1 (ei : Bool) {n : Int} (h : 0 ≤ n ∧ n ≤ 34) : KeyOk (csiR [126] [n] ei) [⟨4, 126, 0, [n], [], []⟩] := by
  obtain ⟨hc, e⟩ := csi1_bytes n (by omega) ei
  rw [e]
  obtain ⟨k, rfl⟩ : ∃ k : Fin 35, n = k.val := ⟨⟨n.toNat, by omega⟩, by simp; omega⟩
  exact ⟨Says.one hc ei, by simp, (small_csi1 k ei).1, (small_csi1 k ei).2⟩
theorem KeyOk.ctrl {c : Int} (h : c = 8 ∨ c = 9 ∨ c = 10 ∨ c = 13) : KeyOk [c] [⟨2, c, 0, [], [], []⟩] :=
  ⟨Says.one (.ctrl c (by omega)) false, by simp, by simp, by simp; omega⟩
theorem KeyOk.rub : KeyOk [127] [] := ⟨by rfl, by decide, by decide, by decide⟩
theorem KeyOk.two : KeyOk [13, 10] [⟨2, 13, 0, [], [], []⟩, ⟨2, 10, 0, [], [], []⟩] :=
  ⟨Says.app (a := [13]) (s := [⟨2, 13, 0, [], [], []⟩]) (Says.one (.ctrl 13 (by decide)) false) (Says.one (.ctrl 10 (by decide)) false), by decide, by decide, by decide⟩
theorem numK_in (c : Int) : 0 ≤ numK c ∧ numK c ≤ 34 := by
  unfold numK
  split
  · decide
  · split
    · omega
    · split
      · omega
      · split <;> omega
theorem getZ_no (n : Int) : getZ noL n = [] := by
  unfold getZ
  split
  · unfold noL
    rw [List.getElem?_replicate]
    split <;> rfl
  · rfl
/-- What a key sends never leaves a parser in the middle of something. -/
theorem key_ok (k c : Int) (sh ct b0 b3 b4 b12 b13 : Bool) (lv : Int) (ei : Bool) (hc : 0 ≤ c ∧ c < 256) (h4 : k ≠ 4) (hf : ¬ (k = 16 ∧ lv < 2)) (hch : ¬ (k = 0 ∧ ct = true)) :
    ∃ ts, KeyOk (encK k c sh ct b0 b3 b4 b12 b13 lv ei noL) ts := by
  unfold encK
  split
  · exact ⟨_, .nil⟩
  rename_i ho
  simp only [not_or] at ho
  unfold kindK
  split
  · rename_i h0
    unfold charK
    have hct : ct = false := by cases ct; rfl; exact absurd ⟨h0, rfl⟩ hch
    subst hct
    split
    · exact ⟨_, .nil⟩
    · simp only [Bool.false_eq_true, false_and, if_false]
      exact ⟨_, .print (by omega)⟩
  split
  · unfold enterK
    split
    · exact ⟨_, .two⟩
    · exact ⟨_, .ctrl (by decide)⟩
  split
  · unfold tabK
    split
    · exact ⟨_, .csi0 ei (by decide)⟩
    · exact ⟨_, .ctrl (by decide)⟩
  split
  · unfold backK
    split
    · exact ⟨_, .ctrl (by decide)⟩
    · exact ⟨_, .rub⟩
  split
  · unfold arrowK
    split
    · exact ⟨_, .sing ei (by omega)⟩
    · exact ⟨_, .csi0 ei (by omega)⟩
  split
  · unfold editK
    split
    · exact ⟨_, .nil⟩
    · exact ⟨_, .csi1 ei (by omega)⟩
  split
  · unfold padK
    split
    · exact ⟨_, .nil⟩
    · rename_i hp
      have hpa : (32 ≤ padA c ∧ padA c ≤ 126) ∧ (c = 13 ∨ (32 ≤ c ∧ c ≤ 126)) := by
        unfold padA at hp ⊢
        split at hp <;> (try split at hp) <;> (try split at hp) <;> (try split at hp) <;> (try exact absurd rfl hp)
        all_goals (simp_all; try omega)
      split
      · exact ⟨_, .sing ei (.inl hpa.1)⟩
      · split
        · unfold enterK
          split
          · exact ⟨_, .two⟩
          · exact ⟨_, .ctrl (by decide)⟩
        · exact ⟨_, .print (by omega)⟩
  · have hk : k = 16 := by omega
    unfold fK
    split
    · exact ⟨_, .sing ei (by omega)⟩
    · split
      · omega
      · split
        · omega
        · split
          · omega
          · split
            · exact ⟨_, .nil⟩
            · split
              · rw [getZ_no]; exact ⟨_, .nil⟩
              · exact ⟨_, .csi1 ei (numK_in c)⟩
/-- What a cursor key sends. -/
theorem arrow_ok (k c : Int) (sh ct b3 b4 b12 b13 : Bool) (lv : Int) (ei : Bool) (hk : 5 ≤ k ∧ k ≤ 8) :
    KeyOk (encK k c sh ct false b3 b4 b12 b13 lv ei noL) (bif b4 then [⟨3, 79, 0, [], [], []⟩, ⟨1, 60 + k, 0, [], [], []⟩] else [⟨4, 60 + k, 0, [], [], []⟩]) := by
  have e : encK k c sh ct false b3 b4 b12 b13 lv ei noL = arrowK k b4 ei := by
    unfold encK kindK
    rw [if_neg (by simp; omega), if_neg (by omega), if_neg (by omega), if_neg (by omega), if_neg (by omega), if_neg (by omega), if_pos (by omega)]
  rw [e]
  unfold arrowK
  cases b4
  · exact .csi0 ei (by omega)
  · exact .sing ei (by omega)
end Go.Proofs.YtnnhaenmoifplaaDoor
