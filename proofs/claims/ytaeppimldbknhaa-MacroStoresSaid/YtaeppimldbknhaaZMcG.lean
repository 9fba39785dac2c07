/-
  A piece of a macro's text.
-/
import Derived.Lib.IndexMore
import Derived.Test.YtaeppimldbknhaaZMcF
namespace Go.Proofs.Ytaeppimldbknhaa
set_option linter.unusedSimpArgs false
set_option linter.unusedVariables false
open Go.RowKit
set_option linter.unusedVariables false

/-- The library's variable that says how long a text a search may be for is there. -/
def MaxOk (w : World) : Prop := ∃ m, w.cell? ⟨0, 0, none⟩ = some (.int .i64 m)
theorem MaxOk.gr {w w' : World} (h : MaxOk w) (hg : Gr w w') : MaxOk w' := by
  obtain ⟨m, h⟩ := h
  exact ⟨m, hg.cellAt h⟩
theorem index_semi : ∀ l : List UInt8, Lib.index l [59] = if 59 ∈ l then ((l.takeWhile (· ≠ 59)).length : Int) else -1
  | [] => rfl
  | c :: l => by
    have ih := index_semi l
    unfold Lib.index
    by_cases hc : c = 59
    · subst hc
      simp
    · have h1 : ([59] : List UInt8).isPrefixOf (c :: l) = false := by simp [List.isPrefixOf]; exact fun h => hc h.symm
      rw [h1, ih]
      by_cases hm : (59 : UInt8) ∈ l
      · simp only [hm, if_true, List.mem_cons, or_true, List.takeWhile_cons, hc]
        simp [hc]
      · have hcm : ¬ (59 : UInt8) ∈ c :: l := by simp [hm]; exact fun h => hc h.symm
        simp [hm, hcm]
theorem mem_split (l : List UInt8) : (59 ∈ l → l.drop ((l.takeWhile (· ≠ 59)).length + 1) = (l.dropWhile (· ≠ 59)).drop 1) ∧ l.take (l.takeWhile (· ≠ 59)).length = l.takeWhile (· ≠ 59) ∧ (¬ 59 ∈ l → l.takeWhile (· ≠ 59) = l ∧ l.dropWhile (· ≠ 59) = []) := by
  induction l with
  | nil => simp
  | cons c l ih =>
    obtain ⟨i1, i2, i3⟩ := ih
    by_cases hc : c = 59
    · subst hc; simp
    · refine ⟨fun h => ?_, ?_, fun h => ?_⟩
      · have hm : (59 : UInt8) ∈ l := by
          rcases List.mem_cons.1 h with h | h
          · exact absurd h.symm hc
          · exact h
        simpa [List.takeWhile_cons, List.dropWhile_cons, hc] using i1 hm
      · simpa [List.takeWhile_cons, hc] using i2
      · have hm : ¬ (59 : UInt8) ∈ l := fun h' => h (List.mem_cons_of_mem _ h')
        have := i3 hm
        constructor
        · simpa [List.takeWhile_cons, hc] using this.1
        · simpa [List.dropWhile_cons, hc] using this.2
theorem cut_sem (l : List UInt8) : (Lib.cut l [59]).1 = (semR l).1 ∧ (Lib.cut l [59]).2.1 = (semR l).2 := by
  obtain ⟨m1, m2, m3⟩ := mem_split l
  unfold Lib.cut semR
  rw [index_semi]
  by_cases hm : (59 : UInt8) ∈ l
  · rw [if_pos hm, if_pos (by omega)]
    simp only [Int.toNat_natCast]
    exact ⟨m2, m1 hm⟩
  · rw [if_neg hm, if_neg (by decide)]
    obtain ⟨h1, h2⟩ := m3 hm
    simp only
    exact ⟨h1.symm, by rw [h2]; rfl⟩
theorem cut_any (l : List UInt8) (w : World) (hl : l.length ≤ 1000000) (hm : MaxOk w) : Calls Try.prog 43 #[.string (bsl l), .string ⟨#[59]⟩] w fun e w' => e = .returned (.tuple #[.string (bsl (semR l).1), .string (bsl (semR l).2), .bool (Lib.cut l [59]).2.2]) ∧ Gr w w' := by
  obtain ⟨m, hm⟩ := hm
  refine (Try.strings_Cut (bsl l) ⟨#[59]⟩ m w (by rw [bsl_size]; omega) hm).mono ?_
  rintro e w' ⟨rfl, n, rfl⟩
  rw [bsl_list]
  obtain ⟨h1, h2⟩ := cut_sem l
  refine ⟨?_, (Gr.refl w).drewN n⟩
  show Ending.returned (.tuple #[.string (bsl (Lib.cut l [59]).1), .string (bsl (Lib.cut l [59]).2.1), _]) = _
  rw [h1, h2]
theorem cutp_yes (u : List UInt8) (w : World) : Calls Try.prog 42 #[.string (bsl (59 :: u)), .string ⟨#[59]⟩] w fun e w' => e = .returned (.tuple #[.string (bsl u), .bool true]) ∧ w' = w := by
  refine (Try.strings_CutPrefix (bsl (59 :: u)) ⟨#[59]⟩ w).mono ?_
  rintro e w' ⟨rfl, rfl⟩
  rw [bsl_list]
  have h : Lib.hasPrefix (59 :: u) [59] = true := by simp [Lib.hasPrefix]
  refine ⟨?_, rfl⟩
  show Ending.returned (.tuple #[.string (bsl (Lib.trimPrefix (59 :: u) [59])), .bool (Lib.hasPrefix (59 :: u) [59])]) = _
  rw [h]
  unfold Lib.trimPrefix
  rw [if_pos h]
  rfl
theorem cutp_no (q : List UInt8) (w : World) (hq : q.head? ≠ some 59) : Calls Try.prog 42 #[.string (bsl q), .string ⟨#[59]⟩] w fun e w' => e = .returned (.tuple #[.string (bsl q), .bool false]) ∧ w' = w := by
  refine (Try.strings_CutPrefix (bsl q) ⟨#[59]⟩ w).mono ?_
  rintro e w' ⟨rfl, rfl⟩
  rw [bsl_list]
  have h : Lib.hasPrefix q [59] = false := by
    match q, hq with
    | [], _ => rfl
    | c :: u, hq =>
      have hc : ¬ (59 : UInt8) = c := by intro hc; subst hc; simp at hq
      simp [Lib.hasPrefix, List.isPrefixOf, hc]
  refine ⟨?_, rfl⟩
  show Ending.returned (.tuple #[.string (bsl (Lib.trimPrefix q [59])), .bool (Lib.hasPrefix q [59])]) = _
  rw [h]
  unfold Lib.trimPrefix
  rw [if_neg (by rw [h]; decide)]

/-- A piece, or none. -/
def PcOk (b : List UInt8) (n : Nat) (rest : List UInt8) (e : Ending) : Prop := e = .returned (.tuple #[.string (bsl b), .int .i64 (n : Int), .string (bsl rest), .bool true])
def PcBad (e : Ending) : Prop := ∃ (b r : ByteArray) (n : Int), e = .returned (.tuple #[.string b, .int .i64 n, .string r, .bool false])
def PcR (l : List UInt8) (e : Ending) : Prop := match pieceR l with | some (b, n, rest) => PcOk b n rest e | none => PcBad e
theorem PcR.ok {l b rest : List UInt8} {n : Nat} (h : pieceR l = some (b, n, rest)) : PcR l (.returned (.tuple #[.string (bsl b), .int .i64 (n : Int), .string (bsl rest), .bool true])) := by unfold PcR; rw [h]; exact rfl
theorem PcR.bad {l : List UInt8} (h : pieceR l = none) (b r : ByteArray) (n : Int) : PcR l (.returned (.tuple #[.string b, .int .i64 n, .string r, .bool false])) := by unfold PcR; rw [h]; exact ⟨b, r, n, rfl⟩

set_option maxRecDepth 100000 in
set_option maxHeartbeats 2000000 in
theorem piece_two_any (c : UInt8) (r : List UInt8) (w : World) (hl : r.length ≤ 999999) (hc : c ≠ 33) : Calls Try.prog 21 #[.string (bsl (c :: r))] w fun e w' => PcR (c :: r) e ∧ Gr w w' := by
  have hp := piece_two c r hc
  have hc0 : (((c.toNat : Int)) != 33) = true := by
    simp only [bne_iff_ne, ne_eq]
    intro h
    have h33 : (33 : UInt8).toNat = 33 := rfl
    exact hc (UInt8.toNat_inj.1 (by omega))
  have hsz : (bsl (c :: r)).size = r.length + 1 := by rw [bsl_size]; rfl
  have hg0 : ∀ h : 0 < (bsl (c :: r)).size, (bsl (c :: r))[0]'h = c := fun h => by rw [bsl_get h]; rfl
  match r, hl, hp, hsz, hg0 with
  | [], hl, hp, hsz, hg0 =>
    obtain ⟨t, ht⟩ : ∃ t, t = bsl [c] := ⟨_, rfl⟩
    rw [← ht] at hsz hg0 ⊢
    have HT := Lib.hid ht; have HP := Lib.hid hp
    have hpos : 0 < t.size := by omega
    have hg := hg0 hpos
    have hs2 : t.size < 2 := by simp at hsz; omega
    clear ht hp hg0 hsz
    go_enter Try.func21, Try.ntmps21
    go_wp2_with fail
    refine bodyPost_ret (v := .tuple #[.string ⟨#[]⟩, .int .i64 0, .string ⟨#[]⟩, .bool false]) (by simp [results, Try.results21, go_sem]) rfl ⟨PcR.bad HP.out _ _ _, by (repeat (first | with_reducible exact Gr.refl _ | with_reducible assumption | with_reducible refine Gr.setCell ?_ (by simp; try omega) _ | with_reducible refine Gr.alloc ?_ _ | with_reducible refine Gr.drew ?_ | with_reducible refine Gr.drewN ?_ _ | with_reducible refine Gr.trans ?_ (by assumption)))⟩
  | d :: u, hl, hp, hsz, hg0 =>
    have hsl : (bsl (c :: d :: u)).extract 0 2 = bsl [c, d] := by rw [bsl_extract]; rfl
    have hs2 : (bsl (c :: d :: u)).extract 2 (bsl (c :: d :: u)).size = bsl u := by rw [bsl_extract, hsz]; simp
    have hfr := fun w => fromHex_any [c, d] w (by simp)
    obtain ⟨t, ht⟩ : ∃ t, t = bsl (c :: d :: u) := ⟨_, rfl⟩
    obtain ⟨cd, hcd⟩ : ∃ t, t = bsl [c, d] := ⟨_, rfl⟩
    rw [← ht] at hsz hg0 hsl hs2 ⊢
    rw [← hcd] at hsl hfr
    have HT := Lib.hid ht; have HP := Lib.hid hp
    have hpos : 0 < t.size := by omega
    have hg := hg0 hpos
    have hge : ¬ t.size < 2 := by simp at hsz; omega
    have hge2 : 2 ≤ t.size := by omega
    have HCD := Lib.hid hcd
    clear ht hp hg0 hsz hcd
    rcases hx : hexR [c, d] with _ | o
    · rw [fromR_none hx] at hfr
      have HX := Lib.hid hx
      clear hx
      go_enter Try.func21, Try.ntmps21
      go_wp2_with (go_at_call 40; (with_reducible refine (hfr _).mono ?_); rintro e w1 ⟨rfl, hg1⟩)
      go_quiet (fail)
      go_wp2_with fail
      refine bodyPost_ret (v := .tuple #[.string (bsl []), .int .i64 1, .string (bsl u), .bool false]) (by simp [results, Try.results21, go_sem]) rfl ⟨PcR.bad (by rw [HP.out]; simp [twoR, HX.out]) _ _ _, by (repeat (first | with_reducible exact Gr.refl _ | with_reducible assumption | with_reducible refine Gr.setCell ?_ (by simp; try omega) _ | with_reducible refine Gr.alloc ?_ _ | with_reducible refine Gr.drew ?_ | with_reducible refine Gr.drewN ?_ _ | with_reducible refine Gr.trans ?_ (by assumption)))⟩
    · rw [fromR_some hx] at hfr
      have HX := Lib.hid hx
      clear hx
      go_enter Try.func21, Try.ntmps21
      go_wp2_with (go_at_call 40; (with_reducible refine (hfr _).mono ?_); rintro e w1 ⟨rfl, hg1⟩)
      go_quiet (fail)
      go_wp2_with fail
      refine bodyPost_ret (v := .tuple #[.string (bsl o), .int .i64 1, .string (bsl u), .bool true]) (by simp [results, Try.results21, go_sem]) rfl ⟨PcR.ok (n := 1) (by rw [HP.out]; simp [twoR, HX.out]), by (repeat (first | with_reducible exact Gr.refl _ | with_reducible assumption | with_reducible refine Gr.setCell ?_ (by simp; try omega) _ | with_reducible refine Gr.alloc ?_ _ | with_reducible refine Gr.drew ?_ | with_reducible refine Gr.drewN ?_ _ | with_reducible refine Gr.trans ?_ (by assumption)))⟩
end Go.Proofs.Ytaeppimldbknhaa
