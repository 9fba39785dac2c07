/-
  A repeat's digits as a number of times.
-/
import Derived.Test.YtaeppimldbknhaaZMcE
namespace Go.Proofs.Ytaeppimldbknhaa
set_option linter.unusedSimpArgs false
set_option linter.unusedVariables false
open Go.RowKit
set_option linter.unusedVariables false

theorem bsl_emptyL {l : List UInt8} (h : l = []) : (bsl l).toList.isEmpty = true := by rw [ByteArray.toList_eq]; simp [bsl, h]
theorem bsl_consL {l : List UInt8} (h : l ≠ []) : (bsl l).toList.isEmpty = false := by rw [ByteArray.toList_eq]; simp [bsl, h]
theorem cMax (m : Nat) : max (m : Int) 1 = ((max m 1 : Nat) : Int) := by omega
set_option maxRecDepth 100000 in
set_option maxHeartbeats 2000000 in
theorem count_any (l : List UInt8) (w : World) (hl : l.length ≤ 1000000) : Calls Try.prog 41 #[.string (bsl l)] w fun e w' => e = .returned (.tuple #[.int .i64 (max (cntR 0 l).1 1 : Nat), .string (bsl (cntR 0 l).2)]) ∧ Gr w w' := by
  obtain ⟨N, hN⟩ : ∃ N, N = cntR 0 l := ⟨_, rfl⟩
  rw [← hN]
  have HN := Lib.hid hN
  clear hN
  go_enter Try.func41, Try.ntmps41
  go_wp2_with fail
  go_loopw [0, 4] (fun sv nv wr => ∃ (r : List UInt8) (m : Nat), m ≤ 65535 ∧ r.length ≤ 1000000 ∧ sv = .string (bsl r) ∧ nv = .int .i64 (m : Int) ∧ Hid (cntR m r = N) ∧ Gr w wr) (fun sv _ _ => match sv with | .string s => s.size | _ => 0)
  case atStart => exact ⟨l, 0, by omega, hl, rfl, rfl, Lib.hid HN.out.symm, by (repeat (first | with_reducible exact Gr.refl _ | with_reducible assumption | with_reducible refine Gr.setCell ?_ (by simp; try omega) _ | with_reducible refine Gr.alloc ?_ _ | with_reducible refine Gr.drew ?_ | with_reducible refine Gr.drewN ?_ _ | with_reducible refine Gr.trans ?_ (by assumption)))⟩
  case round =>
    obtain ⟨r, m, hm, hr, rfl, rfl, HC, hgr⟩ := hrel
    match r, hr, HC with
    | [], hr, HC =>
      have he := bsl_emptyL (l := []) rfl
      obtain ⟨t, ht⟩ : ∃ t, t = bsl [] := ⟨_, rfl⟩
      rw [← ht] at he ⊢
      have HT := Lib.hid ht
      clear ht
      go_wp2_with fail
      go_ret2
      have e : N = (m, []) := by rw [← HC.out]; rfl
      subst e
      exact ⟨by rw [HT.out]; simp [cMax], hgr⟩
    | c :: r, hr, HC =>
      have he := bsl_consL (l := c :: r) (by simp)
      have hsz : (bsl (c :: r)).size = r.length + 1 := by rw [bsl_size]; rfl
      have hg0 : ∀ h : 0 < (bsl (c :: r)).size, (bsl (c :: r))[0]'h = c := fun h => by rw [bsl_get h]; rfl
      have hsl : (bsl (c :: r)).extract 1 (bsl (c :: r)).size = bsl r := by rw [bsl_extract, hsz]; simp
      obtain ⟨t, ht⟩ : ∃ t, t = bsl (c :: r) := ⟨_, rfl⟩
      rw [← ht] at he hsz hg0 hsl ⊢
      have HT := Lib.hid ht
      clear ht
      have hpos : 0 < t.size := by omega
      have hg := hg0 hpos
      have hsz1 : 1 ≤ t.size := by omega
      have hszb : t.size ≤ 1000001 := by simp at hr; omega
      have HSZ := Lib.hid hsz
      clear hg0 hsz
      have hc := c.toNat_lt
      by_cases hd : 48 ≤ c.toNat ∧ c.toNat ≤ 57
      · have hstep : cntR (min (m * 10 + (c.toNat - 48)) 65535) r = N := by rw [← HC.out]; simp only [cntR]; rw [if_pos hd]
        have h1 : (48 : Int) ≤ (c.toNat : Int) := by omega
        have h2 : (c.toNat : Int) ≤ 57 := by omega
        have h1' : 48 ≤ c.toNat := hd.1
        have h2' : c.toNat ≤ 57 := hd.2
        have e1 : IntKind.i64.wrap ((m : Int) * 10) = (m : Int) * 10 := IntWalk.i64_in _ (by omega)
        have e2 : IntKind.u8.wrap ((c.toNat : Int) - 48) = (c.toNat : Int) - 48 := u8_small _ (by omega) (by omega)
        have e3 : IntKind.i64.wrap ((c.toNat : Int) - 48) = (c.toNat : Int) - 48 := IntWalk.i64_in _ (by omega)
        have e4 : IntKind.i64.wrap ((m : Int) * 10 + ((c.toNat : Int) - 48)) = (m : Int) * 10 + ((c.toNat : Int) - 48) := IntWalk.i64_in _ (by omega)
        have HS := Lib.hid hstep
        clear hstep hd
        go_wp2_with fail
        go_quiet (fail)
        go_wp2_with fail
        exact ⟨⟨r, min (m * 10 + (c.toNat - 48)) 65535, by omega, by simp at hr; omega, rfl, congrArg (Value.int .i64) (by omega), HS, by (repeat (first | with_reducible exact Gr.refl _ | with_reducible assumption | with_reducible refine Gr.setCell ?_ (by simp; try omega) _ | with_reducible refine Gr.alloc ?_ _ | with_reducible refine Gr.drew ?_ | with_reducible refine Gr.drewN ?_ _ | with_reducible refine Gr.trans ?_ (by assumption)))⟩, by show (bsl r).size < t.size; rw [bsl_size, HSZ.out]; omega⟩
      · have hstep : N = (m, c :: r) := by rw [← HC.out]; simp only [cntR]; rw [if_neg hd]
        subst hstep
        by_cases h1 : 48 ≤ c.toNat
        · have h2 : ¬ c.toNat ≤ 57 := by omega
          have h1' : (48 : Int) ≤ (c.toNat : Int) := by omega
          have h2' : ¬ (c.toNat : Int) ≤ 57 := by omega
          clear hd
          go_wp2_with fail
          go_ret2
          exact ⟨by rw [HT.out]; simp [cMax], hgr⟩
        · have h1' : ¬ (48 : Int) ≤ (c.toNat : Int) := by omega
          clear hd
          go_wp2_with fail
          go_ret2
          exact ⟨by rw [HT.out]; simp [cMax], hgr⟩
end Go.Proofs.Ytaeppimldbknhaa
