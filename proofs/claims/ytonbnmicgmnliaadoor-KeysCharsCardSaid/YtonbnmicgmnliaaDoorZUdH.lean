/-
  Keys with texts: Define of the program, walked.
-/
import Derived.Test.YtonbnmicgmnliaaDoorZUdG
namespace Go.Proofs.YtonbnmicgmnliaaDoor
set_option linter.unusedSimpArgs false
set_option linter.unusedVariables false
open Go.RowKit
set_option linter.unusedVariables false

theorem used_set (L : Txs) (i : Nat) (t : List UInt8) : usedL (L.set i t) ≤ usedL L + t.length := by
  unfold usedL
  induction L generalizing i with
  | nil => simp
  | cons s l ih =>
    cases i with
    | zero => simp; omega
    | succ i => have := ih i; simp at this ⊢; omega
theorem used_none : usedL noL = 0 := by decide
theorem defR_used {L L' : Txs} {q : List UInt8} (h : defR L q = some L') : usedL L' ≤ usedL L + q.length := by
  unfold defR at h
  split at h
  · injection h with h; rw [← h]; omega
  · split at h
    · cases h
    · rename_i n b hp
      obtain ⟨t, ht, rfl⟩ := Option.map_eq_some_iff.1 h
      have h1 := hexR_len ht
      have h2 := used_set L (n - 17) t
      have h3 : b.length ≤ q.length := by
        have hc := cutV_len q
        unfold defP at hp
        unfold cutV at hc
        split at hp
        · cases hp
        · rename_i a b' hcs
          split at hp
          · injection hp with hp
            injection hp with _ hp
            rw [← hp]
            rw [hcs] at hc
            exact hc.2
          · cases hp
      omega
theorem withR_used : ∀ {l : List (List UInt8)} {L L1 : Txs} {M : Nat}, withR L l = some L1 → (∀ q ∈ l, q.length ≤ M) → usedL L1 ≤ usedL L + l.length * M
  | [], L, L1, M, h, _ => by injection h with h; rw [← h]; omega
  | q :: l, L, L1, M, h, hm => by
    unfold withR at h
    split at h
    · cases h
    · rename_i L2 h2
      have e1 := defR_used h2
      have e2 := withR_used (M := M) h fun x hx => hm x (by simp [hx])
      have e3 := hm q (by simp)
      have e4 : (q :: l).length * M = l.length * M + M := by rw [List.length_cons, Nat.add_mul, Nat.one_mul]
      omega
theorem withR_bound {L L1 : Txs} {d : List UInt8} (h : withR L (sps 59 d) = some L1) (hd : d.length ≤ 100000) (hu : usedL L ≤ 1000000) : usedL L1 ≤ 1000000000000 := by
  have h1 := withR_used (M := 100000) h fun q hq => by have := sps_short 59 d q hq; omega
  have h2 := sps_len 59 d
  have h3 : (sps 59 d).length * 100000 ≤ 100001 * 100000 := Nat.mul_le_mul_right _ (by omega)
  omega
theorem KAt.upd {w w' : World} {p : Nat} {L : Txs} {lk : Bool} {K : List Nat} (h : KAt w p L lk) (hu : Upd K w w') (hp : p ∉ K) : KAt w' p L lk := ⟨hu.blk h.blk hp, h.len⟩
/-- What Define leaves. -/
def DefTo (w : World) (p : Nat) (r : Txs × Bool × Int) (e : Ending) (w' : World) : Prop := e = .returned (.int .i64 r.2.2) ∧ KAt w' p r.1 r.2.1 ∧ Upd [p] w w'
set_option maxHeartbeats 2000000 in
set_option maxRecDepth 100000 in
theorem define_any {p : Nat} {L : Txs} {lk : Bool} (clear lock : Bool) (d : List UInt8) {w : World} (h : KAt w p L lk) (hd : d.length ≤ 100000) (hM : MaxOk w) (hu : usedL L ≤ 1000000) :
    Calls Tryd.prog 12 #[.pointer (some ⟨p, 0, none⟩), .bool clear, .bool lock, .string (bsl d)] w (DefTo w p (dfnR L lk clear lock d)) := by
  obtain ⟨r, hr⟩ : ∃ r, r = dfnR L lk clear lock d := ⟨_, rfl⟩
  rw [← hr]
  have HR := Lib.hid hr
  clear hr
  have hrg := h.range
  have hl := kcs_len h.len lk
  have hone := kcs_one L lk
  obtain ⟨cs, hcs⟩ : ∃ cs, cs = kcs L lk := ⟨_, rfl⟩
  rw [← hcs] at hrg hl hone
  have HC := Lib.hid hcs
  have HK := Lib.hid h
  have hpl := (Array.getElem?_eq_some_iff.1 h.blk).1
  clear hcs h
  go_enter Tryd.func12, Tryd.ntmps12
  go_upto_region 2 with (first
    | (refine wpList_load_whole rfl 43 _ rfl p 0 rfl cs.toArray _ hrg Tryd.underlying43 rfl (by rw [keys_size, hl]) ?_)
    | (refine wpList_store_part rfl _ _ _ rfl _ 0 cs.toArray rfl rfl _ _ _ (heap_alloc_new _ _) (by simp [hl]) (by rw [keys_size]; simp [hl]) hone (setL_all (by simp [hl])) ?_; intro w1 hb1 hu1 hs1))
  have hg1 : Gr w w1 := ((Gr.refl w).alloc _).upd hu1 (by simp)
  obtain ⟨g, hg⟩ : ∃ g, g = w.heap.size := ⟨_, rfl⟩
  rw [← hg] at hb1 hu1 ⊢
  have hKg : KAt w1 g L lk := ⟨by rw [hb1, HC.out], HK.out.len⟩
  have HG := Lib.hid hg
  clear hb1 hu1 hs1 hrg hl hone hg
  have hpg : p ≠ g := by have := HG.out; omega
  rcases clear with _ | _
  · go_upto_region 4 with fail
    have hK0 : KAt w1 g L lk := hKg
    have hg3 : Gr w w1 := hg1
    obtain ⟨L0, hL0⟩ : ∃ L0, L0 = (if false = true then List.replicate 18 [] else L) := ⟨_, rfl⟩
    have hL00 : L = L0 := by rw [hL0]; rfl
    obtain ⟨w3, hw3⟩ : ∃ w3, w3 = w1 := ⟨_, rfl⟩
    have hu0 : usedL L0 ≤ 1000000 := by rw [← hL00]; exact hu
    rw [← hw3] at hK0 hg3 ⊢
    rw [hL00] at hK0
    have HL00 := Lib.hid hL00
    have HW3 := Lib.hid hw3
    clear hKg hg1 hL00 hw3
    have hrg := hK0.range
    have hl := kcs_len hK0.len lk
    have hone := kcs_one L0 lk
    have hwith := with_any L0 lk d w3 hK0.len hd (hM.gr hg3)
    obtain ⟨c0, hc0⟩ : ∃ c0, c0 = kcs L0 lk := ⟨_, rfl⟩
    rw [← hc0] at hrg hl hone hwith
    have HC0 := Lib.hid hc0
    have hb0 := hK0.blk
    rw [← hc0] at hb0
    have HK0 := Lib.hid hK0
    have HL0 := Lib.hid hL0
    have HM := Lib.hid hM
    have HU := Lib.hid hu0
    obtain ⟨ro, hro⟩ : ∃ ro, ro = withR L0 (sps 59 d) := ⟨_, rfl⟩
    rw [← hro] at hwith
    have HRO := Lib.hid hro
    clear hc0 hro hL0 hM hK0 hu0
    rcases ro with _ | L1
    · have hres : r = (L, lk, 3) := by rw [HR.out]; unfold dfnR; rw [← HL0.out, ← HRO.out]
      subst hres
      go_wp2_with (first
        | (refine wpList_load_whole rfl 43 _ rfl g 0 rfl c0.toArray _ hrg Tryd.underlying43 rfl (by rw [keys_size, hl]) ?_)
        | (go_at_call 15; (with_reducible refine hwith.mono ?_); rintro e w4 ⟨L4, rfl, hL4, _, hg4⟩; have hb4 := hg4.blk hb0; have hl4 := kcs_len hL4 lk; have hone4 := kcs_one L4 lk)
        | (refine wpList_store_part rfl _ _ _ rfl g 0 (kcs L4 lk).toArray rfl rfl _ c0.toArray _ hb4 (by simp [hl, hl4]) (by rw [keys_size]; simp [hl4]) hone4 (setL_all (by simp [hl, hl4])) ?_; intro w5 hb5 hu5 hs5))
      go_ret
      exact ⟨rfl, ((HK.out.gr (hg3.trans hg4)).upd hu5 (by simpa using hpg)), (Upd.of_gr ((hg3.trans hg4).upd hu5 (by simpa using Nat.le_of_eq HG.out.symm)))⟩
    · have hwl := HRO.out.symm
      have hub := withR_bound hwl hd HU.out
      have HWL := Lib.hid hwl
      clear hwl
      by_cases h804 : 804 < usedL L1
      · have hres : r = (L, lk, 5) := by rw [HR.out]; unfold dfnR; rw [← HL0.out, ← HRO.out]; simp [h804]
        subst hres
        have h804' : (804 : Int) < ((usedL L1 : Nat) : Int) := by omega
        obtain ⟨U, hU⟩ : ∃ U, U = usedL L1 := ⟨_, rfl⟩
        have HUU := Lib.hid hU
        rw [← hU] at h804'
        clear hU h804
        go_wp2_with (first
          | (refine wpList_load_whole rfl 43 _ rfl g 0 rfl c0.toArray _ hrg Tryd.underlying43 rfl (by rw [keys_size, hl]) ?_)
          | (go_at_call 15; (with_reducible refine hwith.mono ?_); rintro e w4 ⟨L4, rfl, hL4, h4, hg4⟩; have h4 := h4 _ rfl; subst h4; have hb4 := hg4.blk hb0; have hl4 := kcs_len hL4 lk; have hone4 := kcs_one L4 lk)
          | (refine wpList_store_part rfl _ _ _ rfl g 0 (kcs L4 lk).toArray rfl rfl _ c0.toArray _ hb4 (by simp [hl, hl4]) (by rw [keys_size]; simp [hl4]) hone4 (setL_all (by simp [hl, hl4])) ?_; intro w5 hb5 hu5 hs5; have hused := used_any ⟨hb5, hL4⟩ hub; rw [← HUU.out] at hused)
          | (go_at_call 16; (with_reducible refine hused.mono ?_); rintro e w6 ⟨rfl, hg6⟩))
        go_ret
        have hgw := ((hg3.trans hg4).upd hu5 (by simpa using Nat.le_of_eq HG.out.symm)).trans hg6
        exact ⟨rfl, HK.out.gr hgw, Upd.of_gr hgw⟩
      · have h804' : ¬ (804 : Int) < ((usedL L1 : Nat) : Int) := by omega
        obtain ⟨U, hU⟩ : ∃ U, U = usedL L1 := ⟨_, rfl⟩
        have HUU := Lib.hid hU
        have H804 := Lib.hid h804
        rw [← hU] at h804'
        clear hU h804
        rcases lk with _ | _
        · have hres : r = (L1, lock, 0) := by rw [HR.out]; unfold dfnR; rw [← HL0.out, ← HRO.out]; simp [H804.out]
          subst hres
          go_wp2_with (first
            | (refine wpList_load_whole rfl 43 _ rfl g 0 rfl c0.toArray _ hrg Tryd.underlying43 rfl (by rw [keys_size, hl]) ?_)
            | (go_at_call 15; (with_reducible refine hwith.mono ?_); rintro e w4 ⟨L4, rfl, hL4, h4, hg4⟩; have h4 := h4 _ rfl; subst h4; have hb4 := hg4.blk hb0; have hl4 := kcs_len hL4 false; have hone4 := kcs_one L4 false)
            | (refine wpList_store_part rfl _ _ _ rfl g 0 (kcs L4 false).toArray rfl rfl _ c0.toArray _ hb4 (by simp [hl, hl4]) (by rw [keys_size]; simp [hl4]) hone4 (setL_all (by simp [hl, hl4])) ?_; intro w5 hb5 hu5 hs5; have hused := used_any ⟨hb5, hL4⟩ hub; rw [← HUU.out] at hused)
            | (go_at_call 16; (with_reducible refine hused.mono ?_); rintro e w6 ⟨rfl, hg6⟩
               have hgw := ((hg3.trans hg4).upd hu5 (by simpa using Nat.le_of_eq HG.out.symm)).trans hg6
               have hKp := HK.out.gr hgw
               have hKn : KAt w6 g L4 false := ⟨hg6.blk hb5, hL4⟩
               have hlk := hKp.lock
               have hln := hKn.lock
               have hfn := hKn.frozen 18
               have hK7 := hKn.setLock lock
               have hr7 := hK7.range
               have hl7 := kcs_len hL4 lock
               have hone7 := kcs_one L4 lock
               have hb7 : (w6.setCell ⟨g, 18, none⟩ (.bool lock)).heap[p]? = some (.cells (kcs L false).toArray 43 (0, 0)) := (Upd.of_setCell _ _ _ _).blk hKp.blk (by simpa using hpg)
               have hlp := kcs_len HK.out.len false
               have hgw7 : Gr w (w6.setCell ⟨g, 18, none⟩ (.bool lock)) := hgw.upd (Upd.of_setCell _ _ _ _) (by simpa using Nat.le_of_eq HG.out.symm)
               have HKp := Lib.hid hKp
               have HKn := Lib.hid hKn
               have HK7 := Lib.hid hK7
               clear hKp hKn hK7)
            | (refine wpList_load_whole rfl 43 _ rfl g 0 rfl (kcs L4 lock).toArray _ hr7 Tryd.underlying43 rfl (by rw [keys_size, hl7]) ?_)
            | (refine wpList_store_part rfl _ _ _ rfl p 0 (kcs L4 lock).toArray rfl rfl _ (kcs L false).toArray _ hb7 (by simp [hlp, hl7]) (by rw [keys_size]; simp [hl7]) hone7 (setL_all (by simp [hlp, hl7])) ?_; intro w8 hb8 hu8 hs8))
          go_ret
          exact ⟨rfl, ⟨hb8, hL4⟩, (Upd.of_gr hgw7).trans hu8⟩
        · have hres : r = (L, true, 6) := by rw [HR.out]; unfold dfnR; rw [← HL0.out, ← HRO.out]; simp [H804.out]
          subst hres
          go_wp2_with (first
            | (refine wpList_load_whole rfl 43 _ rfl g 0 rfl c0.toArray _ hrg Tryd.underlying43 rfl (by rw [keys_size, hl]) ?_)
            | (go_at_call 15; (with_reducible refine hwith.mono ?_); rintro e w4 ⟨L4, rfl, hL4, h4, hg4⟩; have h4 := h4 _ rfl; subst h4; have hb4 := hg4.blk hb0; have hl4 := kcs_len hL4 true; have hone4 := kcs_one L4 true)
            | (refine wpList_store_part rfl _ _ _ rfl g 0 (kcs L4 true).toArray rfl rfl _ c0.toArray _ hb4 (by simp [hl, hl4]) (by rw [keys_size]; simp [hl4]) hone4 (setL_all (by simp [hl, hl4])) ?_; intro w5 hb5 hu5 hs5; have hused := used_any ⟨hb5, hL4⟩ hub; rw [← HUU.out] at hused)
            | (go_at_call 16; (with_reducible refine hused.mono ?_); rintro e w6 ⟨rfl, hg6⟩
               have hgw := ((hg3.trans hg4).upd hu5 (by simpa using Nat.le_of_eq HG.out.symm)).trans hg6
               have hlk := (HK.out.gr hgw).lock))
          go_ret
          exact ⟨rfl, HK.out.gr hgw, Upd.of_gr hgw⟩
  · have hclr := clear_any hKg
    go_upto_region 4 with (go_at_call 14; (with_reducible refine hclr.mono ?_); rintro e w3 ⟨rfl, hK0, hu3⟩)
    have hg3 : Gr w w3 := hg1.upd hu3 (by simpa using Nat.le_of_eq HG.out.symm)
    obtain ⟨L0, hL0⟩ : ∃ L0, L0 = (if true = true then List.replicate 18 [] else L) := ⟨_, rfl⟩
    have hL00 : noL = L0 := by rw [hL0]; rfl
    have hu0 : usedL L0 ≤ 1000000 := by rw [← hL00, used_none]; omega
    rw [hL00] at hK0
    have HL00 := Lib.hid hL00
    clear hKg hg1 hL00 hu3
    have hrg := hK0.range
    have hl := kcs_len hK0.len lk
    have hone := kcs_one L0 lk
    have hwith := with_any L0 lk d w3 hK0.len hd (hM.gr hg3)
    obtain ⟨c0, hc0⟩ : ∃ c0, c0 = kcs L0 lk := ⟨_, rfl⟩
    rw [← hc0] at hrg hl hone hwith
    have HC0 := Lib.hid hc0
    have hb0 := hK0.blk
    rw [← hc0] at hb0
    have HK0 := Lib.hid hK0
    have HL0 := Lib.hid hL0
    have HM := Lib.hid hM
    have HU := Lib.hid hu0
    obtain ⟨ro, hro⟩ : ∃ ro, ro = withR L0 (sps 59 d) := ⟨_, rfl⟩
    rw [← hro] at hwith
    have HRO := Lib.hid hro
    clear hc0 hro hL0 hM hK0 hu0
    rcases ro with _ | L1
    · have hres : r = (L, lk, 3) := by rw [HR.out]; unfold dfnR; rw [← HL0.out, ← HRO.out]
      subst hres
      go_wp2_with (first
        | (refine wpList_load_whole rfl 43 _ rfl g 0 rfl c0.toArray _ hrg Tryd.underlying43 rfl (by rw [keys_size, hl]) ?_)
        | (go_at_call 15; (with_reducible refine hwith.mono ?_); rintro e w4 ⟨L4, rfl, hL4, _, hg4⟩; have hb4 := hg4.blk hb0; have hl4 := kcs_len hL4 lk; have hone4 := kcs_one L4 lk)
        | (refine wpList_store_part rfl _ _ _ rfl g 0 (kcs L4 lk).toArray rfl rfl _ c0.toArray _ hb4 (by simp [hl, hl4]) (by rw [keys_size]; simp [hl4]) hone4 (setL_all (by simp [hl, hl4])) ?_; intro w5 hb5 hu5 hs5))
      go_ret
      exact ⟨rfl, ((HK.out.gr (hg3.trans hg4)).upd hu5 (by simpa using hpg)), (Upd.of_gr ((hg3.trans hg4).upd hu5 (by simpa using Nat.le_of_eq HG.out.symm)))⟩
    · have hwl := HRO.out.symm
      have hub := withR_bound hwl hd HU.out
      have HWL := Lib.hid hwl
      clear hwl
      by_cases h804 : 804 < usedL L1
      · have hres : r = (L, lk, 5) := by rw [HR.out]; unfold dfnR; rw [← HL0.out, ← HRO.out]; simp [h804]
        subst hres
        have h804' : (804 : Int) < ((usedL L1 : Nat) : Int) := by omega
        obtain ⟨U, hU⟩ : ∃ U, U = usedL L1 := ⟨_, rfl⟩
        have HUU := Lib.hid hU
        rw [← hU] at h804'
        clear hU h804
        go_wp2_with (first
          | (refine wpList_load_whole rfl 43 _ rfl g 0 rfl c0.toArray _ hrg Tryd.underlying43 rfl (by rw [keys_size, hl]) ?_)
          | (go_at_call 15; (with_reducible refine hwith.mono ?_); rintro e w4 ⟨L4, rfl, hL4, h4, hg4⟩; have h4 := h4 _ rfl; subst h4; have hb4 := hg4.blk hb0; have hl4 := kcs_len hL4 lk; have hone4 := kcs_one L4 lk)
          | (refine wpList_store_part rfl _ _ _ rfl g 0 (kcs L4 lk).toArray rfl rfl _ c0.toArray _ hb4 (by simp [hl, hl4]) (by rw [keys_size]; simp [hl4]) hone4 (setL_all (by simp [hl, hl4])) ?_; intro w5 hb5 hu5 hs5; have hused := used_any ⟨hb5, hL4⟩ hub; rw [← HUU.out] at hused)
          | (go_at_call 16; (with_reducible refine hused.mono ?_); rintro e w6 ⟨rfl, hg6⟩))
        go_ret
        have hgw := ((hg3.trans hg4).upd hu5 (by simpa using Nat.le_of_eq HG.out.symm)).trans hg6
        exact ⟨rfl, HK.out.gr hgw, Upd.of_gr hgw⟩
      · have h804' : ¬ (804 : Int) < ((usedL L1 : Nat) : Int) := by omega
        obtain ⟨U, hU⟩ : ∃ U, U = usedL L1 := ⟨_, rfl⟩
        have HUU := Lib.hid hU
        have H804 := Lib.hid h804
        rw [← hU] at h804'
        clear hU h804
        rcases lk with _ | _
        · have hres : r = (L1, lock, 0) := by rw [HR.out]; unfold dfnR; rw [← HL0.out, ← HRO.out]; simp [H804.out]
          subst hres
          go_wp2_with (first
            | (refine wpList_load_whole rfl 43 _ rfl g 0 rfl c0.toArray _ hrg Tryd.underlying43 rfl (by rw [keys_size, hl]) ?_)
            | (go_at_call 15; (with_reducible refine hwith.mono ?_); rintro e w4 ⟨L4, rfl, hL4, h4, hg4⟩; have h4 := h4 _ rfl; subst h4; have hb4 := hg4.blk hb0; have hl4 := kcs_len hL4 false; have hone4 := kcs_one L4 false)
            | (refine wpList_store_part rfl _ _ _ rfl g 0 (kcs L4 false).toArray rfl rfl _ c0.toArray _ hb4 (by simp [hl, hl4]) (by rw [keys_size]; simp [hl4]) hone4 (setL_all (by simp [hl, hl4])) ?_; intro w5 hb5 hu5 hs5; have hused := used_any ⟨hb5, hL4⟩ hub; rw [← HUU.out] at hused)
            | (go_at_call 16; (with_reducible refine hused.mono ?_); rintro e w6 ⟨rfl, hg6⟩
               have hgw := ((hg3.trans hg4).upd hu5 (by simpa using Nat.le_of_eq HG.out.symm)).trans hg6
               have hKp := HK.out.gr hgw
               have hKn : KAt w6 g L4 false := ⟨hg6.blk hb5, hL4⟩
               have hlk := hKp.lock
               have hln := hKn.lock
               have hfn := hKn.frozen 18
               have hK7 := hKn.setLock lock
               have hr7 := hK7.range
               have hl7 := kcs_len hL4 lock
               have hone7 := kcs_one L4 lock
               have hb7 : (w6.setCell ⟨g, 18, none⟩ (.bool lock)).heap[p]? = some (.cells (kcs L false).toArray 43 (0, 0)) := (Upd.of_setCell _ _ _ _).blk hKp.blk (by simpa using hpg)
               have hlp := kcs_len HK.out.len false
               have hgw7 : Gr w (w6.setCell ⟨g, 18, none⟩ (.bool lock)) := hgw.upd (Upd.of_setCell _ _ _ _) (by simpa using Nat.le_of_eq HG.out.symm)
               have HKp := Lib.hid hKp
               have HKn := Lib.hid hKn
               have HK7 := Lib.hid hK7
               clear hKp hKn hK7)
            | (refine wpList_load_whole rfl 43 _ rfl g 0 rfl (kcs L4 lock).toArray _ hr7 Tryd.underlying43 rfl (by rw [keys_size, hl7]) ?_)
            | (refine wpList_store_part rfl _ _ _ rfl p 0 (kcs L4 lock).toArray rfl rfl _ (kcs L false).toArray _ hb7 (by simp [hlp, hl7]) (by rw [keys_size]; simp [hl7]) hone7 (setL_all (by simp [hlp, hl7])) ?_; intro w8 hb8 hu8 hs8))
          go_ret
          exact ⟨rfl, ⟨hb8, hL4⟩, (Upd.of_gr hgw7).trans hu8⟩
        · have hres : r = (L, true, 6) := by rw [HR.out]; unfold dfnR; rw [← HL0.out, ← HRO.out]; simp [H804.out]
          subst hres
          go_wp2_with (first
            | (refine wpList_load_whole rfl 43 _ rfl g 0 rfl c0.toArray _ hrg Tryd.underlying43 rfl (by rw [keys_size, hl]) ?_)
            | (go_at_call 15; (with_reducible refine hwith.mono ?_); rintro e w4 ⟨L4, rfl, hL4, h4, hg4⟩; have h4 := h4 _ rfl; subst h4; have hb4 := hg4.blk hb0; have hl4 := kcs_len hL4 true; have hone4 := kcs_one L4 true)
            | (refine wpList_store_part rfl _ _ _ rfl g 0 (kcs L4 true).toArray rfl rfl _ c0.toArray _ hb4 (by simp [hl, hl4]) (by rw [keys_size]; simp [hl4]) hone4 (setL_all (by simp [hl, hl4])) ?_; intro w5 hb5 hu5 hs5; have hused := used_any ⟨hb5, hL4⟩ hub; rw [← HUU.out] at hused)
            | (go_at_call 16; (with_reducible refine hused.mono ?_); rintro e w6 ⟨rfl, hg6⟩
               have hgw := ((hg3.trans hg4).upd hu5 (by simpa using Nat.le_of_eq HG.out.symm)).trans hg6
               have hlk := (HK.out.gr hgw).lock))
          go_ret
          exact ⟨rfl, HK.out.gr hgw, Upd.of_gr hgw⟩
end Go.Proofs.YtonbnmicgmnliaaDoor
