/-
  The law ReplyFunctions, walked.
-/
import Derived.Deep.DeepCutAuto
import Derived.Test.YtjfffkaifcajbaaDoorZOrd6
import Derived.Test.YtjfffkaifcajbaaDoorZRyT
import Derived.Test.YtjfffkaifcajbaaDoorZRyU
import Derived.Test.YtjfffkaifcajbaaDoorZRyW
namespace Go.Proofs.YtjfffkaifcajbaaDoor
set_option linter.unusedSimpArgs false
set_option linter.unusedVariables false
open Go.RowKit
set_option linter.unusedVariables false

def rf7 (va : Option Addr) (na vc : Nat) (vb : Option Addr) (nb vd : Nat) (pa : Option Addr) (n c : Nat) (qa : Option Addr) (M qc : Nat) (eight : Bool) (s X Y : ByteArray) (LL A B : List Int) : Nat → Value → World → Prop
  | 0, v, _ => v = .slice va na vc
  | 1, v, _ => v = .string X
  | 2, v, _ => v = .bool eight
  | 3, v, _ => v = .string s
  | 4, v, _ => v = .slice pa n c
  | 5, v, w' => ∃ x y, v = .slice x M y ∧ HasRow w' 3 (.slice x M y) M (icells LL)
  | 6, v, w' => ∃ x y, v = .slice x na y ∧ HasRow w' 5 (.slice x na y) na (bcells A)
  | 7, v, _ => v = .string X
  | 8, v, _ => v = .bool false
  | 9, v, _ => v = .bool false
  | 10, v, _ => v = .slice vb nb vd
  | 11, v, _ => v = .string Y
  | 12, v, _ => v = .bool eight
  | 13, v, _ => v = .string s
  | 14, v, _ => v = .slice pa n c
  | 15, v, w' => ∃ x y, v = .slice x M y ∧ HasRow w' 3 (.slice x M y) M (icells LL)
  | 16, v, w' => ∃ x y, v = .slice x nb y ∧ HasRow w' 5 (.slice x nb y) nb (bcells B)
  | 17, v, _ => v = .string Y
  | 18, v, _ => v = .bool false
  | 19, v, _ => v = .bool false
  | 20, v, _ => v = .bool false
  | 21, v, _ => v = .slice qa M qc
  | 22, v, _ => v = .slice pa n c
  | 23, v, w' => ∃ x y, v = .slice x M y ∧ HasRow w' 3 (.slice x M y) M (icells LL)
  | 24, v, _ => v = .bool true
  | 25, v, _ => v = .bool false
  | 26, v, _ => v = .bool false
  | _, _, _ => True
theorem rf7.gr {va : Option Addr} {na vc : Nat} {vb : Option Addr} {nb vd : Nat} {pa : Option Addr} {n c : Nat} {qa : Option Addr} {M qc : Nat} {eight : Bool} {s X Y : ByteArray} {LL A B : List Int} {w1 w2 : World} {j : Nat} {u : Value} (h : rf7 va na vc vb nb vd pa n c qa M qc eight s X Y LL A B j u w1) (hg : Gr w1 w2) : rf7 va na vc vb nb vd pa n c qa M qc eight s X Y LL A B j u w2 := by
  unfold rf7 at h ⊢
  split <;> first | exact h | skip
  · obtain ⟨x, y, e, h⟩ := h; exact ⟨x, y, e, h.gr hg⟩
  · obtain ⟨x, y, e, h⟩ := h; exact ⟨x, y, e, h.gr hg⟩
  · obtain ⟨x, y, e, h⟩ := h; exact ⟨x, y, e, h.gr hg⟩
  · obtain ⟨x, y, e, h⟩ := h; exact ⟨x, y, e, h.gr hg⟩
  · obtain ⟨x, y, e, h⟩ := h; exact ⟨x, y, e, h.gr hg⟩
  all_goals trivial
/-- What a parser says of both answers. -/
def TwoTo (W : World) (C Mk : Int) (I : ByteArray) (m : Nat) (PS : List Int) (e : Ending) (w' : World) : Prop := ∃ g cap p1 p1c d1 d1c p2 p2c d2 d2c, e = .returned (.slice (some ⟨g, 0, none⟩) 2 cap) ∧ TwoAt w' g 4 C Mk I (.slice p1 m p1c) (.slice d1 0 d1c) 5 C Mk I (.slice p2 m p2c) (.slice d2 2 d2c) ∧
  HasRow w' 3 (.slice p1 m p1c) m (icells PS) ∧ HasRow w' 3 (.slice p2 m p2c) m (icells PS) ∧ HasRow w' 5 (.slice d2 2 d2c) 2 (bcells [97, 98]) ∧ Gr W w'
theorem two_to {w : World} {id ps A B : List Int} {eight : Bool} {a : Option Addr} {n c m : Nat} (hi : ∀ c ∈ id, 0 ≤ c ∧ c < 256) (h1 : checkR (funT 4 id ps []) = 0) (hA : A = ansR (funT 4 id ps []) eight) (hB : B = ansR (funT 5 id ps [97, 98]) eight) (hm : m = ((ps.take 30).map clip16).length) (hr : Rd w a n (bcells A ++ bcells B)) :
    Calls Tryd.prog 29 #[.slice a n c] w (TwoTo w ((restR id).getLastD 0) (markR id) (strOf (restR id).dropLast) m ((ps.take 30).map clip16)) := by
  have h2 : checkR (funT 5 id ps [97, 98]) = 0 := (fun_both (by decide) (by decide)).2 h1
  have r1 : TRange (funT 4 id ps []) := fun_range hi (by simp)
  have r2 : TRange (funT 5 id ps [97, 98]) := fun_range hi (by simp)
  refine (split_two (L := A ++ B) (c := c) (by rw [hA, hB]) (by simpa [bcells] using hr) r1 r2 h1 h2).mono ?_
  rintro e w' ⟨ov, qs, rfl, hAT, hg⟩
  obtain ⟨g, cap, a1, c1, a2, c2, b1, d1, b2, d2, rfl, hT, hr1, hr2⟩ := two_at hAT
  subst hm
  exact ⟨g, cap, a1, c1, a2, c2, b1, d1, b2, d2, rfl, hT, hr1.params, hr2.params, hr2.data, hg⟩
set_option maxRecDepth 100000 in
set_option maxHeartbeats 16000000 in
theorem funs_walk {w : World} (eight : Bool) (s0 : ByteArray) {pa : Option Addr} {n c : Nat} {ps : List Int} (h : Rd w pa n (icells ps)) (hnc : n ≤ c) (hT : tabT w) :
    Calls Tryd.prog 5 #[.bool eight, .string s0, .slice pa n c] w fun e w' => e = .returned (.bool true) ∧ Gr w w' := by
  have haw := awake18 hT
  have hfew := fun (W : World) (hg : Gr w W) => few_any (h.gr hg) hnc
  obtain ⟨M, hM⟩ : ∃ M, M = min n 40 := ⟨_, rfl⟩
  obtain ⟨LL, hLL⟩ : ∃ L, L = ps.take 40 := ⟨_, rfl⟩
  have hLM : LL.length = M := by
    have hl : ps.length = n := by simpa [icells] using h.1
    rw [hLL, hM, List.length_take]; omega
  have hM40 : M ≤ 40 := by omega
  rw [← hM, ← hLL] at hfew
  have HLM := Lib.hid hLM
  clear hM hLL hLM h
  go_enter Tryd.func5, Tryd.ntmps5
  go_upto_if 15 with (go_at_call 7; (with_reducible refine haw.mono ?_); rintro e w1 ⟨rfl, hg1⟩)
  go_cut [1] (fun v wx => w1 = wx ∧ ∃ t : ByteArray, v = .string t ∧ t.size ≤ 20)
  case first =>
    by_cases h20 : 20 < s0.size
    · have h20I : (20 : Int) < (s0.size : Int) := by omega
      have h20J : (20 : Int) ≤ (s0.size : Int) := by omega
      have hx : (s0.extract 0 20).size ≤ 20 := by simp; omega
      go_wp2_with fail
      go_meet
      exact ⟨rfl, _, rfl, hx⟩
    · have h20I : ¬ (20 : Int) < (s0.size : Int) := by omega
      go_wp2_with fail
      go_meet
      exact ⟨rfl, s0, rfl, by omega⟩
  case rest =>
    obtain ⟨rfl, s, rfl, hs20⟩ := hcut
    have hcsi := fun (W : World) (va : Option Addr) (vc : Nat) (hg : Gr w W) (hr : HasRow W 3 (.slice va M vc) M (icells LL)) => ans_row (csi_any (s := s) eight hr (by omega) (by omega) (hT.gr hg)) rfl
    have hdcs := fun (W : World) (va : Option Addr) (vc : Nat) (hg : Gr w W) (hr : HasRow W 3 (.slice va M vc) M (icells LL)) => ans_row (dcs_any (s := s) (d := ⟨#[97, 98]⟩) eight hr (by omega) (by omega) (hT.gr hg)) rfl
    have hcsr := fun (W : World) (va : Option Addr) (vc : Nat) (hr : HasRow W 3 (.slice va M vc) M (icells LL)) => rb_row (rcsi_any (s := s) eight hr (by omega) (by omega)) rfl
    have hdcr := fun (W : World) (va : Option Addr) (vc : Nat) (hr : HasRow W 3 (.slice va M vc) M (icells LL)) => rb_row (rdcs_any (s := s) (d := ⟨#[97, 98]⟩) eight hr (by omega) (by omega) (by decide)) rfl
    rw [show nums ⟨#[97, 98]⟩ = [97, 98] from rfl] at hdcs hdcr
    unfold csiR at hcsr
    unfold dcsR at hdcr
    obtain ⟨tk, htk⟩ : ∃ t, t = funT 4 (nums s) LL [] := ⟨_, rfl⟩
    obtain ⟨uk, huk⟩ : ∃ t, t = funT 5 (nums s) LL [97, 98] := ⟨_, rfl⟩
    rw [← htk] at hcsi hcsr
    rw [← huk] at hdcs hdcr
    obtain ⟨A, hA⟩ : ∃ A, A = ansR tk eight := ⟨_, rfl⟩
    obtain ⟨B, hB0⟩ : ∃ B, B = ansR uk eight := ⟨_, rfl⟩
    rw [← hA] at hcsi hcsr
    rw [← hB0] at hdcs hdcr
    obtain ⟨na, hna⟩ : ∃ n, n = A.length := ⟨_, rfl⟩
    obtain ⟨nb, hnb⟩ : ∃ n, n = B.length := ⟨_, rfl⟩
    rw [← hna] at hcsi hcsr
    rw [← hnb] at hdcs hdcr
    have hsame := fun (W : World) (v : Value) (x : Option Addr) (y : Nat) (h1 : HasRow W 3 v M (icells LL)) (h2 : HasRow W 3 (.slice x M y) M (icells LL)) => by
      have := same_ints (v1 := v) (v2 := .slice x M y) (l := LL) (by rw [HLM.out]; exact h1) (by rw [HLM.out]; exact h2) (by rw [HLM.out]; omega)
      exact this
    have HTK := Lib.hid htk; have HUK := Lib.hid huk; have HA := Lib.hid hA; have HB0 := Lib.hid hB0; have HNA := Lib.hid hna; have HNB := Lib.hid hnb
    clear htk huk hA hB0 hna hnb
    go_upto_region 7 with (first
      | (go_at_call 25; (with_reducible refine (hfew _ hg1).mono ?_); rintro e w2 ⟨qa, qc, rfl, hQ0, hg2⟩; have hQ := HasRow.of_own hQ0; clear hQ0; have hg2 := hg1.trans hg2)
      | (go_at_call 26; (with_reducible refine (hcsi _ _ _ hg2 hQ).mono ?_); rintro e w3 ⟨va, vc, rfl, hRA, hg3⟩; have hQ := hQ.gr hg3; have hg3 := hg2.trans hg3)
      | (go_at_call 27; (with_reducible refine (hdcs _ _ _ hg3 hQ).mono ?_); rintro e w4 ⟨vb, vd, rfl, hRB, hg4⟩; have hQ := hQ.gr hg4; have hRA := hRA.gr hg4; have hg4 := hg3.trans hg4))
    obtain ⟨X, hX⟩ : ∃ X, X = strOf A := ⟨_, rfl⟩
    obtain ⟨Y, hY⟩ : ∃ Y, Y = strOf B := ⟨_, rfl⟩
    have HX := Lib.hid hX; have HY := Lib.hid hY
    have HRA := Lib.hid hRA; have HRB := Lib.hid hRB
    have HFEW : Hid (∀ W, Gr w4 W → Calls Tryd.prog 25 #[.slice pa n c] W fun e w' => ∃ va vc, e = .returned (.slice va M vc) ∧ w'.ownsRow W.heap.size 3 1 (.slice va M vc) M (icells LL) ∧ Gr W w') := Lib.hid fun W hg => hfew W (hg4.trans hg)
    have HCS : Hid (∀ W, Gr w4 W → ∀ x y, HasRow W 3 (.slice x M y) M (icells LL) → Calls Tryd.prog 15 #[.bool eight, .string s, .slice x M y] W (RowTo W na A)) := Lib.hid fun W hg x y hr => hcsr W x y hr
    have HCD : Hid (∀ W, Gr w4 W → ∀ x y, HasRow W 3 (.slice x M y) M (icells LL) → Calls Tryd.prog 17 #[.bool eight, .string s, .string ⟨#[97, 98]⟩, .slice x M y] W (RowTo W nb B)) := Lib.hid fun W hg x y hr => hdcr W x y hr
    have HSAME : Hid (∀ W, Gr w4 W → ∀ x y, HasRow W 3 (.slice x M y) M (icells LL) → Calls Tryd.prog 28 #[.slice qa M qc, .slice x M y] W fun e w' => e = .returned (.bool true) ∧ Gr W w') := Lib.hid fun W hg x y hr => hsame W _ x y (hQ.gr hg) hr
    clear hX hY hRA hRB hfew hcsi hdcs hcsr hdcr hsame hQ haw
    refine wp_region_facts6 (rf7 va na vc vb nb vd pa n c qa M qc eight s X Y LL A B) (Gr w4) (by kernel_rfl) (by kernel_rfl) (by kernel_rfl) ((Gr.refl _).drew) ?_ ?_
    · intro hap
      refine Steps.cons1 1 rfl rfl ?_ (Steps.cons1 2 rfl rfl ?_ (Steps.cons1 3 rfl rfl ?_ (Steps.cons1 4 rfl rfl ?_ (Steps.cons1 5 rfl rfl ?_ (Steps.cons1 6 rfl rfl ?_ (Steps.cons1 7 rfl rfl ?_ (Steps.cons1 8 rfl rfl ?_ (Steps.cons1 9 rfl rfl ?_ (Steps.cons1 10 rfl rfl ?_ (Steps.consY 11 rfl 9 false rfl hap (by kernel_rfl) ?_ ?_ (Steps.consY 12 rfl 9 false rfl hap (by kernel_rfl) ?_ ?_ (Steps.consY 13 rfl 9 false rfl hap (by kernel_rfl) ?_ ?_ (Steps.consY 14 rfl 9 false rfl hap (by kernel_rfl) ?_ ?_ (Steps.consY 15 rfl 9 false rfl hap (by kernel_rfl) ?_ ?_ (Steps.consY 16 rfl 9 false rfl hap (by kernel_rfl) ?_ ?_ (Steps.consY 17 rfl 9 false rfl hap (by kernel_rfl) ?_ ?_ (Steps.consY 18 rfl 9 false rfl hap (by kernel_rfl) ?_ ?_ (Steps.consY 19 rfl 9 false rfl hap (by kernel_rfl) ?_ ?_ (Steps.cons1 20 rfl rfl ?_ (Steps.cons1 21 rfl rfl ?_ (Steps.consY 22 rfl 20 false rfl hap (by kernel_rfl) ?_ ?_ (Steps.consY 23 rfl 20 false rfl hap (by kernel_rfl) ?_ ?_ (Steps.consY 24 rfl 20 false rfl hap (by kernel_rfl) ?_ ?_ (Steps.consY 25 rfl 20 false rfl hap (by kernel_rfl) ?_ ?_ (Steps.consY 26 rfl 20 false rfl hap (by kernel_rfl) ?_ ?_ (Steps.cons1 27 rfl rfl ?_ (Steps.nil)))))))))))))))))))))))))))
      · (intro ys w' hB hP K hK; simp only [Preds, Region.binds, rf7, forall_const, and_true, true_and] at hP; simp only [fillA]; go_simp; (have h2 := fun v => hK v w' hB); simp only [rf7, forall_eq] at h2; (have h2 := h2 (fun _ _ _ h => h)); simp [fillA, Act.put, hP] at h2; exact h2)
      · (intro ys w' hB hP; simp only [Preds, Region.binds, rf7, forall_const, and_true, true_and] at hP)
        have hcv := conv_row (HRA.out.gr hB)
        rw [← HX.out] at hcv
        intro K hK
        simp only [fillA]
        go_simp
        have h2 := hK _ w' hB rfl (fun j u _ h => h)
        simp [fillA, Act.put, hP] at h2
        exact h2
      · (intro ys w' hB hP K hK; simp only [Preds, Region.binds, rf7, forall_const, and_true, true_and] at hP; simp only [fillA]; go_simp; (have h2 := fun v => hK v w' hB); simp only [rf7, forall_eq] at h2; (have h2 := h2 (fun _ _ _ h => h)); simp [fillA, Act.put, hP] at h2; exact h2)
      · (intro ys w' hB hP K hK; simp only [Preds, Region.binds, rf7, forall_const, and_true, true_and] at hP; simp only [fillA]; go_simp; (have h2 := fun v => hK v w' hB); simp only [rf7, forall_eq] at h2; (have h2 := h2 (fun _ _ _ h => h)); simp [fillA, Act.put, hP] at h2; exact h2)
      · (intro ys w' hB hP K hK; simp only [Preds, Region.binds, rf7, forall_const, and_true, true_and] at hP; simp only [fillA]; go_simp; (have h2 := fun v => hK v w' hB); simp only [rf7, forall_eq] at h2; (have h2 := h2 (fun _ _ _ h => h)); simp [fillA, Act.put, hP] at h2; exact h2)
      · (intro ys w' hB hP; simp only [Preds, Region.binds, rf7, forall_const, and_true, true_and] at hP)
        intro K hK
        simp only [fillA]
        go_simp
        (with_reducible refine (HFEW.out _ hB).mono ?_)
        rintro e w10 ⟨x, y, rfl, hO, hg10⟩
        have h2 := hK _ w10 (hB.trans hg10) ⟨x, y, rfl, HasRow.of_own hO⟩ (fun j u _ h => h.gr hg10)
        simp [fillA, Act.put, hP] at h2
        exact h2
      · (intro ys w' hB hP; simp only [Preds, Region.binds, rf7, forall_const, and_true, true_and] at hP)
        obtain ⟨x, y, hy, hrow⟩ : ∃ x y, ys 5 = .slice x M y ∧ HasRow w' 3 (.slice x M y) M (icells LL) := by first | exact hP | exact hP.1 | exact hP.2 | exact hP.2.1 | exact hP.2.2 | exact hP.2.2.1 | exact hP.2.2.2 | exact hP.2.2.2.1 | exact hP.2.2.2.2
        have q2 : ys 2 = .bool eight := by first | exact hP | exact hP.1 | exact hP.2 | exact hP.2.1 | exact hP.2.2 | exact hP.2.2.1 | exact hP.2.2.2 | exact hP.2.2.2.1 | exact hP.2.2.2.2
        have q3 : ys 3 = .string s := by first | exact hP | exact hP.1 | exact hP.2 | exact hP.2.1 | exact hP.2.2 | exact hP.2.2.1 | exact hP.2.2.2 | exact hP.2.2.2.1 | exact hP.2.2.2.2
        clear hP
        intro K hK
        simp only [fillA]
        go_simp
        (with_reducible refine (HCS.out _ hB _ _ hrow).mono ?_)
        rintro e w10 ⟨x2, y2, rfl, hO, hg10⟩
        have h2 := hK _ w10 (hB.trans hg10) ⟨x2, y2, rfl, hO⟩ (fun j u _ h => h.gr hg10)
        simp [fillA, Act.put, hy, q2, q3] at h2
        exact h2
      · (intro ys w' hB hP; simp only [Preds, Region.binds, rf7, forall_const, and_true, true_and] at hP)
        obtain ⟨x, y, hy, hrow⟩ : ∃ x y, ys 6 = .slice x na y ∧ HasRow w' 5 (.slice x na y) na (bcells A) := by first | exact hP | exact hP.1 | exact hP.2 | exact hP.2.1 | exact hP.2.2 | exact hP.2.2.1 | exact hP.2.2.2 | exact hP.2.2.2.1 | exact hP.2.2.2.2
        clear hP
        have hcv2 := conv_row hrow
        rw [← HX.out] at hcv2
        intro K hK
        simp only [fillA]
        go_simp
        have h2 := hK _ w' hB rfl (fun j u _ h => h)
        simp [fillA, Act.put, hy] at h2
        exact h2
      · (intro ys w' hB hP K hK; simp only [Preds, Region.binds, rf7, forall_const, and_true, true_and] at hP; simp only [fillA]; go_simp; (have h2 := fun v => hK v w' hB); simp only [rf7, forall_eq] at h2; (have h2 := h2 (fun _ _ _ h => h)); simp [fillA, Act.put, hP] at h2; exact h2)
      · (intro ys w' hB hP K hK; simp only [Preds, Region.binds, rf7, forall_const, and_true, true_and] at hP; simp only [fillA]; go_simp; (have h2 := fun v => hK v w' hB); simp only [rf7, forall_eq] at h2; (have h2 := h2 (fun _ _ _ h => h)); simp [fillA, Act.put, hP] at h2; exact h2)
      · (intro ys w' hB hP; simp only [Preds, Region.binds, rf7, forall_const, and_true, true_and] at hP; simp [hP])
      · (intro ys w' hB hP K hK; simp only [Preds, Region.binds, rf7, forall_const, and_true, true_and] at hP; simp only [fillA]; go_simp; (have h2 := fun v => hK v w' hB); simp only [rf7, forall_eq] at h2; (have h2 := h2 (fun _ _ _ h => h)); simp [fillA, Act.put, hP] at h2; exact h2)
      · (intro ys w' hB hP; simp only [Preds, Region.binds, rf7, forall_const, and_true, true_and] at hP; simp [hP])
      · (intro ys w' hB hP; simp only [Preds, Region.binds, rf7, forall_const, and_true, true_and] at hP)
        have hcv := conv_row (HRB.out.gr hB)
        rw [← HY.out] at hcv
        intro K hK
        simp only [fillA]
        go_simp
        have h2 := hK _ w' hB rfl (fun j u _ h => h)
        simp [fillA, Act.put, hP] at h2
        exact h2
      · (intro ys w' hB hP; simp only [Preds, Region.binds, rf7, forall_const, and_true, true_and] at hP; simp [hP])
      · (intro ys w' hB hP K hK; simp only [Preds, Region.binds, rf7, forall_const, and_true, true_and] at hP; simp only [fillA]; go_simp; (have h2 := fun v => hK v w' hB); simp only [rf7, forall_eq] at h2; (have h2 := h2 (fun _ _ _ h => h)); simp [fillA, Act.put, hP] at h2; exact h2)
      · (intro ys w' hB hP; simp only [Preds, Region.binds, rf7, forall_const, and_true, true_and] at hP; simp [hP])
      · (intro ys w' hB hP K hK; simp only [Preds, Region.binds, rf7, forall_const, and_true, true_and] at hP; simp only [fillA]; go_simp; (have h2 := fun v => hK v w' hB); simp only [rf7, forall_eq] at h2; (have h2 := h2 (fun _ _ _ h => h)); simp [fillA, Act.put, hP] at h2; exact h2)
      · (intro ys w' hB hP; simp only [Preds, Region.binds, rf7, forall_const, and_true, true_and] at hP; simp [hP])
      · (intro ys w' hB hP K hK; simp only [Preds, Region.binds, rf7, forall_const, and_true, true_and] at hP; simp only [fillA]; go_simp; (have h2 := fun v => hK v w' hB); simp only [rf7, forall_eq] at h2; (have h2 := h2 (fun _ _ _ h => h)); simp [fillA, Act.put, hP] at h2; exact h2)
      · (intro ys w' hB hP; simp only [Preds, Region.binds, rf7, forall_const, and_true, true_and] at hP; simp [hP])
      · (intro ys w' hB hP; simp only [Preds, Region.binds, rf7, forall_const, and_true, true_and] at hP)
        intro K hK
        simp only [fillA]
        go_simp
        (with_reducible refine (HFEW.out _ hB).mono ?_)
        rintro e w10 ⟨x, y, rfl, hO, hg10⟩
        have h2 := hK _ w10 (hB.trans hg10) ⟨x, y, rfl, HasRow.of_own hO⟩ (fun j u _ h => h.gr hg10)
        simp [fillA, Act.put, hP] at h2
        exact h2
      · (intro ys w' hB hP; simp only [Preds, Region.binds, rf7, forall_const, and_true, true_and] at hP; simp [hP])
      · (intro ys w' hB hP; simp only [Preds, Region.binds, rf7, forall_const, and_true, true_and] at hP)
        obtain ⟨x, y, hy, hrow⟩ : ∃ x y, ys 15 = .slice x M y ∧ HasRow w' 3 (.slice x M y) M (icells LL) := by first | exact hP | exact hP.1 | exact hP.2 | exact hP.2.1 | exact hP.2.2 | exact hP.2.2.1 | exact hP.2.2.2 | exact hP.2.2.2.1 | exact hP.2.2.2.2
        have q12 : ys 12 = .bool eight := by first | exact hP | exact hP.1 | exact hP.2 | exact hP.2.1 | exact hP.2.2 | exact hP.2.2.1 | exact hP.2.2.2 | exact hP.2.2.2.1 | exact hP.2.2.2.2
        have q13 : ys 13 = .string s := by first | exact hP | exact hP.1 | exact hP.2 | exact hP.2.1 | exact hP.2.2 | exact hP.2.2.1 | exact hP.2.2.2 | exact hP.2.2.2.1 | exact hP.2.2.2.2
        clear hP
        intro K hK
        simp only [fillA]
        go_simp
        (with_reducible refine (HCD.out _ hB _ _ hrow).mono ?_)
        rintro e w10 ⟨x2, y2, rfl, hO, hg10⟩
        have h2 := hK _ w10 (hB.trans hg10) ⟨x2, y2, rfl, hO⟩ (fun j u _ h => h.gr hg10)
        simp [fillA, Act.put, hy, q12, q13] at h2
        exact h2
      · (intro ys w' hB hP; simp only [Preds, Region.binds, rf7, forall_const, and_true, true_and] at hP; simp [hP])
      · (intro ys w' hB hP; simp only [Preds, Region.binds, rf7, forall_const, and_true, true_and] at hP)
        obtain ⟨x, y, hy, hrow⟩ : ∃ x y, ys 16 = .slice x nb y ∧ HasRow w' 5 (.slice x nb y) nb (bcells B) := by first | exact hP | exact hP.1 | exact hP.2 | exact hP.2.1 | exact hP.2.2 | exact hP.2.2.1 | exact hP.2.2.2 | exact hP.2.2.2.1 | exact hP.2.2.2.2
        clear hP
        have hcv2 := conv_row hrow
        rw [← HY.out] at hcv2
        intro K hK
        simp only [fillA]
        go_simp
        have h2 := hK _ w' hB rfl (fun j u _ h => h)
        simp [fillA, Act.put, hy] at h2
        exact h2
      · (intro ys w' hB hP; simp only [Preds, Region.binds, rf7, forall_const, and_true, true_and] at hP; simp [hP])
      · (intro ys w' hB hP K hK; simp only [Preds, Region.binds, rf7, forall_const, and_true, true_and] at hP; simp only [fillA]; go_simp; (have h2 := fun v => hK v w' hB); simp only [rf7, forall_eq] at h2; (have h2 := h2 (fun _ _ _ h => h)); simp [fillA, Act.put, hP] at h2; exact h2)
      · (intro ys w' hB hP K hK; simp only [Preds, Region.binds, rf7, forall_const, and_true, true_and] at hP; simp only [fillA]; go_simp; (have h2 := fun v => hK v w' hB); simp only [rf7, forall_eq] at h2; (have h2 := h2 (fun _ _ _ h => h)); simp [fillA, Act.put, hP] at h2; exact h2)
      · (intro ys w' hB hP K hK; simp only [Preds, Region.binds, rf7, forall_const, and_true, true_and] at hP; simp only [fillA]; go_simp; (have h2 := fun v => hK v w' hB); simp only [rf7, forall_eq] at h2; (have h2 := h2 (fun _ _ _ h => h)); simp [fillA, Act.put, hP] at h2; exact h2)
      · (intro ys w' hB hP; simp only [Preds, Region.binds, rf7, forall_const, and_true, true_and] at hP; simp [hP])
      · (intro ys w' hB hP K hK; simp only [Preds, Region.binds, rf7, forall_const, and_true, true_and] at hP; simp only [fillA]; go_simp; (have h2 := fun v => hK v w' hB); simp only [rf7, forall_eq] at h2; (have h2 := h2 (fun _ _ _ h => h)); simp [fillA, Act.put, hP] at h2; exact h2)
      · (intro ys w' hB hP; simp only [Preds, Region.binds, rf7, forall_const, and_true, true_and] at hP; simp [hP])
      · (intro ys w' hB hP K hK; simp only [Preds, Region.binds, rf7, forall_const, and_true, true_and] at hP; simp only [fillA]; go_simp; (have h2 := fun v => hK v w' hB); simp only [rf7, forall_eq] at h2; (have h2 := h2 (fun _ _ _ h => h)); simp [fillA, Act.put, hP] at h2; exact h2)
      · (intro ys w' hB hP; simp only [Preds, Region.binds, rf7, forall_const, and_true, true_and] at hP; simp [hP])
      · (intro ys w' hB hP; simp only [Preds, Region.binds, rf7, forall_const, and_true, true_and] at hP)
        intro K hK
        simp only [fillA]
        go_simp
        (with_reducible refine (HFEW.out _ hB).mono ?_)
        rintro e w10 ⟨x, y, rfl, hO, hg10⟩
        have h2 := hK _ w10 (hB.trans hg10) ⟨x, y, rfl, HasRow.of_own hO⟩ (fun j u _ h => h.gr hg10)
        simp [fillA, Act.put, hP] at h2
        exact h2
      · (intro ys w' hB hP; simp only [Preds, Region.binds, rf7, forall_const, and_true, true_and] at hP; simp [hP])
      · (intro ys w' hB hP; simp only [Preds, Region.binds, rf7, forall_const, and_true, true_and] at hP)
        obtain ⟨x, y, hy, hrow⟩ : ∃ x y, ys 23 = .slice x M y ∧ HasRow w' 3 (.slice x M y) M (icells LL) := by first | exact hP | exact hP.1 | exact hP.2 | exact hP.2.1 | exact hP.2.2 | exact hP.2.2.1 | exact hP.2.2.2 | exact hP.2.2.2.1 | exact hP.2.2.2.2
        have q21 : ys 21 = .slice qa M qc := by first | exact hP | exact hP.1 | exact hP.2 | exact hP.2.1 | exact hP.2.2 | exact hP.2.2.1 | exact hP.2.2.2 | exact hP.2.2.2.1 | exact hP.2.2.2.2
        clear hP
        intro K hK
        simp only [fillA]
        go_simp
        (with_reducible refine (HSAME.out _ hB _ _ hrow).mono ?_)
        rintro e w10 ⟨rfl, hg10⟩
        have h2 := hK _ w10 (hB.trans hg10) rfl (fun j u _ h => h.gr hg10)
        simp [fillA, Act.put, hy, q21] at h2
        exact h2
      · (intro ys w' hB hP; simp only [Preds, Region.binds, rf7, forall_const, and_true, true_and] at hP; simp [hP])
      · (intro ys w' hB hP K hK; simp only [Preds, Region.binds, rf7, forall_const, and_true, true_and] at hP; simp only [fillA]; go_simp; (have h2 := fun v => hK v w' hB); simp only [rf7, forall_eq] at h2; (have h2 := h2 (fun _ _ _ h => h)); simp [fillA, Act.put, hP] at h2; exact h2)
      · (intro ys w' hB hP K hK; simp only [Preds, Region.binds, rf7, forall_const, and_true, true_and] at hP; simp only [fillA]; go_simp; (have h2 := fun v => hK v w' hB); simp only [rf7, forall_eq] at h2; (have h2 := h2 (fun _ _ _ h => h)); simp [fillA, Act.put, hP] at h2; exact h2)
    · intro ys w5 hB hF
      have f26 : ys 26 = .bool false := hF 26 (by decide)
      clear hF
      simp only [fillA, f26, Act.put, Nat.zero_add, List.setIfInBounds_toArray, List.set_cons_zero, List.set_cons_succ]
      clear f26
      have hg5 := hg4.trans hB
      have hrA := HRA.out.gr hB
      have hrB := HRB.out.gr hB
      clear HFEW HCS HCD HSAME
      have hnw := heap_alloc_new w5 (.cells #[] 5)
      have hgw := (Gr.refl w5).alloc (.cells #[] 5)
      have hsrA := src_has (hrA.gr hgw)
      have hlA : na ≤ 5000 := by
        rw [HNA.out, HA.out, HTK.out]; unfold ansR
        split
        · rename_i hc; exact bytes_len (check_zero (fun_range (nums_in s) (by simp)) hc) eight
        · simp
      have hlB : nb ≤ 5000 := by
        rw [HNB.out, HB0.out, HUK.out]; unfold ansR
        split
        · rename_i hc; exact bytes_len (check_zero (fun_range (nums_in s) (by simp)) hc) eight
        · simp
      by_cases hck : checkR (funT 4 (nums s) LL []) = 0
      · have hpA : 0 < na := by
          rw [HNA.out, HA.out, HTK.out]; unfold ansR
          rw [if_pos hck]
          exact bytes_ne (check_zero (fun_range (nums_in s) (by simp)) hck) (.inl rfl) eight
        have hnA0 : ((na : Int) == 0) = false := by simp; omega
        have hnA1 : ¬ na = 0 := by omega
        obtain ⟨m, hm⟩ : ∃ m, m = ((LL.take 30).map clip16).length := ⟨_, rfl⟩
        have hid : nums s ≠ [] := fun e => by rw [e] at hck; exact fun_none 4 LL [] (.inl rfl) hck
        have hsp := fun (W : World) (a : Option Addr) (k c : Nat) (hr : Rd W a k (bcells A ++ bcells B)) => two_to (c := c) (nums_in s) hck (by rw [HA.out, HTK.out]) (by rw [HB0.out, HUK.out]) hm hr
        have hmle : m ≤ 40 := by rw [hm]; simp; omega
        have hdl : (restR (nums s)).dropLast.length ≤ 1000 := by
          have h1 : (restR (nums s)).length ≤ (nums s).length := by unfold restR; split <;> simp
          rw [nums_len] at h1
          rw [List.length_dropLast]; omega
        have hrr : ∀ c ∈ (restR (nums s)).dropLast, 0 ≤ c ∧ c < 256 := (fun_range (kind := 4) (ps := LL) (d := []) (nums_in s) (by simp)).inters
        have id1 : ∀ (W : World) (x y : Option Addr) (k1 k2 c1 c2 : Nat), Calls Tryd.prog 30 #[.agg #[.int .i64 4, .int .u8 ((restR (nums s)).getLastD 0), .int .u8 (markR (nums s)), .slice x k1 c1, .string (strOf (restR (nums s)).dropLast), .slice y k2 c2]] W fun e w' => e = .returned (.string s) ∧ Gr W w' := fun W x y k1 k2 c1 c2 => by
          have := id_any (w := W) (k := 4) (c := (restR (nums s)).getLastD 0) (m := markR (nums s)) (a1 := x) (a2 := y) (n1 := k1) (c1 := c1) (n2 := k2) (c2 := c2) (by omega) hrr
          rw [show idR 4 ((restR (nums s)).getLastD 0) (markR (nums s)) (restR (nums s)).dropLast = nums s from fun_id (kind := 4) (ps := LL) (d := []) (.inl rfl) hid] at this
          unfold IdOut at this
          rw [nums_str] at this
          exact this
        have id2 : ∀ (W : World) (x y : Option Addr) (k1 k2 c1 c2 : Nat), Calls Tryd.prog 30 #[.agg #[.int .i64 5, .int .u8 ((restR (nums s)).getLastD 0), .int .u8 (markR (nums s)), .slice x k1 c1, .string (strOf (restR (nums s)).dropLast), .slice y k2 c2]] W fun e w' => e = .returned (.string s) ∧ Gr W w' := fun W x y k1 k2 c1 c2 => by
          have := id_any (w := W) (k := 5) (c := (restR (nums s)).getLastD 0) (m := markR (nums s)) (a1 := x) (a2 := y) (n1 := k1) (c1 := c1) (n2 := k2) (c2 := c2) (by omega) hrr
          rw [show idR 5 ((restR (nums s)).getLastD 0) (markR (nums s)) (restR (nums s)).dropLast = nums s from fun_id (kind := 5) (ps := LL) (d := []) (.inr rfl) hid] at this
          unfold IdOut at this
          rw [nums_str] at this
          exact this
        obtain ⟨C, hC⟩ : ∃ C, C = (restR (nums s)).getLastD 0 := ⟨_, rfl⟩
        obtain ⟨Mk, hMk⟩ : ∃ C, C = markR (nums s) := ⟨_, rfl⟩
        obtain ⟨I, hI⟩ : ∃ C, C = strOf (restR (nums s)).dropLast := ⟨_, rfl⟩
        obtain ⟨PS, hPS⟩ : ∃ C, C = (LL.take 30).map clip16 := ⟨_, rfl⟩
        rw [← hC, ← hMk, ← hI] at hsp id1 id2
        rw [← hPS] at hsp hm
        have HMm := Lib.hid hm
        clear hC hMk hI hPS hm hrr hdl hid hck
        go_upto_region 12 with (first
          | (at_builtin; (refine wpList_new rfl _ _ _ _ rfl 5 _ 1 bytesT u8i rfl w5.heap.size rfl hnw _ na (bcells A) rfl hsrA (by unfold maxLen; omega) (by omega) ?_); intro vx cx w6 hown6 hg6; have hg56 := hgw.trans hg6; have hsrB := src_has (hrB.gr hg56))
          | (at_builtin; (refine wpList_addX (w0 := w5) rfl _ _ _ _ rfl 5 _ 1 bytesT u8i rfl _ na _ rfl hown6 hg56 _ nb (bcells B) rfl hsrB (by unfold maxLen; omega) (by omega) ?_); intro vy cy w7 hown7 hg7 hgb7; have hrd7 := (HasRow.of_own hown7).rd_)
          | (go_at_call 29; (with_reducible refine (hsp _ _ _ _ hrd7).mono ?_); rintro e w8 ⟨g, cap, p1, p1c, d1, d1c, p2, p2c, d2, d2c, rfl, hTw, hp1, hp2, hd2, hg8⟩))
        have hg8' := (hg5.trans hg7).trans hg8
        have HTW := Lib.hid hTw
        have HI1 : Hid (∀ W, Calls Tryd.prog 30 #[.agg #[.int .i64 4, .int .u8 C, .int .u8 Mk, .slice p1 m p1c, .string I, .slice d1 0 d1c]] W fun e w' => e = .returned (.string s) ∧ Gr W w') := Lib.hid fun W => id1 W _ _ _ _ _ _
        have HI2 : Hid (∀ W, Calls Tryd.prog 30 #[.agg #[.int .i64 5, .int .u8 C, .int .u8 Mk, .slice p2 m p2c, .string I, .slice d2 2 d2c]] W fun e w' => e = .returned (.string s) ∧ Gr W w') := Lib.hid fun W => id2 W _ _ _ _ _ _
        have HCD : Hid (∀ W, Gr w8 W → (convert 30 9 (.slice d2 2 d2c)).run Tryd.prog W = .ok (.string ⟨#[97, 98]⟩) W) := Lib.hid fun W hg => conv_row (hd2.gr hg)
        have HSM : Hid (∀ W, Gr w8 W → Calls Tryd.prog 28 #[.slice p1 m p1c, .slice p2 m p2c] W fun e w' => e = .returned (.bool true) ∧ Gr W w') := Lib.hid fun W hg => by
          have := same_ints (l := PS) (by rw [← HMm.out]; exact hp1.gr hg) (by rw [← HMm.out]; exact hp2.gr hg) (by rw [← HMm.out]; omega)
          exact this
        clear hTw id1 id2 hsp hp1 hp2 hd2 hnw hgw hsrA hrA hrB
        refine reg12 _ g cap C Mk I m p1 p1c d1 d1c p2 p2c d2 d2c s w8 _ _ _ _ _ _ _ _ _ _ _ _ _ _ _ _ _ _ _ _ _ _ _ _ _ _ _ _ _ _ _ _ _ _ _ _ _ _ _ _ _ _ _ _ _ _ _ _ _ _ _ _ _ _ _ _ _ _ _ _ _ _ _ _ _ _ _ _ _ _ _ _ _ _ _ _ _ _ _ _ _ _ _ _ _ _ _ _ _ _ _ _ _ _ _ _ _ _ _ _ _ _ _ _ _ _ _ _ _ _ _ _ _ _ _ _ _ _ _ _ _ _ HTW HI1 HI2 HCD HSM ?_
        intro y0 y1 y2 y3 y4 y5 y6 y7 y8 y9 y10 y11 y12 y13 y14 y15 y16 y17 y18 y19 y20 y21 y22 y23 y24 y25 y26 y27 y28 y29 y30 y31 y32 y33 y34 y35 y36 y37 y38 y39 y40 y41 y42 y43 y44 y45 y46 y47 y48 y49 y50 y51 w9 hB9
        go_wp2_with fail
        go_ret
        exact ⟨rfl, hg8'.trans hB9⟩
      · have hA0 : A = [] := by rw [HA.out, HTK.out]; exact if_neg hck
        have hB0' : B = [] := by rw [HB0.out, HUK.out]; exact if_neg (fun e => hck ((fun_both (by decide) (by decide)).1 e))
        have hna0 : na = 0 := by rw [HNA.out, hA0]; rfl
        have hnb0 : nb = 0 := by rw [HNB.out, hB0']; rfl
        have hnA0 : ((na : Int) == 0) = true := by simp [hna0]
        have hnB0 : ((nb : Int) == 0) = true := by simp [hnb0]
        have hsp : ∀ (W : World) (a : Option Addr) (k c : Nat), Rd W a k (bcells A ++ bcells B) → Calls Tryd.prog 29 #[.slice a k c] W (ToksTo W []) := fun W a k c hr => by
          rw [hA0, hB0'] at hr
          have hk : k = 0 := by simpa [bcells] using hr.1.symm
          have := psplit_walk (cap := c) (l := []) (by simp) (by omega) hr
          rw [show (feedM PS.init []).2 = [] from rfl] at this
          exact this
        have HNA0 := Lib.hid hna0
        clear hA0 hB0' hna0 hnb0 hck
        go_wp2_with (first
          | (at_builtin; (refine wpList_new rfl _ _ _ _ rfl 5 _ 1 bytesT u8i rfl w5.heap.size rfl hnw _ na (bcells A) rfl hsrA (by unfold maxLen; omega) (by omega) ?_); intro vx cx w6 hown6 hg6; have hg56 := hgw.trans hg6; have hsrB := src_has (hrB.gr hg56))
          | (at_builtin; (refine wpList_addX (w0 := w5) rfl _ _ _ _ rfl 5 _ 1 bytesT u8i rfl _ na _ rfl hown6 hg56 _ nb (bcells B) rfl hsrB (by unfold maxLen; omega) (by omega) ?_); intro vy cy w7 hown7 hg7 hgb7; have hrd7 := (HasRow.of_own hown7).rd_)
          | (go_at_call 29; (with_reducible refine (hsp _ _ _ _ hrd7).mono ?_); rintro e w8 ⟨ov, qs, rfl, hAT, hg8⟩; obtain ⟨sa, sc, rfl⟩ := row_form hAT.row))
        go_ret
        exact ⟨rfl, (hg5.trans hg7).trans hg8⟩
theorem funs_laid {w : World} (h : laidMetH Tryd.prog Rows.replyFunctionsRow.laid w) : tabT w := by
  unfold Rows.replyFunctionsRow at h
  rw [MakeChecks.laidMetH_plain _ _ _ (by kernel_rfl)] at h
  exact tabT_met (laidMet_tail2 (laidMet_tail2 h))
theorem funs_law (eight : Bool) (s : ByteArray) (a : Option Addr) (len cap : Nat) (z : List Int) (w : World) (w2 : IsRow .i64 w a len cap z) (hlaid : laidMetH Tryd.prog Rows.replyFunctionsRow.laid w) (hsh : w.ShapedOpen Tryd.prog) : Calls Tryd.prog 5 #[.bool eight, .string s, .slice a len cap] w fun e w' => e = .returned (.bool true) ∧ Gr w w' :=
  funs_walk eight s (w2.rdI).1 (w2.rdI).2.1 (funs_laid hlaid)
end Go.Proofs.YtjfffkaifcajbaaDoor
