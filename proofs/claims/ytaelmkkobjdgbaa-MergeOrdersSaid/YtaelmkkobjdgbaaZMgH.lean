/-
  Merging: sources, what is placed, the order; many pieces as one.
  Merge of the program, walked (gen_mgg.py).
  Sources that come in: what a walk is told of them.
-/
import Derived.ChangeSame
import Derived.Deep.Fields
import Derived.Deep.Slices
import Derived.OpenShut
import Derived.SizedLaws
import Derived.Test.YtaelmkkobjdgbaaZMgE
import Derived.Test.YtaelmkkobjdgbaaZLw4
namespace Go.Proofs.Ytaelmkkobjdgbaa
set_option linter.unusedSimpArgs false
set_option linter.unusedVariables false
open Go.RowKit
set_option linter.unusedVariables false

/-! ### many pieces as one -/
def allH (l : List HA) : HA where
  at_ w fp := HSt l w fp
  keep w w' fp h hk := HSt.keep l w w' fp h hk
  live w fp h g hg := HSt.live l w fp h g hg
theorem allH_push (l : List HA) (A : HA) : Ent [allH l, A] (fun R => R = [allH (l ++ [A])]) := fun w fp h => by
  obtain ⟨f1, f2, rfl, h1, ⟨f3, f4, rfl, h2, h4, _⟩, h3⟩ := h
  have h4 : f4 = [] := h4
  subst h4
  have h1 : HSt l w f1 := h1
  refine ⟨_, f1 ++ (f3 ++ []), rfl, ⟨f1 ++ (f3 ++ []), [], by simp, h1.app ⟨f3, [], rfl, h2, rfl, by simp⟩ h3, rfl, by simp⟩, fun g hg => hg⟩
theorem SH.all0 {U : List Nat} {w0 w : World} {As : List HA} (h : SH U w0 w As) : SH U w0 w (As ++ [allH []]) := by
  obtain ⟨fp, h1, h2⟩ := h.st
  exact ⟨h.upd, fp ++ [], h1.app ⟨[], [], rfl, rfl, rfl, by simp⟩ (by simp), by simpa using h2⟩

/-! ### sources -/
/-- A source: its slice, and its items. -/
structure LE where
  a : Option Addr
  c : Nat
  xs : List Itm
def le0 : LE := ⟨none, 0, []⟩
def LE.qe (e : LE) (n : Nat) : QE := ⟨(e.a.getD ⟨0, 0, none⟩).block, (e.a.getD ⟨0, 0, none⟩).off, e.c, e.xs, n⟩
/-- The sources of which something is left. -/
def headsF : Nat → List LE → List QE
  | _, [] => []
  | n, e :: l => if 0 < e.xs.length then e.qe n :: headsF (n + 1) l else headsF (n + 1) l
theorem headsF_app : ∀ (l m : List LE) (n : Nat), headsF n (l ++ m) = headsF n l ++ headsF (n + l.length) m
  | [], m, n => by simp [headsF]
  | e :: l, m, n => by
    have ih := headsF_app l m (n + 1)
    have e1 : n + 1 + l.length = n + (e :: l).length := by rw [List.length_cons]; omega
    rw [e1] at ih
    show (if 0 < e.xs.length then e.qe n :: headsF (n + 1) (l ++ m) else headsF (n + 1) (l ++ m)) = (if 0 < e.xs.length then e.qe n :: headsF (n + 1) l else headsF (n + 1) l) ++ _
    rw [ih]
    split <;> simp
theorem headsF_pos : ∀ (l : List LE) (n : Nat), ∀ e ∈ headsF n l, 0 < e.xs.length
  | [], n, e, h => by simp [headsF] at h
  | x :: l, n, e, h => by
    unfold headsF at h
    split at h
    · rename_i hx
      rcases List.mem_cons.1 h with rfl | h
      · exact hx
      · exact headsF_pos l _ e h
    · exact headsF_pos l _ e h
/-- The sources lie there. -/
def LI (Ls : List LE) (w : World) : Prop := ∀ e ∈ Ls, 0 < e.xs.length → ∃ b off, e.a = some ⟨b, off, none⟩ ∧ ItAt w (e.qe 0)
theorem itAt_n {w : World} {e : LE} {n m : Nat} (h : ItAt w (e.qe n)) : ItAt w (e.qe m) := h
theorem LI.gr {Ls : List LE} {w w' : World} (h : LI Ls w) (hg : Gr w w') : LI Ls w' := fun e he h0 => by
  obtain ⟨b, off, h1, h2⟩ := h e he h0
  exact ⟨b, off, h1, h2.gr hg⟩
theorem LI.heads {w : World} : ∀ {Ls : List LE} {n : Nat}, LI Ls w → QI (headsF n Ls) w
  | [], n, h, e, he => by simp [headsF] at he
  | x :: l, n, h, e, he => by
    have hl : LI l w := fun e he => h e (List.mem_cons_of_mem _ he)
    unfold headsF at he
    split at he
    · rename_i hx
      rcases List.mem_cons.1 he with rfl | he
      · obtain ⟨b, off, _, h2⟩ := h x (by simp) hx
        exact ⟨hx, itAt_n h2⟩
      · exact hl.heads e he
    · exact hl.heads e he
/-! ### what is placed -/
structure Pl where
  x : Itm
  n : Nat
  a : Option Addr
  c : Nat
def pl0 : Pl := ⟨itm0, 0, none, 0⟩
def plC (p : Pl) : List Value := [.int .i64 p.x.at_, .int .i64 p.x.kd, .slice p.a p.x.bs.length p.c, .int .i64 p.x.k0, .int .u8 p.x.k1, .bool p.x.k2, .bool p.x.k3, .int .i64 p.x.rw_, .int .i64 p.x.cl, .int .i64 ((p.n : Nat) : Int)]
def pcells (l : List Pl) : List Value := flC plC l
theorem plC_len (p : Pl) : (plC p).length = 10 := rfl
theorem pcells_app (l m : List Pl) : pcells l ++ pcells m = pcells (l ++ m) := flC_app l m
theorem pcells_get {l : List Pl} {i j : Nat} {v : Value} (h : i < l.length) (hj : (plC (l.getD i pl0))[j]? = some v) : (pcells l)[i * 10 + j]? = some v := by
  unfold pcells
  exact flC_get (f := plC) (d := pl0) plC_len h hj
theorem pcells_part {l : List Pl} {i j m : Nat} {cs : List Value} (h : i < l.length) (hj : ((plC (l.getD i pl0)).drop j).take m = cs) (hl : cs.length = m) : ((pcells l).drop (i * 10 + j)).take m = cs := by
  unfold pcells
  exact flC_part (f := plC) (d := pl0) plC_len h hj hl
/-- A clone's memory. -/
def clH (p : Pl) : HA := rowH 5 1 p.a p.x.bs.length p.c (bcells p.x.bs)
/-! ### the order -/
/-- The items of sources, one behind the other, the least one first each time. -/
inductive MRel : List QE → List (Itm × Nat) → Prop
  | nil : MRel [] []
  | cons {q r : List QE} {e : QE} {l : List (Itm × Nat)} (hp : q.Perm (e :: r)) (hmin : ∀ f ∈ q, keyLt f e = false) (h : MRel (if 0 < (tailE e).xs.length then tailE e :: r else r) l) : MRel q ((e.xs.getD 0 itm0, e.n) :: l)
theorem MRel.perm {q p : List QE} {l : List (Itm × Nat)} (h : MRel q l) (hp : p.Perm q) : MRel p l := by
  cases h with
  | nil => rw [List.Perm.eq_nil hp]; exact .nil
  | cons h1 h2 h3 => exact .cons (hp.trans h1) (fun f hf => h2 f (hp.mem_iff.1 hf)) h3
def totQ (q : List QE) : Nat := (q.map fun e => e.xs.length).sum
theorem totQ_perm {q p : List QE} (h : q.Perm p) : totQ q = totQ p := (h.map _).sum_nat
theorem totQ_cons (e : QE) (q : List QE) : totQ (e :: q) = e.xs.length + totQ q := by simp [totQ]
def ordP (ps : List Pl) : List (Itm × Nat) := ps.map fun p => (p.x, p.n)
/-- What next does to the queue. -/
theorem next_rel {q q' : List QE} {e : QE} {N : Nat} (hN : q.length = N + 1) (he : q.getD 0 qe0 = e) (hh : HeapFrom keyLt 0 (N + 1) q) (hpos : 0 < e.xs.length)
    (h : ((tailE e).xs.length = 0 ∧ (tailE e :: q').Perm (q.set 0 (tailE e))) ∨ (0 < (tailE e).xs.length ∧ q'.Perm (q.set 0 (tailE e)))) :
    (∀ l, MRel q' l → MRel q ((e.xs.getD 0 itm0, e.n) :: l)) ∧ totQ q = totQ q' + 1 ∧ (∀ f ∈ q', f = tailE e ∧ 0 < (tailE e).xs.length ∨ f ∈ q) := by
  cases q with
  | nil => simp at hN
  | cons x r =>
    have hx : x = e := he
    subst hx
    have hset : (x :: r).set 0 (tailE x) = tailE x :: r := rfl
    rw [hset] at h
    have ht : (tailE x).xs.length = x.xs.length - 1 := List.length_tail
    have hmin : ∀ f ∈ x :: r, keyLt f x = false := fun f hf => by
      obtain ⟨k, hk, rfl⟩ := List.mem_iff_getElem.1 hf
      have := heap_min keyOrd hh key_irr k (by omega)
      rw [getD_in hk] at this
      exact this
    rcases h with ⟨h0, h⟩ | ⟨h0, h⟩
    · have h := (List.perm_cons _).1 h
      refine ⟨fun l hl => .cons (List.Perm.refl _) hmin ?_, ?_, fun f hf => .inr (List.mem_cons_of_mem _ (h.mem_iff.1 hf))⟩
      · rw [if_neg (by omega)]; exact hl.perm h.symm
      · rw [totQ_cons, totQ_perm h]; omega
    · refine ⟨fun l hl => .cons (List.Perm.refl _) hmin ?_, ?_, fun f hf => ?_⟩
      · rw [if_pos h0]; exact hl.perm h.symm
      · rw [totQ_cons, totQ_perm h, totQ_cons]; omega
      · rcases List.mem_cons.1 (h.mem_iff.1 hf) with rfl | hf
        · exact .inl ⟨rfl, h0⟩
        · exact .inr (List.mem_cons_of_mem _ hf)
end Go.Proofs.Ytaelmkkobjdgbaa

namespace Go.Proofs.Ytaelmkkobjdgbaa
set_option linter.unusedSimpArgs false
set_option linter.unusedVariables false
open Go.RowKit
set_option linter.unusedVariables false

theorem hpush_a (Q k : Nat) (E : LE) (a : Option Addr) (c N : Nat) (q S : List QE) (w : World) (b off : Nat) (hE : E.a = some ⟨b, off, none⟩) (hN : q.length = N) (hbig : N ≤ 100000) (hS : ∀ z, z < N + 1 → (q ++ [E.qe k]).getD z qe0 ∈ S) (hh0 : HeapFrom keyLt 0 N q) :
    TrM (QI S) Try.prog 14 #[.iface 53 (.pointer (some ⟨Q, 0, none⟩)), .iface 55 (.agg #[.slice E.a E.xs.length E.c, .int .i64 ((k : Nat) : Int)])] w [pt Q #[.slice a N c] 51, rowH 55 2 a N c (qcells q)]
    (fun v R => v = .tuple #[] ∧ ∃ a' c' q', q'.Perm (q ++ [E.qe k]) ∧ HeapFrom keyLt 0 (N + 1) q' ∧ R = [pt Q #[.slice a' (N + 1) c'] 51, rowH 55 2 a' (N + 1) c' (qcells q')]) := by
  have h := hpush_tr Q (E.qe k) a c N q S w hN hbig hS hh0
  have e1 : some (⟨(E.qe k).b, (E.qe k).off, none⟩ : Addr) = E.a := by rw [hE]; show some (⟨(E.a.getD _).block, (E.a.getD _).off, none⟩ : Addr) = _; rw [hE]; rfl
  rw [e1] at h
  exact h
theorem next_n (Q : Nat) (a : Option Addr) (c N : Nat) (q S : List QE) (E9 : QE) (w : World) (hE9 : q.getD 0 qe0 = E9) (hN : q.length = N + 1) (hbig : N ≤ 10000) (hS : ∀ z, z < N + 1 → q.getD z qe0 ∈ S) (h0S : E9 ∈ S) (hh0 : HeapFrom keyLt 0 (N + 1) q) :
    TrM (QI S) Try.prog 16 #[.pointer (some ⟨Q, 0, none⟩)] w [pt Q #[.slice a (N + 1) c] 51, rowH 55 2 a (N + 1) c (qcells q)]
    (fun v R => ∃ a_ c_ N' q' a', v = .agg #[.int .i64 (E9.xs.getD 0 itm0).at_, .int .i64 (E9.xs.getD 0 itm0).kd, .slice a_ (E9.xs.getD 0 itm0).bs.length c_, .int .i64 (E9.xs.getD 0 itm0).k0, .int .u8 (E9.xs.getD 0 itm0).k1, .bool (E9.xs.getD 0 itm0).k2, .bool (E9.xs.getD 0 itm0).k3, .int .i64 (E9.xs.getD 0 itm0).rw_, .int .i64 (E9.xs.getD 0 itm0).cl, .int .i64 ((E9.n : Nat) : Int)] ∧ q'.length = N' ∧ (((tailE E9).xs.length = 0 ∧ (tailE E9 :: q').Perm (q.set 0 (tailE E9))) ∨ (0 < (tailE E9).xs.length ∧ q'.Perm (q.set 0 (tailE E9)))) ∧ HeapFrom keyLt 0 N' q' ∧
      R = [pt Q #[.slice a' N' c] 51, rowH 55 2 a' N' c (qcells q'), rowH 5 1 a_ (E9.xs.getD 0 itm0).bs.length c_ (bcells (E9.xs.getD 0 itm0).bs)]) := by
  refine TrM.of fun U hs0 hMU => ?_
  obtain ⟨g, pad, rfl, hs1, hl, hc, hm⟩ := hs0.ofRow (i := 1) rfl (by omega)
  refine (hs1.callM hMU (is := [0, 0]) rfl (next_pt Q g c N pad q S E9 w hE9 hN hbig hl hc hm hS h0S hh0)).mono fun e w' hx => ?_
  obtain ⟨v, R, rfl, ⟨a_, c_, N', q', rfl, h1, h2, h3, rfl⟩, hs2⟩ := hx
  exact ⟨_, _, rfl, ⟨a_, c_, N', q', _, rfl, h1, h2, h3, rfl⟩, by simpa using hs2⟩
theorem headsF_step {Ls : List LE} {k : Nat} (h : k < Ls.length) : headsF 0 (Ls.take (k + 1)) = headsF 0 (Ls.take k) ++ (if 0 < (Ls.getD k le0).xs.length then [(Ls.getD k le0).qe k] else []) := by
  have e : Ls.take (k + 1) = Ls.take k ++ [Ls.getD k le0] := by
    rw [List.take_add_one, List.getD_eq_getElem?_getD, List.getElem?_eq_getElem h]; rfl
  rw [e, headsF_app, List.length_take, Nat.min_eq_left (by omega), Nat.zero_add]
  rfl
theorem totQ_heads : ∀ (l : List LE) (n : Nat), totQ (headsF n l) = (l.map fun e => e.xs.length).sum
  | [], n => rfl
  | e :: l, n => by
    have ih := totQ_heads l (n + 1)
    unfold headsF
    split
    · rw [totQ_cons, ih]; rfl
    · rw [ih, List.map_cons, List.sum_cons]; omega
theorem heads_sub {Ls : List LE} {k : Nat} : ∀ e ∈ headsF 0 (Ls.take k), e ∈ headsF 0 Ls := fun e he => by
  have : headsF 0 Ls = headsF 0 (Ls.take k) ++ headsF (0 + (Ls.take k).length) (Ls.drop k) := by
    rw [← headsF_app, List.take_append_drop]
  rw [this]; exact List.mem_append_left _ he
set_option maxRecDepth 100000 in
set_option maxHeartbeats 8000000 in
theorem merge_n (sb soff sc : Nat) (C : Array Value) (T : TypeId) (fr : Nat × Nat) (Ls : List LE) (w : World) (hb0 : w.heap[sb]? = some (.cells C T fr)) (hsrc : ∀ k, k < Ls.length → C[soff + k]? = some (.slice (Ls.getD k le0).a (Ls.getD k le0).xs.length (Ls.getD k le0).c)) (hLI : LI Ls w) (hn0 : Ls.length ≤ 1000) (ht0 : totQ (headsF 0 Ls) ≤ 100000) : Calls Try.prog 7 #[.slice (some ⟨sb, soff, none⟩) Ls.length sc] w fun e w' => ∃ (ao : Option Addr) (co : Nat) (ps : List Pl), e = .returned (.slice ao ps.length co) ∧ MRel (headsF 0 Ls) (ordP ps) ∧ ps.length = totQ (headsF 0 Ls) ∧ SH [] w w' [rowH 39 10 ao ps.length co (pcells ps), allH (ps.map clH)] := by
  have hMU : ∀ w', Upd [] w w' → QI (headsF 0 Ls) w' := fun w' h => (hLI.gr h.toGr).heads
  refine calls_sx (n := 32) (args := [.slice (some ⟨sb, soff, none⟩) Ls.length sc]) Try.func7 rfl rfl rfl ?_
  have hs0 := SH.none w
  refine CW.seq ?_
  refine CW.region ?_
  refine SL.v (.slice none 0 0) ?_
  refine SL.nil ?_
  refine CW.seq ?_
  refine CW.region ?_
  refine SL.newH (mk := fun g => .pointer (some ⟨g, 0, none⟩)) (C := #[.slice none 0 0]) (T := 51) hs0 rfl rfl (by kernel_rfl) (fun g_1 w_2 hs_3 => ?_)
  have hs_3 : SH [] w w_2 [pt g_1 #[.slice none 0 0] 51] := hs_3
  refine SL.nil ?_
  refine CW.seq ?_
  refine CW.seq ?_
  refine CW.region ?_
  refine SL.v (.slice (some ⟨sb, soff, none⟩) Ls.length sc) ?_
  refine SL.val (v := .int .i64 ((Ls.length : Nat) : Int)) (w' := w_2) rfl rfl (by kernel_rfl) ?_
  refine SL.v (.int .i64 0) ?_
  refine SL.nil ?_
  refine CW.block ?_
  have hs_4 := hs_3.row0 55 2
  have hs_5 : SH [] w w_2 [pt g_1 #[.slice none 0 0] 51, rowH 55 2 none 0 0 (qcells [])] := hs_4
  refine CW.loopI (fun m_ e9 w9 => ∃ (k : Nat), ∃ (N : Nat), ∃ (q : List QE), ∃ (a : Option Addr), ∃ (c : Nat), m_ = Ls.length - k ∧ SH [] w w9 [pt g_1 #[.slice a N c] 51, rowH 55 2 a N c (qcells q)] ∧ (k ≤ Ls.length) ∧ (q.length = N) ∧ (N ≤ k) ∧ (q.Perm (headsF 0 (Ls.take k))) ∧ (HeapFrom keyLt 0 N q) ∧ e9 2 = .slice none 0 0 ∧ e9 3 = .pointer (some ⟨g_1, 0, none⟩) ∧ e9 7 = .slice (some ⟨sb, soff, none⟩) Ls.length sc ∧ e9 8 = .int .i64 ((Ls.length : Nat) : Int) ∧ e9 9 = .int .i64 ((k : Nat) : Int)) ⟨_, 0, 0, [], none, 0, rfl, hs_5, (Nat.zero_le _), rfl, (Nat.zero_le _), (List.Perm.refl _), (fun c h0 h1 => absurd h1 (Nat.not_lt_zero c)), (by kernel_rfl), (by kernel_rfl), (by kernel_rfl), (by kernel_rfl), (by kernel_rfl)⟩ ?_
  rintro m_6 e_7 w_8 ⟨k, N, q, a, c, hm_10, hs_9, hk, hN, hNk, hp9, hh9, hv_11, hv_12, hv_13, hv_14, hv_15⟩
  obtain ⟨e_16, rfl⟩ : ∃ e_16, e_7 = put1 (put1 (put1 (put1 (put1 e_16 2 (.slice none 0 0)) 3 (.pointer (some ⟨g_1, 0, none⟩))) 7 (.slice (some ⟨sb, soff, none⟩) Ls.length sc)) 8 (.int .i64 ((Ls.length : Nat) : Int))) 9 (.int .i64 ((k : Nat) : Int)) := ⟨e_7, (put_self hv_15).trans (congrArg (fun z => put1 z 9 (.int .i64 ((k : Nat) : Int))) ((put_self hv_14).trans (congrArg (fun z => put1 z 8 (.int .i64 ((Ls.length : Nat) : Int))) ((put_self hv_13).trans (congrArg (fun z => put1 z 7 (.slice (some ⟨sb, soff, none⟩) Ls.length sc)) ((put_self hv_12).trans (congrArg (fun z => put1 z 3 (.pointer (some ⟨g_1, 0, none⟩))) (put_self hv_11))))))))⟩
  clear hv_11 hv_12 hv_13 hv_14 hv_15
  refine CW.seq ?_
  refine CW.region ?_
  refine SL.v (.bool (decide (((k : Nat) : Int) < ((Ls.length : Nat) : Int)))) ?_
  refine SL.nil ?_
  refine CW.seq ?_
  rcases Bool.eq_false_or_eq_true (decide (((k : Nat) : Int) < ((Ls.length : Nat) : Int))) with hb_17 | hb_17
  · try rw [hb_17]
    have hqhb_17 := of_decide_eq_true hb_17
    refine CW.cond_true (by kernel_rfl) ?_
    refine CW.skip ?_
    refine CW.seq ?_
    refine CW.block ?_
    refine CW.seq ?_
    refine CW.region ?_
    refine SL.v (.int .i64 ((k : Nat) : Int)) ?_
    refine SL.val (v := .pointer (some ⟨sb, soff + k, none⟩)) (w' := w_8) rfl rfl ((run_ix (len := Ls.length) (cap := sc) (q := .i64) (I := ((k : Nat) : Int)) (g := sb) (off := soff) (i := k) (size := 1) rfl (by kernel_rfl) (by kernel_rfl) rfl (by kernel_rfl) (by kernel_rfl) (by omega)).trans (by rw [show soff + k * 1 = soff + k from by omega])) ?_
    refine SL.load (g := sb) (off := soff + k) (v := .slice ((Ls.getD k le0).a) ((Ls.getD k le0).xs.length) ((Ls.getD k le0).c)) rfl rfl rfl (by kernel_rfl) (hs_9.gr.blk hb0) (ldV_one (by kernel_rfl) (by kernel_rfl) (hsrc k (by omega))) ?_
    refine SL.v (.int .i64 ((k : Nat) : Int)) ?_
    refine SL.v (.slice ((Ls.getD k le0).a) ((Ls.getD k le0).xs.length) ((Ls.getD k le0).c)) ?_
    refine SL.nil ?_
    refine CW.seq ?_
    refine CW.region ?_
    refine SL.v (.slice ((Ls.getD k le0).a) ((Ls.getD k le0).xs.length) ((Ls.getD k le0).c)) ?_
    refine SL.val (v := .int .i64 (((Ls.getD k le0).xs.length : Nat) : Int)) (w' := w_8) rfl rfl (by kernel_rfl) ?_
    refine SL.v (.bool (decide (0 < (((Ls.getD k le0).xs.length : Nat) : Int)))) ?_
    refine SL.nil ?_
    rcases Bool.eq_false_or_eq_true (decide (0 < (((Ls.getD k le0).xs.length : Nat) : Int))) with hb_18 | hb_18
    · try rw [hb_18]
      have hqhb_18 := of_decide_eq_true hb_18
      refine CW.cond_true (by kernel_rfl) ?_
      refine CW.region ?_
      refine SL.v (.iface 53 (.pointer (some ⟨g_1, 0, none⟩))) ?_
      refine SL.v (.slice ((Ls.getD k le0).a) ((Ls.getD k le0).xs.length) ((Ls.getD k le0).c)) ?_
      refine SL.v (.int .i64 ((k : Nat) : Int)) ?_
      refine SL.v (.agg #[.slice ((Ls.getD k le0).a) ((Ls.getD k le0).xs.length) ((Ls.getD k le0).c), .int .i64 ((k : Nat) : Int)]) ?_
      refine SL.v (.iface 55 (.agg #[.slice ((Ls.getD k le0).a) ((Ls.getD k le0).xs.length) ((Ls.getD k le0).c), .int .i64 ((k : Nat) : Int)])) ?_
      have hkl9 : k < Ls.length := by omega
      have hget9 : (Ls.getD k le0) = Ls[k] := by rw [List.getD_eq_getElem?_getD, List.getElem?_eq_getElem hkl9]; rfl
      obtain ⟨b9, off9, hE8, hIt9⟩ := hLI (Ls.getD k le0) (by rw [hget9]; exact List.getElem_mem hkl9) (by omega)
      have hst9 := headsF_step (Ls := Ls) (k := k) (by omega)
      rw [if_pos (by omega)] at hst9
      have hl9 := hp9.length_eq
      refine SL.callHM (hI := hMU) (f := 14) (args := #[.iface 53 (.pointer (some ⟨g_1, 0, none⟩)), .iface 55 (.agg #[.slice ((Ls.getD k le0).a) ((Ls.getD k le0).xs.length) ((Ls.getD k le0).c), .int .i64 ((k : Nat) : Int)])]) (Pre := [pt g_1 #[.slice a N c] 51, rowH 55 2 a N c (qcells q)]) (Rest := []) [0, 0] hs_9 rfl rfl (by kernel_rfl) rfl (hpush_a g_1 k (Ls.getD k le0) a c N q (headsF 0 Ls) w_8 b9 off9 hE8 hN (by omega) (fun z hz => by have hm_ : (q ++ [(Ls.getD k le0).qe k]).getD z qe0 ∈ q ++ [(Ls.getD k le0).qe k] := mem_at z (by rw [List.length_append, List.length_cons, List.length_nil]; omega); refine heads_sub (k := k + 1) _ ?_; rw [hst9]; rcases List.mem_append.1 hm_ with h_ | h_; exact List.mem_append_left _ (hp9.mem_iff.1 h_); exact List.mem_append_right _ h_) hh9) ?_
      rintro v_ Q_ w_24 ⟨rfl, a_19, c_20, q_21, hp_22, hh_23, rfl⟩ hs_26
      have hs_26 : SH [] w w_24 [pt g_1 #[.slice a_19 (N + 1) c_20] 51, rowH 55 2 a_19 (N + 1) c_20 (qcells q_21)] := hs_26
      refine SL.nil ?_
      refine CW.region ?_
      refine SL.val (v := .int .i64 ((k + 1 : Nat) : Int)) (w' := w_24) rfl rfl (by have hw : IntKind.i64.wrap (((k : Nat) : Int) + 1) = ((k + 1 : Nat) : Int) := (IntWalk.i64_in _ (by omega)).trans (by omega); exact run_eqv (by kernel_rfl) (congrArg (fun z => Value.int .i64 z) hw)) ?_
      refine SL.v (.int .i64 ((k + 1 : Nat) : Int)) ?_
      refine SL.nil ?_
      exact ⟨_, ⟨k + 1, _, _, _, _, rfl, (hs_26.pick [0, 0] rfl), (by omega), (by rw [hp_22.length_eq, List.length_append, hN]; rfl), (by omega), (hp_22.trans (by rw [hst9]; exact hp9.append_right _)), hh_23, (by kernel_rfl), (by kernel_rfl), (by kernel_rfl), (by kernel_rfl), (by kernel_rfl)⟩, by omega⟩
    · try rw [hb_18]
      have hqhb_18 := of_decide_eq_false hb_18
      refine CW.cond_false (by kernel_rfl) ?_
      refine CW.skip ?_
      refine CW.region ?_
      refine SL.val (v := .int .i64 ((k + 1 : Nat) : Int)) (w' := w_8) rfl rfl (by have hw : IntKind.i64.wrap (((k : Nat) : Int) + 1) = ((k + 1 : Nat) : Int) := (IntWalk.i64_in _ (by omega)).trans (by omega); exact run_eqv (by kernel_rfl) (congrArg (fun z => Value.int .i64 z) hw)) ?_
      refine SL.v (.int .i64 ((k + 1 : Nat) : Int)) ?_
      refine SL.nil ?_
      exact ⟨_, ⟨k + 1, _, _, _, _, rfl, (hs_9.pick [0, 0] rfl), (by omega), hN, (by omega), (by rw [headsF_step (by omega), if_neg (by omega), List.append_nil]; exact hp9), hh9, (by kernel_rfl), (by kernel_rfl), (by kernel_rfl), (by kernel_rfl), (by kernel_rfl)⟩, by omega⟩
  · try rw [hb_17]
    have hqhb_17 := of_decide_eq_false hb_17
    refine CW.cond_false (by kernel_rfl) ?_
    refine CW.exit ?_
    repeat with_reducible first | refine PThen.exit ?_ | refine PBlock.out rfl ?_
    with_reducible refine PBlock.here ?_
    repeat with_reducible refine PBlock.normal ?_
    refine CW.seq ?_
    refine CW.region ?_
    refine SL.v (.slice none 0 0) ?_
    refine SL.nil ?_
    refine CW.seq ?_
    refine CW.block ?_
    have hk8 : k = Ls.length := by omega
    have hp8 : q.Perm (headsF 0 Ls) := by rw [hk8] at hp9; rw [List.take_length] at hp9; exact hp9
    have hQ8 : ∀ w9, Upd [] w w9 → QI q w9 := fun w9 h e he => (hMU w9 h) e (hp8.mem_iff.1 he)
    have hs_27 := (hs_9.row0 39 10).all0
    have hs_28 : SH [] w w_8 [pt g_1 #[.slice a N c] 51, rowH 55 2 a N c (qcells q), rowH 39 10 none (([] : List Pl)).length 0 (pcells ([] : List Pl)), allH (([] : List Pl).map clH)] := hs_27
    refine CW.loopI (fun m_ e9 w9 => ∃ (N : Nat), ∃ (q : List QE), ∃ (a : Option Addr), ∃ (c : Nat), ∃ (ps : List Pl), ∃ (ao : Option Addr), ∃ (co : Nat), m_ = totQ q ∧ SH [] w w9 [pt g_1 #[.slice a N c] 51, rowH 55 2 a N c (qcells q), rowH 39 10 ao (ps).length co (pcells ps), allH ((ps).map clH)] ∧ (q.length = N) ∧ (HeapFrom keyLt 0 N q) ∧ (∀ w9, Upd [] w w9 → QI q w9) ∧ (∀ l, MRel q l → MRel (headsF 0 Ls) (ordP ps ++ l)) ∧ (ps.length + totQ q = totQ (headsF 0 Ls)) ∧ (N ≤ Ls.length) ∧ e9 2 = .slice none 0 0 ∧ e9 3 = .pointer (some ⟨g_1, 0, none⟩) ∧ e9 6 = .slice ao ((ps).length) co) ⟨_, _, _, _, _, [], none, 0, rfl, hs_28, hN, hh9, hQ8, (fun l hl => hl.perm hp8.symm), (by rw [totQ_perm hp8, List.length_nil]; omega), (by omega), (by kernel_rfl), (by kernel_rfl), (by kernel_rfl)⟩ ?_
    rintro m_29 e_30 w_31 ⟨N, q, a, c, ps, ao, co, hm_33, hs_32, hN, hh9, hQ9, hrl9, htt9, hNl9, hv_34, hv_35, hv_36⟩
    obtain ⟨e_37, rfl⟩ : ∃ e_37, e_30 = put1 (put1 (put1 e_37 2 (.slice none 0 0)) 3 (.pointer (some ⟨g_1, 0, none⟩))) 6 (.slice ao ((ps).length) co) := ⟨e_30, (put_self hv_36).trans (congrArg (fun z => put1 z 6 (.slice ao ((ps).length) co)) ((put_self hv_35).trans (congrArg (fun z => put1 z 3 (.pointer (some ⟨g_1, 0, none⟩))) (put_self hv_34))))⟩
    clear hv_34 hv_35 hv_36
    refine CW.seq ?_
    refine CW.seq ?_
    refine CW.region ?_
    refine SL.load (g := g_1) (off := 0) (v := .slice a N c) rfl rfl rfl (by kernel_rfl) (hs_32.pt_at (i := 0) rfl) (by kernel_rfl) ?_
    refine SL.call (f := 15) (args := #[.slice a N c]) (w1 := w_31) rfl rfl (by kernel_rfl) (len_n a c N w_31) ?_
    rintro x w_38 ⟨rfl, rfl⟩
    refine ⟨.int .i64 ((N : Nat) : Int), rfl, ?_⟩
    refine SL.v (.bool (decide (0 < ((N : Nat) : Int)))) ?_
    refine SL.nil ?_
    rcases Bool.eq_false_or_eq_true (decide (0 < ((N : Nat) : Int))) with hb_41 | hb_41
    · try rw [hb_41]
      have hqhb_41 := of_decide_eq_true hb_41
      refine CW.cond_true (by kernel_rfl) ?_
      refine CW.skip ?_
      refine CW.block ?_
      refine CW.region ?_
      refine SL.v (.slice ao ((ps).length) co) ?_
      obtain ⟨N9, hN9⟩ : ∃ N9, N = N9 + 1 := ⟨N - 1, by omega⟩
      subst hN9
      obtain ⟨E9, hE9⟩ : ∃ E9, q.getD 0 qe0 = E9 := ⟨_, rfl⟩
      have h0S : E9 ∈ q := by rw [← hE9]; exact mem_at 0 (by omega)
      have hpos9 : 0 < E9.xs.length := ((hQ9 _ (Upd.refl _ _)) _ h0S).1
      refine SL.callHM (hI := hQ9) (f := 16) (args := #[.pointer (some ⟨g_1, 0, none⟩)]) (Pre := [pt g_1 #[.slice a (N9 + 1) c] 51, rowH 55 2 a (N9 + 1) c (qcells q)]) (Rest := [rowH 39 10 ao (ps).length co (pcells ps), allH ((ps).map clH)]) [0, 0] hs_32 rfl rfl (by kernel_rfl) rfl (next_n g_1 a c N9 q q E9 w_31 hE9 hN (by omega) (fun z hz => mem_at z (by omega)) h0S hh9) ?_
      rintro v_ Q_ w_50 ⟨a_42, c_43, N_44, q_45, a_46, rfl, h1_47, h2_48, h3_49, rfl⟩ hs_52
      have hs_52 : SH [] w w_50 [pt g_1 #[.slice a_46 N_44 c] 51, rowH 55 2 a_46 N_44 c (qcells q_45), rowH 5 1 a_42 (E9.xs.getD 0 itm0).bs.length c_43 (bcells (E9.xs.getD 0 itm0).bs), rowH 39 10 ao (ps).length co (pcells ps), allH ((ps).map clH)] := hs_52
      obtain ⟨hrel9, htot9, hmem9⟩ := next_rel hN hE9 hh9 hpos9 h2_48
      obtain ⟨Q_, hQ_, hs_53⟩ := hs_52.ent (is := [4, 2]) rfl (allH_push _ _)
      subst hQ_
      have hs_54 : SH [] w w_50 [allH ((ps ++ [(⟨(E9.xs.getD 0 itm0), E9.n, a_42, c_43⟩ : Pl)]).map clH), pt g_1 #[.slice a_46 N_44 c] 51, rowH 55 2 a_46 N_44 c (qcells q_45), rowH 39 10 ao (ps).length co (pcells ps)] := by have h_ := hs_53; simp only [List.map_append, List.map_cons, List.map_nil]; exact h_
      refine SL.newH (mk := fun g => .slice (some ⟨g, 0, none⟩) 1 1) (C := #[.int .i64 ((E9.xs.getD 0 itm0).at_), .int .i64 ((E9.xs.getD 0 itm0).kd), .slice a_42 ((E9.xs.getD 0 itm0).bs.length) c_43, .int .i64 ((E9.xs.getD 0 itm0).k0), .int .u8 ((E9.xs.getD 0 itm0).k1), .bool ((E9.xs.getD 0 itm0).k2), .bool ((E9.xs.getD 0 itm0).k3), .int .i64 ((E9.xs.getD 0 itm0).rw_), .int .i64 ((E9.xs.getD 0 itm0).cl), .int .i64 ((E9.n : Nat) : Int)]) (T := 39) hs_54 rfl rfl (by kernel_rfl) (fun g_55 w_56 hs_57 => ?_)
      have hs_57 : SH [] w w_56 [allH ((ps ++ [(⟨(E9.xs.getD 0 itm0), E9.n, a_42, c_43⟩ : Pl)]).map clH), pt g_1 #[.slice a_46 N_44 c] 51, rowH 55 2 a_46 N_44 c (qcells q_45), rowH 39 10 ao (ps).length co (pcells ps), pt g_55 #[.int .i64 ((E9.xs.getD 0 itm0).at_), .int .i64 ((E9.xs.getD 0 itm0).kd), .slice a_42 ((E9.xs.getD 0 itm0).bs.length) c_43, .int .i64 ((E9.xs.getD 0 itm0).k0), .int .u8 ((E9.xs.getD 0 itm0).k1), .bool ((E9.xs.getD 0 itm0).k2), .bool ((E9.xs.getD 0 itm0).k3), .int .i64 ((E9.xs.getD 0 itm0).rw_), .int .i64 ((E9.xs.getD 0 itm0).cl), .int .i64 ((E9.n : Nat) : Int)] 39] := hs_57
      refine SL.appR (z := .agg #[.int .i64 0, .int .i64 0, .slice none 0 0, .int .i64 0, .int .u8 0, .bool false, .bool false, .int .i64 0, .int .i64 0, .int .i64 0]) (size := 10) (bytes := 80) (el := 39) (m := 1) (news := [.int .i64 ((E9.xs.getD 0 itm0).at_), .int .i64 ((E9.xs.getD 0 itm0).kd), .slice a_42 ((E9.xs.getD 0 itm0).bs.length) c_43, .int .i64 ((E9.xs.getD 0 itm0).k0), .int .u8 ((E9.xs.getD 0 itm0).k1), .bool ((E9.xs.getD 0 itm0).k2), .bool ((E9.xs.getD 0 itm0).k3), .int .i64 ((E9.xs.getD 0 itm0).rw_), .int .i64 ((E9.xs.getD 0 itm0).cl), .int .i64 ((E9.n : Nat) : Int)]) (i := 3) (xs' := pcells (ps ++ [(⟨(E9.xs.getD 0 itm0), E9.n, a_42, c_43⟩ : Pl)])) (k' := (ps ++ [(⟨(E9.xs.getD 0 itm0), E9.n, a_42, c_43⟩ : Pl)]).length) (L' := [allH ((ps ++ [(⟨(E9.xs.getD 0 itm0), E9.n, a_42, c_43⟩ : Pl)]).map clH), pt g_1 #[.slice a_46 N_44 c] 51, rowH 55 2 a_46 N_44 c (qcells q_45), pt g_55 #[.int .i64 ((E9.xs.getD 0 itm0).at_), .int .i64 ((E9.xs.getD 0 itm0).kd), .slice a_42 ((E9.xs.getD 0 itm0).bs.length) c_43, .int .i64 ((E9.xs.getD 0 itm0).k0), .int .u8 ((E9.xs.getD 0 itm0).k1), .bool ((E9.xs.getD 0 itm0).k2), .bool ((E9.xs.getD 0 itm0).k3), .int .i64 ((E9.xs.getD 0 itm0).rw_), .int .i64 ((E9.xs.getD 0 itm0).cl), .int .i64 ((E9.n : Nat) : Int)] 39]) hs_57 rfl rfl rfl (by kernel_rfl) (by kernel_rfl) (by kernel_rfl) (by kernel_rfl) (by kernel_rfl) (by kernel_rfl) rfl rfl (srcH (off := 0) (cs := [.int .i64 ((E9.xs.getD 0 itm0).at_), .int .i64 ((E9.xs.getD 0 itm0).kd), .slice a_42 ((E9.xs.getD 0 itm0).bs.length) c_43, .int .i64 ((E9.xs.getD 0 itm0).k0), .int .u8 ((E9.xs.getD 0 itm0).k1), .bool ((E9.xs.getD 0 itm0).k2), .bool ((E9.xs.getD 0 itm0).k3), .int .i64 ((E9.xs.getD 0 itm0).rw_), .int .i64 ((E9.xs.getD 0 itm0).cl), .int .i64 ((E9.n : Nat) : Int)]) (el := 39) (by kernel_rfl) (hs_57.pt_at (i := 4) rfl) rfl rfl (List.all_eq_true.1 (by kernel_rfl))) (by (try simp only [List.length_append, List.length_cons, List.length_nil]); omega) (pcells_app ps ([(⟨(E9.xs.getD 0 itm0), E9.n, a_42, c_43⟩ : Pl)])) (by first | (simp; done) | (simp only [List.length_append, List.length_cons, List.length_nil] <;> omega)) rfl (fun a_58 c_59 w_60 hs_61 => ?_)
      have hs_61 : SH [] w w_60 [allH ((ps ++ [(⟨(E9.xs.getD 0 itm0), E9.n, a_42, c_43⟩ : Pl)]).map clH), pt g_1 #[.slice a_46 N_44 c] 51, rowH 55 2 a_46 N_44 c (qcells q_45), pt g_55 #[.int .i64 ((E9.xs.getD 0 itm0).at_), .int .i64 ((E9.xs.getD 0 itm0).kd), .slice a_42 ((E9.xs.getD 0 itm0).bs.length) c_43, .int .i64 ((E9.xs.getD 0 itm0).k0), .int .u8 ((E9.xs.getD 0 itm0).k1), .bool ((E9.xs.getD 0 itm0).k2), .bool ((E9.xs.getD 0 itm0).k3), .int .i64 ((E9.xs.getD 0 itm0).rw_), .int .i64 ((E9.xs.getD 0 itm0).cl), .int .i64 ((E9.n : Nat) : Int)] 39, rowH 39 10 a_58 (ps ++ [(⟨(E9.xs.getD 0 itm0), E9.n, a_42, c_43⟩ : Pl)]).length c_59 (pcells (ps ++ [(⟨(E9.xs.getD 0 itm0), E9.n, a_42, c_43⟩ : Pl)]))] := hs_61
      refine SL.v (.slice a_58 ((ps ++ [(⟨(E9.xs.getD 0 itm0), E9.n, a_42, c_43⟩ : Pl)]).length) c_59) ?_
      refine SL.nil ?_
      exact ⟨_, ⟨N_44, q_45, a_46, c, ps ++ [(⟨(E9.xs.getD 0 itm0), E9.n, a_42, c_43⟩ : Pl)], a_58, c_59, rfl, (hs_61.pick [1, 1, 2, 0] rfl), h1_47, h3_49, (fun w9 h f hf => by rcases hmem9 f hf with ⟨rfl, h0_⟩ | h_; exact ⟨h0_, tail_at ((hQ9 w9 h) _ h0S).2 h0_⟩; exact (hQ9 w9 h) f h_), (fun l hl => by have h_ := hrl9 _ (hrel9 l hl); unfold ordP at h_ ⊢; rw [List.map_append]; simpa using h_), (by rw [List.length_append, List.length_cons, List.length_nil]; omega), (by have h_ := h2_48; have hl_ : (tailE E9 :: q_45).length = q_45.length + 1 := List.length_cons; rcases h_ with ⟨_, h_⟩ | ⟨_, h_⟩; have := h_.length_eq; rw [List.length_set] at this; omega; have := h_.length_eq; rw [List.length_set] at this; omega), (by kernel_rfl), (by kernel_rfl), (by kernel_rfl)⟩, by omega⟩
    · try rw [hb_41]
      have hqhb_41 := of_decide_eq_false hb_41
      refine CW.cond_false (by kernel_rfl) ?_
      refine CW.exit ?_
      repeat with_reducible first | refine PThen.exit ?_ | refine PBlock.out rfl ?_
      with_reducible refine PBlock.here ?_
      repeat with_reducible refine PBlock.normal ?_
      refine CW.seq ?_
      refine CW.region ?_
      refine SL.v (.slice ao ((ps).length) co) ?_
      refine SL.v (.slice ao ((ps).length) co) ?_
      refine SL.nil ?_
      refine CW.ret ?_
      repeat with_reducible first | refine PThen.ret ?_ | refine PBlock.ret ?_
      refine PRet.tmp (t := 2) (v := .slice ao ((ps).length) co) rfl rfl (by kernel_rfl) ?_
      have hN0_ : N = 0 := by omega
      have hq0_ : q = [] := List.eq_nil_of_length_eq_zero (by omega)
      have hr_ := hrl9 [] (by rw [hq0_]; exact .nil)
      rw [List.append_nil] at hr_
      have ht_ : ps.length = totQ (headsF 0 Ls) := by rw [hq0_] at htt9; exact htt9
      exact ⟨ao, co, ps, rfl, hr_, ht_, hs_32.pick [2, 2] rfl⟩
set_option maxRecDepth 100000 in
set_option maxHeartbeats 8000000 in
theorem merge_0 (sa : Option Addr) (sc : Nat) (w : World) : Calls Try.prog 7 #[.slice sa 0 sc] w fun e w' => ∃ (ao : Option Addr) (co : Nat) (ps : List Pl), e = .returned (.slice ao ps.length co) ∧ MRel (headsF 0 []) (ordP ps) ∧ ps.length = totQ (headsF 0 []) ∧ SH [] w w' [rowH 39 10 ao ps.length co (pcells ps), allH (ps.map clH)] := by
  refine calls_sx (n := 32) (args := [.slice sa 0 sc]) Try.func7 rfl rfl rfl ?_
  have hs0 := SH.none w
  refine CW.seq ?_
  refine CW.region ?_
  refine SL.v (.slice none 0 0) ?_
  refine SL.nil ?_
  refine CW.seq ?_
  refine CW.region ?_
  refine SL.newH (mk := fun g => .pointer (some ⟨g, 0, none⟩)) (C := #[.slice none 0 0]) (T := 51) hs0 rfl rfl (by kernel_rfl) (fun g_1 w_2 hs_3 => ?_)
  have hs_3 : SH [] w w_2 [pt g_1 #[.slice none 0 0] 51] := hs_3
  refine SL.nil ?_
  refine CW.seq ?_
  refine CW.seq ?_
  refine CW.region ?_
  refine SL.v (.slice sa 0 sc) ?_
  refine SL.val (v := .int .i64 0) (w' := w_2) rfl rfl (by kernel_rfl) ?_
  refine SL.v (.int .i64 0) ?_
  refine SL.nil ?_
  refine CW.block ?_
  have hs_4 := hs_3.row0 55 2
  have hs_5 : SH [] w w_2 [pt g_1 #[.slice none 0 0] 51, rowH 55 2 none 0 0 (qcells [])] := hs_4
  refine CW.loopI (fun m_ e9 w9 => ∃ (k : Nat), ∃ (N : Nat), ∃ (q : List QE), ∃ (a : Option Addr), ∃ (c : Nat), m_ = 0 - k ∧ SH [] w w9 [pt g_1 #[.slice a N c] 51, rowH 55 2 a N c (qcells q)] ∧ (k ≤ 0) ∧ (q.length = N) ∧ (N ≤ k) ∧ (q.Perm (headsF 0 ([].take k))) ∧ (HeapFrom keyLt 0 N q) ∧ e9 2 = .slice none 0 0 ∧ e9 3 = .pointer (some ⟨g_1, 0, none⟩) ∧ e9 7 = .slice sa 0 sc ∧ e9 8 = .int .i64 0 ∧ e9 9 = .int .i64 ((k : Nat) : Int)) ⟨_, 0, 0, [], none, 0, rfl, hs_5, (Nat.zero_le _), rfl, (Nat.zero_le _), (List.Perm.refl _), (fun c h0 h1 => absurd h1 (Nat.not_lt_zero c)), (by kernel_rfl), (by kernel_rfl), (by kernel_rfl), (by kernel_rfl), (by kernel_rfl)⟩ ?_
  rintro m_6 e_7 w_8 ⟨k, N, q, a, c, hm_10, hs_9, hk, hN, hNk, hp9, hh9, hv_11, hv_12, hv_13, hv_14, hv_15⟩
  obtain ⟨e_16, rfl⟩ : ∃ e_16, e_7 = put1 (put1 (put1 (put1 (put1 e_16 2 (.slice none 0 0)) 3 (.pointer (some ⟨g_1, 0, none⟩))) 7 (.slice sa 0 sc)) 8 (.int .i64 0)) 9 (.int .i64 ((k : Nat) : Int)) := ⟨e_7, (put_self hv_15).trans (congrArg (fun z => put1 z 9 (.int .i64 ((k : Nat) : Int))) ((put_self hv_14).trans (congrArg (fun z => put1 z 8 (.int .i64 0)) ((put_self hv_13).trans (congrArg (fun z => put1 z 7 (.slice sa 0 sc)) ((put_self hv_12).trans (congrArg (fun z => put1 z 3 (.pointer (some ⟨g_1, 0, none⟩))) (put_self hv_11))))))))⟩
  clear hv_11 hv_12 hv_13 hv_14 hv_15
  refine CW.seq ?_
  refine CW.region ?_
  refine SL.v (.bool (decide (((k : Nat) : Int) < 0))) ?_
  refine SL.nil ?_
  refine CW.seq ?_
  have hb_17 : (decide (((k : Nat) : Int) < 0)) = false := (decide_eq_false (by omega))
  rw [hb_17]
  have hqhb_17 := of_decide_eq_false hb_17
  refine CW.cond_false (by kernel_rfl) ?_
  refine CW.exit ?_
  repeat with_reducible first | refine PThen.exit ?_ | refine PBlock.out rfl ?_
  with_reducible refine PBlock.here ?_
  repeat with_reducible refine PBlock.normal ?_
  refine CW.seq ?_
  refine CW.region ?_
  refine SL.v (.slice none 0 0) ?_
  refine SL.nil ?_
  refine CW.seq ?_
  refine CW.block ?_
  have hk8 : k = 0 := by omega
  have hp8 : q.Perm (headsF 0 []) := by rw [hk8] at hp9; exact hp9
  have hQ8 : ∀ w9, Upd [] w w9 → QI q w9 := fun w9 h e he => absurd (hp8.mem_iff.1 he) (by simp [headsF])
  have hs_18 := (hs_9.row0 39 10).all0
  have hs_19 : SH [] w w_8 [pt g_1 #[.slice a N c] 51, rowH 55 2 a N c (qcells q), rowH 39 10 none (([] : List Pl)).length 0 (pcells ([] : List Pl)), allH (([] : List Pl).map clH)] := hs_18
  refine CW.loopI (fun m_ e9 w9 => ∃ (N : Nat), ∃ (q : List QE), ∃ (a : Option Addr), ∃ (c : Nat), ∃ (ps : List Pl), ∃ (ao : Option Addr), ∃ (co : Nat), m_ = totQ q ∧ SH [] w w9 [pt g_1 #[.slice a N c] 51, rowH 55 2 a N c (qcells q), rowH 39 10 ao (ps).length co (pcells ps), allH ((ps).map clH)] ∧ (q.length = N) ∧ (HeapFrom keyLt 0 N q) ∧ (∀ w9, Upd [] w w9 → QI q w9) ∧ (∀ l, MRel q l → MRel (headsF 0 []) (ordP ps ++ l)) ∧ (ps.length + totQ q = totQ (headsF 0 [])) ∧ (N ≤ 0) ∧ e9 2 = .slice none 0 0 ∧ e9 3 = .pointer (some ⟨g_1, 0, none⟩) ∧ e9 6 = .slice ao ((ps).length) co) ⟨_, _, _, _, _, [], none, 0, rfl, hs_19, hN, hh9, hQ8, (fun l hl => hl.perm hp8.symm), (by rw [totQ_perm hp8, List.length_nil]; omega), (by omega), (by kernel_rfl), (by kernel_rfl), (by kernel_rfl)⟩ ?_
  rintro m_20 e_21 w_22 ⟨N, q, a, c, ps, ao, co, hm_24, hs_23, hN, hh9, hQ9, hrl9, htt9, hNl9, hv_25, hv_26, hv_27⟩
  obtain ⟨e_28, rfl⟩ : ∃ e_28, e_21 = put1 (put1 (put1 e_28 2 (.slice none 0 0)) 3 (.pointer (some ⟨g_1, 0, none⟩))) 6 (.slice ao ((ps).length) co) := ⟨e_21, (put_self hv_27).trans (congrArg (fun z => put1 z 6 (.slice ao ((ps).length) co)) ((put_self hv_26).trans (congrArg (fun z => put1 z 3 (.pointer (some ⟨g_1, 0, none⟩))) (put_self hv_25))))⟩
  clear hv_25 hv_26 hv_27
  refine CW.seq ?_
  refine CW.seq ?_
  refine CW.region ?_
  refine SL.load (g := g_1) (off := 0) (v := .slice a N c) rfl rfl rfl (by kernel_rfl) (hs_23.pt_at (i := 0) rfl) (by kernel_rfl) ?_
  refine SL.call (f := 15) (args := #[.slice a N c]) (w1 := w_22) rfl rfl (by kernel_rfl) (len_n a c N w_22) ?_
  rintro x w_29 ⟨rfl, rfl⟩
  refine ⟨.int .i64 ((N : Nat) : Int), rfl, ?_⟩
  refine SL.v (.bool (decide (0 < ((N : Nat) : Int)))) ?_
  refine SL.nil ?_
  rcases Bool.eq_false_or_eq_true (decide (0 < ((N : Nat) : Int))) with hb_32 | hb_32
  · try rw [hb_32]
    have hqhb_32 := of_decide_eq_true hb_32
    refine CW.cond_true (by kernel_rfl) ?_
    refine CW.skip ?_
    refine CW.block ?_
    refine CW.region ?_
    refine SL.v (.slice ao ((ps).length) co) ?_
    obtain ⟨N9, hN9⟩ : ∃ N9, N = N9 + 1 := ⟨N - 1, by omega⟩
    subst hN9
    obtain ⟨E9, hE9⟩ : ∃ E9, q.getD 0 qe0 = E9 := ⟨_, rfl⟩
    have h0S : E9 ∈ q := by rw [← hE9]; exact mem_at 0 (by omega)
    have hpos9 : 0 < E9.xs.length := ((hQ9 _ (Upd.refl _ _)) _ h0S).1
    refine SL.callHM (hI := hQ9) (f := 16) (args := #[.pointer (some ⟨g_1, 0, none⟩)]) (Pre := [pt g_1 #[.slice a (N9 + 1) c] 51, rowH 55 2 a (N9 + 1) c (qcells q)]) (Rest := [rowH 39 10 ao (ps).length co (pcells ps), allH ((ps).map clH)]) [0, 0] hs_23 rfl rfl (by kernel_rfl) rfl (next_n g_1 a c N9 q q E9 w_22 hE9 hN (by omega) (fun z hz => mem_at z (by omega)) h0S hh9) ?_
    rintro v_ Q_ w_41 ⟨a_33, c_34, N_35, q_36, a_37, rfl, h1_38, h2_39, h3_40, rfl⟩ hs_43
    have hs_43 : SH [] w w_41 [pt g_1 #[.slice a_37 N_35 c] 51, rowH 55 2 a_37 N_35 c (qcells q_36), rowH 5 1 a_33 (E9.xs.getD 0 itm0).bs.length c_34 (bcells (E9.xs.getD 0 itm0).bs), rowH 39 10 ao (ps).length co (pcells ps), allH ((ps).map clH)] := hs_43
    obtain ⟨hrel9, htot9, hmem9⟩ := next_rel hN hE9 hh9 hpos9 h2_39
    obtain ⟨Q_, hQ_, hs_44⟩ := hs_43.ent (is := [4, 2]) rfl (allH_push _ _)
    subst hQ_
    have hs_45 : SH [] w w_41 [allH ((ps ++ [(⟨(E9.xs.getD 0 itm0), E9.n, a_33, c_34⟩ : Pl)]).map clH), pt g_1 #[.slice a_37 N_35 c] 51, rowH 55 2 a_37 N_35 c (qcells q_36), rowH 39 10 ao (ps).length co (pcells ps)] := by have h_ := hs_44; simp only [List.map_append, List.map_cons, List.map_nil]; exact h_
    refine SL.newH (mk := fun g => .slice (some ⟨g, 0, none⟩) 1 1) (C := #[.int .i64 ((E9.xs.getD 0 itm0).at_), .int .i64 ((E9.xs.getD 0 itm0).kd), .slice a_33 ((E9.xs.getD 0 itm0).bs.length) c_34, .int .i64 ((E9.xs.getD 0 itm0).k0), .int .u8 ((E9.xs.getD 0 itm0).k1), .bool ((E9.xs.getD 0 itm0).k2), .bool ((E9.xs.getD 0 itm0).k3), .int .i64 ((E9.xs.getD 0 itm0).rw_), .int .i64 ((E9.xs.getD 0 itm0).cl), .int .i64 ((E9.n : Nat) : Int)]) (T := 39) hs_45 rfl rfl (by kernel_rfl) (fun g_46 w_47 hs_48 => ?_)
    have hs_48 : SH [] w w_47 [allH ((ps ++ [(⟨(E9.xs.getD 0 itm0), E9.n, a_33, c_34⟩ : Pl)]).map clH), pt g_1 #[.slice a_37 N_35 c] 51, rowH 55 2 a_37 N_35 c (qcells q_36), rowH 39 10 ao (ps).length co (pcells ps), pt g_46 #[.int .i64 ((E9.xs.getD 0 itm0).at_), .int .i64 ((E9.xs.getD 0 itm0).kd), .slice a_33 ((E9.xs.getD 0 itm0).bs.length) c_34, .int .i64 ((E9.xs.getD 0 itm0).k0), .int .u8 ((E9.xs.getD 0 itm0).k1), .bool ((E9.xs.getD 0 itm0).k2), .bool ((E9.xs.getD 0 itm0).k3), .int .i64 ((E9.xs.getD 0 itm0).rw_), .int .i64 ((E9.xs.getD 0 itm0).cl), .int .i64 ((E9.n : Nat) : Int)] 39] := hs_48
    refine SL.appR (z := .agg #[.int .i64 0, .int .i64 0, .slice none 0 0, .int .i64 0, .int .u8 0, .bool false, .bool false, .int .i64 0, .int .i64 0, .int .i64 0]) (size := 10) (bytes := 80) (el := 39) (m := 1) (news := [.int .i64 ((E9.xs.getD 0 itm0).at_), .int .i64 ((E9.xs.getD 0 itm0).kd), .slice a_33 ((E9.xs.getD 0 itm0).bs.length) c_34, .int .i64 ((E9.xs.getD 0 itm0).k0), .int .u8 ((E9.xs.getD 0 itm0).k1), .bool ((E9.xs.getD 0 itm0).k2), .bool ((E9.xs.getD 0 itm0).k3), .int .i64 ((E9.xs.getD 0 itm0).rw_), .int .i64 ((E9.xs.getD 0 itm0).cl), .int .i64 ((E9.n : Nat) : Int)]) (i := 3) (xs' := pcells (ps ++ [(⟨(E9.xs.getD 0 itm0), E9.n, a_33, c_34⟩ : Pl)])) (k' := (ps ++ [(⟨(E9.xs.getD 0 itm0), E9.n, a_33, c_34⟩ : Pl)]).length) (L' := [allH ((ps ++ [(⟨(E9.xs.getD 0 itm0), E9.n, a_33, c_34⟩ : Pl)]).map clH), pt g_1 #[.slice a_37 N_35 c] 51, rowH 55 2 a_37 N_35 c (qcells q_36), pt g_46 #[.int .i64 ((E9.xs.getD 0 itm0).at_), .int .i64 ((E9.xs.getD 0 itm0).kd), .slice a_33 ((E9.xs.getD 0 itm0).bs.length) c_34, .int .i64 ((E9.xs.getD 0 itm0).k0), .int .u8 ((E9.xs.getD 0 itm0).k1), .bool ((E9.xs.getD 0 itm0).k2), .bool ((E9.xs.getD 0 itm0).k3), .int .i64 ((E9.xs.getD 0 itm0).rw_), .int .i64 ((E9.xs.getD 0 itm0).cl), .int .i64 ((E9.n : Nat) : Int)] 39]) hs_48 rfl rfl rfl (by kernel_rfl) (by kernel_rfl) (by kernel_rfl) (by kernel_rfl) (by kernel_rfl) (by kernel_rfl) rfl rfl (srcH (off := 0) (cs := [.int .i64 ((E9.xs.getD 0 itm0).at_), .int .i64 ((E9.xs.getD 0 itm0).kd), .slice a_33 ((E9.xs.getD 0 itm0).bs.length) c_34, .int .i64 ((E9.xs.getD 0 itm0).k0), .int .u8 ((E9.xs.getD 0 itm0).k1), .bool ((E9.xs.getD 0 itm0).k2), .bool ((E9.xs.getD 0 itm0).k3), .int .i64 ((E9.xs.getD 0 itm0).rw_), .int .i64 ((E9.xs.getD 0 itm0).cl), .int .i64 ((E9.n : Nat) : Int)]) (el := 39) (by kernel_rfl) (hs_48.pt_at (i := 4) rfl) rfl rfl (List.all_eq_true.1 (by kernel_rfl))) (by (try simp only [List.length_append, List.length_cons, List.length_nil]); omega) (pcells_app ps ([(⟨(E9.xs.getD 0 itm0), E9.n, a_33, c_34⟩ : Pl)])) (by first | (simp; done) | (simp only [List.length_append, List.length_cons, List.length_nil] <;> omega)) rfl (fun a_49 c_50 w_51 hs_52 => ?_)
    have hs_52 : SH [] w w_51 [allH ((ps ++ [(⟨(E9.xs.getD 0 itm0), E9.n, a_33, c_34⟩ : Pl)]).map clH), pt g_1 #[.slice a_37 N_35 c] 51, rowH 55 2 a_37 N_35 c (qcells q_36), pt g_46 #[.int .i64 ((E9.xs.getD 0 itm0).at_), .int .i64 ((E9.xs.getD 0 itm0).kd), .slice a_33 ((E9.xs.getD 0 itm0).bs.length) c_34, .int .i64 ((E9.xs.getD 0 itm0).k0), .int .u8 ((E9.xs.getD 0 itm0).k1), .bool ((E9.xs.getD 0 itm0).k2), .bool ((E9.xs.getD 0 itm0).k3), .int .i64 ((E9.xs.getD 0 itm0).rw_), .int .i64 ((E9.xs.getD 0 itm0).cl), .int .i64 ((E9.n : Nat) : Int)] 39, rowH 39 10 a_49 (ps ++ [(⟨(E9.xs.getD 0 itm0), E9.n, a_33, c_34⟩ : Pl)]).length c_50 (pcells (ps ++ [(⟨(E9.xs.getD 0 itm0), E9.n, a_33, c_34⟩ : Pl)]))] := hs_52
    refine SL.v (.slice a_49 ((ps ++ [(⟨(E9.xs.getD 0 itm0), E9.n, a_33, c_34⟩ : Pl)]).length) c_50) ?_
    refine SL.nil ?_
    exact ⟨_, ⟨N_35, q_36, a_37, c, ps ++ [(⟨(E9.xs.getD 0 itm0), E9.n, a_33, c_34⟩ : Pl)], a_49, c_50, rfl, (hs_52.pick [1, 1, 2, 0] rfl), h1_38, h3_40, (fun w9 h f hf => by rcases hmem9 f hf with ⟨rfl, h0_⟩ | h_; exact ⟨h0_, tail_at ((hQ9 w9 h) _ h0S).2 h0_⟩; exact (hQ9 w9 h) f h_), (fun l hl => by have h_ := hrl9 _ (hrel9 l hl); unfold ordP at h_ ⊢; rw [List.map_append]; simpa using h_), (by rw [List.length_append, List.length_cons, List.length_nil]; omega), (by have h_ := h2_39; have hl_ : (tailE E9 :: q_36).length = q_36.length + 1 := List.length_cons; rcases h_ with ⟨_, h_⟩ | ⟨_, h_⟩; have := h_.length_eq; rw [List.length_set] at this; omega; have := h_.length_eq; rw [List.length_set] at this; omega), (by kernel_rfl), (by kernel_rfl), (by kernel_rfl)⟩, by omega⟩
  · try rw [hb_32]
    have hqhb_32 := of_decide_eq_false hb_32
    refine CW.cond_false (by kernel_rfl) ?_
    refine CW.exit ?_
    repeat with_reducible first | refine PThen.exit ?_ | refine PBlock.out rfl ?_
    with_reducible refine PBlock.here ?_
    repeat with_reducible refine PBlock.normal ?_
    refine CW.seq ?_
    refine CW.region ?_
    refine SL.v (.slice ao ((ps).length) co) ?_
    refine SL.v (.slice ao ((ps).length) co) ?_
    refine SL.nil ?_
    refine CW.ret ?_
    repeat with_reducible first | refine PThen.ret ?_ | refine PBlock.ret ?_
    refine PRet.tmp (t := 2) (v := .slice ao ((ps).length) co) rfl rfl (by kernel_rfl) ?_
    have hN0_ : N = 0 := by omega
    have hq0_ : q = [] := List.eq_nil_of_length_eq_zero (by omega)
    have hr_ := hrl9 [] (by rw [hq0_]; exact .nil)
    rw [List.append_nil] at hr_
    have ht_ : ps.length = totQ (headsF 0 []) := by rw [hq0_] at htt9; exact htt9
    exact ⟨ao, co, ps, rfl, hr_, ht_, hs_23.pick [2, 2] rfl⟩
end Go.Proofs.Ytaelmkkobjdgbaa

namespace Go.Proofs.Ytaelmkkobjdgbaa
set_option linter.unusedSimpArgs false
set_option linter.unusedVariables false
open Go.ChangeShapes Go.WideShapes Go.Deep Go.RowKit
set_option linter.unusedVariables false

/-- An item that came in. -/
structure ItIn (w : World) (x : Itm) : Prop where
  data : DataAt w x.da x.dc x.bs
  cap : x.bs.length ≤ x.dc
  caps : x.dc ≤ maxLen
  byte : ∀ c ∈ x.bs, 0 ≤ c ∧ c < 256
  k1 : 0 ≤ x.k1 ∧ x.k1 < 256
  k0 : (Lit.int .i64 x.k0).wf = true
  k1w : (Lit.int .u8 x.k1).wf = true
theorem data_of {w : World} {a : Option Addr} {n c : Nat} {zs : List Int} (h : IsRow .u8 w a n c zs) : DataAt w a c (zs.take n) ∧ (zs.take n).length = n ∧ n ≤ c ∧ c ≤ maxLen ∧ ∀ x ∈ zs.take n, 0 ≤ x ∧ x < 256 := by
  rcases Nat.eq_zero_or_pos c with h0 | h0
  · rcases h with ⟨rfl, rfl, rfl, rfl⟩ | ⟨x, rfl, h1, h2, h3, h4, h5⟩
    · exact ⟨.inl ⟨rfl, rfl, rfl⟩, rfl, Nat.le_refl _, Nat.zero_le _, by simp⟩
    · subst h0
      have hz : zs = [] := List.eq_nil_of_length_eq_zero h3
      subst hz
      have hn : n = 0 := by omega
      subst hn
      exact ⟨.inr (.inl ⟨x, rfl, rfl⟩), rfl, Nat.le_refl _, Nat.zero_le _, by simp⟩
  · obtain ⟨b, off, rfl, h1, h2, h3, h4, h5, h6⟩ := h.plain h0
    have hc0 := h5 0 h0
    unfold World.cell? at hc0
    simp only at hc0
    split at hc0
    · rename_i C T fr hb
      refine ⟨.inr (.inr ⟨b, off, C, T, fr, rfl, hb, ?_⟩), by rw [List.length_take]; omega, h1, h2, fun x hx => ?_⟩
      · have hl : (zs.take n).length = n := by rw [List.length_take]; omega
        rw [hl]
        refine List.ext_getElem? fun i => ?_
        by_cases hi : i < n
        · have hci := h5 i (by omega)
          unfold World.cell? at hci
          simp only [hb] at hci
          have hci : C[off + i]? = some (Value.int IntKind.u8 (zs.getD i 0)) := by simpa using hci
          rw [List.getElem?_take, if_pos hi, List.getElem?_drop, Array.getElem?_toList, hci]
          unfold bcells
          rw [List.getElem?_map, List.getElem?_take, if_pos hi, List.getD_eq_getElem?_getD, List.getElem?_eq_getElem (by omega)]
          rfl
        · rw [List.getElem?_take, if_neg hi, List.getElem?_eq_none (by unfold bcells; rw [List.length_map, hl]; omega)]
      · have := h6 x (List.mem_of_mem_take hx)
        have := bounds_u8 this
        omega
    · cases hc0
end Go.Proofs.Ytaelmkkobjdgbaa
