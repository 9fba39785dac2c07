/-
  A parser that stands at the beginning, as a piece of memory; what Feed and Idle say of it.
-/
import Derived.Test.YtnnhaenmoifplaaDoorZPdC
import Derived.Test.YtnnhaenmoifplaaDoorZPkA
import Derived.Test.YtnnhaenmoifplaaDoorZHe
import Derived.Test.YtnnhaenmoifplaaDoorZSr
namespace Go.Proofs.YtnnhaenmoifplaaDoor
set_option linter.unusedSimpArgs false
set_option linter.unusedVariables false
open Go.RowKit
set_option linter.unusedVariables false

theorem HSt.mkK {A : HA} {w : World} {f : List Nat} (h : A.at_ w f) : HSt [A] w f := ⟨f, [], by simp, h, rfl, by simp⟩
theorem HSt.oneK {A : HA} {w : World} {f : List Nat} (h : HSt [A] w f) : A.at_ w f := by
  obtain ⟨f1, f2, rfl, h1, h2, _⟩ := h
  have h2 : f2 = [] := h2
  subst h2
  rw [List.append_nil]
  exact h1
/-- A row of bytes that is read. -/
def brH (a : Option Addr) (n c : Nat) (l : List Int) : HA where
  at_ w fp := HasRow w 5 (.slice a n c) n (bcells l) ∧ fp = (Value.slice a n c).ownBlock.toList
  keep w w' fp h hk := ⟨h.1.same fun k hk' => hk k (by rw [h.2, hk']; simp), h.2⟩
  live w fp h g hg := by
    rw [h.2] at hg
    exact h.1.blk (by simpa using hg)
theorem own_ltK {w : World} {B T size n : Nat} {v : Value} {xs : List Value} (h : w.ownsRow B T size v n xs) : ∀ k, v.ownBlock = some k → k < w.heap.size := by
  intro k hk
  obtain ⟨_, ⟨rfl, _⟩ | ⟨g, cap, cur, rfl, _, h4, _⟩⟩ := h
  · simp [Value.ownBlock] at hk
  · simp [Value.ownBlock] at hk; subst hk; exact heap_lt h4
theorem PP.cut {lv : List Nat} {w : World} {p : Nat} {s : PS} (h : PP lv w p s) : PP (lv.filter fun k => decide (k < w.heap.size)) w p s := by
  obtain ⟨iv, dv, av, h⟩ := h
  refine ⟨iv, dv, av, h.blk, h.inters, h.data, h.done, ?_, ?_, ?_, ?_, h.apart, h.bs⟩
  · exact List.mem_filter.2 ⟨h.pIn, decide_eq_true (heap_lt h.blk)⟩
  · exact fun k hk => List.mem_filter.2 ⟨h.iIn k hk, decide_eq_true (own_ltK h.inters k hk)⟩
  · exact fun k hk => List.mem_filter.2 ⟨h.dIn k hk, decide_eq_true (own_ltK h.data k hk)⟩
  · exact fun k hk => List.mem_filter.2 ⟨h.aIn k hk, decide_eq_true (own_ltK h.done k hk)⟩
theorem PP.keep {lv : List Nat} {w w' : World} {p : Nat} {s : PS} (h : PP lv w p s) (hk : ∀ g ∈ lv, w'.heap[g]? = w.heap[g]?) : PP lv w' p s := by
  obtain ⟨iv, dv, av, h⟩ := h
  exact ⟨iv, dv, av, (hk p h.pIn).trans h.blk, ownsRow_keep h.inters fun g hg => hk g (h.iIn g (by simpa using hg)), ownsRow_keep h.data fun g hg => hk g (h.dIn g (by simpa using hg)), ownsRow_keep h.done fun g hg => hk g (h.aIn g (by simpa using hg)), h.pIn, h.iIn, h.dIn, h.aIn, h.apart, Nat.zero_le _⟩
/-- A parser that stands at the beginning. -/
def parH (p : Nat) : HA where
  at_ w fp := (∀ g ∈ fp, g < w.heap.size) ∧ PP fp w p PS.init
  keep w w' fp h hk := ⟨fun g hg => by
    have h1 := h.1 g hg
    have h2 := hk g hg
    rw [Array.getElem?_eq_getElem h1] at h2
    exact (Array.getElem?_eq_some_iff.1 h2).1, h.2.keep hk⟩
  live w fp h := h.1
section
variable {w0 w w' : World} {U : List Nat} {As : List HA}
theorem SH.toPar (h : SH U w0 w As) {i p : Nat} {C : Array Value} (hi : As[i]? = some (pt p C 38)) (hC : C = pcells PS.init (.slice Option.none 0 0) (.slice Option.none 0 0) (.slice Option.none 0 0)) : SH U w0 w (As.eraseIdx i ++ [parH p]) :=
  h.become hi fun f1 h1 => ⟨[p], ⟨fun g hg => by simp at hg; subst hg; exact heap_lt h1.2, ⟨_, _, _, hC ▸ h1.2, World.ownsRow_nil _ _ _ _, World.ownsRow_nil _ _ _ _, World.ownsRow_nil _ _ _ _, by simp, by simp [Value.ownBlock], by simp [Value.ownBlock], by simp [Value.ownBlock], by simp [Value.ownBlock], Nat.zero_le _⟩⟩, Upd.refl _ _, fun k hk => .inl (by rw [h1.1]; exact hk)⟩
end
theorem own_newK {w' : World} {B n : Nat} {v : Value} {T size : Nat} {xs : List Value} (h : w'.ownsRow B T size v n xs) : ∃ a c, v = .slice a n c ∧ HSt [rowH T size a n c xs] w' v.ownBlock.toList := by
  obtain ⟨h1, ⟨rfl, rfl⟩ | ⟨g, cap, cur, rfl, h3, h4⟩⟩ := h
  · exact ⟨none, 0, rfl, HSt.mkK ⟨⟨h1, .inl ⟨rfl, rfl⟩⟩, rfl⟩⟩
  · exact ⟨_, cap, rfl, HSt.mkK ⟨⟨h1, .inr ⟨g, cap, cur, rfl, Nat.zero_le _, h4⟩⟩, rfl⟩⟩
theorem idle_par {w : World} {p : Nat} (h : ∃ f, (parH p).at_ w f) : Calls Tryd.prog 7 #[.pointer (some ⟨p, 0, none⟩)] w fun e w' => e = .returned (.bool true) ∧ w = w' := by
  obtain ⟨f, _, hP⟩ := h
  exact idle_walk hP
theorem feed_tr (p cap : Nat) (a : Option Addr) {l : List Int} {ts : List Tok} (w : World) (hk : KeyOk l ts) :
    Tr Tryd.prog 6 #[.pointer (some ⟨p, 0, none⟩), .slice a l.length cap] w [parH p, brH a l.length cap l]
      (fun v Q => ∃ a' c' qs, v = .slice a' ts.length c' ∧ qs.length = ts.length ∧ Q = [parH p, rowH 34 6 a' ts.length c' (tsCells ts qs)]) := fun fp hfp => by
  obtain ⟨f1, f2, rfl, h1, h2, h3⟩ := hfp
  have h2 := h2.oneK
  have hout : 0 < l.length → Out f1 a := fun _ x hx hm => by
    subst hx
    refine h3 _ hm ?_
    rw [h2.2]
    obtain ⟨_, ⟨hv, _⟩ | ⟨g, cap', cur, hv, _⟩⟩ := h2.1
    · cases hv
    · injection hv with e1 e2 e3
      injection e1 with e1
      subst e1
      simp [Value.ownBlock]
  have hf := feed_walk2 (cap := cap) hk.rng (by have := hk.len; omega) h2.1.rd_ hout init_ok h1.2
  have hs : feedM PS.init l = (PS.init, ts) := hk.says
  rw [hs] at hf
  refine hf.mono fun e w' hx => ?_
  obtain ⟨ov, qs, lv', rfl, hstp, hPP, hT, hov⟩ := hx
  obtain ⟨a', c', rfl, hst⟩ := own_newK hT.row
  refine ⟨_, _, _, rfl, ⟨a', c', qs, rfl, hT.len, rfl⟩, ⟨lv'.filter fun k => decide (k < w'.heap.size), _, rfl, ⟨fun g hg => of_decide_eq_true (List.mem_filter.1 hg).2, hPP.cut⟩, hst, fun g hg hm => hT.rOut g (by simpa using hm) (List.mem_filter.1 hg).1⟩, ⟨hstp.upd.os, hstp.upd.tape, hstp.upd.output, hstp.upd.size, fun k hk' hn => hstp.upd.block k hk' fun hm => hn (List.mem_append_left _ hm)⟩, fun g hg => ?_⟩
  rcases List.mem_append.1 hg with hg | hg
  · exact (hstp.new g (List.mem_filter.1 hg).1).imp_left (List.mem_append_left _)
  · exact (hov g (by simpa using hg)).imp_left (List.mem_append_left _)
/-- An event. -/
structure Ev where
  k : Int
  c : Int
  sh : Bool
  ct : Bool
/-- What it sends where no key has a text. -/
def keyE (e : Ev) (m : BitVec 32) (lv : Int) (ei : Bool) : List Int := encK e.k e.c e.sh e.ct (hasB m 0) (hasB m 3) (hasB m 4) (hasB m 12) (hasB m 13) lv ei noL
theorem encode_tr (e : Ev) (m : BitVec 32) (lv : Int) (ei : Bool) (p : Nat) (w : World) (hT : tabT w) (hK : w.heap[p]? = some (.cells (kcs noL false).toArray 29 (0, 0))) (hc : 0 ≤ e.c ∧ e.c < 256) :
    Tr Tryd.prog 4 #[.agg #[.int .i64 e.k, .int .u8 e.c, .bool e.sh, .bool e.ct], .int .u32 (m.toNat : Int), .int .i64 lv, .bool ei, .pointer (some ⟨p, 0, none⟩)] w []
      (fun v Q => ∃ va vc, v = .slice va (keyE e m lv ei).length vc ∧ Q = [brH va (keyE e m lv ei).length vc (keyE e m lv ei)]) := fun fp hfp => by
  have h0 : fp = [] := hfp
  subst h0
  refine (encode_any (L := noL) (lk := false) e.k e.c e.sh e.ct m lv ei p hT ⟨hK, rfl⟩ hc).mono fun x w' hx => ?_
  obtain ⟨va, vc, rfl, ⟨hr, hf⟩, hg⟩ := hx
  refine ⟨_, _, _, rfl, ⟨va, vc, rfl, rfl⟩, HSt.mkK ⟨hr, rfl⟩, hg.updU, fun g hm => .inr (hf g (by unfold keyE at hm; simpa using hm))⟩
end Go.Proofs.YtnnhaenmoifplaaDoor
