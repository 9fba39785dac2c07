/-
  The law that a cancel leaves nothing begun, walked.
-/
import Derived.Test.YtgbmjlajheeciaaPdE
namespace Go.Proofs.Ytgbmjlajheeciaa
set_option linter.unusedSimpArgs false
set_option linter.unusedVariables false
open Go.RowKit

theorem PP.newL (w : World) : PP [w.heap.size] (w.alloc (.cells #[.int .i64 0, .int .i64 0, .int .u8 0, .int .u8 0, .slice none 0 0, .string ⟨#[]⟩, .slice none 0 0, .slice none 0 0, .slice none 0 0, .int .i64 0, .bool false, .bool false, .bool false] 35)) w.heap.size PS.init := PP.new w
theorem feedM_24 (s : PS) : feedM s [24] = (PS.init, []) := by
  have h : takeM s 24 = (PS.init, []) := by
    simp [takeM, takeM1]
  rw [feedM_one]; simp [plainOf, runM, h]
theorem feedM_26 (s : PS) : feedM s [26] = (PS.init, [ctrlT 26]) := by
  have h : takeM s 26 = (PS.init, [ctrlT 26]) := by
    simp [takeM, takeM1]
  rw [feedM_one]; simp [plainOf, runM, h]
/-- Tokens handed out stay as they are, whatever the parser does. -/
theorem Toks.stp {lv lv' : List Nat} {w w' : World} {ts : List Tok} {ov : Value} {qs : List (Value × Value)} (h : Toks lv w ts ov qs) (hs : Stp lv w lv' w') : Toks lv' w' ts ov qs := by
  have h3 : ∀ k, k < w.heap.size → k ∈ lv' → k ∈ lv := fun k hk hm => (hs.new k hm).resolve_right (by omega)
  exact ⟨ownsRow_same h.row fun k hk => hs.upd.block k (ownsRow_blk h.row hk) (h.rOut k hk), h.len, fun i t q ht hq => (h.toks i t q ht hq).upd hs.upd (fun _ _ h => h) h3, fun k hk hm => h.rOut k hk (h3 k (ownsRow_blk h.row hk) hm)⟩
theorem Toks.gr {lv : List Nat} {w w' : World} {ts : List Tok} {ov : Value} {qs : List (Value × Value)} (h : Toks lv w ts ov qs) (hg : Gr w w') : Toks lv w' ts ov qs := h.stp (Stp.gr hg)
theorem rd_one (w : World) (c : Int) (e : TypeId) : Rd (w.alloc (.cells #[.int .u8 c] e)) (some ⟨w.heap.size, 0, none⟩) 1 (bcells [c]) := rd_of_block (cs := bcells [c]) (heap_alloc_new w _)
/-- What is fed is new: it is none of the parser's. -/
theorem PP.lt {lv : List Nat} {w : World} {p : Nat} {s : PS} (h : PP lv w p s) : p < w.heap.size := by
  obtain ⟨_, _, _, h⟩ := h; exact blk_lt h.blk
/-- Blocks that may change, that are there: what comes next is none of them. -/
def Lvl (w : World) (lv : List Nat) : Prop := ∀ k ∈ lv, k < w.heap.size
theorem PP.trim {lv : List Nat} {w : World} {p : Nat} {s : PS} (h : PP lv w p s) : PP (lv.filter fun k => decide (k < w.heap.size)) w p s := by
  obtain ⟨iv, dv, av, h⟩ := h
  exact ⟨iv, dv, av, h.blk, h.inters, h.data, h.done, by simp [h.pIn, blk_lt h.blk], fun k hk => by simp [h.iIn k hk, ownsRow_blk h.inters hk], fun k hk => by simp [h.dIn k hk, ownsRow_blk h.data hk], fun k hk => by simp [h.aIn k hk, ownsRow_blk h.done hk], h.apart, h.bs⟩
theorem out_new {w : World} {lv : List Nat} {k : Nat} (hk : w.heap.size ≤ k) (a : Option Addr) (ha : ∀ x, a = some x → x.block = k) : Out (lv.filter fun k => decide (k < w.heap.size)) a := by
  intro x hx hm
  have := ha x hx
  simp at hm; omega
theorem Stp.trim {lv lv' : List Nat} {w w' : World} (h : Stp (lv.filter fun k => decide (k < w.heap.size)) w lv' w') : Stp lv w lv' w' := by
  refine ⟨⟨h.upd.os, h.upd.tape, h.upd.output, h.upd.size, fun k hk hn => h.upd.block k hk fun hm => hn (by simp at hm; exact hm.1)⟩, fun k hk => ?_⟩
  rcases h.new k hk with h1 | h1
  · simp at h1; exact .inl h1.1
  · exact .inr h1
/-- The one token of a byte that ends all. -/
theorem AT.last26 {w : World} {v : Value} {qs : List (Value × Value)} (h : AT 31 w [ctrlT 26] v qs) : ∃ g cap, v = .slice (some ⟨g, 0, none⟩) 1 cap ∧ w.cell? ⟨g, 0, none⟩ = some (.int .i64 2) ∧ w.cell? ⟨g, 1, none⟩ = some (.int .u8 26) := by
  obtain ⟨g, cap, t1, q1, h1, h2, h3, h4, h5⟩ := h.range (i := 0) (by decide)
  have t1e : ctrlT 26 = t1 := by simpa using h2
  subst t1e
  exact ⟨g, cap, h1, h4 0 _ rfl, h4 1 _ rfl⟩
/-- A parser is fed one byte that lies in a block of its own. -/
theorem feed_one {lv : List Nat} {w : World} {p : Nat} {s : PS} (c : Int) (hc : 0 ≤ c ∧ c < 256) (hok : s.ok) (h : PP lv w p s) :
    Calls Try.prog 13 #[.pointer (some ⟨p, 0, none⟩), .slice (some ⟨w.heap.size, 0, none⟩) 1 1] (w.alloc (.cells #[.int .u8 c] 5)) (fun e w' => ∃ ov qs lv', e = .returned ov ∧ Stp lv w lv' w' ∧ PP lv' w' p (feedM s [c]).1 ∧ Toks lv' w' (feedM s [c]).2 ov qs) := by
  have hg := (Gr.refl w).alloc (.cells #[.int .u8 c] 5)
  refine (feed_walk (cap := 1) (l := [c]) (by simpa using hc) (by omega) (rd_one w c _) (fun _ => out_new (lv := lv) (Nat.le_refl _) _ (fun x hx => by injection hx with hx; subst hx; rfl)) hok (h.trim.gr hg)).mono ?_
  rintro e w' ⟨ov, qs, lv', rfl, hs, hP, hT⟩
  exact ⟨ov, qs, lv', rfl, ((Stp.gr hg).trans hs).trim, hP, hT⟩

theorem idle_init {lv : List Nat} {w : World} {p : Nat} (h : PP lv w p PS.init) : Calls Try.prog 15 #[.pointer (some ⟨p, 0, none⟩)] w fun e w' => e = .returned (.bool true) ∧ w = w' := idle_walk h
set_option maxRecDepth 100000 in
set_option maxHeartbeats 4000000 in
theorem cancels_go {w : World} {a : Option Addr} {len cap : Nat} {at_ : Int} {n k : Nat} (hn : n = min len 1000) (hk : (at_ < 0 ∧ k = n) ∨ ((n : Int) < at_ ∧ k = n) ∨ (at_ = k ∧ k ≤ n)) {zs : List Int} (h : IsRow .u8 w a len cap zs) :
    Calls Try.prog 4 #[.slice a len cap, .int .i64 at_] w fun e w' => e = .returned (.bool true) ∧ Gr w w' := by
  obtain ⟨hr, hln, hl, hlc, hcm, hpl⟩ := h.rd (n := n) (by omega)
  have hn1 : n ≤ 1000 := by omega
  have hkn : k ≤ n := by omega
  have hnc : n ≤ cap := by omega
  have hsh := fun w' : World => short_walk a len cap 1000 w' (by omega) hlc
  rw [← hn] at hsh
  obtain ⟨l, hld⟩ : ∃ l, l = zs.take n := ⟨_, rfl⟩
  rw [← hld] at hr hln hl
  obtain ⟨a1, hrun1, hcut1⟩ := cut_to (P := Try.prog) bytes_elem bytes_size a n cap k hkn hnc
  obtain ⟨a2, hrun2, hcut2⟩ := cut_from (P := Try.prog) bytes_elem bytes_size a n cap k hkn hnc
  have hr1 : Rd w a1 k (bcells (l.take k)) := by have := hcut1 w _ hr; rwa [show (bcells l).take k = bcells (l.take k) by simp [bcells, List.map_take]] at this
  have hr2 : Rd w a2 (n - k) (bcells (l.drop k)) := by have := hcut2 w _ hr; rwa [show (bcells l).drop k = bcells (l.drop k) by simp [bcells, List.map_drop]] at this
  obtain ⟨m, hm⟩ : ∃ m, m = n - k := ⟨_, rfl⟩
  rw [← hm] at hrun2 hr2
  have hmn : m ≤ 1000 := by omega
  clear hm
  have hl1 : ∀ c ∈ l.take k, 0 ≤ c ∧ c < 256 := fun c hc => hl c (List.mem_of_mem_take hc)
  have hl2 : ∀ c ∈ l.drop k, 0 ≤ c ∧ c < 256 := fun c hc => hl c (List.mem_of_mem_drop hc)
  have hok := feedM_ok init_ok _ hl1
  have hok2 := feedM_ok init_ok _ hl2
  have hpar : ∀ t ∈ (feedM PS.init (l.take k)).2, t.params.length ≤ 100000 := fun t ht => by have := feedM_params init_ok _ hl1 t ht; omega
  have htl : (feedM PS.init (l.take k)).2.length ≤ 40000 := by have := feedM_len PS.init (l.take k); have := List.length_take_le k l; omega
  obtain ⟨r, hrd⟩ : ∃ r, r = feedM PS.init (l.take k) := ⟨_, rfl⟩
  rw [← hrd] at hok hpar htl
  have HL1 := Lib.hid hl1; have HL2 := Lib.hid hl2; have HPar := Lib.hid hpar; have HD := Lib.hid hrd; have HR1 := Lib.hid hr1; have HR2 := Lib.hid hr2
  clear hl hpar hld hln hcm h hn hrd hl1 hl2 hr hpl hcut1 hcut2 hr1 hr2
  rcases hk with ⟨hk, rfl⟩ | ⟨hk, rfl⟩ | ⟨rfl, hk⟩
  all_goals
    go_enter Try.func4, Try.ntmps4
    go_wp2_with (first
      | (go_at_call 10; refine (awake_walk _).mono ?_; rintro e w1 ⟨rfl, hg1⟩)
      | (go_at_call 11; refine (hsh _).mono ?_; rintro e w1' ⟨rfl, rfl⟩)
      | (go_at_call 13; have hcon := feed_one 26 (by omega) hok2' hPd; (with_reducible refine hcon.mono ?_); clear hcon; rw [feedM_26]; rintro e we ⟨ove, qse, lve, rfl, hse, hPe, hTe⟩; obtain ⟨hge, hoe⟩ := hse.own hgd hod; obtain ⟨te, tce, rfl⟩ := row_form hTe.row; obtain ⟨tg, tcap, hq1, kk1, kk2⟩ := hTe.at_.last26; injection hq1 with hq1 hq2 hq3; subst hq1; subst hq3)
      | (go_at_call 13; have hcon := feed_walk (cap := cap - k) HL2.out (by omega) (HR2.out.gr hgc) (fun h0 => HR2.out.outL h0 hoc) init_ok hPc; (with_reducible refine hcon.mono ?_); clear hcon; rintro e wd ⟨ovd, qsd, lvd, rfl, hsd, hPd, hTd⟩; obtain ⟨hgd, hod⟩ := hsd.own hgc hoc; obtain ⟨td, tcd, rfl⟩ := row_form hTd.row; have hok2' := hok2)
      | (go_at_call 13; have hcon := feed_one 24 (by omega) hok hPa; (with_reducible refine hcon.mono ?_); clear hcon; rw [feedM_24]; rintro e wb ⟨ovb, qsb, lvb, rfl, hsb, hPb, hTb⟩; obtain ⟨hgb, hob⟩ := hsb.own hga hoa; have hTa2 := hTa.stp hsb; obtain ⟨tb, tcb, rfl⟩ := row_form hTb.row)
      | (go_at_call 13; have hcon := feed_walk (cap := cap) HL1.out (by omega) (HR1.out.gr (hg1.trans ((Gr.refl w1).alloc _))) (fun h0 => HR1.out.out h0 hg1.size) init_ok (PP.newL w1); (with_reducible refine hcon.mono ?_); clear hcon; rw [← HD.out]; rintro e wa ⟨ova, qsa, lva, rfl, hsa, hPa, hTa⟩; obtain ⟨hga, hoa⟩ := hsa.own (hg1.trans ((Gr.refl w1).alloc _)) (fun k hk => by have := hg1.size; simp at hk; omega); obtain ⟨ta, tca, rfl⟩ := row_form hTa.row)
      | (go_at_call 12; refine (rsplit_law (cap := cap) HL1.out (by omega) (HR1.out.gr hgb)).mono ?_; rw [← HD.out]; rintro e wr ⟨ra, rc, rqs, b, rfl, hR, hgr, hb3⟩; clear hb3; have hgbr := hgb.trans hgr)
      | (go_at_call 15; have hcon := idle_init hPe; (with_reducible refine hcon.mono ?_); clear hcon; rintro e wi ⟨rfl, rfl⟩)
      | (go_at_call 15; have hcon := idle_init (hPb.gr hgr); (with_reducible refine hcon.mono ?_); clear hcon; rintro e wi ⟨rfl, rfl⟩)
      | (go_at_call 14; refine (are_walk (hTa2.at_.gr hgr) hR (by omega) HPar.out).mono ?_; rintro e wc ⟨rfl, hgc'⟩; have hgc := hgbr.trans hgc'; have hPc := hPb.gr (hgr.trans hgc'); have hoc := hob))
    go_ret
    exact ⟨rfl, hge⟩
theorem cancels_walk {w : World} {a : Option Addr} {len cap : Nat} {at_ : Int} {zs : List Int} (h : IsRow .u8 w a len cap zs) :
    Calls Try.prog 4 #[.slice a len cap, .int .i64 at_] w fun e w' => e = .returned (.bool true) ∧ Gr w w' := by
  by_cases h0 : at_ < 0
  · exact cancels_go rfl (.inl ⟨h0, rfl⟩) h
  · by_cases h1 : ((min len 1000 : Nat) : Int) < at_
    · exact cancels_go rfl (.inr (.inl ⟨h1, rfl⟩)) h
    · exact cancels_go (k := at_.toNat) rfl (.inr (.inr ⟨by omega, by omega⟩)) h
end Go.Proofs.Ytgbmjlajheeciaa
