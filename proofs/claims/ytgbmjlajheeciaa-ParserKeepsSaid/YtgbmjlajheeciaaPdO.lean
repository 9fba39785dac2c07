/-
  The law that a token is there when its end has come, and that a clone goes on as the parser, walked.
-/
import Derived.Test.YtgbmjlajheeciaaPdN
import Derived.Test.YtgbmjlajheeciaaPdK
namespace Go.Proofs.Ytgbmjlajheeciaa
set_option linter.unusedSimpArgs false
set_option linter.unusedVariables false
open Go.RowKit

theorem same_zero {lv lv2 : List Nat} {w : World} {p z : Nat} {s : PS} (hok : s.ok) (hi : Idl s) (h1 : PP lv w p s) (h2 : PP lv2 w z PS.init) :
    Calls Try.prog 17 #[.pointer (some ⟨p, 0, none⟩), .pointer (some ⟨z, 0, none⟩)] w fun e w' => e = .returned (.bool (decide (s.phase = 0))) ∧ Gr w w' := by
  by_cases h0 : s.phase = 0
  · have := hi h0
    subst this
    exact same_true hok h1 h2
  · have := same_phase (s2 := PS.init) h0 h1 h2
    rw [show decide (s.phase = 0) = false by simpa using h0]
    exact this
theorem AT.app {w w' : World} {ts ts2 : List Tok} {gv ov V : Value} {gq qs2 : List (Value × Value)} (h : AT 31 w ts gv gq) (h2 : AT 31 w ts2 ov qs2) (hgrow : w.grownBy w' gv.ownBlock)
    (hown : w'.ownsRow 0 31 6 V (ts.length + ts2.length) (tsCells ts gq ++ tsCells ts2 qs2)) : AT 31 w' (ts ++ ts2) V (gq ++ qs2) := by
  have hu : Upd gv.ownBlock.toList w w' := .of_grown hgrow
  have hK := TokB.of_row h.row
  refine ⟨by rw [tsCells_app _ _ _ _ h.len]; simpa using hown, by simp [h.len, h2.len], fun i t x hi hx => ?_⟩
  have up : ∀ {t : Tok} {x : Value × Value}, RTok w t x → RTok w' t x := fun h => ⟨hasRow_tok h.params hu hK (by decide), hasRow_tok h.data hu hK (by decide)⟩
  rcases Nat.lt_or_ge i ts.length with hlt | hge
  · rw [List.getElem?_append_left hlt] at hi
    rw [List.getElem?_append_left (by rw [h.len]; exact hlt)] at hx
    exact up (h.toks i t x hi hx)
  · rw [List.getElem?_append_right hge] at hi
    rw [List.getElem?_append_right (by rw [h.len]; exact hge)] at hx
    rw [h.len] at hx
    exact up (h2.toks _ t x hi hx)
theorem ATB.updT {B : Nat} {K : List Nat} {w w' : World} {ts : List Tok} {v : Value} {qs : List (Value × Value)} (h : ATB B 31 w ts v qs) (hu : Upd K w w') (hK : TokB K w) (hr : ∀ k, v.ownBlock = some k → k ∉ K) : ATB B 31 w' ts v qs :=
  ⟨⟨ownsRow_same h.at_.row fun k hk => hu.block k (ownsRow_blk h.at_.row hk) (hr k hk), h.at_.len, fun i t q ht hq => ⟨hasRow_tok (h.at_.toks i t q ht hq).params hu hK (by decide), hasRow_tok (h.at_.toks i t q ht hq).data hu hK (by decide)⟩⟩, h.row, h.pNew⟩

theorem newG (w : World) : Gr w (w.alloc (.cells #[.int .i64 0, .int .i64 0, .int .u8 0, .int .u8 0, .slice none 0 0, .string ⟨#[]⟩, .slice none 0 0, .slice none 0 0, .slice none 0 0, .int .i64 0, .bool false, .bool false, .bool false] 35)) := (Gr.refl w).alloc _
theorem AT.updE {e : TypeId} {K : List Nat} {w w' : World} {ts : List Tok} {v : Value} {qs : List (Value × Value)} (h : AT e w ts v qs) (hu : Upd K w w') (hK : TokB K w) (he : e ≠ 31) : AT e w' ts v qs :=
  ⟨ownsRow_same h.row fun k hk => hu.block k (ownsRow_blk h.row hk) fun hm => by
      obtain ⟨c, hc⟩ := hK k hm (ownsRow_blk h.row hk)
      exact row_ne h.row hc he hk, h.len, fun i t q ht hq => ⟨hasRow_tok (h.toks i t q ht hq).params hu hK (by decide), hasRow_tok (h.toks i t q ht hq).data hu hK (by decide)⟩⟩
/-- What the document's reading leaves, its row under a name. -/
def RSplitV (w : World) (ts : List Tok) (e : Ending) (w' : World) : Prop := ∃ v qs b, e = .returned (.tuple #[v, .bool b]) ∧ AT 52 w' ts v qs ∧ Gr w w'
theorem RSplitTo.v {w : World} {r : PS × List Tok} {e : Ending} {w' : World} (h : RSplitTo w r e w') : RSplitV w r.2 e w' := by
  obtain ⟨a, c, qs, b, rfl, h1, h2, _⟩ := h
  exact ⟨_, qs, b, rfl, h1, h2⟩
theorem reset_pp {lv : List Nat} {w : World} {p : Nat} {s : PS} (h : PP lv w p s) : Calls Try.prog 20 #[.pointer (some ⟨p, 0, none⟩)] w fun e w' => e = .returned (.tuple #[]) ∧ PP [p] w' p PS.init ∧ Stp [p] w [p] w' := by
  obtain ⟨iv, dv, av, h1, _⟩ := h.fields
  refine (reset_walk p _ rfl w h1).mono ?_
  rintro e w' ⟨rfl, hh, hu, _⟩
  exact ⟨rfl, ⟨_, _, _, hh, World.ownsRow_nil _ _ _ _, World.ownsRow_nil _ _ _ _, World.ownsRow_nil _ _ _ _, by simp, by simp [Value.ownBlock], by simp [Value.ownBlock], by simp [Value.ownBlock], by simp [Value.ownBlock], Nat.zero_le _⟩, Stp.one (by simp) hu⟩

set_option maxRecDepth 100000 in
set_option maxHeartbeats 1000000 in
theorem ends_out {w : World} {a : Option Addr} {len cap : Nat} {at_ : Int} {zs : List Int} (h : IsRow .u8 w a len cap zs) (ho : at_ < 0 ∨ ((min len 400 : Nat) : Int) < at_) :
    Calls Try.prog 8 #[.slice a len cap, .int .i64 at_] w fun e w' => e = .returned (.bool true) ∧ Gr w w' := by
  obtain ⟨hr, hln, hl, hlc, hcm, hpl⟩ := h.rd (n := 0) (by omega)
  have hsh := fun w' : World => short_walk a len cap 400 w' (by omega) hlc
  obtain ⟨n, hn⟩ : ∃ n, n = min len 400 := ⟨_, rfl⟩
  rw [← hn] at hsh ho
  clear hr hln hl hcm hpl h hn
  rcases ho with ho | ho
  all_goals
    go_enter Try.func8, Try.ntmps8
    go_wp2_with (first
      | (go_at_call 10; refine (awake_walk _).mono ?_; rintro e w1 ⟨rfl, hg1⟩)
      | (go_at_call 11; refine (hsh _).mono ?_; rintro e w1' ⟨rfl, rfl⟩))
    go_ret
    exact ⟨rfl, hg1⟩
set_option maxRecDepth 100000 in
set_option maxHeartbeats 4000000 in
theorem ends_in {w : World} {a : Option Addr} {len cap : Nat} {n k : Nat} (hn : n = min len 400) (hkn : k ≤ n) {zs : List Int} (h : IsRow .u8 w a len cap zs) :
    Calls Try.prog 8 #[.slice a len cap, .int .i64 k] w fun e w' => e = .returned (.bool true) ∧ Gr w w' := by
  obtain ⟨hr, hln, hl, hlc, hcm, hpl⟩ := h.rd (n := n) (by omega)
  have hn1 : n ≤ 400 := by omega
  have hnc : n ≤ cap := by omega
  have hsh := fun w' : World => short_walk a len cap 400 w' (by omega) hlc
  rw [← hn] at hsh
  obtain ⟨l, hld⟩ : ∃ l, l = zs.take n := ⟨_, rfl⟩
  rw [← hld] at hr hln hl
  obtain ⟨a1, hrun1, hcut1⟩ := cut_to (P := Try.prog) bytes_elem bytes_size a n cap k hkn hnc
  obtain ⟨a2, hrun2, hcut2⟩ := cut_from (P := Try.prog) bytes_elem bytes_size a n cap k hkn hnc
  have hr1 : Rd w a1 k (bcells (l.take k)) := by have := hcut1 w _ hr; rwa [show (bcells l).take k = bcells (l.take k) by simp [bcells, List.map_take]] at this
  have hr2 : Rd w a2 (n - k) (bcells (l.drop k)) := by have := hcut2 w _ hr; rwa [show (bcells l).drop k = bcells (l.drop k) by simp [bcells, List.map_drop]] at this
  obtain ⟨m, hm⟩ : ∃ m, m = n - k := ⟨_, rfl⟩
  rw [← hm] at hrun2 hr2
  have hmn : m ≤ 400 := by omega
  clear hm
  have hl1 : ∀ c ∈ l.take k, 0 ≤ c ∧ c < 256 := fun c hc => hl c (List.mem_of_mem_take hc)
  have hl2 : ∀ c ∈ l.drop k, 0 ≤ c ∧ c < 256 := fun c hc => hl c (List.mem_of_mem_drop hc)
  have hok := feedM_ok init_ok _ hl1
  have hidl := idl_feed (l.take k)
  have hpar : ∀ t ∈ (feedM PS.init l).2, t.params.length ≤ 100000 := fun t ht => by have := feedM_params init_ok _ hl t ht; omega
  have htl : (feedM PS.init (l.take k)).2.length ≤ 800 := by have := feedM_len PS.init (l.take k); have := List.length_take_le k l; omega
  have hok2 := feedM_ok hok _ hl2
  have htl2 : (feedM (feedM PS.init (l.take k)).1 (l.drop k)).2.length ≤ 800 := by have := feedM_len (feedM PS.init (l.take k)).1 (l.drop k); have : (l.drop k).length ≤ 400 := by { rw [List.length_drop]; omega }; omega
  have happ : feedM PS.init l = ((feedM (feedM PS.init (l.take k)).1 (l.drop k)).1, (feedM PS.init (l.take k)).2 ++ (feedM (feedM PS.init (l.take k)).1 (l.drop k)).2) := by
    rw [← feed_append, List.take_append_drop]
  have hS1 := fun (w' : World) (h : Rd w' a1 k (bcells (l.take k))) => rsplit_law (cap := cap) hl1 (by omega) h
  have hS2 := fun (w' : World) (h : Rd w' a n (bcells l)) => (rsplit_law (cap := cap) hl (by omega) h).mono fun e w' h => h.v
  have hF1 := fun (w' : World) (lv : List Nat) (p : Nat) (h : Rd w' a1 k (bcells (l.take k))) (ho) (hp : PP lv w' p PS.init) => feed_walk2 (cap := cap) hl1 (by omega) h ho init_ok hp
  rw [happ] at hS2 hpar
  obtain ⟨r, hrd⟩ : ∃ r, r = feedM PS.init (l.take k) := ⟨_, rfl⟩
  rw [← hrd] at hok hpar htl hidl htl2 happ hok2 hS1 hS2 hF1
  have hF2 := fun (B : Nat) (w' : World) (lv : List Nat) (p : Nat) (h : Rd w' a2 m (bcells (l.drop k))) (ho) (hp : @PP ⟨B⟩ lv w' p r.1) => @feed_walk2 ⟨B⟩ _ _ _ _ _ _ (cap - k) _ hl2 (by omega) h ho hok hp
  obtain ⟨r2, hrd2⟩ : ∃ r2, r2 = feedM r.1 (l.drop k) := ⟨_, rfl⟩
  rw [← hrd2] at hpar htl2 hok2 hS2 hF2
  have HPar := Lib.hid hpar; have HR1 := Lib.hid hr1; have HR2 := Lib.hid hr2; have HR := Lib.hid hr; have HI := Lib.hid hidl
  have HPar1 : Hid (∀ t ∈ r.2, t.params.length ≤ 100000) := Lib.hid fun t ht => hpar t (by simp [ht])
  have HPar2 : Hid (∀ t ∈ r2.2, t.params.length ≤ 100000) := Lib.hid fun t ht => hpar t (by simp [ht])
  clear hl hpar hld hln hcm h hn hrd hrd2 hl1 hl2 hr hpl hcut1 hcut2 hr1 hr2 hidl happ
  go_enter Try.func8, Try.ntmps8
  go_wp2_with (first
    | (go_at_call 10; refine (awake_walk _).mono ?_; rintro e w1 ⟨rfl, hg1⟩)
    | (go_at_call 11; refine (hsh _).mono ?_; rintro e w1' ⟨rfl, rfl⟩)
    | (go_at_call 13; have hcon := hF1 _ _ _ (HR1.out.gr (hg1.trans ((Gr.refl w1).alloc _))) (fun h0 => HR1.out.out h0 hg1.size) (PP.newL w1); (with_reducible refine hcon.mono ?_); clear hcon; rintro e wa ⟨ova, qsa, lva, rfl, hsa, hPa, hTa, hra⟩; obtain ⟨hga, hoa⟩ := hsa.own (hg1.trans ((Gr.refl w1).alloc _)) (fun k hk => by have := hg1.size; simp at hk; omega); obtain ⟨ta, tca, rfl⟩ := row_form hTa.row; have HRa := Lib.hid hra; clear hra)
    | (go_at_call 12; (with_reducible refine (hS1 _ (HR1.out.gr hga)).mono ?_); rintro e wr ⟨ra, rc, rqs, b, rfl, hR, hgr, hb3⟩; have HB3 := Lib.hid hb3; clear hb3)
    | (go_at_call 14; (with_reducible refine (are_walk (hTa.at_.gr hgr) hR (by omega) HPar1.out).mono ?_); rintro e wc ⟨rfl, hgc⟩; have hac := hgr.trans hgc; have hGc := hga.trans hac)
    | (go_at_call 15; (with_reducible refine (idle_walk (hPa.gr hac)).mono ?_); rw [HB3.out]; rintro e wi ⟨rfl, rfl⟩)
    | (go_at_call 19; (with_reducible refine (pclone_walk hok (hPa.gr hac)).mono ?_); rintro e wd ⟨q, lvq, rfl, hQ, hoq, hgd, hlq⟩)
    | (go_at_call 17; have hcon := same_true hok (hQ.zero.gr (newG wd)) (hPa.gr (hac.trans (hgd.trans (newG wd)))); (with_reducible refine hcon.mono ?_); clear hcon; rintro e we ⟨rfl, hge⟩; have hce := hgd.trans ((newG wd).trans hge))
    | (go_at_call 15; (with_reducible refine (idle_walk (hPa.gr (hac.trans hce))).mono ?_); rw [HB3.out]; rintro e wi ⟨rfl, rfl⟩)
    | (go_at_call 17; have hcon := same_zero hok HI.out (hPa.gr (hac.trans hce)) ((PP.newL wd).gr hge); (with_reducible refine hcon.mono ?_); clear hcon; rw [HB3.out]; rintro e wf ⟨rfl, hgf⟩; have hcf := hce.trans hgf)
    | (go_at_call 13; have hcon := hF2 wc.heap.size wf lvq q (HR2.out.gr (hGc.trans hcf)) (fun h0 => HR2.out.outL h0 (fun k hk => Nat.le_trans hGc.size (hoq k hk))) (@PP.grB ⟨wc.heap.size⟩ _ _ _ _ _ hQ ((newG wd).trans (hge.trans hgf))); (with_reducible refine hcon.mono ?_); clear hcon; rintro e wg ⟨ovm, qsm, lvm, rfl, hsm, hQm, hTm, hrm⟩
       clear hrm
       have hM := ATB.of hTm
       obtain ⟨hcg, hom⟩ := hsm.own hcf hoq
       have hzl : wd.heap.size ∉ lvq := fun hm => by have := hlq _ hm; omega
       have hZg := ((PP.newL wd).gr (hge.trans hgf)).far hsm (by intro k hk; simp at hk; subst hk; exact hzl)
       have hGg := hGc.trans hcg)
    | (go_at_call 12; (with_reducible refine (hS2 _ (HR.out.gr hGg)).mono ?_); rintro e wh ⟨v2, rqs2, b2, rfl, hR2, hgh⟩; have hch := hcg.trans hgh; have hGh := hGg.trans hgh
       have hgot := (hTa.at_.gr (hac.trans hch)))
    | (at_builtin; refine wpList_appRow rfl _ _ _ rfl 31 _ 6 80 0 0 Try.underlying36 token_info rfl (by omega) (by omega) _ _ _ _ _ _ rfl rfl hgot.row (hM.gr hgh).at_.row (hM.gr hgh).at_.one (by omega) (Nat.zero_le _) ?_; intro V wi hownV hgrow hV
       clear hV
       have hu : Upd (Value.slice ta r.2.length tca).ownBlock.toList wh wi := .of_grown hgrow
       have hK := TokB.of_row hgot.row
       have hgb : ∀ k, (Value.slice ta r.2.length tca).ownBlock = some k → w.heap.size ≤ k ∧ k < wc.heap.size := fun k hk => ⟨by
         have h1 := HRa.out k hk
         have h2 := hg1.size
         simp at h1; omega, ownsRow_blk (hTa.at_.gr hac).row hk⟩
       have hGi : Gr w wi := Gr.of_upd hGh hu (fun k hk => (hgb k (by simpa using hk)).1)
       have hAi := hgot.app (hM.gr hgh).at_ hgrow hownV
       have hRi := hR2.updE hu hK (by decide)
       have hPi := ((((hPa.gr hac).trimL).gr hch).updT hu hK)
       have hQi := ((hQm.zero.gr hgh).updT hu hK)
       have hZi := ((hZg.gr hgh).updT hu hK)
       have hMi := (hM.gr hgh).updT hu hK (fun k hk hm => by have h1 := hM.row k hk; have h2 := (hgb k (by simpa using hm)).2; omega))
    | (go_at_call 14; (with_reducible refine (are_walk hAi hRi (by simp; omega) HPar.out).mono ?_); rintro e wj ⟨rfl, hgj⟩; have hGj := hGi.trans hgj; have hot : OwnL w.heap.size (trimL wc lva) := fun k hk => hoa k (trimL_sub hk))
    | (go_at_call 13; have hcon := hF2 0 wj (trimL wc lva) w1.heap.size (HR2.out.gr hGj) (fun h0 => HR2.out.outL h0 hot) (hPi.gr hgj); (with_reducible refine hcon.mono ?_); clear hcon; rintro e wk ⟨ovp, qsp, lvp2, rfl, hsp, hPk, hTp, hrp⟩
       clear hrp
       have hdq : Dis lvm (trimL wc lva) := fun k hk hm => by have h1 := hom k hk; have h2 := trimL_lvl wc lva k hm; omega
       have hQk := (hQi.gr hgj).far hsp hdq
       have hdz : Dis [wd.heap.size] (trimL wc lva) := fun k hk hm => by have h1 := hgd.size; have h2 := trimL_lvl wc lva k hm; simp at hk; omega
       have hZk := (hZi.gr hgj).far hsp hdz
       have hMk := (hMi.gr hgj).low hsp.upd (fun k hk => trimL_lvl wc lva k hk)
       have hpk := ATB.of hTp
       have hGk := (hsp.own hGj hot).1)
    | (go_at_call 18; refine (all_walk hMk.at_ (by omega)).mono ?_; rintro e wl ⟨v4, rfl, hA4, hgl⟩; have hGl := hGk.trans hgl)
    | (go_at_call 14; (with_reducible refine (are_walk (hpk.at_.gr hgl) hA4 (by omega) HPar2.out).mono ?_); rintro e wm ⟨rfl, hgm⟩; have hkm := hgl.trans hgm; have hGm := hGl.trans hgm)
    | (go_at_call 17; have hcon := same_true hok2 (hPk.zero.gr hkm) (hQk.gr hkm); (with_reducible refine hcon.mono ?_); clear hcon; rintro e wn ⟨rfl, hgn⟩; have hkn2 := hkm.trans hgn; have hGn := hGm.trans hgn)
    | (go_at_call 20; have hcon := reset_pp (hPk.zero.gr hkn2); (with_reducible refine hcon.mono ?_); clear hcon; rintro e wo ⟨rfl, hPo, hso⟩
       have hZo := (hZk.gr hkn2).far hso (by intro k hk hm; have h1 := hgd.size; have h2 := hsa.upd.size; have h3 := hac.size; simp at hk hm h2; omega)
       have hGo := (hso.own hGn (fun k hk => by have := hg1.size; simp at hk; omega)).1)
    | (go_at_call 15; (with_reducible refine (idle_init hPo).mono ?_); rintro e wi ⟨rfl, rfl⟩)
    | (go_at_call 17; have hcon := same_true init_ok hPo hZo; (with_reducible refine hcon.mono ?_); clear hcon; rintro e wp ⟨rfl, hgp⟩))
  go_ret
  exact ⟨rfl, hGo.trans hgp⟩
theorem ends_walk {w : World} {a : Option Addr} {len cap : Nat} {at_ : Int} {zs : List Int} (h : IsRow .u8 w a len cap zs) :
    Calls Try.prog 8 #[.slice a len cap, .int .i64 at_] w fun e w' => e = .returned (.bool true) ∧ Gr w w' := by
  by_cases h0 : at_ < 0 ∨ ((min len 400 : Nat) : Int) < at_
  · exact ends_out h h0
  · obtain ⟨k, rfl⟩ : ∃ k : Nat, at_ = k := ⟨at_.toNat, by omega⟩
    exact ends_in rfl (by omega) h
end Go.Proofs.Ytgbmjlajheeciaa
