/-
  MergeOrders: contracts and the plain law (gen_mgu.py).
-/
import Derived.Test.YtaelmkkobjdgbaaZMgT
namespace Go.Proofs.Ytaelmkkobjdgbaa
set_option linter.unusedSimpArgs false
set_option linter.unusedVariables false
open Go.RowKit
set_option linter.unusedVariables false

theorem rmerge_tr (sa : Option Addr) (sc : Nat) (F : List LE) (w : World) (hOut : OutAt w sa F) (hF : LFc F w) (hn0 : F.length ≤ 1000) (ht0 : totQ (headsF 0 F) ≤ 100000) : Tr Try.prog 9 #[.slice sa F.length sc] w [] (fun v Q => ∃ (ao : Option Addr) (co : Nat) (out : List Pl), v = .slice ao out.length co ∧ MRel (headsF 0 F) (ordP out) ∧ out.length = totQ (headsF 0 F) ∧ (∀ p ∈ out, p.a = p.x.da ∧ p.c = p.x.dc) ∧ Q = [rowH 46 10 ao out.length co (pcells out)]) :=
  Tr.of0 ((rmerge_f sa sc F w hOut hF hn0 ht0).mono fun e w' h => by
    obtain ⟨ao, co, out, rfl, h1, h2, h3, h4⟩ := h
    exact ⟨_, _, rfl, ⟨ao, co, out, rfl, h1, h2, h3, rfl⟩, h4⟩)
theorem with_bare {x y : Itm} (h : x.bare = y.bare) (a : Option Addr) (c : Nat) : x.with a c = y.with a c := by
  have h1 : x.bare.with a c = y.bare.with a c := by rw [h]
  exact h1
theorem same2 (x y : Itm) (a b : Option Addr) (c d : Nat) (w : World) (h : x.bare = y.bare) (hx : DataAt w a c x.bs) (hy : DataAt w b d y.bs) (hk : KW y) : Calls Try.prog 12 #[.agg (itC (x.with a c)).toArray, .agg (itC (y.with b d)).toArray] w fun e w' => e = .returned (.bool true) ∧ Gr w w' := by
  have hb_ := congrArg Itm.bs h
  have hb : x.bs = y.bs := hb_
  have hk0_ := congrArg Itm.k0 h
  have hk1_ := congrArg Itm.k1 h
  have hk0 : x.k0 = y.k0 := hk0_
  have hk1 : x.k1 = y.k1 := hk1_
  have e1 : y.with b d = (x.with a c).with b d := (with_bare h b d).symm
  rw [e1]
  exact same_eq (x.with a c) b d w hx (show DataAt w b d x.bs by rw [hb]; exact hy) ⟨by show (Lit.int .i64 x.k0).wf = true; rw [hk0]; exact hk.1, by show (Lit.int .u8 x.k1).wf = true; rw [hk1]; exact hk.2⟩
theorem few_fact2 (sa : Option Addr) (sc : Nat) (L0 : List LE) (w : World) (h : NestIn w sa L0) : Calls Try.prog 6 #[.slice sa L0.length sc] w fun e w' => ∃ F ao co, e = .returned (.slice ao F.length co) ∧ F.map LE.xs = (L0.take 8).map fewL ∧ OutAt w' ao F ∧ LFc F w' ∧ (∀ e ∈ F, ∀ x ∈ e.xs, KW x) ∧ Gr w w' := by
  have hmx : maxLen ≤ 9223372036854775807 := by decide
  refine (few_any sa sc L0 w h.out h.lf (fun e he x hx => (h.items e he x hx).cap) (Nat.le_trans h.len hmx) (fun e he => ⟨Nat.le_trans (h.lens e he) hmx, fun x hx => Nat.le_trans (Nat.le_trans (h.items e he x hx).cap (h.items e he x hx).caps) hmx⟩)).mono fun e w' hx => ?_
  obtain ⟨F, ao, co, rfl, hsp, hs⟩ := hx
  have hz9 : ∀ e ∈ F, ∀ x ∈ e.xs, ∃ y ∈ L0, ∃ z ∈ y.xs, x = fewX z := fun e he x hx => by
    have h1 : e.xs ∈ (L0.take 8).map fewL := by rw [← hsp]; exact List.mem_map_of_mem he
    obtain ⟨y, hy, hye⟩ := List.mem_map.1 h1
    rw [← hye] at hx
    unfold fewL at hx
    obtain ⟨z, hz, rfl⟩ := List.mem_map.1 hx
    exact ⟨y, List.mem_of_mem_take hy, z, List.mem_of_mem_take hz, rfl⟩
  refine ⟨F, ao, co, rfl, hsp, outAt_row (hs.row_at (i := 0) rfl) rfl, lf_of hs (i := 1) rfl fun e he x hx => ?_, fun e he x hx => ?_, hs.gr⟩
  · obtain ⟨y, hy, z, hz, rfl⟩ := hz9 e he x hx
    exact fewX_data (((h.lf y hy).2 z hz).gr hs.gr)
  · obtain ⟨y, hy, z, hz, rfl⟩ := hz9 e he x hx
    exact ⟨(h.items y hy z hz).k0, (h.items y hy z hz).k1w⟩
theorem LFc.gr {Ls : List LE} {w w' : World} (h : LFc Ls w) (hg : Gr w w') : LFc Ls w' := ⟨h.1.gr hg, h.2⟩
theorem ord_all {ps qs : List Pl} (h : (ordP ps).map bpP = (ordP qs).map bpP) : ps.length = qs.length ∧ ∀ i, (ps.getD i pl0).n = (qs.getD i pl0).n ∧ (ps.getD i pl0).x.bare = (qs.getD i pl0).x.bare := by
  have hl : ps.length = qs.length := by have := congrArg List.length h; simpa [ordP] using this
  refine ⟨hl, fun i => ?_⟩
  rcases Nat.lt_or_ge i ps.length with hi | hi
  · have h1 := congrArg (fun l => l[i]?) h
    simp only [ordP, List.getElem?_map] at h1
    rw [List.getElem?_eq_getElem hi, List.getElem?_eq_getElem (show i < qs.length by omega)] at h1
    rw [List.getD_eq_getElem?_getD, List.getElem?_eq_getElem hi, List.getD_eq_getElem?_getD, List.getElem?_eq_getElem (show i < qs.length by omega)]
    have h2 := Option.some.inj h1
    obtain ⟨h3, h4⟩ := Prod.mk.inj h2
    exact ⟨h4, h3⟩
  · rw [List.getD_eq_getElem?_getD, List.getElem?_eq_none hi, List.getD_eq_getElem?_getD, List.getElem?_eq_none (by omega)]
    exact ⟨rfl, rfl⟩
theorem bare_get {xs ys : List Itm} (h : xs.map Itm.bare = ys.map Itm.bare) (j : Nat) : (xs.getD j itm0).bare = (ys.getD j itm0).bare := by
  have h1 := congrArg (fun l => l[j]?.getD itm0.bare) h
  simp only [List.getElem?_map] at h1
  rw [List.getD_eq_getElem?_getD, List.getD_eq_getElem?_getD]
  cases hx : xs[j]? <;> cases hy : ys[j]? <;> rw [hx, hy] at h1 <;> exact h1
theorem bareL_get {O F : List LE} (h : O.map bareL = F.map bareL) (k : Nat) : (O.getD k le0).xs.map Itm.bare = (F.getD k le0).xs.map Itm.bare := by
  have h1 := congrArg (fun l => l[k]?.getD []) h
  simp only [List.getElem?_map] at h1
  rw [List.getD_eq_getElem?_getD, List.getD_eq_getElem?_getD]
  cases hx : O[k]? <;> cases hy : F[k]? <;> rw [hx, hy] at h1 <;> exact h1
theorem cl_data {U : List Nat} {w0 w : World} {As : List HA} {ps : List Pl} (h : SH U w0 w As) {i k : Nat} (hi : As[i]? = some (allH (ps.map clH))) (hk : k < ps.length) : DataAt w (ps.getD k pl0).a (ps.getD k pl0).c (ps.getD k pl0).x.bs := by
  obtain ⟨f, hf⟩ := h.get hi
  have hm : ps.getD k pl0 ∈ ps := by rw [List.getD_eq_getElem?_getD, List.getElem?_eq_getElem hk]; exact List.getElem_mem hk
  obtain ⟨f1, h1⟩ := allH_at (l := ps.map clH) hf _ (List.mem_map_of_mem hm)
  exact dataAt_row h1.1 rfl
theorem want_data {w : World} {F : List LE} {qs : List Pl} (hr : MRel (headsF 0 F) (ordP qs)) (hp : ∀ p ∈ qs, p.a = p.x.da ∧ p.c = p.x.dc) (hF : LFc F w) (hK : ∀ e ∈ F, ∀ x ∈ e.xs, KW x) {k : Nat} (hk : k < qs.length) : DataAt w (qs.getD k pl0).a (qs.getD k pl0).c (qs.getD k pl0).x.bs ∧ KW (qs.getD k pl0).x := by
  have hm : qs.getD k pl0 ∈ qs := by rw [List.getD_eq_getElem?_getD, List.getElem?_eq_getElem hk]; exact List.getElem_mem hk
  obtain ⟨e1, e2⟩ := hp _ hm
  obtain ⟨e, he, h1, _⟩ := hr.from (headsF_pos _ _) ((qs.getD k pl0).x, (qs.getD k pl0).n) (List.mem_map_of_mem (f := fun p : Pl => (p.x, p.n)) hm)
  obtain ⟨z, hz, _, rfl⟩ := headsF_mem he
  have hz1 := getD_mem hz
  rw [e1, e2]
  exact ⟨(hF.1 _ hz1).2 _ h1, hK _ hz1 _ h1⟩
/-! ### pieces -/
theorem allH_cons (A : HA) (l : List HA) : Ent [allH (A :: l)] (fun R => R = [A, allH l]) := fun w fp h => by
  obtain ⟨f1, f2, rfl, ⟨f3, f4, rfl, h1, h4, h6⟩, h2, h3⟩ := h
  have h2 : f2 = [] := h2
  subst h2
  exact ⟨_, _, rfl, ⟨f3, f4 ++ [], by simp, h1, ⟨f4, [], rfl, h4, rfl, by simp⟩, by simpa using h6⟩, fun g hg => hg⟩
theorem drop_at {ps : List Pl} {k : Nat} (h : k < ps.length) : ps.drop k = ps.getD k pl0 :: ps.drop (k + 1) := by
  rw [List.drop_eq_getElem_cons h, List.getD_eq_getElem?_getD, List.getElem?_eq_getElem h]
  rfl
def uC (c : Int) : List Value := [.int .u8 c]
def ucells (l : List Int) : List Value := flC uC l
theorem uC_len (p : Int) : (uC p).length = 1 := rfl
theorem ucells_len (l : List Int) : (ucells l).length = l.length * 1 := flC_len uC_len l
theorem ucells_get {l : List Int} {i j : Nat} {v : Value} (h : i < l.length) (hj : (uC (l.getD i 0))[j]? = some v) : (ucells l)[i * 1 + j]? = some v := by
  unfold ucells
  exact flC_get (f := uC) (d := 0) uC_len h hj
theorem ucells_eq : ∀ l : List Int, bcells l = ucells l
  | [] => rfl
  | e :: l => by
    have ih := ucells_eq l
    show Value.int .u8 e :: bcells l = uC e ++ ucells l
    rw [ih]
    rfl
end Go.Proofs.Ytaelmkkobjdgbaa
