/-
  A row of tokens appended to another; what a header's bytes can be.
-/
import Derived.Test.YtgbmjlajheeciaaPcI
import Derived.Maps.AppendAt
namespace Go.Proofs.Ytgbmjlajheeciaa
set_option linter.unusedSimpArgs false
set_option linter.unusedVariables false
open Go.RowKit

/-- A whole row of the call's own is appended to another. -/
theorem run_appRow {P : Program} (w : World) (t ty e : TypeId) (i : TypeInfo) (z : Value) (size bytes base base2 : Nat) (ht : P.underlying t = some (.slice e)) (hi : P.info? e = some i) (hz : i.zero = some z) (hsize : i.size = size) (hby : i.bytes = bytes) (hzs : z.cells.size = size) (hsz : 0 < size)
    (v v2 : Value) (n m : Nat) (xs ys : List Value) (hown : w.ownsRow base e size v n xs) (hown2 : w.ownsRow base2 e size v2 m ys) (h1 : ∀ u ∈ ys, u.oneCell' = true) (h63 : n + m ≤ maxLen) (hbytes : (n + m) * bytes ≤ 140737488355328) (hbase : base ≤ w.heap.size) :
    ∃ V w', (Builtin.append_ #[t, t] ty #[v, v2]).run P w = .ok V w' ∧ w'.ownsRow base e size V (n + m) (xs ++ ys) ∧ w.grownBy w' v.ownBlock ∧ (V.ownBlock = v.ownBlock ∨ V.ownBlock = some w.heap.size) := by
  rcases hown2.2 with ⟨rfl, rfl⟩ | ⟨g2, cap2, cur2, rfl, _, hh2, hnc2, _, hcs2, htk2⟩
  · have hys : ys = [] := List.eq_nil_of_length_eq_zero (by simpa using hown2.1)
    subst hys
    refine ⟨v, w, ?_, by simpa using hown, World.grownBy.refl w _, .inl rfl⟩
    rcases hown.2 with ⟨rfl, rfl⟩ | ⟨g, cap, cur, rfl, _, _, hnc, _⟩
    · simp [Builtin.append_, run_underlying ht, sizeOf, typeInfo, hi, Builtin.lenOf, Builtin.firstCells]
    · simp [Builtin.append_, run_underlying ht, sizeOf, typeInfo, hi, Builtin.lenOf, Builtin.firstCells, hnc, storeCells]
  · have hcells : ∀ j u, ys[j]? = some u → w.cell? ((⟨g2, 0, none⟩ : Addr).add j) = some u := by
      intro j u hj
      have e : (⟨g2, 0, none⟩ : Addr).add j = ⟨g2, j, none⟩ := by rcases j with _ | j <;> simp [Addr.add]
      rw [e]
      refine cell_of_row hh2 j u ?_
      rw [← htk2, List.getElem?_take] at hj
      split at hj
      · simpa using hj
      · cases hj
    obtain ⟨V, w', hrun, h2, h3, _, h5⟩ := run_append_own_at (P := P) w base t ty e i z size bytes ht hi hz hsize hby hzs hsz v n xs hown ⟨g2, 0, none⟩ m cap2 ys hown2.1 hcells h1 h63 hbytes hbase
    exact ⟨V, w', hrun, h2, h3, h5⟩
theorem wpList_appRow {P : Program} {ops : Array Oper} {rest : List Oper} {o : Oper} {a : Act} {w : World} {Q : Exit → Act → World → Prop} (hgd : o.guard = none) (s x : Operand) (t : TypeId) (ho : o.op = .call { callee := .builtin .append, args := #[s, x], argTypes := #[t, t] })
    (e : TypeId) (z : Value) (size bytes base base2 : Nat) (ht : P.underlying t = some (.slice e)) (hinfo : (P.info? e).map (fun i => (i.zero, i.size, i.bytes)) = some (some z, size, bytes)) (hzs : z.cells.size = size) (hsz : 0 < size) (hby : bytes ≤ 1000)
    (v v2 : Value) (n m : Nat) (xs ys : List Value) (hs : a.eval s = v) (hx : a.eval x = v2) (hown : w.ownsRow base e size v n xs) (hown2 : w.ownsRow base2 e size v2 m ys) (h1 : ∀ u ∈ ys, u.oneCell' = true) (hnm : n + m ≤ 10000000) (hbase : base ≤ w.heap.size)
    (h : ∀ V w', w'.ownsRow base e size V (n + m) (xs ++ ys) → w.grownBy w' v.ownBlock → (V.ownBlock = v.ownBlock ∨ V.ownBlock = some w.heap.size) → wpList P ops Q rest (a.put o.dst V) w') : wpList P ops Q (o :: rest) a w :=
  wpList_plain hgd fun _ hK => by
    obtain ⟨i0, hi0, hz0, hz1, hz2⟩ := info_parts hinfo
    obtain ⟨V, w', hrun, h2, h3, h4⟩ := run_appRow (P := P) w t o.type e i0 z size bytes base base2 ht hi0 hz0 hz1 hz2 hzs hsz v v2 n m xs ys hown hown2 h1 (by simp only [maxLen]; omega) (by have : (n + m) * bytes ≤ (n + m) * 1000 := Nat.mul_le_mul_left _ hby; omega) hbase
    unfold Oper.wp execOp
    simp only [ho, resolve, invoke, builtin, Sem.run_bind, Sem.run_pure, Result.andThen_ok, List.map_toArray, List.map_cons, List.map_nil, hs, hx, hrun]
    exact hK _ _ (h V w' h2 h3 h4)

theorem tsCells_app (ts : List Tok) : ∀ (qs : List (Value × Value)) (ts2 : List Tok) (qs2 : List (Value × Value)), qs.length = ts.length → tsCells (ts ++ ts2) (qs ++ qs2) = tsCells ts qs ++ tsCells ts2 qs2 := by
  induction ts with
  | nil => intro qs ts2 qs2 h; cases qs with
    | nil => simp [tsCells]
    | cons => simp at h
  | cons a l ih => intro qs ts2 qs2 h; cases qs with
    | nil => simp at h
    | cons b r => simp [tsCells, ih r ts2 qs2 (by simpa using h)]
theorem RTs.one {w : World} {B : Nat} {ts : List Tok} {v : Value} {qs : List (Value × Value)} (h : RTs w B ts v qs) : ∀ u ∈ tsCells ts qs, u.oneCell' = true := by
  have key : ∀ (ts : List Tok) (qs : List (Value × Value)), (∀ (i : Nat) (t : Tok) (q : Value × Value), ts[i]? = some t → qs[i]? = some q → RTok w t q) → ∀ u ∈ tsCells ts qs, u.oneCell' = true := by
    intro ts
    induction ts with
    | nil => intro qs _ u hu; cases qs <;> simp [tsCells] at hu
    | cons t l ih =>
      intro qs hq u hu
      cases qs with
      | nil => simp [tsCells] at hu
      | cons q r =>
        simp only [tsCells, List.mem_append] at hu
        rcases hu with hu | hu
        · have h0 := hq 0 t q rfl rfl
          obtain ⟨pa, pc, hp⟩ := h0.params.form
          obtain ⟨da, dc, hd⟩ := h0.data.form
          simp only [tcells, hp, hd] at hu
          simp at hu
          rcases hu with rfl | rfl | rfl | rfl | rfl | rfl <;> rfl
        · exact ih r (fun i t' q' ht hq' => hq (i + 1) t' q' (by simpa using ht) (by simpa using hq')) u hu
  exact key ts qs h.toks
/-- Both rows' tokens in one. -/
theorem RTs.app {w w1 : World} {B B2 : Nat} {ts ts2 : List Tok} {v v2 V : Value} {qs qs2 : List (Value × Value)} (h : RTs w B ts v qs) (h2 : RTs w B2 ts2 v2 qs2) (hg : w.grownBy w1 v.ownBlock)
    (hown : w1.ownsRow B 52 6 V (ts.length + ts2.length) (tsCells ts qs ++ tsCells ts2 qs2)) : RTs w1 B (ts ++ ts2) V (qs ++ qs2) := by
  have hK : ∀ k ∈ v.ownBlock.toList, k < w.heap.size → ∃ c e, w.heap[k]? = some (.cells c e (0, 0)) ∧ e ≠ 3 ∧ e ≠ 5 := by
    intro k hk _
    obtain ⟨c, hc⟩ := h.blk (k := k) (by simpa using hk)
    exact ⟨c, _, hc, by decide, by decide⟩
  refine ⟨by rw [tsCells_app _ _ _ _ h.len]; simpa using hown, by simp [h.len, h2.len], ?_⟩
  intro i t q hi hq
  rcases Nat.lt_or_ge i ts.length with hlt | hge
  · rw [List.getElem?_append_left hlt] at hi
    rw [List.getElem?_append_left (by rw [h.len]; exact hlt)] at hq
    exact (h.toks i t q hi hq).upd (.of_grown hg) hK
  · rw [List.getElem?_append_right hge] at hi
    rw [List.getElem?_append_right (by rw [h.len]; exact hge)] at hq
    rw [h.len] at hq
    exact (h2.toks _ t q hi hq).upd (.of_grown hg) hK

/-- What a header's parts can be. -/
theorem hdr_props (last : Int) (l : List Int) (hl : ∀ c ∈ l, 0 ≤ c ∧ c < 256) : ((hdr last l).ended = 0 ∨ (hdr last l).ended = 1 ∨ (hdr last l).ended = 2) ∧ ((hdr last l).ended = 1 → ∃ b c, (hdr last l).bytes = b ++ [c]) ∧ (∀ x ∈ (hdr last l).bytes, 0 ≤ x ∧ x < 128) ∧
    (hdr last l).bytes.length ≤ l.length ∧ (hdr last l).toks.length ≤ l.length ∧ ((hdr last l).ended = 2 → ∃ c r, (hdr last l).rest = c :: r) := by
  induction l with
  | nil => simp [hdr]
  | cons c l ih =>
    have hc := hl c (by simp)
    obtain ⟨i1, i2, i3, i4, i5, i6⟩ := ih fun x hx => hl x (by simp [hx])
    simp only [hdr]
    split
    · simp
    · split
      · exact ⟨i1, i2, i3, by simp; omega, by simp; omega, i6⟩
      · split
        · exact ⟨i1, i2, i3, by simp; omega, by simp; omega, i6⟩
        · split
          · refine ⟨.inr (.inl rfl), fun _ => ⟨[], _, rfl⟩, ?_, by simp, by simp, by simp⟩
            intro x hx; simp at hx; omega
          · refine ⟨i1, fun h => ?_, ?_, by simp; omega, by simp; omega, i6⟩
            · obtain ⟨b, x, hb⟩ := i2 h
              exact ⟨(c % 128) :: b, x, by simp [hb]⟩
            · intro x hx
              rcases List.mem_cons.1 hx with rfl | hx
              · omega
              · exact i3 x hx
theorem HeaderTo.get {w w' : World} {l : List Int} {at_ : Nat} {h : HR} {e : Ending} {k : Nat} (H : HeaderTo w l at_ h e w') (hk : h.ended = k) : ∃ tv qs bv nx, e = .returned (.agg #[tv, bv, .int .i64 nx, .int .i64 (k : Int)]) ∧ RTs w' w.heap.size h.toks tv qs ∧ NilQ qs ∧ w'.ownsRow w.heap.size 5 1 bv h.bytes.length (bcells h.bytes) ∧
    (k ≠ 0 → ∃ n : Nat, nx = n ∧ h.rest = l.drop n ∧ at_ ≤ n ∧ n ≤ l.length) ∧ Gr w w' := by
  obtain ⟨tv, qs, bv, nx, he, h1, h2, h3, h4, h5⟩ := H
  exact ⟨tv, qs, bv, nx, by rw [he, hk], h1, h2, h3, fun h => h4 (by rw [hk]; exact h), h5⟩
/-- What reading a sequence leaves. -/
def SeqTo (w : World) (l : List Int) (lo : Nat) (r : List Tok × Option (List Int)) (e : Ending) (w' : World) : Prop :=
  ∃ v' qs' nx, e = .returned (.agg #[v', .int .i64 nx]) ∧ RTs w' w.heap.size r.1 v' qs' ∧ Gr w w' ∧ ((r.2 = none ∧ nx = -1) ∨ ∃ n : Nat, nx = n ∧ r.2 = some (l.drop n) ∧ lo ≤ n ∧ n ≤ l.length)
end Go.Proofs.Ytgbmjlajheeciaa
