/-
  append onto a slice without elements and without room, from whatever source: what was there is left as it was; append with wide bounds. Laws over any program.
-/
import Derived.Lib.ConvBytes
import Derived.Test.YtonbnmicgmnliaaGreatDoorZSrc
namespace Go.Proofs.YtonbnmicgmnliaaGreatDoor
set_option linter.unusedSimpArgs false
set_option linter.unusedVariables false
open Go.RowKit

theorem run_append_new {P : Program} (w : World) (t tx ty e : TypeId) (i : TypeInfo) (z : Value) (bytes : Nat) (ht : P.underlying t = some (.slice e)) (hi : P.info? e = some i) (hz : i.zero = some z)
    (hsize : i.size = 1) (hby : i.bytes = bytes) (hzs : z.cells.size = 1) (g : Nat) (hgb : w.heap[g]? = some (.cells #[] e (0, 0)))
    (x : Value) (m : Nat) (news : List Value) (hs : Src P 1 tx x m news w) (h63 : m ≤ maxLen) (hbytes : m * bytes ≤ 140737488355328) :
    ∃ va cap w', (Builtin.append_ #[t, tx] ty #[.slice (some ⟨g, 0, none⟩) 0 0, x]).run P w = .ok (.slice va m cap) w' ∧ w'.ownsRow g e 1 (.slice va m cap) m news ∧ Gr w w' := by
  have hl := hs.newsLen
  have hgl : g < w.heap.size := (Array.getElem?_eq_some_iff.1 hgb).1
  by_cases hm : m = 0
  · subst hm
    have hn : news = [] := List.eq_nil_of_length_eq_zero (by simpa using hl)
    subst hn
    have hs' := hs
    rw [← hsize] at hs'
    exact ⟨_, _, w, run_append_nothing w t tx ty e i ht hi (some ⟨g, 0, none⟩) 0 0 (Nat.le_refl _) x hs', ⟨rfl, .inr ⟨g, 0, #[], rfl, Nat.le_refl _, hgb, Nat.le_refl _, Nat.zero_le _, rfl, rfl⟩⟩, Gr.refl w⟩
  · have hs' := hs
    rw [← hsize] at hs'
    have h63' : ((0 + m : Nat) : Int) ≤ 9223372036854775807 := by simp only [maxLen] at h63; omega
    have hr := run_append_grow_src (P := P) w t tx ty e i z ht hi hz (some ⟨g, 0, none⟩) 0 0 [] (run_firstCells_some w.drew i.size 0 ⟨g, 0, none⟩ 0 0 [] (by simp) (by simp)) x m news hs' (by omega) h63' (growslice_fits (by omega) (by rw [Nat.zero_add, hby]; exact hbytes))
    rw [Nat.zero_add] at hr
    have hge := grownCap_ge w m 0 e
    have hcm : grownCap w m 0 e ≤ maxLen := grownCap_le_maxLen w m 0 e h63
    refine ⟨_, _, _, hr, ⟨hl, .inr ⟨w.heap.size, _, _, rfl, by omega, heap_alloc_new w.drew _, hge, hcm, ?_, ?_⟩⟩, ((Gr.refl w).drew).alloc _⟩
    · simp only [Array.size_append, List.size_toArray, size_zeroCells, hzs, List.nil_append, hl]
      omega
    · simp only [Array.toList_append, List.nil_append]
      exact List.take_left' (by omega)

section
variable {P : Program} {ops : Array Oper} {rest : List Oper} {u : Oper} {a : Act} {w w0 : World} {K : Act → World → Prop} {Q : Exit → Act → World → Prop}
theorem wp_new (x y : Operand) (t tx : TypeId) (hu : u.op = .call { callee := .builtin .append, args := #[x, y], argTypes := #[t, tx] })
    (e : TypeId) (z : Value) (bytes : Nat) (ht : P.underlying t = some (.slice e)) (hinfo : (P.info? e).map (fun i => (i.zero, i.size, i.bytes)) = some (some z, 1, bytes)) (hzs : z.cells.size = 1)
    (g : Nat) (hx : a.eval x = .slice (some ⟨g, 0, none⟩) 0 0) (hgb : w.heap[g]? = some (.cells #[] e (0, 0)))
    (yv : Value) (m : Nat) (news : List Value) (hy : a.eval y = yv) (hs : Src P 1 tx yv m news w) (h63 : m ≤ maxLen) (hbytes : m * bytes ≤ 140737488355328)
    (H : ∀ va cap w', w'.ownsRow g e 1 (.slice va m cap) m news → Gr w w' → K (a.put u.dst (.slice va m cap)) w') : u.wp P a w K Q := by
  obtain ⟨i0, hi0, hz0, hz1, hz2⟩ := info_parts hinfo
  obtain ⟨va, cap, w', hrun, h2, h3⟩ := run_append_new (P := P) w t tx u.type e i0 z bytes ht hi0 hz0 hz1 hz2 hzs g hgb yv m news hs h63 hbytes
  unfold Oper.wp execOp
  simp only [hu, resolve, invoke, builtin, Sem.run_bind, Sem.run_pure, Result.andThen_ok, List.map_toArray, List.map_cons, List.map_nil, hx, hy, hrun]
  exact H va cap w' h2 h3
theorem wpList_new (hgd : u.guard = none) (x y : Operand) (t tx : TypeId) (hu : u.op = .call { callee := .builtin .append, args := #[x, y], argTypes := #[t, tx] })
    (e : TypeId) (z : Value) (bytes : Nat) (ht : P.underlying t = some (.slice e)) (hinfo : (P.info? e).map (fun i => (i.zero, i.size, i.bytes)) = some (some z, 1, bytes)) (hzs : z.cells.size = 1)
    (g : Nat) (hx : a.eval x = .slice (some ⟨g, 0, none⟩) 0 0) (hgb : w.heap[g]? = some (.cells #[] e (0, 0)))
    (yv : Value) (m : Nat) (news : List Value) (hy : a.eval y = yv) (hs : Src P 1 tx yv m news w) (h63 : m ≤ maxLen) (hbytes : m * bytes ≤ 140737488355328)
    (H : ∀ va cap w', w'.ownsRow g e 1 (.slice va m cap) m news → Gr w w' → wpList P ops Q rest (a.put u.dst (.slice va m cap)) w') : wpList P ops Q (u :: rest) a w :=
  wpList_plain hgd fun _ hK => wp_new x y t tx hu e z bytes ht hinfo hzs g hx hgb yv m news hy hs h63 hbytes fun va cap w' h2 h3 => hK _ _ (H va cap w' h2 h3)
/-- append, told by the block that may turn; wide bounds. -/
theorem wp_addW (x y : Operand) (t tx : TypeId) (hu : u.op = .call { callee := .builtin .append, args := #[x, y], argTypes := #[t, tx] })
    (e : TypeId) (z : Value) (bytes : Nat) (ht : P.underlying t = some (.slice e)) (hinfo : (P.info? e).map (fun i => (i.zero, i.size, i.bytes)) = some (some z, 1, bytes)) (hzs : z.cells.size = 1)
    (B : Nat) (v : Value) (n : Nat) (xs : List Value) (hx : a.eval x = v) (hown : w.ownsRow B e 1 v n xs) (hB : B ≤ w.heap.size)
    (yv : Value) (m : Nat) (news : List Value) (hy : a.eval y = yv) (hs : Src P 1 tx yv m news w) (hn : n + m ≤ maxLen) (hb : (n + m) * bytes ≤ 140737488355328)
    (H : ∀ va cap w', w'.ownsRow B e 1 (.slice va (n + m) cap) (n + m) (xs ++ news) → w.grownBy w' v.ownBlock → K (a.put u.dst (.slice va (n + m) cap)) w') : u.wp P a w K Q := by
  obtain ⟨i0, hi0, hz0, hz1, hz2⟩ := info_parts hinfo
  obtain ⟨v', w', hrun, h2, h3, _⟩ := run_append_src_own (P := P) w B t tx u.type e i0 z 1 bytes ht hi0 hz0 hz1 hz2 hzs (by omega) v n xs hown yv m news hs hn hb hB
  obtain ⟨va, cap, rfl⟩ := row_form h2
  unfold Oper.wp execOp
  simp only [hu, resolve, invoke, builtin, Sem.run_bind, Sem.run_pure, Result.andThen_ok, List.map_toArray, List.map_cons, List.map_nil, hx, hy, hrun]
  exact H va cap w' h2 h3
/-- append onto a row from w0 on; wide bounds. -/
theorem wp_addX (x y : Operand) (t tx : TypeId) (hu : u.op = .call { callee := .builtin .append, args := #[x, y], argTypes := #[t, tx] })
    (e : TypeId) (z : Value) (bytes : Nat) (ht : P.underlying t = some (.slice e)) (hinfo : (P.info? e).map (fun i => (i.zero, i.size, i.bytes)) = some (some z, 1, bytes)) (hzs : z.cells.size = 1)
    (v : Value) (n : Nat) (xs : List Value) (hx : a.eval x = v) (hown : w.ownsRow w0.heap.size e 1 v n xs) (hg : Gr w0 w)
    (yv : Value) (m : Nat) (news : List Value) (hy : a.eval y = yv) (hs : Src P 1 tx yv m news w) (hn : n + m ≤ maxLen) (hb : (n + m) * bytes ≤ 140737488355328)
    (H : ∀ va cap w', w'.ownsRow w0.heap.size e 1 (.slice va (n + m) cap) (n + m) (xs ++ news) → Gr w0 w' → w.grownBy w' v.ownBlock → K (a.put u.dst (.slice va (n + m) cap)) w') : u.wp P a w K Q :=
  wp_addW x y t tx hu e z bytes ht hinfo hzs w0.heap.size v n xs hx hown hg.size yv m news hy hs hn hb fun va cap w' h2 h3 => H va cap w' h2 (hg.grown hown (Nat.le_refl _) h3) h3
theorem wpList_addX (hgd : u.guard = none) (x y : Operand) (t tx : TypeId) (hu : u.op = .call { callee := .builtin .append, args := #[x, y], argTypes := #[t, tx] })
    (e : TypeId) (z : Value) (bytes : Nat) (ht : P.underlying t = some (.slice e)) (hinfo : (P.info? e).map (fun i => (i.zero, i.size, i.bytes)) = some (some z, 1, bytes)) (hzs : z.cells.size = 1)
    (v : Value) (n : Nat) (xs : List Value) (hx : a.eval x = v) (hown : w.ownsRow w0.heap.size e 1 v n xs) (hg : Gr w0 w)
    (yv : Value) (m : Nat) (news : List Value) (hy : a.eval y = yv) (hs : Src P 1 tx yv m news w) (hn : n + m ≤ maxLen) (hb : (n + m) * bytes ≤ 140737488355328)
    (H : ∀ va cap w', w'.ownsRow w0.heap.size e 1 (.slice va (n + m) cap) (n + m) (xs ++ news) → Gr w0 w' → w.grownBy w' v.ownBlock → wpList P ops Q rest (a.put u.dst (.slice va (n + m) cap)) w') : wpList P ops Q (u :: rest) a w :=
  wpList_plain hgd fun _ hK => wp_addX x y t tx hu e z bytes ht hinfo hzs v n xs hx hown hg yv m news hy hs hn hb fun va cap w' h2 h3 h4 => hK _ _ (H va cap w' h2 h3 h4)
/-- A text as bytes: a new row of them, read and never written. -/
def RowAt (w : World) (g n : Nat) (l : List UInt8) : Prop := l.length = n ∧ ∀ j (h : j < l.length), w.cell? ⟨g, j, none⟩ = some (.int .u8 ((l[j]'h).toNat : Int))
theorem RowAt.gr {w w' : World} {g n : Nat} {l : List UInt8} (h : RowAt w g n l) (hg : Gr w w') : RowAt w' g n l := ⟨h.1, fun j hj => hg.cellAt (h.2 j hj)⟩
theorem Gr.bytesWorld {w0 w : World} (h : Gr w0 w) (e : TypeId) (s : ByteArray) : Gr w0 (Lib.bytesWorld w e s) := by
  refine h.trans ⟨?_, ?_, ?_, ?_, fun k hk => Lib.bytesWorld_at_old w e s k hk⟩
  · simp [Lib.bytesWorld, World.freeze, World.alloc, World.drew, -World.alloc_eq, -World.drew_eq]
  · simp [Lib.bytesWorld, World.freeze, World.alloc, World.drew, -World.alloc_eq, -World.drew_eq]
  · simp [Lib.bytesWorld, World.freeze, World.alloc, World.drew, -World.alloc_eq, -World.drew_eq]
  · rw [Lib.bytesWorld_size]; omega
theorem wp_s2b (x : Operand) (src dst e : TypeId) (hu : u.op = .convert src dst x) {td : TypeDesc} (hsrc : P.underlying src = some td) (hdst : P.underlying dst = some (.slice e)) (he : P.underlying e = some (.int .u8))
    (s : ByteArray) (hx : a.eval x = .string s)
    (H : ∀ cap w', s.size ≤ cap → RowAt w' w.heap.size s.size s.data.toList → Gr w w' → w'.heap.size = w.heap.size + 1 → K (a.put u.dst (.slice (some ⟨w.heap.size, 0, none⟩) s.size cap)) w') : u.wp P a w K Q := by
  have hr := Lib.run_convert_string_bytes (P := P) w src dst e s hsrc hdst he
  unfold Oper.wp execOp
  simp only [hu, hx, Sem.run_bind, hr, Result.andThen_ok, Sem.run_pure]
  refine H _ _ (grownCap_ge w s.size 0 e) ⟨by rw [Array.length_toList]; rfl, fun j hj => ?_⟩ ((Gr.refl w).bytesWorld e s) (Lib.bytesWorld_size w e s)
  rw [Lib.bytesWorld_cell w e s j (by rw [Array.length_toList] at hj; exact hj)]
  simp [List.getD, List.getElem?_eq_getElem hj]
theorem wpList_s2b (hgd : u.guard = none) (x : Operand) (src dst e : TypeId) (hu : u.op = .convert src dst x) {td : TypeDesc} (hsrc : P.underlying src = some td) (hdst : P.underlying dst = some (.slice e)) (he : P.underlying e = some (.int .u8))
    (s : ByteArray) (hx : a.eval x = .string s)
    (H : ∀ cap w', s.size ≤ cap → RowAt w' w.heap.size s.size s.data.toList → Gr w w' → w'.heap.size = w.heap.size + 1 → wpList P ops Q rest (a.put u.dst (.slice (some ⟨w.heap.size, 0, none⟩) s.size cap)) w') : wpList P ops Q (u :: rest) a w :=
  wpList_plain hgd fun _ hK => wp_s2b x src dst e hu hsrc hdst he s hx fun cap w' h1 h2 h3 h4 => hK _ _ (H cap w' h1 h2 h3 h4)
end
section
variable {P : Program} (w : World)
theorem run_append_keep (base : Nat) (t tx ty e : TypeId) (i : TypeInfo) (z : Value) (size bytes : Nat) (ht : P.underlying t = some (.slice e)) (hi : P.info? e = some i) (hz : i.zero = some z)
    (hsize : i.size = size) (hby : i.bytes = bytes) (hzs : z.cells.size = size) (hsz : 0 < size)
    (v : Value) (n : Nat) (xs : List Value) (hown : w.ownsRow base e size v n xs)
    (x : Value) (m : Nat) (news : List Value) (hs : Src P size tx x m news w)
    (h63 : n + m ≤ maxLen) (hbytes : (n + m) * bytes ≤ 140737488355328) (hbase : base ≤ w.heap.size) :
    ∃ v' w', (Builtin.append_ #[t, tx] ty #[v, x]).run P w = .ok v' w' ∧ w'.ownsRow base e size v' (n + m) (xs ++ news) ∧ w.grownBy w' v.ownBlock ∧ w'.ownsRow base e size v n xs := by
  subst hsize
  subst hby
  have hl := hs.newsLen
  have hsmall : n + m ≤ 9223372036854775807 := by simp only [maxLen] at h63; omega
  have hlen : (xs ++ news).length = (n + m) * i.size := by rw [List.length_append, hown.1, hl, Nat.add_mul]
  have grown : ∀ (old : Nat), old < n + m → ∀ (row : Option Nat),
      (w.drew.alloc (.cells ((xs ++ news).toArray ++ Builtin.zeroCells z.cells (grownCap w (n + m) old e - (n + m))) e)).ownsRow base e i.size
        (.slice (some ⟨w.heap.size, 0, none⟩) (n + m) (grownCap w (n + m) old e)) (n + m) (xs ++ news) ∧
      w.grownBy (w.drew.alloc (.cells ((xs ++ news).toArray ++ Builtin.zeroCells z.cells (grownCap w (n + m) old e - (n + m))) e)) row := by
    intro old ho row
    have hge := grownCap_ge w (n + m) old e
    have hcm : grownCap w (n + m) old e ≤ maxLen := grownCap_le_maxLen w (n + m) old e h63
    refine ⟨⟨hlen, .inr ⟨w.heap.size, _, _, rfl, hbase, heap_alloc_new w.drew _, hge, hcm, ?_, ?_⟩⟩, ⟨rfl, rfl, rfl, by simp, fun k hk _ => heap_alloc_old w.drew _ hk⟩⟩
    · simp only [Array.size_append, List.size_toArray, size_zeroCells, hzs, hlen, ← Nat.add_mul]
      congr 1
      omega
    · simp only [Array.toList_append]
      rw [← hlen]
      exact List.take_left
  rcases hown.2 with ⟨rfl, rfl⟩ | ⟨g, cap, cur, rfl, hbg, hg, hnc, hcm, hcs, htake⟩
  · have hx : xs = [] := List.eq_nil_of_length_eq_zero (by simpa using hown.1)
    subst hx
    by_cases hm : m = 0
    · subst hm
      have hn : news = [] := List.eq_nil_of_length_eq_zero (by simpa using hl)
      subst hn
      exact ⟨.slice none 0 0, w, run_append_nothing w t tx ty e i ht hi none 0 0 (Nat.le_refl _) x hs, World.ownsRow_nil w base e i.size, ⟨rfl, rfl, rfl, Nat.le_refl _, fun _ _ _ => rfl⟩, hown⟩
    · have hr := run_append_grow_src (P := P) w t tx ty e i z ht hi hz none 0 0 [] (run_firstCells_none w.drew i.size 0 0 0) x m news hs (by omega) (by omega) (growslice_fits (by omega) hbytes)
      have hgr := grown 0 (by omega) (Value.ownBlock (.slice none 0 0))
      exact ⟨_, _, hr, hgr.1, hgr.2, World.ownsRow_nil _ _ _ _⟩
  · by_cases hroom : n + m ≤ cap
    · have hfit : n * i.size + news.length ≤ cur.size := by rw [hl, hcs, ← Nat.add_mul]; exact Nat.mul_le_mul_right _ hroom
      have hcell : ∀ j, j < news.length → w.cell? ⟨g, 0 + n * i.size + j, none⟩ = some (cur[n * i.size + j]?.getD undef) := by
        intro j hj
        have hlt : n * i.size + j < cur.size := by omega
        simp [World.cell?, hg, hlt]
      have hr := run_append_room_src (P := P) w t tx ty e i ht hi g 0 n cap x m news hs hroom (fun j hj => by rw [hcell j hj]; rfl) (fun j hj => by simp [World.frozen?, hg])
      rw [Nat.zero_add] at hr
      have hset := setCells_row g e news (n * i.size) w cur hg (by omega)
      have hkb := World.keptBut_setCells g (may := fun _ => True) news (n * i.size) w (fun _ _ => trivial)
      refine ⟨_, _, hr, ⟨hlen, .inr ⟨g, cap, _, rfl, hbg, hset, hroom, hcm, ?_, ?_⟩⟩, grownBy_setCells g news (n * i.size) w, ⟨hown.1, .inr ⟨g, cap, _, rfl, hbg, hset, hnc, hcm, ?_, ?_⟩⟩⟩
      · simp only [List.size_toArray, List.length_append, List.length_take, List.length_drop, Array.length_toList]
        omega
      · rw [htake, ← hlen]
        exact List.take_left
      · simp only [List.size_toArray, List.length_append, List.length_take, List.length_drop, Array.length_toList]
        omega
      · rw [htake, List.append_assoc, ← hown.1]
        exact List.take_left
    · have holds : ∀ j u, xs[j]? = some u → w.cell? ((⟨g, 0, none⟩ : Addr).add j) = some u := hown.cells (g := g) rfl
      have hr := run_append_grow_src (P := P) w t tx ty e i z ht hi hz (some ⟨g, 0, none⟩) n cap xs (run_firstCells_some w.drew i.size n ⟨g, 0, none⟩ n cap xs hown.1 (by simpa using holds)) x m news hs (by omega) (by omega) (growslice_fits (by omega) hbytes)
      have hgr := grown cap (by omega) (Value.ownBlock (.slice (some ⟨g, 0, none⟩) n cap))
      exact ⟨_, _, hr, hgr.1, hgr.2, ownsRow_gr hown (((Gr.refl w).drew).alloc _)⟩
end
section
variable {P : Program} {ops : Array Oper} {rest : List Oper} {u : Oper} {a : Act} {w w0 : World} {K : Act → World → Prop} {Q : Exit → Act → World → Prop}
/-- append, the elder row still there. -/
theorem wp_addK (x y : Operand) (t tx : TypeId) (hu : u.op = .call { callee := .builtin .append, args := #[x, y], argTypes := #[t, tx] })
    (e : TypeId) (z : Value) (bytes : Nat) (ht : P.underlying t = some (.slice e)) (hinfo : (P.info? e).map (fun i => (i.zero, i.size, i.bytes)) = some (some z, 1, bytes)) (hzs : z.cells.size = 1)
    (B : Nat) (v : Value) (n : Nat) (xs : List Value) (hx : a.eval x = v) (hown : w.ownsRow B e 1 v n xs) (hB : B ≤ w.heap.size)
    (yv : Value) (m : Nat) (news : List Value) (hy : a.eval y = yv) (hs : Src P 1 tx yv m news w) (hn : n + m ≤ maxLen) (hb : (n + m) * bytes ≤ 140737488355328)
    (H : ∀ va cap w', w'.ownsRow B e 1 (.slice va (n + m) cap) (n + m) (xs ++ news) → w.grownBy w' v.ownBlock → w'.ownsRow B e 1 v n xs → K (a.put u.dst (.slice va (n + m) cap)) w') : u.wp P a w K Q := by
  obtain ⟨i0, hi0, hz0, hz1, hz2⟩ := info_parts hinfo
  obtain ⟨v', w', hrun, h2, h3, h4⟩ := run_append_keep (P := P) w B t tx u.type e i0 z 1 bytes ht hi0 hz0 hz1 hz2 hzs (by omega) v n xs hown yv m news hs hn hb hB
  obtain ⟨va, cap, rfl⟩ := row_form h2
  unfold Oper.wp execOp
  simp only [hu, resolve, invoke, builtin, Sem.run_bind, Sem.run_pure, Result.andThen_ok, List.map_toArray, List.map_cons, List.map_nil, hx, hy, hrun]
  exact H va cap w' h2 h3 h4
/-- append onto a row without room: what is there is left as it was. -/
theorem wp_addF (x y : Operand) (t tx : TypeId) (hu : u.op = .call { callee := .builtin .append, args := #[x, y], argTypes := #[t, tx] })
    (e : TypeId) (z : Value) (bytes : Nat) (ht : P.underlying t = some (.slice e)) (hinfo : (P.info? e).map (fun i => (i.zero, i.size, i.bytes)) = some (some z, 1, bytes)) (hzs : z.cells.size = 1)
    (B : Nat) (v : Value) (n : Nat) (xs : List Value) (hx : a.eval x = v) (hown : w.ownsRow B e 1 v n xs) (g : Nat) (hv : v = .slice (some ⟨g, 0, none⟩) n n) (hB : B ≤ w.heap.size)
    (yv : Value) (m : Nat) (news : List Value) (hy : a.eval y = yv) (hs : Src P 1 tx yv m news w) (hm : 0 < m) (hn : n + m ≤ maxLen) (hb : (n + m) * bytes ≤ 140737488355328)
    (H : ∀ va cap w', w'.ownsRow B e 1 (.slice va (n + m) cap) (n + m) (xs ++ news) → Gr w w' → K (a.put u.dst (.slice va (n + m) cap)) w') : u.wp P a w K Q := by
  obtain ⟨i0, hi0, hz0, hz1, hz2⟩ := info_parts hinfo
  subst hv
  have hl := hs.newsLen
  have hs' := hs
  rw [← hz1] at hs'
  have hfc : (Builtin.firstCells i0.size n (.slice (some ⟨g, 0, none⟩) n n)).run P w.drew = .ok xs.toArray w.drew :=
    run_firstCells_some w.drew i0.size n ⟨g, 0, none⟩ n n xs (by rw [hz1]; exact hown.1) (by intro j v hj; have := hown.cells (g := g) rfl j v hj; simpa using this)
  have h63 : ((n + m : Nat) : Int) ≤ 9223372036854775807 := by simp only [maxLen] at hn; omega
  have hr := run_append_grow_src (P := P) w t tx u.type e i0 z ht hi0 hz0 (some ⟨g, 0, none⟩) n n xs hfc yv m news hs' (by omega) h63 (growslice_fits (by omega) (by rw [hz2]; exact hb))
  have hge := grownCap_ge w (n + m) n e
  have hcm : grownCap w (n + m) n e ≤ maxLen := grownCap_le_maxLen w (n + m) n e hn
  have hxl := hown.1
  unfold Oper.wp execOp
  simp only [hu, resolve, invoke, builtin, Sem.run_bind, Sem.run_pure, Result.andThen_ok, List.map_toArray, List.map_cons, List.map_nil, hx, hy, hr]
  refine H _ _ _ ⟨by rw [List.length_append, hxl, hl]; omega, .inr ⟨w.heap.size, _, _, rfl, hB, heap_alloc_new w.drew _, hge, hcm, ?_, ?_⟩⟩ (((Gr.refl w).drew).alloc _)
  · simp only [Array.size_append, List.size_toArray, size_zeroCells, hzs, List.length_append, hxl, hl]
    omega
  · simp only [Array.toList_append]
    exact List.take_left' (by rw [List.length_append, hxl, hl]; omega)
end
/-- Such bytes as a source. -/
theorem src_at {P : Program} {t e : TypeId} (ht : P.underlying t = some (.slice e)) {w : World} {g n cap : Nat} {l : List UInt8} (h : RowAt w g n l) : Src P 1 t (.slice (some ⟨g, 0, none⟩) n cap) n (l.map fun b => Value.int .u8 (b.toNat : Int)) w :=
  Src.ofSlice w ht _ n cap _ (by simp [h.1]) (fun j v hv => by
    have e : (⟨g, 0, none⟩ : Addr).add j = ⟨g, j, none⟩ := by rcases j with _ | j <;> simp [Addr.add]
    rw [e]
    rw [List.getElem?_map] at hv
    rcases hx : l[j]? with _ | b
    · rw [hx] at hv; cases hv
    · rw [hx] at hv
      simp only [Option.map_some, Option.some.injEq] at hv
      subst hv
      obtain ⟨hj, hb⟩ := List.getElem?_eq_some_iff.1 hx
      rw [h.2 j hj, hb]) (by intro c hc; obtain ⟨_, _, rfl⟩ := List.mem_map.1 hc; rfl)
end Go.Proofs.YtonbnmicgmnliaaGreatDoor
