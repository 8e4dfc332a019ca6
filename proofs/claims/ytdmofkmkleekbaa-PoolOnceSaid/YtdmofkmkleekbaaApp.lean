/-
  Appends of whole rows.
-/
import Derived.Test.YtdmofkmkleekbaaFew
import Derived.Maps.AppendAt
namespace Go.Proofs.Ytdmofkmkleekbaa.Pool
open Go Go.RowKit

inductive Hold (p : Prop) : Prop where | mk (h : p) : Hold p
theorem holdp {p : Prop} (h : Hold p) : p := by cases h; assumption

set_option linter.unusedSimpArgs false in
theorem append_none {P : Program} (t : TypeId) (ty : TypeId) (e : TypeId) (i : TypeInfo) (ht : P.underlying t = some (.slice e)) (hi : P.info? e = some i) (A : Option Addr) (n c d : Nat) (w : World) (hn : n ≤ c) :
    (Builtin.append_ #[t, t] ty #[.slice A n c, .slice none 0 d]).run P w = .ok (.slice A n c) w := by
  cases A <;> simp [hn, storeCells, Builtin.append_, run_underlying ht, sizeOf, typeInfo, hi, Builtin.lenOf, Builtin.firstCells, loadCells, loadCellsFrom]

theorem append_vals {ops : Array Oper} {rest : List Oper} {o : Oper} {a : Act} {w : World} {Q : Exit → Act → World → Prop} (hgd : o.guard = none) (s x : Operand)
    (ho : o.op = .call { callee := .builtin .append, args := #[s, x], argTypes := #[22, 22] })
    (base : Nat) (v : Value) (n : Nat) (l : List (Int × Int)) (hs : a.eval s = v) (hown : w.ownsRow base 25 2 v n (flat l))
    (B : Option Addr) (m c : Nat) (xs : List (Int × Int)) (hx : a.eval x = .slice B m c) (hm : xs.length = m) (hr : Rd w B c xs) (h63 : n + m ≤ 1000) (hbase : base ≤ w.heap.size)
    (h : ∀ v' w', w'.ownsRow base 25 2 v' (n + m) (flat (l ++ xs)) → w.grownBy w' v.ownBlock → (v'.ownBlock = v.ownBlock ∨ v'.ownBlock = some w.heap.size) → wpList Try.prog ops Q rest (a.put o.dst v') w') :
    wpList Try.prog ops Q (o :: rest) a w := by
  obtain ⟨i0, hi, hz0, hz1, hz2⟩ := info_parts infoV
  cases B with
  | none =>
    obtain ⟨rfl, rfl⟩ := hr.nil rfl
    have hm0 : m = 0 := by simpa using hm.symm
    subst hm0
    refine wpList_plain hgd fun K hK => ?_
    obtain ⟨A, cc, rfl, hnc⟩ : ∃ A cc, v = .slice A n cc ∧ n ≤ cc := by
      rcases hown.2 with ⟨rfl, rfl⟩ | ⟨g, cap, cur, rfl, _, _, hnc, _⟩
      · exact ⟨_, _, rfl, Nat.le_refl _⟩
      · exact ⟨_, _, rfl, hnc⟩
    have hrun := append_none (P := Try.prog) 22 o.type 25 i0 Try.underlying22 hi A n cc 0 w hnc
    unfold Oper.wp execOp
    simp only [ho, resolve, invoke, builtin, Sem.run_bind, Sem.run_pure, Result.andThen_ok, List.map_toArray, List.map_cons, List.map_nil, hs, hx, hrun]
    exact hK _ _ (h _ w (by simpa using hown) ⟨rfl, rfl, rfl, Nat.le_refl _, fun _ _ _ => rfl⟩ (.inl rfl))
  | some ad =>
    subst hm
    refine wpList_append_own_at _ hgd s x 22 ho base 25 i0 (.agg #[.int .u32 0, .int .i64 0]) 2 16 Try.underlying22 hi hz0 hz1 hz2 rfl (by decide) v n (flat l) hs hown ad xs.length c (flat xs) hx (flat_len xs) (fun j u hj => hr.cells ad rfl j u hj) (flat_one xs) (by unfold maxLen; omega) (by omega) hbase ?_
    intro v' w' h1 h2 _ h4
    exact h v' w' (by rw [flat_append]; exact h1) h2 h4

theorem append_ints {ops : Array Oper} {rest : List Oper} {o : Oper} {a : Act} {w : World} {Q : Exit → Act → World → Prop} (hgd : o.guard = none) (s x : Operand)
    (ho : o.op = .call { callee := .builtin .append, args := #[s, x], argTypes := #[30, 30] })
    (base : Nat) (v : Value) (n : Nat) (l : List Int) (hs : a.eval s = v) (hown : w.ownsRow base 3 1 v n (l.map (Value.int .i64)))
    (B : Option Addr) (m c : Nat) (xs : List Int) (hx : a.eval x = .slice B m c) (hm : xs.length = m) (hr : RdI w B c xs) (h63 : n + m ≤ 1000) (hbase : base ≤ w.heap.size)
    (h : ∀ v' w', w'.ownsRow base 3 1 v' (n + m) ((l ++ xs).map (Value.int .i64)) → w.grownBy w' v.ownBlock → (v'.ownBlock = v.ownBlock ∨ v'.ownBlock = some w.heap.size) → wpList Try.prog ops Q rest (a.put o.dst v') w') :
    wpList Try.prog ops Q (o :: rest) a w := by
  obtain ⟨i0, hi, hz0, hz1, hz2⟩ := info_parts infoI
  cases B with
  | none =>
    obtain rfl := hr.nil rfl
    have hm0 : m = 0 := by simpa using hm.symm
    subst hm0
    refine wpList_plain hgd fun K hK => ?_
    obtain ⟨A, cc, rfl, hnc⟩ : ∃ A cc, v = .slice A n cc ∧ n ≤ cc := by
      rcases hown.2 with ⟨rfl, rfl⟩ | ⟨g, cap, cur, rfl, _, _, hnc, _⟩
      · exact ⟨_, _, rfl, Nat.le_refl _⟩
      · exact ⟨_, _, rfl, hnc⟩
    have hrun := append_none (P := Try.prog) 30 o.type 3 i0 Try.underlying30 hi A n cc c w hnc
    unfold Oper.wp execOp
    simp only [ho, resolve, invoke, builtin, Sem.run_bind, Sem.run_pure, Result.andThen_ok, List.map_toArray, List.map_cons, List.map_nil, hs, hx, hrun]
    exact hK _ _ (h _ w (by simpa using hown) ⟨rfl, rfl, rfl, Nat.le_refl _, fun _ _ _ => rfl⟩ (.inl rfl))
  | some ad =>
    subst hm
    refine wpList_append_own_at _ hgd s x 30 ho base 3 i0 (.int .i64 0) 1 8 Try.underlying30 hi hz0 hz1 hz2 rfl (by decide) v n (l.map (Value.int .i64)) hs hown ad xs.length c (xs.map (Value.int .i64)) hx (by simp) (fun j u hj => ?_) (by simp; intros; subst_vars; rfl) (by unfold maxLen; omega) (by omega) hbase ?_
    · rw [List.getElem?_map] at hj
      cases hq : xs[j]? with
      | none => rw [hq] at hj; cases hj
      | some q =>
        rw [hq] at hj
        obtain rfl := Option.some.inj hj
        exact hr.cells ad rfl j q hq
    · intro v' w' h1 h2 _ h4
      exact h v' w' (by rw [List.map_append]; exact h1) h2 h4
theorem own_made (w : World) (T : TypeId) (size : Nat) (base : Nat) (hb : base ≤ w.heap.size) : (w.alloc (.cells #[] T)).ownsRow base T size (.slice (some ⟨w.heap.size, 0, none⟩) 0 0) 0 [] :=
  ⟨by simp, .inr ⟨w.heap.size, 0, #[], rfl, hb, heap_alloc_new w _, Nat.le_refl _, by decide, by simp, by simp⟩⟩
theorem Bl.grow {W wr w2 : World} {row : Option Nat} (h : Bl W wr) (hg : wr.grownBy w2 row) (hr : ∀ g, row = some g → W.heap.size ≤ g) : Bl W w2 :=
  ⟨h.out.grown hg h.out.size hr⟩
end Go.Proofs.Ytdmofkmkleekbaa.Pool
