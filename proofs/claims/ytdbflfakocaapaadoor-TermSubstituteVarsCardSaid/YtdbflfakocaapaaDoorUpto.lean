/- What the second form's bound gives: an integer slice is no longer than its bulk. -/
import Derived.Test.YtdbflfakocaapaaDoorLaid
import Derived.Test.YtdbflfakocaapaaDoorEnv
import Derived.Test.YtdbflfakocaapaaDoorRows
namespace Go.Proofs.YtdbflfakocaapaaDoor
open Go.RowKit Go.WideShapes Go.ChangeShapes Go.ChangeAt

theorem bulk_len {H : Type} : ∀ l : List (DataW H), l.length ≤ Rows.uptoBulkAll l
  | [] => by simp
  | d :: r => by
    have := bulk_len r
    have h1 : 1 ≤ Rows.uptoBulk d := by
      cases d with
      | lit x => cases x <;> simp [Rows.uptoBulk]
      | _ => simp [Rows.uptoBulk]
    simp only [List.length_cons, Rows.uptoBulkAll]
    omega
section
variable {H : Type} {enc : TypeId × Value → H} {P : Program}
theorem arg_bulk {W : World} {t e : TypeId} {v : Value} {d : DataW H} {ps : List MemPlace} {xs : List Int} {B : Nat} (ht : P.underlying t = some (.slice e)) (he : P.underlying e = some (.int .i64)) (hc : P.cellsOf e = 1)
    (h : DataW.Trod enc P W 0 (fun _ => true) true t v d ps) (hi : IsInts W B xs v) : xs.length ≤ Rows.uptoBulk d := by
  obtain ⟨fuel, h⟩ := h
  obtain ⟨A, c, rfl, _⟩ := hi
  rcases open_ints ht he hc h with ⟨hv, _⟩ | ⟨a, len, cap, zs, hv, _, hl, hm, hz, hd, _, _⟩
  · simp [Value.cells] at hv
    omega
  · simp [Value.cells] at hv
    obtain ⟨_, hlen, _⟩ := hv
    simp only [Prod.mk.injEq] at hd
    rw [hd.1]
    simp only [Rows.uptoBulk]
    have := bulk_len (lits (H := H) .i64 (zs.take len))
    have hl2 : (lits (H := H) .i64 (zs.take len)).length = len := by
      have hz' : zs.length = cap := hz
      simp only [lits, List.length_map, List.length_take]
      omega
    omega
theorem bulk_part {ds : List (DataW H)} {d : DataW H} (h : d ∈ ds) : Rows.uptoBulk d ≤ Rows.uptoBulkAll ds := by
  induction ds with
  | nil => cases h
  | cons x r ih =>
    simp only [Rows.uptoBulkAll]
    rcases List.mem_cons.1 h with rfl | h
    · omega
    · have := ih h; omega
end
theorem envLN_head {W : World} {r : List (String × DataW Unit)} {ps : List MemPlace} (h : DataW.LaidVars Tryd.prog W (("telpher/telmake.leafNames", Rows.laid_telpher_telmake_leafNames) :: r) ps) :
    EnvN 1 4 W W.heap.size ∧ ∃ qs, DataW.LaidVars Tryd.prog W r qs := by
  obtain ⟨⟨h1, v, h2, h3⟩, h4⟩ := envL_head h
  exact ⟨⟨h1, v, _, h2, h3, by simp [leafL]⟩, h4⟩
end Go.Proofs.YtdbflfakocaapaaDoor
