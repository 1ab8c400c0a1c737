/- What the generators of terms keep: plain facts and what a call of named, arg, term carries along. -/
import Derived.Test.YtdbflfakocaapaaDoorGenS
import Derived.Test.YtdbflfakocaapaaDoorBase
import Derived.Test.YtdbflfakocaapaaDoorCons2
import Derived.Test.YtdbflfakocaapaaDoorSubst
import Derived.Test.YtdbflfakocaapaaDoorAny
namespace Go.Proofs.YtdbflfakocaapaaDoor
open Go.RowKit

mutual
theorem Ty.closed_mono : ∀ (t : Ty) (d d' : Int), d ≤ d' → t.closed d = true → t.closed d' = true
  | ⟨k, nm, ix, args⟩, d, d', h, hc => by
    unfold Ty.closed at hc ⊢
    simp only [Bool.and_eq_true, Bool.not_eq_true', Bool.and_eq_false_iff, decide_eq_false_iff_not] at hc ⊢
    refine ⟨?_, Ty.closeds_mono k args 0 d d' h hc.2⟩
    rcases hc.1 with h1 | h1
    · exact .inl h1
    · exact .inr (by omega)
theorem Ty.closeds_mono (k : Int) : ∀ (ts : List Ty) (i : Nat) (d d' : Int), d ≤ d' → Ty.closeds k ts i d = true → Ty.closeds k ts i d' = true
  | [], _, _, _, _, _ => by unfold Ty.closeds; rfl
  | t :: ts, i, d, d', h, hc => by
    unfold Ty.closeds at hc ⊢
    simp only [Bool.and_eq_true] at hc ⊢
    exact ⟨Ty.closed_mono t _ _ (by omega) hc.1, Ty.closeds_mono k ts (i + 1) d d' h hc.2⟩
 end
mutual
/-- A variable has no arguments. -/
def Ty.vl : Ty → Prop
  | ⟨k, _, _, args⟩ => (k = 5 → args = []) ∧ Ty.vls args
def Ty.vls : List Ty → Prop
  | [] => True
  | t :: ts => Ty.vl t ∧ Ty.vls ts
 end
theorem Ty.vl_eq (t : Ty) : t.vl = ((t.kind = 5 → t.args = []) ∧ Ty.vls t.args) := by cases t; rw [Ty.vl]
theorem Ty.vls_of {ts : List Ty} (h : ∀ t ∈ ts, Ty.vl t) : Ty.vls ts := by
  induction ts with
  | nil => unfold Ty.vls; trivial
  | cons t ts ih => unfold Ty.vls; exact ⟨h t (by simp), ih fun x hx => h x (by simp [hx])⟩
/-- Its free variables are below V, and its variables have no arguments. -/
def Ty.cl (t : Ty) (V : Int) : Prop := t.closed V = true ∧ t.vl
/-- All that is known of a generated term: its numbers, its widths, its free variables are below V, its size. -/
structure Good (V : Int) (N : Nat) (t : Ty) : Prop where
  ok : t.ok
  nar : t.nar
  closed : t.cl V
  size : t.size ≤ N
theorem Good.mono {V V' : Int} {N N' : Nat} {t : Ty} (h : Good V N t) (hV : V ≤ V') (hN : N ≤ N') : Good V' N' t := ⟨h.ok, h.nar, ⟨Ty.closed_mono t V V' hV h.closed.1, h.closed.2⟩, Nat.le_trans h.size hN⟩
theorem good_leaf {V : Int} (k : Int) (nm : ByteArray) (hk : 0 ≤ k ∧ k ≤ 6) (h5 : k ≠ 5) : Good V 1 ⟨k, nm, 0, []⟩ := by
  refine ⟨?_, ?_, ?_, ?_⟩
  · rw [Ty.ok_eq]; exact ⟨⟨show _ ≤ k by omega, show k ≤ _ by omega⟩, ⟨show _ ≤ (0 : Int) by omega, show (0 : Int) ≤ _ by omega⟩, by show Ty.oks []; unfold Ty.oks; trivial⟩
  · unfold Ty.nar Ty.nars; simp
  · exact ⟨by unfold Ty.closed Ty.closeds; simp [h5], by rw [Ty.vl_eq]; exact ⟨fun _ => rfl, by show Ty.vls []; unfold Ty.vls; trivial⟩⟩
  · unfold Ty.size Ty.sizes; omega
theorem good_var {V i : Int} (h0 : 0 ≤ i) (h1 : i < V) (h2 : V ≤ 2 ^ 40) : Good V 1 (tVar i) := by
  refine ⟨?_, ?_, ?_, ?_⟩
  · rw [Ty.ok_eq]; exact ⟨⟨show _ ≤ (5 : Int) by omega, show (5 : Int) ≤ _ by omega⟩, ⟨show _ ≤ i by omega, show i ≤ _ by omega⟩, by show Ty.oks []; unfold Ty.oks; trivial⟩
  · unfold tVar Ty.nar Ty.nars; simp
  · exact ⟨by unfold tVar Ty.closed Ty.closeds; simp; omega, by rw [Ty.vl_eq]; exact ⟨fun _ => rfl, by show Ty.vls []; unfold Ty.vls; trivial⟩⟩
  · unfold tVar Ty.size Ty.sizes; omega
theorem good_node {V : Int} {N : Nat} (k : Int) (nm : ByteArray) (ts : List Ty) (hk : 0 ≤ k ∧ k ≤ 6) (h5 : k ≠ 5) (h6 : k ≠ 6) (hl : ts.length ≤ 8) (hg : ∀ t ∈ ts, t.ok ∧ t.nar ∧ t.cl V) (hs : 1 + Ty.sizes ts ≤ N) : Good V N ⟨k, nm, 0, ts⟩ := by
  refine ⟨?_, ?_, ?_, ?_⟩
  · rw [Ty.ok_eq]; exact ⟨⟨show _ ≤ k by omega, show k ≤ _ by omega⟩, ⟨show _ ≤ (0 : Int) by omega, show (0 : Int) ≤ _ by omega⟩, Ty.oks_of fun t ht => (hg t ht).1⟩
  · rw [Ty.nar_eq]; exact ⟨Nat.le_trans hl (by decide), Ty.nars_of fun t ht => (hg t ht).2.1⟩
  · refine ⟨?_, by rw [Ty.vl_eq]; exact ⟨fun e => absurd e h5, Ty.vls_of fun t ht => (hg t ht).2.2.2⟩⟩
    rw [Ty.closed_eq, Bool.and_eq_true]
    refine ⟨by simp [h5], (Ty.closeds_iff _ _ _ _).2 fun j hj => ?_⟩
    have hb : bindI k (0 + j) = 0 := by unfold bindI; simp [h6]
    show ts[j].closed (V + bindI k (0 + j)) = true
    rw [hb, Int.add_zero]
    exact (hg _ (List.getElem_mem hj)).2.2.1
  · rw [Ty.size_eq]; exact hs
theorem good_exists {V : Int} {N : Nat} {a b : Ty} (ha : a.ok ∧ a.nar ∧ a.cl V) (hb : b.ok ∧ b.nar ∧ b.cl (V + 1)) (hs : 1 + a.size + b.size ≤ N) : Good V N (tExists a b) := by
  refine ⟨?_, ?_, ?_, ?_⟩
  · rw [Ty.ok_eq]; exact ⟨⟨show _ ≤ (6 : Int) by omega, show (6 : Int) ≤ _ by omega⟩, ⟨show _ ≤ (0 : Int) by omega, show (0 : Int) ≤ _ by omega⟩, Ty.oks_of fun t ht => by
      rcases List.mem_cons.1 ht with rfl | ht
      · exact ha.1
      · rcases List.mem_cons.1 ht with rfl | ht
        · exact hb.1
        · cases ht⟩
  · rw [Ty.nar_eq]; exact ⟨show 2 ≤ _ by decide, Ty.nars_of fun t ht => by
      rcases List.mem_cons.1 ht with rfl | ht
      · exact ha.2.1
      · rcases List.mem_cons.1 ht with rfl | ht
        · exact hb.2.1
        · cases ht⟩
  · have hvl : (tExists a b).vl := by
      rw [Ty.vl_eq]
      refine ⟨fun e => absurd (show (6 : Int) = 5 from e) (by decide), Ty.vls_of fun t ht => ?_⟩
      rcases List.mem_cons.1 ht with rfl | ht
      · exact ha.2.2.2
      · rcases List.mem_cons.1 ht with rfl | ht
        · exact hb.2.2.2
        · cases ht
    refine ⟨?_, hvl⟩
    unfold tExists Ty.closed Ty.closeds
    have h0 : bindI 6 0 = 0 := by decide
    have h1 : bindI 6 (0 + 1) = 1 := by decide
    simp only [Ty.closeds, h0, h1, Int.add_zero, ha.2.2.1, hb.2.2.1]
    rfl
  · show (tExists a b).size ≤ N
    unfold tExists Ty.size Ty.sizes
    simp only [Ty.sizes]
    omega

/-- The declarations, which do not lie in the stream's block. -/
def DeclsOk (w : World) (sb : Nat) (v : Value) : Prop := ∃ g, v = .slice (some ⟨g, 0, none⟩) 8 8 ∧ g ≠ sb ∧ g < w.heap.size ∧ IsDs g w
theorem DeclsOk.grown {w w' : World} {sb : Nat} {v : Value} (h : DeclsOk w sb v) (hg : w.grownBy w' (some sb)) : DeclsOk w' sb v := by
  obtain ⟨g, hv, hne, hlt, hd⟩ := h
  exact ⟨g, hv, hne, Nat.lt_of_lt_of_le hlt hg.size, hd.keep (hg.block g hlt (by simp; exact hne))⟩
/-- What a generator is handed. -/
structure GPre (sb r G : Nat) (vd : Value) (w : World) : Prop where
  st : StreamR w sb r
  env : EnvN 1 4 w G
  hG : G ≤ sb
  decls : DeclsOk w sb vd
theorem GPre.step {sb r r' G : Nat} {vd : Value} {w w' : World} (h : GPre sb r G vd w) (hg : w.grownBy w' (some sb)) (hst : StreamR w' sb r') : GPre sb r' G vd w' :=
  ⟨hst, h.env.grown hg h.hG (by have := h.st.lt; have := h.hG; omega), h.hG, h.decls.grown hg⟩
theorem GPre.below {sb r G : Nat} {vd : Value} {w w' : World} (h : GPre sb r G vd w) (hb : Below w.heap.size w w') : GPre sb r G vd w' :=
  h.step (grown_of_below hb) (h.st.below hb h.st.lt)
/-- What a generator gives back. -/
def GenR (V : Int) (sb r : Nat) (w : World) (e : Ending) (w' : World) : Prop := ∃ t A c r', e = .returned (.agg #[.int .i64 t.kind, .string t.name, .int .i64 t.index, .slice A t.args.length c]) ∧ IsTy w' w.heap.size w'.heap.size t (.agg #[.int .i64 t.kind, .string t.name, .int .i64 t.index, .slice A t.args.length c]) ∧ Good V (1 + 4 * (r - r')) t ∧ r' ≤ r ∧ StreamR w' sb r' ∧ w.grownBy w' (some sb)
def GenAt (F : FuncId) (d : Int) (V : Int) (r : Nat) : Prop := ∀ (w : World) (sb G : Nat) (vd : Value), GPre sb r G vd w → Calls Tryd.prog F #[.pointer (some ⟨sb, 0, none⟩), vd, .int .i64 d, .int .i64 V] w (GenR V sb r w)
/-- While a generator runs: r1 numbers are left; the result's box lies at block w.heap.size, untouched. -/
structure GS (sb r r1 G : Nat) (vd : Value) (w W : World) : Prop where
  pre : GPre sb r1 G vd W
  le : r1 ≤ r
  grown : w.grownBy W (some sb)
  box : W.heap[w.heap.size]? = some (.cells #[.int .i64 0, .string ⟨#[]⟩, .int .i64 0, .slice none 0 0] 25 (0, 0))
  lt : sb < w.heap.size
theorem GS.start {sb r G : Nat} {vd : Value} {w : World} (h : GPre sb r G vd w) : GS sb r r G vd w (w.alloc (.cells #[.int .i64 0, .string ⟨#[]⟩, .int .i64 0, .slice none 0 0] 25)) :=
  ⟨h.below (below_new _ _), Nat.le_refl _, grown_of_below (below_new _ _), blk_new _ _, h.st.lt⟩
theorem GS.boxlt {sb r r1 G : Nat} {vd : Value} {w W : World} (h : GS sb r r1 G vd w W) : w.heap.size < W.heap.size := blk_lt' h.box
theorem GS.step {sb r r1 r2 G : Nat} {vd : Value} {w W W2 : World} (h : GS sb r r1 G vd w W) (hg : W.grownBy W2 (some sb)) (hst : StreamR W2 sb r2) (hle : r2 ≤ r1) : GS sb r r2 G vd w W2 :=
  ⟨h.pre.step hg hst, Nat.le_trans hle h.le, grown_trans' h.grown hg, (hg.block _ h.boxlt (by have := h.lt; simp; omega)).trans h.box, h.lt⟩
theorem GS.below {sb r r1 G : Nat} {vd : Value} {w W W2 : World} (h : GS sb r r1 G vd w W) (hb : Below W.heap.size W W2) : GS sb r r1 G vd w W2 :=
  h.step (grown_of_below hb) (h.pre.st.below hb h.pre.st.lt) (Nat.le_refl _)
theorem GS.drew {sb r r1 G : Nat} {vd : Value} {w W : World} (h : GS sb r r1 G vd w W) : GS sb r r1 G vd w W.drew := h.below (below_drew _)
/-- The end: the term t is stored into the result's box. -/
theorem GS.fin {sb r r1 G : Nat} {vd : Value} {w W : World} {V : Int} {t : Ty} {A : Option Addr} {c : Nat} (h : GS sb r r1 G vd w W) (hty : IsTy W (w.heap.size + 1) W.heap.size t (.agg #[.int .i64 t.kind, .string t.name, .int .i64 t.index, .slice A t.args.length c])) (hgd : Good V (1 + 4 * (r - r1)) t) :
    ∀ W' : World, W' = ((((W.setCell ⟨w.heap.size, 0, none⟩ (.int .i64 t.kind)).setCell ⟨w.heap.size, 1, none⟩ (.string t.name)).setCell ⟨w.heap.size, 2, none⟩ (.int .i64 t.index)).setCell ⟨w.heap.size, 3, none⟩ (.slice A t.args.length c)) →
    Hid (GenR V sb r w (.returned (.agg #[.int .i64 t.kind, .string t.name, .int .i64 t.index, .slice A t.args.length c])) W') ∧ (W'.cell? ⟨w.heap.size, 0, none⟩ = some (.int .i64 t.kind) ∧ W'.cell? ⟨w.heap.size, 1, none⟩ = some (.string t.name) ∧ W'.cell? ⟨w.heap.size, 2, none⟩ = some (.int .i64 t.index) ∧ W'.cell? ⟨w.heap.size, 3, none⟩ = some (.slice A t.args.length c)) := by
  rintro W' rfl
  obtain ⟨s1, s2, s3⟩ := set4 (.int .i64 t.kind) (.string t.name) (.int .i64 t.index) (.slice A t.args.length c) h.box
  have hlt := h.lt
  refine ⟨Lib.hid ⟨t, A, c, r1, rfl, hty.keep (fun b h1 h2 => s2 b (by omega)) (by omega) (by rw [s3]; exact Nat.le_refl _), hgd, h.le, h.pre.st.keep fun b hb => s2 b (by omega), ⟨h.grown.os, h.grown.tape, h.grown.output, by rw [s3]; exact h.grown.size, fun b hb hne => (s2 b (by omega)).trans (h.grown.block b hb hne)⟩⟩, (box_frozen s1).1⟩
/-- As RetTy, the term being a letter. -/
def RetG (L : Nat) (t : Ty) (w : World) (e : Ending) (w' : World) : Prop := ∃ (T : Ty) (A : Option Addr) (c : Nat), Hid (T = t) ∧ e = .returned (.agg #[.int .i64 T.kind, .string T.name, .int .i64 T.index, .slice A T.args.length c]) ∧ Hid (IsTy w' L w'.heap.size T (.agg #[.int .i64 T.kind, .string T.name, .int .i64 T.index, .slice A T.args.length c])) ∧ Below w.heap.size w w'
theorem RetTy.g {L : Nat} {t : Ty} {w : World} (e : Ending) (w' : World) (h : RetTy L t w e w') : RetG L t w e w' := by
  obtain ⟨A, c, h1, h2, h3⟩ := h
  exact ⟨t, A, c, Lib.hid rfl, h1, Lib.hid h2, h3⟩
end Go.Proofs.YtdbflfakocaapaaDoor
