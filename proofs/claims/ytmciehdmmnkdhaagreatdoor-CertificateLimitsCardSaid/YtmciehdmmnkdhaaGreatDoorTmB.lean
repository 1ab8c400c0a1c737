/- The abstract machine on trees, part B. No statement of the seat is proved here. -/
import Derived.Below
import Derived.Orders
import Derived.Laws.Sem
import Derived.Laws.CopyRow
import Derived.KernelRfl
import Derived.Test.YtmciehdmmnkdhaaGreatDoorTmA
set_option linter.unusedVariables false
set_option linter.unusedSimpArgs false
set_option linter.constructorNameAsVariable false
set_option linter.unusedSectionVars false
set_option linter.deprecated false
set_option linter.unnecessarySimpa false
/- What a value of the abstract machine says of a value and the memory of the program. No statement of the seat is proved here. -/
namespace Tm
open Go
set_option linter.unusedVariables false

def cellsOf (w : World) (b : Nat) : List Value := match w.heap[b]? with
  | some (.cells c _ _) => c.toList
  | _ => []
mutual
/-- The cells cs are the data x; fz: how many cells at the head of a block never change. -/
def RDc (w : World) (fz : Nat → Nat) : D → List Value → Prop
  | .i k n, cs => cs = [.int k n]
  | .b x, cs => cs = [.bool x]
  | .s x, cs => cs = [.string x]
  | .nif, cs => cs = [.nilIface]
  | .se, cs => ∃ a c, cs = [.slice a 0 c]
  | .sl l, cs => ∃ a c, cs = [.slice a l.length c] ∧ l.length ≤ c ∧ (l = [] → c = 0) ∧ (l ≠ [] → ∃ b o s, a = some ⟨b, o, none⟩ ∧ 0 < s ∧ o + l.length * s ≤ fz b ∧ RRow w fz s l ((cellsOf w b).drop o))
  | .ag l, cs => RDs w fz l cs
def RDs (w : World) (fz : Nat → Nat) : List D → List Value → Prop
  | [], cs => cs = []
  | x :: l, cs => ∃ v r, cs = v :: r ∧ nAg x = true ∧ RDc w fz x [v] ∧ RDs w fz l r
def RRow (w : World) (fz : Nat → Nat) (s : Nat) : List D → List Value → Prop
  | [], _ => True
  | x :: l, cs => s ≤ cs.length ∧ RDc w fz x (cs.take s) ∧ RRow w fz s l (cs.drop s)
end
structure Mem where
  w : World
  fz : Nat → Nat
  lo : Nat
/-- Where an object lies: block, first cell, room, cells of an element. -/
structure Pl where
  b : Nat
  o : Nat
  c : Nat
  s : Nat
abbrev Inj := Nat → Option Pl
mutual
/-- Does the value bear no name of an object? -/
def nf : AV → Bool
  | .p _ _ => false
  | .sl _ _ _ => false
  | .m _ => false
  | .pe l _ => nfs l
  | .mp _ vs => nfs vs
  | .f _ a b => nfs a && nfs b
  | .ag l => nfs l
  | .tu l => nfs l
  | _ => true
def nfs : List AV → Bool
  | [] => true
  | x :: l => nf x && nfs l
end
def isAgg : Value → Bool
  | .agg _ => true
  | _ => false
mutual
def RVc (I : Inj) (M : Mem) : AV → List Value → Prop
  | .d x, cs => RDc M.w M.fz x cs
  | .u, _ => False
  | .tu _, _ => False
  | .np, cs => cs = [.pointer none]
  | .nm, cs => cs = [.map none]
  | .nf, cs => cs = [.nilFunc]
  | .p a o, cs => ∃ q, I a = some q ∧ cs = [.pointer (some ⟨q.b, q.o + o, none⟩)]
  | .pe l o, cs => ∃ b o0, cs = [.pointer (some ⟨b, o0 + o, none⟩)] ∧ (b < M.lo ∨ o0 + l.length ≤ M.fz b) ∧ o0 + l.length ≤ (cellsOf M.w b).length ∧ RVs I M l (((cellsOf M.w b).drop o0).take l.length) ∧ nfs l = true
  | .zl l, cs => ∃ a, cs = [.slice a l.length l.length] ∧ (l ≠ [] → ∃ b o s, a = some ⟨b, o, none⟩ ∧ 0 < s ∧ o + l.length * s ≤ M.fz b ∧ RRow M.w M.fz s l ((cellsOf M.w b).drop o))
  | .bs l, cs => ∃ a c, cs = [.slice a l.length c] ∧ l.length ≤ c ∧ (l ≠ [] → ∃ b o s, a = some ⟨b, o, none⟩ ∧ 0 < s ∧ b < M.lo ∧ RRow M.w M.fz s l ((cellsOf M.w b).drop o))
  | .sl a lo n, cs => ∃ q A, I a = some q ∧ cs = [.slice A n (q.c - lo)] ∧ lo + n ≤ q.c ∧ (q.c = lo ∨ A = some ⟨q.b, q.o + lo * q.s, none⟩)
  | .m a, cs => ∃ q, I a = some q ∧ cs = [.map (some q.b)]
  | .mp ks vs, cs => ∃ b es ck, cs = [.map (some b)] ∧ b < M.lo ∧ M.w.heap[b]? = some (.map es ck) ∧ RDs M.w M.fz ks (es.toList.map (·.key)) ∧ RVl I M vs (es.toList.map (·.val)) ∧ nfs vs = true
  | .f g fs cps, cs => ∃ a b, cs = [.func (.func g) a b] ∧ RVl I M fs a.toList ∧ RVl I M cps b.toList
  | .ag l, cs => RVs I M l cs
def RVs (I : Inj) (M : Mem) : List AV → List Value → Prop
  | [], cs => cs = []
  | x :: l, cs => ∃ v r, cs = v :: r ∧ nAgV x = true ∧ RVc I M x [v] ∧ RVs I M l r
def RVl (I : Inj) (M : Mem) : List AV → List Value → Prop
  | [], cs => cs = []
  | x :: l, cs => ∃ v r, cs = v :: r ∧ (x = .u ∨ (agV x = isAgg v ∧ RVc I M x v.cells.toList)) ∧ RVl I M l r
end
/-- One value, not a tuple. -/
def RV1 (I : Inj) (M : Mem) (x : AV) (v : Value) : Prop := x = .u ∨ (agV x = isAgg v ∧ RVc I M x v.cells.toList)
def RTu (I : Inj) (M : Mem) : List AV → List Value → Prop
  | [], vs => vs = []
  | x :: l, vs => ∃ v r, vs = v :: r ∧ RV1 I M x v ∧ RTu I M l r
def RV (I : Inj) (M : Mem) (x : AV) (v : Value) : Prop := RV1 I M x v ∨ ∃ l vs, x = .tu l ∧ v = .tuple vs ∧ RTu I M l vs.toList
/-- The births of a map's entries: nothing was ever deleted. -/
def Born (es : Array MapEntry) (ck : Nat) : Prop := es.toList.map (·.born) = List.range es.size ∧ ck = es.size
def RO (I : Inj) (M : Mem) (q : Pl) : Ob → Prop
  | .box l => ∃ c e, M.w.heap[q.b]? = some (.cells c e (0, 0)) ∧ q.o = 0 ∧ RVs I M l c.toList ∧ M.fz q.b = 0
  | .row sz l z => sz = q.s ∧ 0 < q.s ∧ ∃ c e, M.w.heap[q.b]? = some (.cells c e (0, 0)) ∧ q.o + q.c * q.s ≤ c.size ∧ l.length ≤ q.c ∧ RRow M.w M.fz q.s l (c.toList.drop q.o) ∧ M.fz q.b ≤ q.o + (match z with | true => l.length * q.s | false => 0)
  | .map ks vs => ∃ es ck, M.w.heap[q.b]? = some (.map es ck) ∧ RDs M.w M.fz ks (es.toList.map (·.key)) ∧ RVl I M vs (es.toList.map (·.val)) ∧ M.fz q.b = 0 ∧ Born es ck
structure RH (I : Inj) (M : Mem) (h : Heap) : Prop where
  wf : ∀ b, M.fz b ≤ (cellsOf M.w b).length
  lo : M.lo ≤ M.w.heap.size
  ob : ∀ a ob q, h.get a = some ob → I a = some q → M.lo ≤ q.b ∧ q.b < M.w.heap.size ∧ RO I M q ob
  inj : ∀ a a' ob ob' q q', h.get a = some ob → h.get a' = some ob' → I a = some q → I a' = some q' → a ≠ a' → q.b ≠ q'.b
  cp : ∀ a ob q, h.get a = some ob → I a = some q → q.c ≤ 9223372036854775807

/-! ### Later memory -/
/-- The records of a range over a function. -/
def isRec : Obj → Bool
  | .loop _ => true
  | .deferred _ => true
  | .mapIter _ _ _ _ => true
  | _ => false
structure Ext (M M' : Mem) : Prop where
  lo : M'.lo = M.lo
  os : M'.w.os = M.w.os
  tape : M'.w.tape = M.w.tape
  out : M'.w.output = M.w.output
  size : M.w.heap.size ≤ M'.w.heap.size
  low : ∀ b, b < M.lo → M'.w.heap[b]? = M.w.heap[b]?
  fz : ∀ b, M.fz b ≤ M'.fz b
  fzl : ∀ b, b < M.lo → M'.fz b = M.fz b
  cells : ∀ b, (cellsOf M'.w b).take (M.fz b) = (cellsOf M.w b).take (M.fz b)
  oth : ∀ (b : Nat) (o : Obj), M.w.heap[b]? = some o → isRec o = true → M'.w.heap[b]? = some o
def Le (I I' : Inj) : Prop := ∀ a q, I a = some q → I' a = some q
theorem Le.refl (I : Inj) : Le I I := fun _ _ h => h
theorem Le.trans {I J K : Inj} (h : Le I J) (h' : Le J K) : Le I K := fun a q e => h' a q (h a q e)
theorem Ext.refl (M : Mem) : Ext M M := ⟨rfl, rfl, rfl, rfl, Nat.le_refl _, fun _ _ => rfl, fun _ => Nat.le_refl _, fun _ _ => rfl, fun _ => rfl, fun _ _ h _ => h⟩
theorem Ext.trans {A B C : Mem} (h : Ext A B) (k : Ext B C) : Ext A C where
  lo := k.lo.trans h.lo
  os := k.os.trans h.os
  tape := k.tape.trans h.tape
  out := k.out.trans h.out
  size := Nat.le_trans h.size k.size
  low := fun b hb => (k.low b (by rw [h.lo]; exact hb)).trans (h.low b hb)
  fz := fun b => Nat.le_trans (h.fz b) (k.fz b)
  fzl := fun b hb => (k.fzl b (by rw [h.lo]; exact hb)).trans (h.fzl b hb)
  cells := fun b => by
    have e := congrArg (List.take (A.fz b)) (k.cells b)
    rw [List.take_take, List.take_take, Nat.min_eq_left (h.fz b)] at e
    exact e.trans (h.cells b)
  oth := fun b o h1 h2 => k.oth b o (h.oth b o h1 h2) h2
/-- What RDc asks of a later memory. -/
structure Ext0 (w : World) (fz : Nat → Nat) (w' : World) (fz' : Nat → Nat) : Prop where
  le : ∀ b, fz b ≤ fz' b
  cells : ∀ b, (cellsOf w' b).take (fz b) = (cellsOf w b).take (fz b)
theorem Ext.e0 {M M' : Mem} (h : Ext M M') : Ext0 M.w M.fz M'.w M'.fz := ⟨h.fz, h.cells⟩

theorem drop_take_eq {cs cs' : List Value} {n o m : Nat} (h : cs'.take n = cs.take n) (hm : o + m ≤ n) : (cs'.drop o).take m = (cs.drop o).take m := by
  have e := congrArg (fun l => (l.drop o).take m) h
  simp only [List.drop_take, List.take_take] at e
  rw [Nat.min_eq_left (by omega)] at e
  exact e
section
variable {w w' : World} {fz fz' : Nat → Nat}
mutual
theorem RDc.ext (h : Ext0 w fz w' fz') : ∀ (x : D) (cs : List Value), RDc w fz x cs → RDc w' fz' x cs
  | .i _ _, _, r => by simpa only [RDc] using r
  | .b _, _, r => by simpa only [RDc] using r
  | .s _, _, r => by simpa only [RDc] using r
  | .nif, _, r => by simpa only [RDc] using r
  | .se, _, r => by simpa only [RDc] using r
  | .sl l, cs, r => by
    simp only [RDc] at r ⊢
    obtain ⟨a, c, e, hc, h0, hr⟩ := r
    refine ⟨a, c, e, hc, h0, fun hl => ?_⟩
    obtain ⟨b, o, s, ha, hs, hf, hrow⟩ := hr hl
    exact ⟨b, o, s, ha, hs, Nat.le_trans hf (h.le b), RRow.ext h s l _ _ (drop_take_eq (h.cells b) hf) hrow⟩
  | .ag l, cs, r => by
    simp only [RDc] at r ⊢
    exact RDs.ext h l cs r
theorem RDs.ext (h : Ext0 w fz w' fz') : ∀ (l : List D) (cs : List Value), RDs w fz l cs → RDs w' fz' l cs
  | [], _, r => by simpa only [RDs] using r
  | x :: l, cs, r => by
    simp only [RDs] at r ⊢
    obtain ⟨v, t, e, hn, hx, hl⟩ := r
    exact ⟨v, t, e, hn, RDc.ext h x _ hx, RDs.ext h l t hl⟩
theorem RRow.ext (h : Ext0 w fz w' fz') (s : Nat) : ∀ (l : List D) (cs cs' : List Value), cs'.take (l.length * s) = cs.take (l.length * s) → RRow w fz s l cs → RRow w' fz' s l cs'
  | [], _, _, _, _ => by simp only [RRow]
  | x :: l, cs, cs', e, r => by
    simp only [RRow] at r ⊢
    obtain ⟨hs, hx, hl⟩ := r
    have hlen : (x :: l).length * s = s + l.length * s := by simp [Nat.add_mul]; omega
    rw [hlen] at e
    have h1 : cs'.take s = cs.take s := by
      have := congrArg (List.take s) e
      rwa [List.take_take, List.take_take, Nat.min_eq_left (by omega)] at this
    refine ⟨?_, ?_, ?_⟩
    · have := congrArg List.length h1
      simp only [List.length_take] at this
      omega
    · rw [h1]; exact RDc.ext h x _ hx
    · refine RRow.ext h s l (cs.drop s) (cs'.drop s) ?_ hl
      exact drop_take_eq e (Nat.le_refl _)
end
end
section
variable {I I' : Inj} {M M' : Mem}
theorem cellsOf_low (h : Ext M M') {b : Nat} (hb : b < M.lo) : cellsOf M'.w b = cellsOf M.w b := by simp only [cellsOf, h.low b hb]
mutual
theorem RVc.ext (h : Ext M M') (hI : Le I I') : ∀ (x : AV) (cs : List Value), RVc I M x cs → RVc I' M' x cs
  | .d x, cs, r => by simp only [RVc] at r ⊢; exact RDc.ext h.e0 x cs r
  | .u, _, r => by simp only [RVc] at r
  | .tu _, _, r => by simp only [RVc] at r
  | .np, _, r => by simpa only [RVc] using r
  | .nm, _, r => by simpa only [RVc] using r
  | .nf, _, r => by simpa only [RVc] using r
  | .p a o, _, r => by
    simp only [RVc] at r ⊢
    obtain ⟨q, hq, e⟩ := r
    exact ⟨q, hI a q hq, e⟩
  | .pe l o, _, r => by
    simp only [RVc] at r ⊢
    obtain ⟨b, o0, e, hb, hn, hr, hnf⟩ := r
    rcases hb with hb | hb
    · refine ⟨b, o0, e, .inl (by rw [h.lo]; exact hb), ?_, ?_, hnf⟩
      · rw [cellsOf_low h hb]; exact hn
      · rw [cellsOf_low h hb]; exact RVs.ext h hI l _ hr
    · have e1 := drop_take_eq (h.cells b) hb
      refine ⟨b, o0, e, .inr (Nat.le_trans hb (h.fz b)), ?_, ?_, hnf⟩
      · have := congrArg List.length (h.cells b)
        simp only [List.length_take] at this
        omega
      · rw [e1]; exact RVs.ext h hI l _ hr
  | .zl l, _, r => by
    simp only [RVc] at r ⊢
    obtain ⟨a, e, hr⟩ := r
    refine ⟨a, e, fun hl => ?_⟩
    obtain ⟨b, o, s, ha, hs, hf, hrow⟩ := hr hl
    exact ⟨b, o, s, ha, hs, Nat.le_trans hf (h.fz b), RRow.ext h.e0 s l _ _ (drop_take_eq (h.cells b) hf) hrow⟩
  | .bs l, _, r => by
    simp only [RVc] at r ⊢
    obtain ⟨a, c, e, hc, hr⟩ := r
    refine ⟨a, c, e, hc, fun hl => ?_⟩
    obtain ⟨b, o, s, ha, hs, hb, hrow⟩ := hr hl
    exact ⟨b, o, s, ha, hs, by rw [h.lo]; exact hb, RRow.ext h.e0 s l _ _ (by rw [cellsOf_low h hb]) hrow⟩
  | .sl a lo n, _, r => by
    simp only [RVc] at r ⊢
    obtain ⟨q, A, hq, e⟩ := r
    exact ⟨q, A, hI a q hq, e⟩
  | .m a, _, r => by
    simp only [RVc] at r ⊢
    obtain ⟨q, hq, e⟩ := r
    exact ⟨q, hI a q hq, e⟩
  | .mp ks vs, _, r => by
    simp only [RVc] at r ⊢
    obtain ⟨b, es, ck, e, hb, hm, hk, hv, hnf⟩ := r
    exact ⟨b, es, ck, e, by rw [h.lo]; exact hb, by rw [h.low b hb]; exact hm, RDs.ext h.e0 _ _ hk, RVl.ext h hI _ _ hv, hnf⟩
  | .f g fs cps, _, r => by
    simp only [RVc] at r ⊢
    obtain ⟨a, b, e, h1, h2⟩ := r
    exact ⟨a, b, e, RVl.ext h hI _ _ h1, RVl.ext h hI _ _ h2⟩
  | .ag l, cs, r => by
    simp only [RVc] at r ⊢
    exact RVs.ext h hI l cs r
theorem RVs.ext (h : Ext M M') (hI : Le I I') : ∀ (l : List AV) (cs : List Value), RVs I M l cs → RVs I' M' l cs
  | [], _, r => by simpa only [RVs] using r
  | x :: l, cs, r => by
    simp only [RVs] at r ⊢
    obtain ⟨v, t, e, hn, hx, hl⟩ := r
    exact ⟨v, t, e, hn, RVc.ext h hI x _ hx, RVs.ext h hI l t hl⟩
theorem RVl.ext (h : Ext M M') (hI : Le I I') : ∀ (l : List AV) (cs : List Value), RVl I M l cs → RVl I' M' l cs
  | [], _, r => by simpa only [RVl] using r
  | x :: l, cs, r => by
    simp only [RVl] at r ⊢
    obtain ⟨v, t, e, hx, hl⟩ := r
    exact ⟨v, t, e, hx.imp id fun hx => ⟨hx.1, RVc.ext h hI x _ hx.2⟩, RVl.ext h hI l t hl⟩
end
theorem RV1.ext {x : AV} {v : Value} (h : Ext M M') (hI : Le I I') (r : RV1 I M x v) : RV1 I' M' x v := r.imp id fun ⟨a, b⟩ => ⟨a, b.ext h hI⟩
theorem RTu.ext (h : Ext M M') (hI : Le I I') : ∀ (l : List AV) (vs : List Value), RTu I M l vs → RTu I' M' l vs
  | [], _, r => r
  | x :: l, vs, ⟨v, t, e, hx, hl⟩ => ⟨v, t, e, hx.ext h hI, RTu.ext h hI l t hl⟩
theorem RV.ext {x : AV} {v : Value} (h : Ext M M') (hI : Le I I') (r : RV I M x v) : RV I' M' x v := r.imp (·.ext h hI) fun ⟨l, vs, a, b, c⟩ => ⟨l, vs, a, b, c.ext h hI⟩
end
end Tm
/- Cells and rows: what the relation gives of their parts. No statement of the seat is proved here. -/
namespace Tm
open Go
set_option linter.unusedVariables false
section
variable {w : World} {fz : Nat → Nat}
theorem RDs.len : ∀ {l : List D} {cs : List Value}, RDs w fz l cs → cs.length = l.length
  | [], _, r => by simp only [RDs] at r; simp [r]
  | x :: l, cs, r => by
    simp only [RDs] at r
    obtain ⟨v, t, rfl, _, _, hl⟩ := r
    simp [RDs.len hl]
theorem RDc.len {x : D} {cs : List Value} (r : RDc w fz x cs) : cs.length = (cellsD x).length := by
  cases x with
  | ag l => simp only [RDc] at r; simpa [cellsD] using r.len
  | sl l => simp only [RDc] at r; obtain ⟨a, c, rfl, _⟩ := r; rfl
  | se => simp only [RDc] at r; obtain ⟨a, c, rfl⟩ := r; rfl
  | _ => simp only [RDc] at r; subst r; rfl
theorem RDc.one {x : D} {cs : List Value} (r : RDc w fz x cs) (hn : nAg x = true) : ∃ v, cs = [v] ∧ isAgg v = false ∧ v.cells = #[v] := by
  cases x with
  | ag l => simp [nAg] at hn
  | sl l => simp only [RDc] at r; obtain ⟨a, c, rfl, _⟩ := r; exact ⟨_, rfl, rfl, rfl⟩
  | se => simp only [RDc] at r; obtain ⟨a, c, rfl⟩ := r; exact ⟨_, rfl, rfl, rfl⟩
  | _ => simp only [RDc] at r; exact ⟨_, r, rfl, rfl⟩
theorem RDs.get : ∀ {l : List D} {cs : List Value} {i : Nat} {x : D}, RDs w fz l cs → l[i]? = some x → ∃ v, cs[i]? = some v ∧ nAg x = true ∧ RDc w fz x [v]
  | [], _, _, _, _, h => by simp at h
  | y :: l, cs, 0, x, r, h => by
    simp only [RDs] at r
    obtain ⟨v, t, rfl, hn, hx, _⟩ := r
    simp only [List.getElem?_cons_zero, Option.some.injEq] at h
    subst h
    exact ⟨v, by simp, hn, hx⟩
  | y :: l, cs, i + 1, x, r, h => by
    simp only [RDs] at r
    obtain ⟨v, t, rfl, _, _, hl⟩ := r
    simpa using RDs.get hl (by simpa using h)
theorem RDs.drop : ∀ {l : List D} {cs : List Value} (n : Nat), RDs w fz l cs → RDs w fz (l.drop n) (cs.drop n)
  | l, cs, 0, r => by simpa using r
  | [], cs, n + 1, r => by simp only [RDs] at r; subst r; simp [RDs]
  | x :: l, cs, n + 1, r => by
    simp only [RDs] at r
    obtain ⟨v, t, rfl, _, _, hl⟩ := r
    simpa using hl.drop n
theorem RDs.take : ∀ {l : List D} {cs : List Value} (n : Nat), RDs w fz l cs → RDs w fz (l.take n) (cs.take n)
  | l, cs, 0, r => by simp [RDs]
  | [], cs, n + 1, r => by simp only [RDs] at r; subst r; simp [RDs]
  | x :: l, cs, n + 1, r => by
    simp only [RDs] at r
    obtain ⟨v, t, rfl, hn, hx, hl⟩ := r
    simp only [List.take_succ_cons, RDs]
    exact ⟨v, _, rfl, hn, hx, hl.take n⟩
theorem RDs.app : ∀ {l l' : List D} {cs cs' : List Value}, RDs w fz l cs → RDs w fz l' cs' → RDs w fz (l ++ l') (cs ++ cs')
  | [], l', cs, cs', r, r' => by simp only [RDs] at r; subst r; simpa using r'
  | x :: l, l', cs, cs', r, r' => by
    simp only [RDs] at r
    obtain ⟨v, t, rfl, hn, hx, hl⟩ := r
    simp only [List.cons_append, RDs]
    exact ⟨v, _, rfl, hn, hx, hl.app r'⟩
theorem RDs.cellsD {x : D} {cs : List Value} (r : RDc w fz x cs) : RDs w fz (cellsD x) cs := by
  cases x with
  | ag l => simp only [RDc] at r; exact r
  | _ =>
    obtain ⟨v, rfl, _, _⟩ := r.one rfl
    exact ⟨v, [], rfl, rfl, r, rfl⟩
theorem RRow.get {s : Nat} : ∀ {l : List D} {cs : List Value} {i : Nat} {x : D}, RRow w fz s l cs → l[i]? = some x → i * s + s ≤ cs.length ∧ RDc w fz x ((cs.drop (i * s)).take s)
  | [], _, _, _, _, h => by simp at h
  | y :: l, cs, 0, x, r, h => by
    simp only [RRow] at r
    simp only [List.getElem?_cons_zero, Option.some.injEq] at h
    subst h
    simpa using ⟨r.1, r.2.1⟩
  | y :: l, cs, i + 1, x, r, h => by
    simp only [RRow] at r
    have := RRow.get r.2.2 (by simpa using h)
    rw [List.length_drop, List.drop_drop] at this
    rw [show (i + 1) * s = s + i * s by rw [Nat.add_mul]; omega]
    exact ⟨by omega, this.2⟩
theorem RRow.len {s : Nat} : ∀ {l : List D} {cs : List Value}, RRow w fz s l cs → l.length * s ≤ cs.length
  | [], cs, r => by simp
  | x :: l, cs, r => by
    simp only [RRow] at r
    have := r.2.2.len
    rw [List.length_drop] at this
    simp only [List.length_cons, Nat.add_mul]
    omega
theorem RRow.drop {s : Nat} : ∀ {l : List D} {cs : List Value} (n : Nat), RRow w fz s l cs → RRow w fz s (l.drop n) (cs.drop (n * s))
  | l, cs, 0, r => by simpa using r
  | [], cs, n + 1, r => by simp [RRow]
  | x :: l, cs, n + 1, r => by
    simp only [RRow] at r
    have := r.2.2.drop n
    rw [List.drop_drop] at this
    rw [show (n + 1) * s = s + n * s by rw [Nat.add_mul]; omega]
    simpa using this
theorem RRow.congr {s : Nat} {l : List D} {cs cs' : List Value} (r : RRow w fz s l cs) (e : cs'.take (l.length * s) = cs.take (l.length * s)) : RRow w fz s l cs' :=
  RRow.ext ⟨fun _ => Nat.le_refl _, fun _ => rfl⟩ s l cs cs' e r
theorem RRow.take {s : Nat} : ∀ {l : List D} {cs : List Value} (n : Nat), RRow w fz s l cs → RRow w fz s (l.take n) cs
  | l, cs, 0, r => by simp [RRow]
  | [], cs, n + 1, r => by simp [RRow]
  | x :: l, cs, n + 1, r => by
    simp only [RRow] at r
    simp only [List.take_succ_cons, RRow]
    exact ⟨r.1, r.2.1, r.2.2.take n⟩
theorem RRow.app {s : Nat} : ∀ {l l' : List D} {cs cs' : List Value}, RRow w fz s l cs → cs.length = l.length * s → RRow w fz s l' cs' → RRow w fz s (l ++ l') (cs ++ cs')
  | [], l', cs, cs', r, hl, r' => by
    have : cs = [] := by simpa using hl
    subst this; simpa using r'
  | x :: l, l', cs, cs', r, hl, r' => by
    simp only [RRow] at r
    simp only [List.cons_append, RRow]
    have h1 := r.1
    refine ⟨by simp; omega, by rw [List.take_append_of_le_length h1]; exact r.2.1, ?_⟩
    rw [List.drop_append_of_le_length h1]
    exact r.2.2.app (by rw [List.length_drop, hl]; simp [Nat.add_mul]) r'
theorem RRow.len1 {s : Nat} {x : D} {l : List D} {cs : List Value} (r : RRow w fz s (x :: l) cs) : (Tm.cellsD x).length = s := by
  simp only [RRow] at r
  have := r.2.1.len
  rw [List.length_take] at this
  omega
/-- The cells of the first n elements. -/
theorem RRow.head {s : Nat} {l : List D} {cs : List Value} (r : RRow w fz s l cs) : RRow w fz s l (cs.take (l.length * s)) := r.congr (by rw [List.take_take, Nat.min_self])
theorem RRow.all {s : Nat} : ∀ {l : List D} {cs : List Value}, RRow w fz s l cs → ∀ v ∈ cs.take (l.length * s), isAgg v = false ∧ v.cells = #[v]
  | [], cs, r, v, hv => by simp at hv
  | x :: l, cs, r, v, hv => by
    simp only [RRow] at r
    rw [show (x :: l).length * s = s + l.length * s by simp [Nat.add_mul]; omega, List.take_add] at hv
    rcases List.mem_append.1 hv with hv | hv
    · have := RDs.cellsD r.2.1
      exact (go this) v hv
    · exact r.2.2.all v hv
where go : ∀ {l : List D} {cs : List Value}, RDs w fz l cs → ∀ v ∈ cs, isAgg v = false ∧ v.cells = #[v]
  | [], cs, r, v, hv => by simp only [RDs] at r; subst r; simp at hv
  | x :: l, cs, r, v, hv => by
    simp only [RDs] at r
    obtain ⟨u, t, rfl, hn, hx, hl⟩ := r
    rcases List.mem_cons.1 hv with rfl | hv
    · obtain ⟨u', e, h⟩ := hx.one hn
      simp only [List.cons.injEq, and_true] at e
      subst e; exact h
    · exact go hl v hv
end
section
variable {I : Inj} {M : Mem}
theorem RVs.len : ∀ {l : List AV} {cs : List Value}, RVs I M l cs → cs.length = l.length
  | [], _, r => by simp only [RVs] at r; simp [r]
  | x :: l, cs, r => by
    simp only [RVs] at r
    obtain ⟨v, t, rfl, _, _, hl⟩ := r
    simp [RVs.len hl]
theorem RVs.get : ∀ {l : List AV} {cs : List Value} {i : Nat} {x : AV}, RVs I M l cs → l[i]? = some x → ∃ v, cs[i]? = some v ∧ nAgV x = true ∧ RVc I M x [v]
  | [], _, _, _, _, h => by simp at h
  | y :: l, cs, 0, x, r, h => by
    simp only [RVs] at r
    obtain ⟨v, t, rfl, hn, hx, _⟩ := r
    simp only [List.getElem?_cons_zero, Option.some.injEq] at h
    subst h
    exact ⟨v, by simp, hn, hx⟩
  | y :: l, cs, i + 1, x, r, h => by
    simp only [RVs] at r
    obtain ⟨v, t, rfl, _, _, hl⟩ := r
    simpa using RVs.get hl (by simpa using h)
theorem RVs.drop : ∀ {l : List AV} {cs : List Value} (n : Nat), RVs I M l cs → RVs I M (l.drop n) (cs.drop n)
  | l, cs, 0, r => by simpa using r
  | [], cs, n + 1, r => by simp only [RVs] at r; subst r; simp [RVs]
  | x :: l, cs, n + 1, r => by
    simp only [RVs] at r
    obtain ⟨v, t, rfl, _, _, hl⟩ := r
    simpa using hl.drop n
theorem RVs.take : ∀ {l : List AV} {cs : List Value} (n : Nat), RVs I M l cs → RVs I M (l.take n) (cs.take n)
  | l, cs, 0, r => by simp [RVs]
  | [], cs, n + 1, r => by simp only [RVs] at r; subst r; simp [RVs]
  | x :: l, cs, n + 1, r => by
    simp only [RVs] at r
    obtain ⟨v, t, rfl, hn, hx, hl⟩ := r
    simp only [List.take_succ_cons, RVs]
    exact ⟨v, _, rfl, hn, hx, hl.take n⟩
theorem RVs.app : ∀ {l l' : List AV} {cs cs' : List Value}, RVs I M l cs → RVs I M l' cs' → RVs I M (l ++ l') (cs ++ cs')
  | [], l', cs, cs', r, r' => by simp only [RVs] at r; subst r; simpa using r'
  | x :: l, l', cs, cs', r, r' => by
    simp only [RVs] at r
    obtain ⟨v, t, rfl, hn, hx, hl⟩ := r
    simp only [List.cons_append, RVs]
    exact ⟨v, _, rfl, hn, hx, hl.app r'⟩
theorem RVs.ofD : ∀ {l : List D} {cs : List Value}, RDs M.w M.fz l cs → RVs I M (l.map .d) cs
  | [], _, r => by simp only [RDs] at r; subst r; simp [RVs]
  | x :: l, cs, r => by
    simp only [RDs] at r
    obtain ⟨v, t, rfl, hn, hx, hl⟩ := r
    simp only [List.map_cons, RVs, RVc]
    refine ⟨v, t, rfl, ?_, hx, RVs.ofD hl⟩
    cases x <;> first | rfl | exact hn
/-- A value of one cell. -/
theorem RVc.one {x : AV} {cs : List Value} (r : RVc I M x cs) (hn : nAgV x = true) : ∃ v, cs = [v] ∧ isAgg v = false ∧ v.cells = #[v] := by
  cases x with
  | d x =>
    simp only [RVc] at r
    exact r.one (by cases x <;> first | rfl | exact hn)
  | u => simp [nAgV] at hn
  | tu => simp [nAgV] at hn
  | ag => simp [nAgV] at hn
  | p => simp only [RVc] at r; obtain ⟨q, _, rfl⟩ := r; exact ⟨_, rfl, rfl, rfl⟩
  | pe => simp only [RVc] at r; obtain ⟨b, o, rfl, _⟩ := r; exact ⟨_, rfl, rfl, rfl⟩
  | zl => simp only [RVc] at r; obtain ⟨a, rfl, _⟩ := r; exact ⟨_, rfl, rfl, rfl⟩
  | bs => simp only [RVc] at r; obtain ⟨a, c, rfl, _⟩ := r; exact ⟨_, rfl, rfl, rfl⟩
  | sl => simp only [RVc] at r; obtain ⟨q, A, _, rfl, _⟩ := r; exact ⟨_, rfl, rfl, rfl⟩
  | m => simp only [RVc] at r; obtain ⟨q, _, rfl⟩ := r; exact ⟨_, rfl, rfl, rfl⟩
  | mp => simp only [RVc] at r; obtain ⟨b, es, ck, rfl, _⟩ := r; exact ⟨_, rfl, rfl, rfl⟩
  | f => simp only [RVc] at r; obtain ⟨a, b, rfl, _⟩ := r; exact ⟨_, rfl, rfl, rfl⟩
  | _ => simp only [RVc] at r; exact ⟨_, r, rfl, rfl⟩
theorem agV_of_nAg {x : AV} (hn : nAgV x = true) : agV x = false := by
  cases x with
  | d x => cases x <;> first | rfl | simp [nAgV] at hn
  | _ => first | rfl | simp [nAgV] at hn
theorem RVs.all : ∀ {l : List AV} {cs : List Value}, RVs I M l cs → ∀ v ∈ cs, isAgg v = false ∧ v.cells = #[v]
  | [], cs, r, v, hv => by simp only [RVs] at r; subst r; simp at hv
  | x :: l, cs, r, v, hv => by
    simp only [RVs] at r
    obtain ⟨u, t, rfl, hn, hx, hl⟩ := r
    rcases List.mem_cons.1 hv with rfl | hv
    · obtain ⟨u', e, h⟩ := hx.one hn
      simp only [List.cons.injEq, and_true] at e
      subst e; exact h
    · exact hl.all v hv
theorem RVs.single {x : AV} {v : Value} (hn : nAgV x = true) (r : RVc I M x [v]) : RVs I M [x] [v] := ⟨v, [], rfl, hn, r, rfl⟩
/-- A cell's value. -/
theorem RV1.of {x : AV} {v : Value} (hn : nAgV x = true) (r : RVc I M x [v]) : RV1 I M x v := by
  obtain ⟨u, e, h1, h2⟩ := r.one hn
  simp only [List.cons.injEq, and_true] at e
  subst e
  exact .inr ⟨by rw [agV_of_nAg hn, h1], by rw [h2]; exact r⟩
theorem RV1.cell {x : AV} {v : Value} (hn : nAgV x = true) (r : RV1 I M x v) : RVc I M x [v] := by
  rcases r with rfl | ⟨h1, h2⟩
  · simp [nAgV] at hn
  · obtain ⟨u, e, h3, h4⟩ := h2.one hn
    have hv : isAgg v = false := by rw [← h1, agV_of_nAg hn]
    cases v with
    | agg cs => simp [isAgg] at hv
    | _ => exact h2
/-- The cells of a value. -/
theorem RV1.cells {x : AV} {v : Value} {l : List AV} (r : RV1 I M x v) (h : cellsV x = some l) : RVs I M l v.cells.toList := by
  rcases r with rfl | ⟨h1, h2⟩
  · simp [cellsV] at h
  · by_cases hn : nAgV x = true
    · have hl : l = [x] := by
        cases x with
        | d x => cases x <;> simp_all [cellsV, nAgV]
        | _ => simp_all [cellsV, nAgV]
      subst hl
      obtain ⟨u, e, h3, h4⟩ := h2.one hn
      rw [e] at h2 ⊢
      exact RVs.single hn h2
    · cases x with
      | d x => cases x with
        | ag l' => simp only [cellsV, Option.some.injEq] at h; subst h; simp only [RVc, RDc] at h2; exact RVs.ofD h2
        | _ => simp [nAgV] at hn
      | ag l' => simp only [cellsV, Option.some.injEq] at h; subst h; simpa only [RVc] using h2
      | u => simp [cellsV] at h
      | tu => simp [cellsV] at h
      | _ => simp [nAgV] at hn
theorem RV1.agg {l : List AV} {cs : Array Value} (r : RVs I M l cs.toList) : RV1 I M (.ag l) (.agg cs) := .inr ⟨rfl, by simpa only [RVc, Value.cells] using r⟩
theorem RV1.aggD {l : List D} {cs : Array Value} (r : RDs M.w M.fz l cs.toList) : RV1 I M (.d (.ag l)) (.agg cs) := .inr ⟨rfl, by simpa only [RVc, RDc, Value.cells] using r⟩
theorem RV1.toRV {x : AV} {v : Value} (r : RV1 I M x v) : RV I M x v := .inl r
theorem RV.one {x : AV} {v : Value} (r : RV I M x v) (h : ∀ l, x ≠ .tu l) : RV1 I M x v := by
  rcases r with r | ⟨l, vs, e, _⟩
  · exact r
  · exact absurd e (h l)
/-- Data of one cell. -/
theorem RV.data {x : D} {v : Value} (r : RV I M (.d x) v) : RDc M.w M.fz x v.cells.toList ∧ isAgg v = !nAg x := by
  rcases r.one (by simp) with h | ⟨h1, h2⟩
  · cases h
  · refine ⟨by simpa only [RVc] using h2, ?_⟩
    rw [← h1]; cases x <;> rfl
theorem RV.dcell {x : D} {v : Value} (r : RV I M (.d x) v) (hn : nAg x = true) : RDc M.w M.fz x [v] := by
  have h := (r.one (by simp)).cell (x := .d x) (by cases x <;> first | rfl | exact hn)
  simpa only [RVc] using h
theorem RV.int {k : IntKind} {n : Int} {v : Value} (r : RV I M (.d (.i k n)) v) : v = .int k n := by
  have := r.dcell rfl; simpa only [RDc, List.cons.injEq, and_true] using this
theorem RV.bool {b : Bool} {v : Value} (r : RV I M (.d (.b b)) v) : v = .bool b := by
  have := r.dcell rfl; simpa only [RDc, List.cons.injEq, and_true] using this
theorem RV.str {s : ByteArray} {v : Value} (r : RV I M (.d (.s s)) v) : v = .string s := by
  have := r.dcell rfl; simpa only [RDc, List.cons.injEq, and_true] using this
theorem RV.ofData {x : D} {v : Value} (hn : nAg x = true) (r : RDc M.w M.fz x [v]) : RV I M (.d x) v := (RV1.of (x := .d x) (by cases x <;> first | rfl | exact hn) (by simpa only [RVc] using r)).toRV
theorem RV.mkInt (k : IntKind) (n : Int) : RV I M (.d (.i k n)) (.int k n) := RV.ofData rfl (by simp only [RDc])
theorem RV.mkBool (b : Bool) : RV I M (.d (.b b)) (.bool b) := RV.ofData rfl (by simp only [RDc])
theorem RV.mkStr (s : ByteArray) : RV I M (.d (.s s)) (.string s) := RV.ofData rfl (by simp only [RDc])
theorem RV.cellOf {x : AV} {v : Value} (hn : nAgV x = true) (r : RV I M x v) : RVc I M x [v] := (r.one (by intro l e; subst e; simp [nAgV] at hn)).cell hn
theorem RV.mk {x : AV} {v : Value} (hn : nAgV x = true) (r : RVc I M x [v]) : RV I M x v := (RV1.of hn r).toRV
theorem RV.undef {v : Value} : RV I M .u v := .inl (.inl rfl)
end
end Tm
/- The same for a weaker notion of later memory: blocks that are not written may yet be frozen. No statement of the seat is proved here. -/
namespace Tm
open Go
set_option linter.unusedVariables false
structure ExtW (M M' : Mem) : Prop where
  lo : M'.lo = M.lo
  low : ∀ b, b < M.lo → M'.w.heap[b]? = M.w.heap[b]?
  fz : ∀ b, M.fz b ≤ M'.fz b
  cells : ∀ b, (cellsOf M'.w b).take (M.fz b) = (cellsOf M.w b).take (M.fz b)
theorem ExtW.e0 {M M' : Mem} (h : ExtW M M') : Ext0 M.w M.fz M'.w M'.fz := ⟨h.fz, h.cells⟩
section
variable {I I' : Inj} {M M' : Mem}
theorem cellsOf_lowW (h : ExtW M M') {b : Nat} (hb : b < M.lo) : cellsOf M'.w b = cellsOf M.w b := by simp only [cellsOf, h.low b hb]
mutual
theorem RVc.extW (h : ExtW M M') (hI : Le I I') : ∀ (x : AV) (cs : List Value), RVc I M x cs → RVc I' M' x cs
  | .d x, cs, r => by simp only [RVc] at r ⊢; exact RDc.ext h.e0 x cs r
  | .u, _, r => by simp only [RVc] at r
  | .tu _, _, r => by simp only [RVc] at r
  | .np, _, r => by simpa only [RVc] using r
  | .nm, _, r => by simpa only [RVc] using r
  | .nf, _, r => by simpa only [RVc] using r
  | .p a o, _, r => by
    simp only [RVc] at r ⊢
    obtain ⟨q, hq, e⟩ := r
    exact ⟨q, hI a q hq, e⟩
  | .pe l o, _, r => by
    simp only [RVc] at r ⊢
    obtain ⟨b, o0, e, hb, hn, hr, hnf⟩ := r
    rcases hb with hb | hb
    · refine ⟨b, o0, e, .inl (by rw [h.lo]; exact hb), ?_, ?_, hnf⟩
      · rw [cellsOf_lowW h hb]; exact hn
      · rw [cellsOf_lowW h hb]; exact RVs.extW h hI l _ hr
    · have e1 := drop_take_eq (h.cells b) hb
      refine ⟨b, o0, e, .inr (Nat.le_trans hb (h.fz b)), ?_, ?_, hnf⟩
      · have := congrArg List.length (h.cells b)
        simp only [List.length_take] at this
        omega
      · rw [e1]; exact RVs.extW h hI l _ hr
  | .zl l, _, r => by
    simp only [RVc] at r ⊢
    obtain ⟨a, e, hr⟩ := r
    refine ⟨a, e, fun hl => ?_⟩
    obtain ⟨b, o, s, ha, hs, hf, hrow⟩ := hr hl
    exact ⟨b, o, s, ha, hs, Nat.le_trans hf (h.fz b), RRow.ext h.e0 s l _ _ (drop_take_eq (h.cells b) hf) hrow⟩
  | .bs l, _, r => by
    simp only [RVc] at r ⊢
    obtain ⟨a, c, e, hc, hr⟩ := r
    refine ⟨a, c, e, hc, fun hl => ?_⟩
    obtain ⟨b, o, s, ha, hs, hb, hrow⟩ := hr hl
    exact ⟨b, o, s, ha, hs, by rw [h.lo]; exact hb, RRow.ext h.e0 s l _ _ (by rw [cellsOf_lowW h hb]) hrow⟩
  | .sl a lo n, _, r => by
    simp only [RVc] at r ⊢
    obtain ⟨q, A, hq, e⟩ := r
    exact ⟨q, A, hI a q hq, e⟩
  | .m a, _, r => by
    simp only [RVc] at r ⊢
    obtain ⟨q, hq, e⟩ := r
    exact ⟨q, hI a q hq, e⟩
  | .mp ks vs, _, r => by
    simp only [RVc] at r ⊢
    obtain ⟨b, es, ck, e, hb, hm, hk, hv, hnf⟩ := r
    exact ⟨b, es, ck, e, by rw [h.lo]; exact hb, by rw [h.low b hb]; exact hm, RDs.ext h.e0 _ _ hk, RVl.extW h hI _ _ hv, hnf⟩
  | .f g fs cps, _, r => by
    simp only [RVc] at r ⊢
    obtain ⟨a, b, e, h1, h2⟩ := r
    exact ⟨a, b, e, RVl.extW h hI _ _ h1, RVl.extW h hI _ _ h2⟩
  | .ag l, cs, r => by
    simp only [RVc] at r ⊢
    exact RVs.extW h hI l cs r
theorem RVs.extW (h : ExtW M M') (hI : Le I I') : ∀ (l : List AV) (cs : List Value), RVs I M l cs → RVs I' M' l cs
  | [], _, r => by simpa only [RVs] using r
  | x :: l, cs, r => by
    simp only [RVs] at r ⊢
    obtain ⟨v, t, e, hn, hx, hl⟩ := r
    exact ⟨v, t, e, hn, RVc.extW h hI x _ hx, RVs.extW h hI l t hl⟩
theorem RVl.extW (h : ExtW M M') (hI : Le I I') : ∀ (l : List AV) (cs : List Value), RVl I M l cs → RVl I' M' l cs
  | [], _, r => by simpa only [RVl] using r
  | x :: l, cs, r => by
    simp only [RVl] at r ⊢
    obtain ⟨v, t, e, hx, hl⟩ := r
    exact ⟨v, t, e, hx.imp id fun hx => ⟨hx.1, RVc.extW h hI x _ hx.2⟩, RVl.extW h hI l t hl⟩
end
theorem RV1.extW {x : AV} {v : Value} (h : ExtW M M') (hI : Le I I') (r : RV1 I M x v) : RV1 I' M' x v := r.imp id fun ⟨a, b⟩ => ⟨a, b.extW h hI⟩
theorem RTu.extW (h : ExtW M M') (hI : Le I I') : ∀ (l : List AV) (vs : List Value), RTu I M l vs → RTu I' M' l vs
  | [], _, r => r
  | x :: l, vs, ⟨v, t, e, hx, hl⟩ => ⟨v, t, e, hx.extW h hI, RTu.extW h hI l t hl⟩
theorem RV.extW {x : AV} {v : Value} (h : ExtW M M') (hI : Le I I') (r : RV I M x v) : RV I' M' x v := r.imp (·.extW h hI) fun ⟨l, vs, a, b, c⟩ => ⟨l, vs, a, b, c.extW h hI⟩
end
end Tm
/- The operations that leave memory alone: what the abstract machine answers is what the program's operation gives. No statement of the seat is proved here. -/
namespace Tm
open Go
set_option linter.unusedVariables false
set_option linter.unusedSimpArgs false

def ER (I : Inj) (M : Mem) (e : Env) (tmps : Array Value) : Prop := ∀ t, RV I M ((e.get t).getD .u) (tmps.getD t undef)
def GOk (G : Nat → Option AV) (M : Mem) : Prop := ∀ g av, G g = some av → nf av = true ∧ ∀ I, RV1 I M av (.pointer (some ⟨g, 0, none⟩))
/-- The operation runs and gives v. -/
def Runs (P : Program) (o : Oper) (a : Act) (w : World) (v : Value) (w' : World) : Prop :=
  (execOp a.eval o).run P w = .ok (.value v) w' ∨ ((execOp a.eval o).run P w = .ok .skip w' ∧ v = undef)
/-- The operation gives what the abstract machine gives; k: the only new name. -/
def Sims (P : Program) (I : Inj) (M : Mem) (k : Nat) (o : Oper) (a : Act) (v : AV) (h' : Heap) : Prop :=
  ∃ v' M' I', Runs P o a M.w v' M'.w ∧ Ext M M' ∧ Le I I' ∧ (∀ x, I' x ≠ none → I x ≠ none ∨ x = k) ∧ RH I' M' h' ∧ RV I' M' v v'
theorem Sims.calm {P : Program} {I : Inj} {M : Mem} {k : Nat} {o : Oper} {a : Act} {v : AV} {h : Heap} {v' : Value} (hH : RH I M h) (hr : (execOp a.eval o).run P M.w = .ok (.value v') M.w) (hv : RV I M v v') : Sims P I M k o a v h :=
  ⟨v', M, I, .inl hr, Ext.refl M, Le.refl I, fun x hx => .inl hx, hH, hv⟩

section
variable {I : Inj} {M : Mem}
theorem allD_rel : ∀ {l : List AV} {r : List D} {cs : List Value}, allD l = some r → RVs I M l cs → RDs M.w M.fz r cs
  | [], r, cs, h, hr => by simp only [allD, Option.some.injEq] at h; subst h; simpa only [RVs, RDs] using hr
  | .d x :: l, r, cs, h, hr => by
    simp only [allD] at h
    cases hl : allD l with
    | none => simp [hl] at h
    | some t =>
      simp only [hl, Option.some.injEq] at h
      subst h
      simp only [RVs, RVc] at hr
      obtain ⟨v, u, rfl, hn, hx, hu⟩ := hr
      exact ⟨v, u, rfl, by cases x <;> first | rfl | exact hn, hx, allD_rel hl hu⟩
  | .zl x :: l, r, cs, h, hr => by
    simp only [allD] at h
    cases hl : allD l with
    | none => simp [hl] at h
    | some t =>
      simp only [hl, Option.some.injEq] at h
      subst h
      simp only [RVs, RVc] at hr
      obtain ⟨v, u, rfl, hn, ⟨A, e, hx⟩, hu⟩ := hr
      refine ⟨v, u, rfl, rfl, ?_, allD_rel hl hu⟩
      simp only [RDc]
      exact ⟨A, x.length, e, Nat.le_refl _, fun h0 => by simp [h0], hx⟩
  | .u :: _, _, _, h, _ => by simp [allD] at h
  | .np :: _, _, _, h, _ => by simp [allD] at h
  | .nm :: _, _, _, h, _ => by simp [allD] at h
  | .nf :: _, _, _, h, _ => by simp [allD] at h
  | .p _ _ :: _, _, _, h, _ => by simp [allD] at h
  | .pe _ _ :: _, _, _, h, _ => by simp [allD] at h
  | .bs _ :: _, _, _, h, _ => by simp [allD] at h
  | .sl _ _ _ :: _, _, _, h, _ => by simp [allD] at h
  | .m _ :: _, _, _, h, _ => by simp [allD] at h
  | .mp _ _ :: _, _, _, h, _ => by simp [allD] at h
  | .f _ _ _ :: _, _, _, h, _ => by simp [allD] at h
  | .ag _ :: _, _, _, h, _ => by simp [allD] at h
  | .tu _ :: _, _, _, h, _ => by simp [allD] at h
theorem RVc.nil_slice : RVc I M (.zl []) [.slice none 0 0] := by simp only [RVc]; exact ⟨none, rfl, fun h => absurd rfl h⟩
mutual
theorem ofV_rel : ∀ (v : Value) (x : AV), ofV v = some x → RV1 I M x v
  | .int k n, x, h => by simp only [ofV, Option.some.injEq] at h; subst h; exact RV1.of rfl (by simp only [RVc, RDc])
  | .bool b, x, h => by simp only [ofV, Option.some.injEq] at h; subst h; exact RV1.of rfl (by simp only [RVc, RDc])
  | .string s, x, h => by simp only [ofV, Option.some.injEq] at h; subst h; exact RV1.of rfl (by simp only [RVc, RDc])
  | .pointer none, x, h => by simp only [ofV, Option.some.injEq] at h; subst h; exact RV1.of rfl (by simp only [RVc])
  | .slice none 0 0, x, h => by simp only [ofV, Option.some.injEq] at h; subst h; exact RV1.of rfl RVc.nil_slice
  | .map none, x, h => by simp only [ofV, Option.some.injEq] at h; subst h; exact RV1.of rfl (by simp only [RVc])
  | .nilFunc, x, h => by simp only [ofV, Option.some.injEq] at h; subst h; exact RV1.of rfl (by simp only [RVc])
  | .nilIface, x, h => by simp only [ofV, Option.some.injEq] at h; subst h; exact RV1.of rfl (by simp only [RVc, RDc])
  | .func (.func g) ⟨[]⟩ ⟨[]⟩, x, h => by simp only [ofV, Option.some.injEq] at h; subst h; exact RV1.of rfl (by simp only [RVc]; exact ⟨_, _, rfl, by simp only [RVl], by simp only [RVl]⟩)
  | .agg ⟨cs⟩, x, h => by
    simp only [ofV] at h
    cases hl : ofVs cs with
    | none => simp [hl] at h
    | some l =>
      simp only [hl] at h
      cases ha : l.all nAgV with
      | false => simp [ha] at h
      | true =>
        simp only [ha, cond_true] at h
        have hr := ofVs_rel cs l hl ha
        cases hd : allD l with
        | none => simp only [hd, Option.some.injEq] at h; subst h; exact RV1.agg hr
        | some r => simp only [hd, Option.some.injEq] at h; subst h; exact RV1.aggD (allD_rel hd hr)
  | .float .., x, h => by simp [ofV] at h
  | .complex .., x, h => by simp [ofV] at h
  | .pointer (some _), x, h => by simp [ofV] at h
  | .slice (some _) _ _, x, h => by simp [ofV] at h
  | .slice none (_ + 1) _, x, h => by simp [ofV] at h
  | .slice none 0 (_ + 1), x, h => by simp [ofV] at h
  | .map (some _), x, h => by simp [ofV] at h
  | .chan _, x, h => by simp [ofV] at h
  | .func (.method _) _ _, x, h => by simp [ofV] at h
  | .func (.methodOf _ _) _ _, x, h => by simp [ofV] at h
  | .func (.via _ _ _ _) _ _, x, h => by simp [ofV] at h
  | .func (.yield _) _ _, x, h => by simp [ofV] at h
  | .func (.func _) ⟨_ :: _⟩ _, x, h => by simp [ofV] at h
  | .func (.func _) ⟨[]⟩ ⟨_ :: _⟩, x, h => by simp [ofV] at h
  | .iface _ _, x, h => by simp [ofV] at h
  | .tuple _, x, h => by simp [ofV] at h
theorem ofVs_rel : ∀ (cs : List Value) (l : List AV), ofVs cs = some l → l.all nAgV = true → RVs I M l cs
  | [], l, h, _ => by simp only [ofVs, Option.some.injEq] at h; subst h; simp [RVs]
  | v :: vs, l, h, ha => by
    simp only [ofVs] at h
    cases hv : ofV v with
    | none => simp [hv] at h
    | some x =>
      cases hvs : ofVs vs with
      | none => simp [hv, hvs] at h
      | some t =>
        simp only [hv, hvs, Option.some.injEq] at h
        subst h
        simp only [List.all_cons, Bool.and_eq_true] at ha
        exact ⟨v, vs, rfl, ha.1, (ofV_rel v x hv).cell ha.1, ofVs_rel vs t hvs ha.2⟩
end
variable {G : Nat → Option AV} {e : Env} {a : Act}
theorem opd_rel (hG : GOk G M) (hE : ER I M e a.tmps) {x : Operand} {o : Opd} (h : opd G x = some o) : RV I M (o.ev e) (a.eval x) := by
  cases x with
  | tmp t => simp only [opd, Option.some.injEq] at h; subst h; exact hE t
  | const v =>
    simp only [opd, Option.map_eq_some_iff] at h
    obtain ⟨av, hv, rfl⟩ := h
    exact (ofV_rel v av hv).toRV
  | global g =>
    simp only [opd, Option.map_eq_some_iff] at h
    obtain ⟨av, hv, rfl⟩ := h
    exact ((hG g av hv).2 I).toRV
  | func f =>
    simp only [opd, Option.some.injEq] at h
    subst h
    exact RV.mk rfl (by simp only [Opd.ev, RVc]; exact ⟨_, _, rfl, by simp only [RVl], by simp only [RVl]⟩)
theorem natA_rel {x : AV} {v : Value} {n : Nat} (r : RV I M x v) (h : natA x = some n) : ∃ k, v = .int k n := by
  unfold natA at h
  split at h
  · simp only [Option.some.injEq] at h; subst h; exact ⟨_, r.int⟩
  · cases h
end
end Tm
/- More of them: arithmetic, comparisons, strings, parts of values. No statement of the seat is proved here. -/
namespace Tm
open Go
set_option linter.unusedVariables false
set_option linter.unusedSimpArgs false
section
variable {P : Program} {G : Nat → Option AV} {I : Inj} {M : Mem} {e : Env} {h h' : Heap} {a : Act} {k : Nat} {v : AV} {o : Oper}
theorem sim_mv (hG : GOk G M) (hE : ER I M e a.tmps) (hH : RH I M h) {x : Operand} {c : Opd} (ho : o.op = .move x ∨ o.op = .assign x) (hc : opd G x = some c) (hev : evOp (.mv c) e h k = some (v, h')) : Sims P I M k o a v h' := by
  simp only [evOp, Option.some.injEq, Prod.mk.injEq] at hev
  obtain ⟨rfl, rfl⟩ := hev
  refine Sims.calm hH ?_ (opd_rel hG hE hc)
  rcases ho with ho | ho <;> simp [execOp, ho]
theorem sim_pick (hG : GOk G M) (hE : ER I M e a.tmps) (hH : RH I M h) {x y z : Operand} {cx cy cz : Opd} (ho : o.op = .pick x y z) (hx : opd G x = some cx) (hy : opd G y = some cy) (hz : opd G z = some cz) (hev : evOp (.pick cx cy cz) e h k = some (v, h')) : Sims P I M k o a v h' := by
  have rx := opd_rel hG hE hx
  simp only [evOp] at hev
  split at hev
  · rename_i hb
    simp only [Option.some.injEq, Prod.mk.injEq] at hev
    obtain ⟨rfl, rfl⟩ := hev
    rw [hb] at rx
    refine Sims.calm hH ?_ (opd_rel hG hE hy)
    simp [execOp, ho, rx.bool, asBool]
  · rename_i hb
    simp only [Option.some.injEq, Prod.mk.injEq] at hev
    obtain ⟨rfl, rfl⟩ := hev
    rw [hb] at rx
    refine Sims.calm hH ?_ (opd_rel hG hE hz)
    simp [execOp, ho, rx.bool, asBool]
  · cases hev
theorem RV.ptr {n : Nat} {i : Nat} {u : Value} (r : RV I M (.p n i) u) : ∃ q, I n = some q ∧ u = .pointer (some ⟨q.b, q.o + i, none⟩) := by
  have := r.cellOf rfl
  simp only [RVc] at this
  obtain ⟨q, hq, e⟩ := this
  simp only [List.cons.injEq, and_true] at e
  exact ⟨q, hq, e⟩
theorem RV.pe {l : List AV} {i : Nat} {u : Value} (r : RV I M (.pe l i) u) : ∃ b o0, u = .pointer (some ⟨b, o0 + i, none⟩) ∧ (b < M.lo ∨ o0 + l.length ≤ M.fz b) ∧ o0 + l.length ≤ (cellsOf M.w b).length ∧ RVs I M l (((cellsOf M.w b).drop o0).take l.length) ∧ nfs l = true := by
  have := r.cellOf rfl
  simp only [RVc] at this
  obtain ⟨b, o0, e, h⟩ := this
  simp only [List.cons.injEq, and_true] at e
  exact ⟨b, o0, e, h⟩
theorem RV.fn {g : Nat} {fs cs : List AV} {u : Value} (r : RV I M (.f g fs cs) u) : ∃ x y, u = .func (.func g) x y ∧ RVl I M fs x.toList ∧ RVl I M cs y.toList := by
  have := r.cellOf rfl
  simp only [RVc] at this
  obtain ⟨b, o0, e, h⟩ := this
  simp only [List.cons.injEq, and_true] at e
  exact ⟨b, o0, e, h⟩
theorem sim_nilc (hG : GOk G M) (hE : ER I M e a.tmps) (hH : RH I M h) {x : Operand} {c : Opd} (ho : o.op = .nilCheck x) (hc : opd G x = some c) (hev : evOp (.nilc c) e h k = some (v, h')) : Sims P I M k o a v h' := by
  have rx := opd_rel hG hE hc
  simp only [evOp] at hev
  split at hev
  · rename_i hb
    simp only [Option.some.injEq, Prod.mk.injEq] at hev
    obtain ⟨rfl, rfl⟩ := hev
    rw [hb] at rx
    obtain ⟨q, _, hq⟩ := rx.ptr
    refine Sims.calm hH ?_ rx
    simp only [execOp, ho, hq]; rfl
  · rename_i hb
    simp only [Option.some.injEq, Prod.mk.injEq] at hev
    obtain ⟨rfl, rfl⟩ := hev
    rw [hb] at rx
    obtain ⟨b, o0, hq, _⟩ := rx.pe
    refine Sims.calm hH ?_ rx
    simp only [execOp, ho, hq]; rfl
  · rename_i hb
    simp only [Option.some.injEq, Prod.mk.injEq] at hev
    obtain ⟨rfl, rfl⟩ := hev
    rw [hb] at rx
    obtain ⟨b, o0, hq, _⟩ := rx.fn
    refine Sims.calm hH ?_ rx
    simp only [execOp, ho, hq]; rfl
  · cases hev
theorem blt_lt {a b : Nat} (h : Nat.blt a b = true) : a < b := by simpa using h
theorem ble_le {a b : Nat} (h : Nat.ble a b = true) : a ≤ b := by simpa using h
/-- A result of one cell. -/
def Gives (P : Program) (w : World) (fz : Nat → Nat) (s : Sem Value) (d : D) : Prop := ∃ u, s.run P w = .ok u w ∧ nAg d = true ∧ RDc w fz d [u]
theorem gives_int {w : World} {fz : Nat → Nat} {op : BinOp} {kd : IntKind} {x y : Int} {d : D} {t : TypeId} (hop : op ≠ .shl ∧ op ≠ .shr) (hb : binI op kd x y = some d) : Gives P w fz (binOp op t (.int kd x) (.int kd y)) d := by
  cases op <;> simp only [binI, reduceCtorEq, Option.some.injEq] at hb <;> try subst hb
  case quo =>
    by_cases h0 : y = 0
    · simp [h0] at hb
    · have : (y == 0) = false := by simpa using h0
      simp only [this, cond_false, Option.some.injEq] at hb
      subst hb
      exact ⟨_, by simp [binOp, Op.intDiv, h0]; rfl, rfl, by simp only [RDc]⟩
  case rem =>
    by_cases h0 : y = 0
    · simp [h0] at hb
    · have : (y == 0) = false := by simpa using h0
      simp only [this, cond_false, Option.some.injEq] at hb
      subst hb
      exact ⟨_, by simp [binOp, Op.intDiv, h0]; rfl, rfl, by simp only [RDc]⟩
  all_goals exact ⟨_, by simp only [binOp, ne_eq, not_true_eq_false, if_false]; rfl, rfl, by simp only [RDc]⟩
theorem gives_str {w : World} {fz : Nat → Nat} {op : BinOp} {x y : ByteArray} {d : D} {t : TypeId} (hb : binS op x y = some d) : Gives P w fz (binOp op t (.string x) (.string y)) d := by
  cases op <;> simp only [binS, reduceCtorEq, Option.some.injEq] at hb <;> try subst hb
  case add =>
    cases hl : Nat.blt (x.size + y.size) 4611686018427387904 with
    | false => simp [hl] at hb
    | true =>
      simp only [hl, cond_true, Option.some.injEq] at hb
      subst hb
      have : ¬((x.size + y.size : Nat) : Int) > IntKind.i64.max := by
        have := blt_lt hl
        simp only [IntKind.max, IntKind.signed, IntKind.bits, if_true]
        omega
      exact ⟨_, by simp only [binOp, Op.stringOp, if_neg this]; rfl, rfl, by simp only [RDc]⟩
  all_goals exact ⟨_, by simp only [binOp, Op.stringOp]; rfl, rfl, by simp only [RDc]⟩
theorem equal_eq : ∃ n, ∀ (t : TypeId) (x y : Value), Op.equal t x y = Op.equalIn (n + 1) t x y := ⟨9999, fun _ _ _ => rfl⟩
theorem gives_eq {w : World} {fz : Nat → Nat} {op : BinOp} {t : TypeId} {u u' : Value} {b : Bool} {d : D} (hd : eqn op b = some d) (he : (Op.equal t u u').run P w = .ok b w) (hb : ∀ op, op = .eql ∨ op = .neq → binOp op t u u' = (match op with | .eql => do pure (.bool (← Op.equal t u u')) | _ => do pure (.bool (!(← Op.equal t u u'))))) : Gives P w fz (binOp op t u u') d := by
  cases op <;> simp only [eqn, reduceCtorEq, Option.some.injEq] at hd <;> subst hd
  · refine ⟨.bool b, ?_, rfl, by simp only [RDc]⟩
    rw [hb _ (.inl rfl)]; simp [he]
  · refine ⟨.bool (!b), ?_, rfl, by simp only [RDc]⟩
    rw [hb _ (.inr rfl)]; simp [he]
theorem run_underlying {w : World} {t : TypeId} {d : TypeDesc} (h : P.underlying t = some d) : (underlying t).run P w = .ok d w := by simp [underlying, h]
/-! ### Arrays of two integers -/
theorem arr2_spec {t : TypeId} (h : arr2 P t = true) : ∃ e k, P.underlying t = some (.array 2 e) ∧ P.underlying e = some (.int k) ∧ szOf P e = some 1 ∧ P.eqGuardType P.depth t = false := by
  unfold arr2 at h
  split at h
  · rename_i n e hu
    simp only [Bool.and_eq_true, beq_iff_eq, Bool.not_eq_true'] at h
    obtain ⟨⟨⟨rfl, h2⟩, h3⟩, h4⟩ := h
    split at h2
    · rename_i k hk
      exact ⟨e, k, hu, hk, h3, h4⟩
    · cases h2
  · cases h
theorem intsEq_two {x1 x2 y1 y2 : AV} {b : Bool} (h : intsEq [x1, x2] [y1, y2] = some b) : ∃ k1 a1 c1, x1 = .d (.i k1 a1) ∧ y1 = .d (.i k1 c1) ∧ ((a1 ≠ c1 ∧ b = false) ∨ (a1 = c1 ∧ ∃ k2 a2 c2, x2 = .d (.i k2 a2) ∧ y2 = .d (.i k2 c2) ∧ b = (a2 == c2))) := by
  unfold intsEq at h
  split at h
  · rename_i h1 h2
    simp at h1
  · rename_i k1 a1 l k1' c1 l' h1 h2
    simp only [List.cons.injEq] at h1 h2
    obtain ⟨rfl, rfl⟩ := h1
    obtain ⟨rfl, rfl⟩ := h2
    cases hk : k1 == k1' with
    | false => simp [hk] at h
    | true =>
      have : k1 = k1' := by simpa using hk
      subst this
      simp only [hk, cond_true] at h
      refine ⟨_, _, _, rfl, rfl, ?_⟩
      cases hac : a1 == c1 with
      | false =>
        simp only [hac, Option.some.injEq] at h
        exact .inl ⟨by simpa using hac, h.symm⟩
      | true =>
        simp only [hac] at h
        refine .inr ⟨by simpa using hac, ?_⟩
        unfold intsEq at h
        split at h
        · rename_i h1 h2
          simp at h1
        · rename_i k2 a2 l k2' c2 l' h1 h2
          simp only [List.cons.injEq] at h1 h2
          obtain ⟨rfl, rfl⟩ := h1
          obtain ⟨rfl, rfl⟩ := h2
          cases hk : k2 == k2' with
          | false => simp [hk] at h
          | true =>
            have : k2 = k2' := by simpa using hk
            subst this
            simp only [hk, cond_true] at h
            refine ⟨_, _, _, rfl, rfl, ?_⟩
            cases hac2 : a2 == c2 with
            | false => simp only [hac2, Option.some.injEq] at h; exact h.symm
            | true => simp [hac2, intsEq] at h; exact h
        · cases h
  · cases h
theorem two_cells {x : AV} {u : Value} {x1 x2 : AV} (r : RV I M x u) (h : cellsV x = some [x1, x2]) : ∃ w1 w2, u = .agg #[w1, w2] ∧ RVc I M x1 [w1] ∧ RVc I M x2 [w2] := by
  have h1 := (r.one (by intro l e; subst e; simp [cellsV] at h)).cells h
  simp only [RVs] at h1
  obtain ⟨w1, r1, e1, _, h2, w2, r2, e2, _, h3, e3⟩ := h1
  subst e3
  rw [e2] at e1
  refine ⟨w1, w2, ?_, h2, h3⟩
  cases u with
  | agg cs =>
    simp only [Value.cells] at e1
    rw [← Array.toArray_toList (xs := cs), e1]
  | _ => simp [Value.cells] at e1
theorem int_cell {k : IntKind} {a : Int} {w1 : Value} (h : RVc I M (.d (.i k a)) [w1]) : w1 = .int k a := by
  simpa only [RVc, RDc, List.cons.injEq, and_true] using h
theorem guard_agg {w : World} {op : BinOp} {t : TypeId} {x y : Operand} {cs ds : Array Value} (h : P.eqGuardType P.depth t = false) : (eqGuard op t x y (.agg cs) (.agg ds)).run P w = .ok () w := by
  cases op <;> simp [eqGuard, program, Sem.run, h]
theorem run_agg0 {w : World} {t : TypeId} {k : IntKind} (hu : P.underlying t = some (.int k)) : (Go.isAgg t).run P w = Result.ok false w := by
  simp [Go.isAgg, run_underlying hu]
theorem equal_two : ∃ n, ∀ (t : TypeId) (x y : Value), Op.equal t x y = Op.equalIn (n + 1 + 1) t x y := ⟨9998, fun _ _ _ => rfl⟩
theorem eq_arr2 {w : World} {t e : TypeId} {k k1 : IntKind} {a1 c1 : Int} {x2 y2 : Value} {b : Bool} (ht : P.underlying t = some (.array 2 e)) (he : P.underlying e = some (.int k)) (hz : szOf P e = some 1) (hb : (a1 ≠ c1 ∧ b = false) ∨ (a1 = c1 ∧ ∃ k2 a2 c2, x2 = .int k2 a2 ∧ y2 = .int k2 c2 ∧ b = (a2 == c2))) :
    (Op.equal t (.agg #[.int k1 a1, x2]) (.agg #[.int k1 c1, y2])).run P w = Result.ok b w := by
  obtain ⟨n, hn⟩ := equal_two
  rw [hn]
  have hsz : (Go.sizeOf e).run P w = Result.ok 1 w := by
    unfold szOf at hz
    cases hi : P.info? e with
    | none => simp [hi] at hz
    | some i =>
      simp only [hi, Option.map_some, Option.some.injEq] at hz
      simp [Go.sizeOf, typeInfo, hi, hz]
  unfold Op.equalIn
  simp only [Sem.run_bind, run_underlying ht, Result.andThen_ok, hsz, Std.Legacy.Range.forIn_eq_forIn_range', Std.Legacy.Range.size, Nat.sub_zero, Nat.reduceAdd, Nat.reduceDiv, Nat.reduceSub, Nat.div_one, Nat.add_one_sub_one]
  have hp : ∀ (cs : Array Value) (i : Nat) (v : Value), cs[i]? = some v → (part e cs i).run P w = Result.ok v w := fun cs i v h => by
    simp only [part, Sem.run_bind, run_agg0 he, Result.andThen_ok, Bool.false_eq_true, if_false, h, Sem.run_pure]
  have hi : ∀ (k : IntKind) (x y : Int), (Op.equalIn (n + 1) e (.int k x) (.int k y)).run P w = Result.ok (x == y) w := fun k x y => by
    simp only [Op.equalIn, Sem.run_bind, run_underlying he, Result.andThen_ok, if_true, Sem.run_pure]
  have p0 : ∀ (x : Int) (v : Value), (part e #[.int k1 x, v] 0).run P w = Result.ok (.int k1 x) w := fun x v => hp _ 0 _ rfl
  have p1 : ∀ (x : Int) (v : Value), (part e #[.int k1 x, v] 1).run P w = Result.ok v w := fun x v => hp _ 1 _ rfl
  simp only [List.range'_succ, List.range'_zero, List.forIn_cons, List.forIn_nil, Sem.run_bind, p0, p1, Nat.zero_mul, Nat.mul_one, Nat.zero_add, Result.andThen_ok, hi]
  rcases hb with ⟨h1, rfl⟩ | ⟨rfl, k2, a2, c2, rfl, rfl, rfl⟩
  · have h1' : (a1 == c1) = false := by simpa using h1
    simp [Sem.run, h1']
  · cases h2 : a2 == c2 <;> simp [Sem.run, p1, hi, h2]
theorem sim_bin (hG : GOk G M) (hE : ER I M e a.tmps) (hH : RH I M h) {op : BinOp} {x y : Operand} {cx cy : Opd} {t ty : TypeId} (ho : o.op = .binOp op t x y ty) (hx : opd G x = some cx) (hy : opd G y = some cy) (hev : evOp (.bin op (tagOf P t x y) cx cy) e h k = some (v, h')) : Sims P I M k o a v h' := by
  have rx := opd_rel hG hE hx
  have ry := opd_rel hG hE hy
  simp only [evOp] at hev
  generalize hvx : cx.ev e = vx at hev rx
  generalize hvy : cy.ev e = vy at hev ry
  cases hA : binA op (tagOf P t x y) vx vy with
  | none => simp [hA] at hev
  | some d =>
    simp only [hA, Option.some.injEq, Prod.mk.injEq] at hev
    obtain ⟨rfl, rfl⟩ := hev
    have key : ∀ {u u' : Value}, a.eval x = u → a.eval y = u' → (eqGuard op t x y u u').run P M.w = .ok () M.w → Gives P M.w M.fz (binOp op t u u') d → Sims P I M k o a (.d d) h := by
      intro u u' h1 h2 h3 ⟨r, hr, hn, hd⟩
      refine Sims.calm hH ?_ (RV.ofData hn hd)
      simp [execOp, ho, h1, h2, h3, hr]
    unfold binA at hA
    split at hA
    · rename_i k1 a1 k2 a2
      refine key rx.int ry.int (by cases op <;> rfl) ?_
      split at hA
      · by_cases h0 : a2 < 0
        · simp [h0] at hA
        · have : decide (a2 < 0) = false := by simpa using h0
          simp only [this, cond_false, Option.some.injEq] at hA
          subst hA
          exact ⟨_, by simp only [binOp, Op.shift, if_neg h0]; rfl, rfl, by simp only [RDc]⟩
      · by_cases h0 : a2 < 0
        · simp [h0] at hA
        · have : decide (a2 < 0) = false := by simpa using h0
          simp only [this, cond_false, Option.some.injEq] at hA
          subst hA
          exact ⟨_, by simp only [binOp, Op.shift, if_neg h0]; rfl, rfl, by simp only [RDc]⟩
      · rename_i hs1 hs2
        cases hk : k1 == k2 with
        | false => simp [hk] at hA
        | true =>
          have : k1 = k2 := by simpa using hk
          subst this
          simp only [hk, cond_true] at hA
          exact gives_int ⟨fun e => hs1 e, fun e => hs2 e⟩ hA
    · exact key rx.str ry.str (by cases op <;> rfl) (gives_str hA)
    · rename_i xa ya _ _
      cases ht : tagOf P t x y == 1 with
      | false => simp [ht] at hA
      | true =>
        simp only [ht, cond_true] at hA
        have hu : P.underlying t = some .bool := by
          have : tagOf P t x y = 1 := by simpa using ht
          unfold tagOf at this
          split at this
          · assumption
          · simp at this
          · cases hcc : isC x || isC y <;> simp [hcc] at this
          · cases hcc : arr2 P t <;> simp [hcc] at this
          · simp at this
        refine key rx.bool ry.bool (by cases op <;> rfl) (gives_eq hA ?_ ?_)
        · obtain ⟨n, hn⟩ := equal_eq; rw [hn]; simp only [Op.equalIn, Sem.run_bind, run_underlying hu, Result.andThen_ok]; rfl
        · rintro op (rfl | rfl) <;> rfl
    · cases ht : tagOf P t x y == 3 with
      | false => simp [ht] at hA
      | true =>
        simp only [ht, cond_true] at hA
        have ht' : tagOf P t x y = 3 := by simpa using ht
        have hu : (∃ ms, P.underlying t = some (.interface ms)) ∧ (isC x || isC y) = true := by
          unfold tagOf at ht'
          split at ht'
          · simp at ht'
          · simp at ht'
          · rename_i ms hms
            refine ⟨⟨ms, hms⟩, ?_⟩
            cases hcc : isC x || isC y <;> simp [hcc] at ht' ⊢
          · cases hcc : arr2 P t <;> simp [hcc] at ht'
          · simp at ht'
        obtain ⟨⟨ms, hu⟩, hcc⟩ := hu
        have hxn : a.eval x = .nilIface := by
          have := rx.dcell rfl; simpa only [RDc, List.cons.injEq, and_true] using this
        have hyn : a.eval y = .nilIface := by
          have := ry.dcell rfl; simpa only [RDc, List.cons.injEq, and_true] using this
        refine key hxn hyn ?_ (gives_eq hA ?_ ?_)
        · cases x <;> cases y <;> first | (simp [isC] at hcc; done) | (cases op <;> rfl)
        · obtain ⟨n, hn⟩ := equal_eq; rw [hn]; simp only [Op.equalIn, Sem.run_bind, run_underlying hu, Result.andThen_ok]; rfl
        · rintro op (rfl | rfl) <;> rfl
    all_goals first
      | (cases ht : tagOf P t x y == 2 with
        | false => simp [ht] at hA
        | true =>
          simp only [ht, cond_true] at hA
          have ht' : tagOf P t x y = 2 := by simpa using ht
          have hu : ∃ el, P.underlying t = some (.pointer el) := by
            unfold tagOf at ht'
            split at ht'
            · simp at ht'
            · rename_i el hel; exact ⟨el, hel⟩
            · cases hcc : isC x || isC y <;> simp [hcc] at ht'
            · cases hcc : arr2 P t <;> simp [hcc] at ht'
            · simp at ht'
          obtain ⟨el, hu⟩ := hu
          have hyn : a.eval y = .pointer none := by
            have := ry.cellOf rfl; simpa only [RVc, List.cons.injEq, and_true] using this
          first
            | (have hxn : a.eval x = .pointer none := by
                have := rx.cellOf rfl; simpa only [RVc, List.cons.injEq, and_true] using this
               refine key hxn hyn (by cases op <;> rfl) (gives_eq hA ?_ ?_)
               · obtain ⟨n, hn⟩ := equal_eq; rw [hn]; simp only [Op.equalIn, Sem.run_bind, run_underlying hu, Result.andThen_ok]; rfl
               · rintro op (rfl | rfl) <;> rfl)
            | (obtain ⟨q, _, hxn⟩ := rx.ptr
               refine key hxn hyn (by cases op <;> rfl) (gives_eq hA ?_ ?_)
               · obtain ⟨n, hn⟩ := equal_eq; rw [hn]; simp only [Op.equalIn, Sem.run_bind, run_underlying hu, Result.andThen_ok]; rfl
               · rintro op (rfl | rfl) <;> rfl)
            | (obtain ⟨b, o0, hxn, _⟩ := rx.pe
               refine key hxn hyn (by cases op <;> rfl) (gives_eq hA ?_ ?_)
               · obtain ⟨n, hn⟩ := equal_eq; rw [hn]; simp only [Op.equalIn, Sem.run_bind, run_underlying hu, Result.andThen_ok]; rfl
               · rintro op (rfl | rfl) <;> rfl))
      | skip
    · rename_i hne _
      cases ht : tagOf P t x y == 5 with
      | false => simp [ht] at hA
      | true =>
        have ht' : tagOf P t x y = 5 := by simpa using ht
        have h2 : arr2 P t = true := by
          unfold tagOf at ht'
          split at ht'
          · simp at ht'
          · simp at ht'
          · cases hcc : isC x || isC y <;> simp [hcc] at ht'
          · cases hcc : arr2 P t with
            | true => rfl
            | false => simp [hcc] at ht'
          · simp at ht'
        obtain ⟨e0, kk, hu, he, hz, hq⟩ := arr2_spec h2
        simp only [ht, cond_true] at hA
        unfold binG at hA
        split at hA
        · rename_i x1 x2 y1 y2 hcx hcy
          split at hA
          · rename_i b hb
            obtain ⟨k1, a1, c1, rfl, rfl, hbb⟩ := intsEq_two hb
            obtain ⟨w1, w2, ux, q1, q2⟩ := two_cells rx hcx
            obtain ⟨w3, w4, uy, q3, q4⟩ := two_cells ry hcy
            have := int_cell q1
            have := int_cell q3
            subst w1 w3
            refine key ux uy (guard_agg hq) (gives_eq hA (eq_arr2 hu he hz ?_) ?_)
            · rcases hbb with h | ⟨h, k2, a2, c2, rfl, rfl, h3⟩
              · exact .inl h
              · exact .inr ⟨h, k2, a2, c2, int_cell q2, int_cell q4, h3⟩
            · rintro op (rfl | rfl) <;> rfl
          · cases hA
        · cases hA
end
end Tm
/- More of them: parts of values, addresses, slices that are only read. No statement of the seat is proved here. -/
namespace Tm
open Go
set_option linter.unusedVariables false
set_option linter.unusedSimpArgs false
section
variable {P : Program} {G : Nat → Option AV} {I : Inj} {M : Mem} {e : Env} {h h' : Heap} {a : Act} {k : Nat} {v : AV} {o : Oper}
theorem add_none (b x n : Nat) : (⟨b, x, none⟩ : Addr).add n = ⟨b, x + n, none⟩ := by unfold Addr.add; split <;> simp_all
theorem run_sizeOf {w : World} {t : TypeId} {i : TypeInfo} (hi : P.info? t = some i) : (Go.sizeOf t).run P w = .ok i.size w := by simp [Go.sizeOf, typeInfo, hi]
theorem run_typeInfo {w : World} {t : TypeId} {i : TypeInfo} (hi : P.info? t = some i) : (typeInfo t).run P w = .ok i w := by simp [typeInfo, hi]
theorem run_isAgg {w : World} {t : TypeId} {g : Bool} (hg : aggB P t = some g) : (Go.isAgg t).run P w = .ok g w := by
  unfold aggB at hg
  split at hg <;> simp only [Option.some.injEq, reduceCtorEq] at hg <;> subst hg
  · rename_i hu; simp [Go.isAgg, run_underlying hu]
  · rename_i hu; simp [Go.isAgg, run_underlying hu]
  · rename_i d h1 h2 hu
    simp only [Go.isAgg, Sem.run_bind, run_underlying hu, Result.andThen_ok]
    cases d <;> first | rfl | exact (h1 _ hu).elim | exact (h2 _ _ hu).elim
theorem sim_un (hG : GOk G M) (hE : ER I M e a.tmps) (hH : RH I M h) {op : UnOp} {x : Operand} {c : Opd} {t : TypeId} (ho : o.op = .unOp op t x) (hx : opd G x = some c) (hev : evOp (.un op c) e h k = some (v, h')) : Sims P I M k o a v h' := by
  have rx := opd_rel hG hE hx
  simp only [evOp] at hev
  cases hA : unA op (c.ev e) with
  | none => simp [hA] at hev
  | some d =>
    simp only [hA, Option.some.injEq, Prod.mk.injEq] at hev
    obtain ⟨rfl, rfl⟩ := hev
    unfold unA at hA
    split at hA
    · rename_i hc
      rw [hc] at rx
      simp only [Option.some.injEq] at hA
      subst hA
      refine Sims.calm hH ?_ (RV.mkBool _)
      simp [execOp, ho, rx.bool, Op.unary]
    · rename_i hc
      rw [hc] at rx
      simp only [Option.some.injEq] at hA
      subst hA
      refine Sims.calm hH ?_ (RV.mkInt _ _)
      simp [execOp, ho, rx.int, Op.unary, Op.intArith]
    · cases hA
theorem sim_conv (hG : GOk G M) (hE : ER I M e a.tmps) (hH : RH I M h) {x : Operand} {c : Opd} {s d : TypeId} {k0 kd : IntKind} (ho : o.op = .convert s d x) (hs : P.underlying s = some (.int k0)) (hd : P.underlying d = some (.int kd)) (hx : opd G x = some c) (hev : evOp (.conv kd c) e h k = some (v, h')) : Sims P I M k o a v h' := by
  have rx := opd_rel hG hE hx
  simp only [evOp] at hev
  split at hev
  · rename_i hc
    rw [hc] at rx
    simp only [Option.some.injEq, Prod.mk.injEq] at hev
    obtain ⟨rfl, rfl⟩ := hev
    refine Sims.calm hH ?_ (RV.mkInt _ _)
    simp only [execOp, ho, rx.int, convert, Sem.run_bind, run_underlying hs, run_underlying hd, Result.andThen_ok]
    rfl
  · cases hev
theorem sim_cvs (hG : GOk G M) (hE : ER I M e a.tmps) (hH : RH I M h) {x : Operand} {c : Opd} {s d : TypeId} (ho : o.op = .convert s d x) (hs : P.underlying s = some .string) (hd : P.underlying d = some .string) (hx : opd G x = some c) (hev : evOp (.cvs c) e h k = some (v, h')) : Sims P I M k o a v h' := by
  have rx := opd_rel hG hE hx
  simp only [evOp] at hev
  split at hev
  · rename_i hc
    rw [hc] at rx
    simp only [Option.some.injEq, Prod.mk.injEq] at hev
    obtain ⟨rfl, rfl⟩ := hev
    refine Sims.calm hH ?_ (RV.mkStr _)
    simp only [execOp, ho, rx.str, convert, Sem.run_bind, run_underlying hs, run_underlying hd, Result.andThen_ok]
    rfl
  · cases hev
theorem opds_rel (hG : GOk G M) (hE : ER I M e a.tmps) : ∀ {l : List Operand} {c : List Opd}, opds G l = some c → (evs e c).all okV = true → RVl I M (evs e c) (l.map a.eval)
  | [], c, hc, _ => by simp only [opds, Option.some.injEq] at hc; subst hc; simp [evs, RVl]
  | x :: l, c, hc, ha => by
    simp only [opds] at hc
    cases hx : opd G x with
    | none => simp [hx] at hc
    | some y =>
      cases hl : opds G l with
      | none => simp [hx, hl] at hc
      | some r =>
        simp only [hx, hl, Option.some.injEq] at hc
        subst hc
        simp only [evs, List.all_cons, Bool.and_eq_true] at ha
        simp only [evs, List.map_cons, RVl]
        refine ⟨_, _, rfl, ?_, opds_rel hG hE hl ha.2⟩
        exact (opd_rel hG hE hx).one (by intro t ht; rw [ht] at ha; simp [okV] at ha)
theorem sim_mkf (hG : GOk G M) (hE : ER I M e a.tmps) (hH : RH I M h) {g : Nat} {x y : Array Operand} {cx cy : List Opd} (ho : o.op = .makeFunc (.func g) x y) (hx : opds G x.toList = some cx) (hy : opds G y.toList = some cy) (hev : evOp (.mkf g cx cy) e h k = some (v, h')) : Sims P I M k o a v h' := by
  simp only [evOp] at hev
  cases h1 : (evs e cx).all okV with
  | false => simp [h1] at hev
  | true =>
    cases h2 : (evs e cy).all okV with
    | false => simp [h1, h2] at hev
    | true =>
      simp only [h1, h2, Bool.and_self, cond_true, Option.some.injEq, Prod.mk.injEq] at hev
      obtain ⟨rfl, rfl⟩ := hev
      refine Sims.calm (v' := .func (.func g) (x.map a.eval) (y.map a.eval)) hH ?_ (RV.mk rfl ?_)
      · simp [execOp, ho, Instr.makeFunc]
      · simp only [RVc]
        exact ⟨_, _, rfl, by simpa using opds_rel hG hE hx h1, by simpa using opds_rel hG hE hy h2⟩
theorem sim_ext (hG : GOk G M) (hE : ER I M e a.tmps) (hH : RH I M h) {x : Operand} {c : Opd} {i : Nat} (ho : o.op = .extract x i) (hx : opd G x = some c) (hev : evOp (.ext c i) e h k = some (v, h')) : Sims P I M k o a v h' := by
  have rx := opd_rel hG hE hx
  simp only [evOp] at hev
  split at hev
  · rename_i l hc
    rw [hc] at rx
    split at hev
    · rename_i u hu
      simp only [Option.some.injEq, Prod.mk.injEq] at hev
      obtain ⟨rfl, rfl⟩ := hev
      rcases rx with (h0 | ⟨_, h0⟩) | ⟨l', vs, e1, e2, ht⟩
      · cases h0
      · simp only [RVc] at h0
      · cases e1
        have : ∀ {l : List AV} {vs : List Value} {i : Nat} {u : AV}, RTu I M l vs → l[i]? = some u → ∃ r, vs[i]? = some r ∧ RV1 I M u r := by
          intro l
          induction l with
          | nil => intro vs i u _ h0; simp at h0
          | cons y l ih =>
            intro vs i u hr h0
            obtain ⟨r, t, rfl, h1, h2⟩ := hr
            cases i with
            | zero => simp only [List.getElem?_cons_zero, Option.some.injEq] at h0; subst h0; exact ⟨r, by simp, h1⟩
            | succ i => simpa using ih h2 (by simpa using h0)
        obtain ⟨r, hr, h1⟩ := this ht hu
        refine Sims.calm hH ?_ h1.toRV
        have hr' : vs[i]? = some r := by simpa using hr
        simp [execOp, ho, e2, Instr.extract, hr']
    · cases hev
  · cases hev
theorem sim_fld (hG : GOk G M) (hE : ER I M e a.tmps) (hH : RH I M h) {x : Operand} {c : Opd} {t : TypeId} {fs : Array Field} {f s : Nat} {fd : Field} (ho : o.op = .fieldAddr t x f) (ht : P.underlying t = some (.struct fs)) (hf : fs[f]? = some fd) (hs : szOf P fd.type = some s) (h0 : 0 < s) (hx : opd G x = some c) (hev : evOp (.fld fd.offset c) e h k = some (v, h')) : Sims P I M k o a v h' := by
  have rx := opd_rel hG hE hx
  obtain ⟨i, hi, rfl⟩ : ∃ i, P.info? fd.type = some i ∧ i.size = s := by simpa [szOf] using hs
  simp only [evOp] at hev
  split at hev
  · rename_i n0 o0 hc
    rw [hc] at rx
    simp only [Option.some.injEq, Prod.mk.injEq] at hev
    obtain ⟨rfl, rfl⟩ := hev
    obtain ⟨q, hq, e1⟩ := rx.ptr
    refine Sims.calm (v' := .pointer (some ⟨q.b, q.o + (o0 + fd.offset), none⟩)) hH ?_ (RV.mk rfl ?_)
    · simp only [execOp, ho, e1, Instr.fieldAt, Sem.run_bind, run_underlying ht, Result.andThen_ok, hf, Instr.sureAddr, Sem.run_pure, fieldPlace, run_sizeOf hi, if_neg (show ¬ i.size = 0 by omega), Sem.run_ite, add_none, Nat.add_assoc]
    · simp only [RVc]; exact ⟨q, hq, rfl⟩
  · rename_i l0 o9 hc
    rw [hc] at rx
    simp only [Option.some.injEq, Prod.mk.injEq] at hev
    obtain ⟨rfl, rfl⟩ := hev
    obtain ⟨b, o0, e1, hr⟩ := rx.pe
    refine Sims.calm (v' := .pointer (some ⟨b, o0 + (o9 + fd.offset), none⟩)) hH ?_ (RV.mk rfl ?_)
    · simp only [execOp, ho, e1, Instr.fieldAt, Sem.run_bind, run_underlying ht, Result.andThen_ok, hf, Instr.sureAddr, Sem.run_pure, fieldPlace, run_sizeOf hi, if_neg (show ¬ i.size = 0 by omega), Sem.run_ite, add_none, Nat.add_assoc]
    · simp only [RVc]; exact ⟨b, o0, rfl, hr⟩
  · cases hev
theorem RV.slD {l : List D} {u : Value} (r : RV I M (.d (.sl l)) u) : ∃ A c, u = .slice A l.length c ∧ l.length ≤ c ∧ (l = [] → c = 0) ∧ (l ≠ [] → ∃ b o s, A = some ⟨b, o, none⟩ ∧ 0 < s ∧ o + l.length * s ≤ M.fz b ∧ RRow M.w M.fz s l ((cellsOf M.w b).drop o)) := by
  have := r.dcell rfl
  simp only [RDc] at this
  obtain ⟨A, c, e, h⟩ := this
  simp only [List.cons.injEq, and_true] at e
  exact ⟨A, c, e, h⟩
theorem RV.zlD {l : List D} {u : Value} (r : RV I M (.zl l) u) : ∃ A, u = .slice A l.length l.length ∧ (l ≠ [] → ∃ b o s, A = some ⟨b, o, none⟩ ∧ 0 < s ∧ o + l.length * s ≤ M.fz b ∧ RRow M.w M.fz s l ((cellsOf M.w b).drop o)) := by
  have := r.cellOf rfl
  simp only [RVc] at this
  obtain ⟨A, e, h⟩ := this
  simp only [List.cons.injEq, and_true] at e
  exact ⟨A, e, h⟩
theorem RV.bsD {l : List D} {u : Value} (r : RV I M (.bs l) u) : ∃ A c, u = .slice A l.length c ∧ l.length ≤ c ∧ (l ≠ [] → ∃ b o s, A = some ⟨b, o, none⟩ ∧ 0 < s ∧ b < M.lo ∧ RRow M.w M.fz s l ((cellsOf M.w b).drop o)) := by
  have := r.cellOf rfl
  simp only [RVc] at this
  obtain ⟨A, c, e, h⟩ := this
  simp only [List.cons.injEq, and_true] at e
  exact ⟨A, c, e, h⟩
theorem RV.slR {n lo m : Nat} {u : Value} (r : RV I M (.sl n lo m) u) : ∃ q A, I n = some q ∧ u = .slice A m (q.c - lo) ∧ lo + m ≤ q.c ∧ (q.c = lo ∨ A = some ⟨q.b, q.o + lo * q.s, none⟩) := by
  have := r.cellOf rfl
  simp only [RVc] at this
  obtain ⟨q, A, hq, e, h⟩ := this
  simp only [List.cons.injEq, and_true] at e
  exact ⟨q, A, hq, e, h⟩
theorem run_indexAt {w : World} {t el : TypeId} {i : TypeInfo} (ht : P.underlying t = some (.slice el)) (hi : P.info? el = some i) {b x len c : Nat} {kd : IntKind} {j : Nat} (hj : j < len) : (Instr.indexAt t (.slice (some ⟨b, x, none⟩) len c) (.int kd j)).run P w = .ok (.pointer (some ⟨b, x + j * i.size, none⟩)) w := by
  have h1 : ((0 : Int) ≤ (j : Int) ∧ (j : Int) < (len : Int)) := ⟨by omega, by omega⟩
  simp only [Instr.indexAt, asIntOf, Sem.run_bind, Sem.run_pure, Result.andThen_ok, run_underlying ht, Sem.run_ite, if_pos h1, run_sizeOf hi, add_none, Int.toNat_natCast]
theorem nfs_d : ∀ l : List D, nfs (l.map .d) = true
  | [] => rfl
  | x :: l => by simp only [List.map_cons, nfs, nf, nfs_d l, Bool.and_self]
/-- An element of a slice that is only read. -/
theorem elem_rel {l : List D} {x : D} {i b o s sz : Nat} (hl : l[i]? = some x) (hs : 0 < s) (hr : RRow M.w M.fz s l ((cellsOf M.w b).drop o)) (hsz : (cellsD x).length = sz) (hb : b < M.lo ∨ o + l.length * s ≤ M.fz b) : s = sz ∧ RV I M (.pe ((cellsD x).map .d) 0) (.pointer (some ⟨b, o + i * s, none⟩)) := by
  obtain ⟨h1, h2⟩ := hr.get hl
  have hlen := h2.len
  rw [List.length_take, List.length_drop, Nat.min_eq_left (by omega)] at hlen
  have hi := (List.getElem?_eq_some_iff.1 hl).1
  have hm : i * s + s ≤ l.length * s := by rw [← Nat.succ_mul]; exact Nat.mul_le_mul_right s hi
  rw [List.length_drop] at h1
  refine ⟨by omega, RV.mk rfl ?_⟩
  simp only [RVc]
  refine ⟨b, o + i * s, rfl, ?_, ?_, ?_, nfs_d _⟩
  · rw [List.length_map, ← hlen]
    rcases hb with hb | hb
    · exact .inl hb
    · exact .inr (by omega)
  · rw [List.length_map, ← hlen]; omega
  · rw [List.length_map, ← hlen]
    rw [List.drop_drop] at h2
    exact RVs.ofD (RDs.cellsD h2)
theorem zeroD_spec {t : TypeId} {zs : List D} (hz : zeroD P t = some zs) : ∃ i z l, P.info? t = some i ∧ i.zero = some z ∧ i.size = zs.length ∧ 0 < i.size ∧ i.bytes ≤ 4096 ∧ zeroC P t = some l ∧ allD l = some zs := by
  unfold zeroD at hz
  split at hz
  · rename_i l i hl hi
    split at hz
    · rename_i r hr
      cases hc : r.length == i.size && Nat.blt 0 i.size && Nat.ble i.bytes 4096 with
      | false => simp [hc] at hz
      | true =>
        simp only [hc, cond_true, Option.some.injEq] at hz
        subst hz
        simp only [Bool.and_eq_true, beq_iff_eq] at hc
        obtain ⟨⟨h1, h2⟩, h3⟩ := hc
        have : ∃ z, i.zero = some z := by
          unfold zeroC zeroV at hl
          simp only [hi] at hl
          cases hz : i.zero with
          | none => simp [hz] at hl
          | some z => exact ⟨z, rfl⟩
        obtain ⟨z, hz⟩ := this
        exact ⟨i, z, l, hi, hz, h1.symm, blt_lt h2, ble_le h3, hl, hr⟩
    · cases hz
  · cases hz
theorem sim_idxa (hG : GOk G M) (hE : ER I M e a.tmps) (hH : RH I M h) {x y : Operand} {cx cy : Opd} {t el : TypeId} {zs : List D} (ho : o.op = .indexAddr t x y) (ht : P.underlying t = some (.slice el)) (hz : zeroD P el = some zs) (hx : opd G x = some cx) (hy : opd G y = some cy) (hev : evOp (.idxa zs.length cx cy) e h k = some (v, h')) : Sims P I M k o a v h' := by
  have rx := opd_rel hG hE hx
  have ry := opd_rel hG hE hy
  obtain ⟨i, z, _, hi, _, hsz, h0, _⟩ := zeroD_spec hz
  simp only [evOp] at hev
  split at hev
  · rename_i j hj
    obtain ⟨kd, hyv⟩ := natA_rel ry hj
    have data : ∀ (l : List D) (A : Option Addr) (c : Nat) (d : D), a.eval x = .slice A l.length c → l[j]? = some d → ((cellsD d).length == zs.length) = true → (l ≠ [] → ∃ b o s, A = some ⟨b, o, none⟩ ∧ 0 < s ∧ (b < M.lo ∨ o + l.length * s ≤ M.fz b) ∧ RRow M.w M.fz s l ((cellsOf M.w b).drop o)) → Sims P I M k o a (.pe ((cellsD d).map .d) 0) h := by
      intro l A c d e1 hd hds hr
      have hjl := (List.getElem?_eq_some_iff.1 hd).1
      obtain ⟨b, x0, s, rfl, hs, hb, hrow⟩ := hr (by rintro rfl; simp at hjl)
      obtain ⟨e2, hpe⟩ := elem_rel (I := I) (M := M) hd hs hrow (by simpa using hds) hb
      refine Sims.calm hH ?_ hpe
      simp only [execOp, ho, e1, hyv, Sem.run_bind, run_indexAt ht hi hjl, Result.andThen_ok, Sem.run_pure]
      rw [hsz, e2]
    split at hev
    · rename_i l hc
      rw [hc] at rx
      obtain ⟨A, c, e1, hle, _, hr⟩ := rx.slD
      split at hev
      · rename_i d hd
        cases hds : (cellsD d).length == zs.length with
        | false => simp [hds] at hev
        | true =>
          simp only [hds, cond_true, Option.some.injEq, Prod.mk.injEq] at hev
          obtain ⟨rfl, rfl⟩ := hev
          exact data l A c d e1 hd hds fun hne => let ⟨b, o, s, h1, h2, h3, h4⟩ := hr hne; ⟨b, o, s, h1, h2, .inr h3, h4⟩
      · cases hev
    · rename_i l hc
      rw [hc] at rx
      obtain ⟨A, e1, hr⟩ := rx.zlD
      split at hev
      · rename_i d hd
        cases hds : (cellsD d).length == zs.length with
        | false => simp [hds] at hev
        | true =>
          simp only [hds, cond_true, Option.some.injEq, Prod.mk.injEq] at hev
          obtain ⟨rfl, rfl⟩ := hev
          exact data l A _ d e1 hd hds fun hne => let ⟨b, o, s, h1, h2, h3, h4⟩ := hr hne; ⟨b, o, s, h1, h2, .inr h3, h4⟩
      · cases hev
    · rename_i l hc
      rw [hc] at rx
      obtain ⟨A, c, e1, hle, hr⟩ := rx.bsD
      split at hev
      · rename_i d hd
        cases hds : (cellsD d).length == zs.length with
        | false => simp [hds] at hev
        | true =>
          simp only [hds, cond_true, Option.some.injEq, Prod.mk.injEq] at hev
          obtain ⟨rfl, rfl⟩ := hev
          exact data l A c d e1 hd hds fun hne => let ⟨b, o, s, h1, h2, h3, h4⟩ := hr hne; ⟨b, o, s, h1, h2, .inl h3, h4⟩
      · cases hev
    · rename_i n lo m hc
      rw [hc] at rx
      obtain ⟨q, A, hq, e1, hle, hA⟩ := rx.slR
      cases hjm : Nat.blt j m with
      | false => simp [hjm] at hev
      | true =>
        simp only [hjm, cond_true] at hev
        have hjm' := blt_lt hjm
        split at hev
        · rename_i s0 l0 z0 hob
          cases hss : s0 == zs.length with
          | false => simp [hss] at hev
          | true =>
            simp only [hss, cond_true, Option.some.injEq, Prod.mk.injEq] at hev
            obtain ⟨rfl, rfl⟩ := hev
            have hro := (hH.ob n _ q hob hq).2.2
            simp only [RO] at hro
            have e2 : s0 = zs.length := by simpa using hss
            rcases hA with hA | hA
            · omega
            · subst hA
              refine Sims.calm hH ?_ (RV.mk (v := .pointer (some ⟨q.b, q.o + (lo + j) * zs.length, none⟩)) rfl ?_)
              · simp only [execOp, ho, e1, hyv, Sem.run_bind, run_indexAt ht hi hjm', Result.andThen_ok, Sem.run_pure]
                rw [hsz, ← e2, hro.1, Nat.add_mul, Nat.add_assoc]
              · simp only [RVc]; exact ⟨q, hq, rfl⟩
        · cases hev
    · cases hev
  · cases hev
end
end Tm
