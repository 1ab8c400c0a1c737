/- Contract of regcode.valid.
  Contract of regcode.Validate. -/
import Derived.Test.YtdjldmpfginkdaaGreatDoorValidG1
import Derived.Test.YtdjldmpfginkdaaGreatDoorValidG2
import Derived.Test.YtdjldmpfginkdaaGreatDoorValidG3
import Derived.Test.YtdjldmpfginkdaaGreatDoorFree1
namespace Go.Proofs.YtdjldmpfginkdaaGreatDoor
open Go.RowKit
attribute [local go_sem ↓] Go.wp_at_zero Go.wp_at_succ

set_option maxRecDepth 100000 in
set_option maxHeartbeats 4000000 in
theorem c_valid (r : Rc) (x : Ins) (u0 v : Value) (IA : Option Addr) (ic : Nat) (DA : Option Addr) (dc : Nat) (A : Option Addr) (c : Nat) (TA : Option Addr) (tc : Nat) (EA : Option Addr) (ec : Nat) (w : World) (B G : Nat)
    (hv : IsInts w B r.classes v) (hB : B ≤ w.heap.size) (hx : IsInts w B x.args (.slice A x.args.length c)) (ht : IsTy w 0 B x.ty (.agg #[.int .i64 x.ty.kind, .string x.ty.name, .int .i64 x.ty.index, .slice TA x.ty.args.length tc])) (hok : InsOk x)
    (hE : EnvS w G) (hR : EnvR w G) (hG : G ≤ w.heap.size) :
    Calls Tryz.prog 22 #[.agg #[u0, v, .slice IA r.instrs.length ic, .slice DA r.edits dc], .agg #[.int .i64 x.op, .int .i64 x.dst, .int .i64 x.a, .int .i64 x.b, .int .i64 x.imm, .string x.name, .slice A x.args.length c, .int .i64 x.ty.kind, .string x.ty.name, .int .i64 x.ty.index, .slice TA x.ty.args.length tc, .int .i64 x.ck, .int .i64 x.ci, .string x.cs, .slice EA x.ce ec]] w fun e w' => e = .returned (.bool (insB r x)) ∧ Below w.heap.size w w' := by
  by_cases hop : 1 ≤ x.op ∧ x.op ≤ 27
  · have hc := comb2_of (comb_of x.op x.imm hop)
    generalize qd : oD x.op = od at hc
    generalize qa : oA x.op = oa at hc
    generalize qb : oB x.op x.imm = ob at hc
    generalize qn : oN x.op = on at hc
    generalize ql : oL x.op = ol at hc
    generalize qt : oT x.op = ot at hc
    generalize qc : oC x.op = oc at hc
    cases hc
    · exact c_valid_g0 r x u0 v IA ic DA dc A c TA tc EA ec w B G hv hB hx ht hok hE hR hG hop qd qa qb qn ql qt qc
    · exact c_valid_g1 r x u0 v IA ic DA dc A c TA tc EA ec w B G hv hB hx ht hok hE hR hG hop qd qa qb qn ql qt qc
    · exact c_valid_g2 r x u0 v IA ic DA dc A c TA tc EA ec w B G hv hB hx ht hok hE hR hG hop qd qa qb qn ql qt qc
    · exact c_valid_g3 r x u0 v IA ic DA dc A c TA tc EA ec w B G hv hB hx ht hok hE hR hG hop qd qa qb qn ql qt qc
    · exact c_valid_g4 r x u0 v IA ic DA dc A c TA tc EA ec w B G hv hB hx ht hok hE hR hG hop qd qa qb qn ql qt qc
    · exact c_valid_g5 r x u0 v IA ic DA dc A c TA tc EA ec w B G hv hB hx ht hok hE hR hG hop qd qa qb qn ql qt qc
    · exact c_valid_g6 r x u0 v IA ic DA dc A c TA tc EA ec w B G hv hB hx ht hok hE hR hG hop qd qa qb qn ql qt qc
    · exact c_valid_g7 r x u0 v IA ic DA dc A c TA tc EA ec w B G hv hB hx ht hok hE hR hG hop qd qa qb qn ql qt qc
    · exact c_valid_g8 r x u0 v IA ic DA dc A c TA tc EA ec w B G hv hB hx ht hok hE hR hG hop qd qa qb qn ql qt qc
    · exact c_valid_g9 r x u0 v IA ic DA dc A c TA tc EA ec w B G hv hB hx ht hok hE hR hG hop qd qa qb qn ql qt qc
    · exact c_valid_g10 r x u0 v IA ic DA dc A c TA tc EA ec w B G hv hB hx ht hok hE hR hG hop qd qa qb qn ql qt qc
  · have HZ : Hid (insB r x = false) := Lib.hid (by rw [insB_prog, show decide (1 ≤ x.op ∧ x.op ≤ 27) = false by rw [decide_eq_false_iff_not]; exact hop]; rfl)
    have HSH := Lib.hid (fun (W : World) (hW : Below w.heap.size w W) => c_shapeOf x.op x.imm (.int .i64 x.dst) (.int .i64 x.a) (.int .i64 x.b) (.string x.name) (.slice A x.args.length c) (.int .i64 x.ty.kind) (.string x.ty.name) (.int .i64 x.ty.index) (.slice TA x.ty.args.length tc) (.int .i64 x.ck) (.int .i64 x.ci) (.string x.cs) (.slice EA x.ce ec) W G (hE.below hW hG) (Nat.le_trans hG hW.size))
    unfold ShpR at HSH
    rw [show decide (1 ≤ x.op ∧ x.op ≤ 27) = false by rw [decide_eq_false_iff_not]; exact hop] at HSH
    have HTB := Lib.hid (two_boxes (w := w) (u0 := u0) (u1 := v) (u2 := .slice IA r.instrs.length ic) (u3 := .slice DA r.edits dc) (x := x) (A := A) (c := c) (TA := TA) (tc := tc) (EA := EA) (ec := ec))
    clear hv hB hx ht hok hE hR hG hop
    generalize r.instrs.length = n, r.edits = e at *
    go_enter Tryz.func22, Tryz.ntmps22
    go_wp2_with fail
    have HT0 := Lib.hid (HTB.out _ (Below.refl _ _))
    refine (HSH.out _ HT0.out.2.2.1).mono ?_
    rintro e' w1 ⟨rfl, hb1⟩
    have hbw := (HTB.out w1 hb1).2.2.1
    clear HTB hb1 HSH HT0
    go_wp2_with fail
    go_ret
    exact ⟨ret_bool HZ.out.symm, below_step hbw (below_new _ _)⟩
end Go.Proofs.YtdjldmpfginkdaaGreatDoor
namespace Go.Proofs.YtdjldmpfginkdaaGreatDoor
open Go.RowKit
attribute [local go_sem ↓] Go.wp_at_zero Go.wp_at_succ

/-- The box of a code, in every world that keeps it. -/
def Bx (w : World) (u0 u1 u2 u3 : Value) (W : World) : Prop := (W.cell? ⟨w.heap.size, 0, none⟩ = some (u0) ∧ W.cell? ⟨w.heap.size, 1, none⟩ = some (u1) ∧ W.cell? ⟨w.heap.size, 2, none⟩ = some (u2) ∧ W.cell? ⟨w.heap.size, 3, none⟩ = some (u3)) ∧ Below w.heap.size w W ∧ w.heap.size < W.heap.size
theorem Bx.step {w W W' : World} {u0 u1 u2 u3 : Value} (h : Bx w u0 u1 u2 u3 W) (hb : Below W.heap.size W W') : Bx w u0 u1 u2 u3 W' := by
  obtain ⟨⟨b0, b1, b2, b3⟩, hbw, hl⟩ := h
  have hc : ∀ (i : Nat) (v : Value), W.cell? ⟨w.heap.size, i, none⟩ = some v → W'.cell? ⟨w.heap.size, i, none⟩ = some v := fun i v h => (hb.cell (p := ⟨w.heap.size, i, none⟩) (by simp; omega)).trans h
  exact ⟨⟨hc _ _ b0, hc _ _ b1, hc _ _ b2, hc _ _ b3⟩, below_step hbw hb, Nat.lt_of_lt_of_le hl hb.size⟩
theorem Bx.start (w : World) (u0 u1 u2 u3 : Value) : Bx w u0 u1 u2 u3 (w.alloc (.cells #[u0, u1, u2, u3] 26)) := by
  have h1 := blk_new w (.cells #[u0, u1, u2, u3] 26)
  refine ⟨⟨?_, ?_, ?_, ?_⟩, below_new _ _, by simp⟩
  all_goals (rw [cell_of_row _ w.heap.size _ _ _ _ h1]; rfl)
/-- What is asked of register code that lies in memory. -/
structure RcAt (w : World) (B : Nat) (r : Rc) (cls : Value) (IA : Option Addr) (ic : Nat) : Prop where
  cls : IsInts w B r.classes cls
  ins : IsInsl w B r.instrs (.slice IA r.instrs.length ic)
  ok : ∀ x ∈ r.instrs, InsOk x
theorem RcAt.below {w w' : World} {B C : Nat} {r : Rc} {cls : Value} {IA : Option Addr} {ic : Nat} (h : RcAt w B r cls IA ic) (hb : Below C w w') (hB : B ≤ C) : RcAt w' B r cls IA ic := ⟨h.cls.below hb hB, h.ins.below hb hB, h.ok⟩
theorem RcAt.at_ {w w' : World} {B : Nat} {r : Rc} {cls : Value} {IA : Option Addr} {ic : Nat} (h : RcAt w B r cls IA ic) (hk : ∀ b, b < B → w'.heap[b]? = w.heap[b]?) {k : Nat} (hkn : k < r.instrs.length) :
    ∃ g o x, r.instrs[k]? = some x ∧ IA = some ⟨g, o, none⟩ ∧ g < B ∧ InsAt w' B x g (o + k * 15) := by
  obtain ⟨g, o, hk', hA, hg, hI⟩ := h.ins.at_ hk hkn
  exact ⟨g, o, _, List.getElem?_eq_getElem hk', hA, hg, hI⟩
theorem last_no {r : Rc} {x : Ins} (hx : r.instrs[r.instrs.length - 1]? = some x) (h : ¬ (x.op = 17 ∨ x.op = 21 ∨ x.op = 24)) : ¬ r.lastOk := fun ⟨y, hy, h2⟩ => by
  rw [hx] at hy
  cases hy
  exact h h2
set_option maxRecDepth 100000 in
set_option maxHeartbeats 8000000 in
theorem c_RegValB (r : Rc) (cls : Value) (IA : Option Addr) (ic : Nat) (DA : Option Addr) (dc : Nat) (w : World) (B : Nat) (hr : RcAt w B r cls IA ic) (hbad : (20000 < r.instrs.length ∨ 1000 < r.classes.length) ∨ (r.params < 0 ∨ 6 < r.params ∨ (r.classes.length : Int) < r.params ∨ r.instrs.length = 0)) :
    Calls Tryz.prog 9 #[.agg #[.int .i64 r.params, cls, .slice IA r.instrs.length ic, .slice DA r.edits dc]] w fun e w' => e = .returned (.int .i64 r.validate) ∧ Below w.heap.size w w' := by
  have HB0 := Lib.hid (Bx.start w (.int .i64 r.params) cls (.slice IA r.instrs.length ic) (.slice DA r.edits dc))
  by_cases hlong : 20000 < r.instrs.length ∨ 1000 < r.classes.length
  · have HZ := Lib.hid (Rc.val_long hlong)
    obtain ⟨A, c, rfl, _⟩ := hr.cls
    clear hr
    rw [HZ.out]
    generalize r.instrs.length = n, r.classes.length = m at *
    have hbz := HB0.out.2.1
    by_cases hn : 20000 < n
    · clear HZ HB0 hlong
      have hn' : (20000 : Int) < (n : Int) := by omega
      go_enter Tryz.func9, Tryz.ntmps9
      go_wp2
      go_ret
      exact ⟨rfl, hbz⟩
    · have hn' : ¬ (20000 : Int) < (n : Int) := by omega
      have hm' : (1000 : Int) < (m : Int) := by omega
      clear HZ HB0 hlong
      go_enter Tryz.func9, Tryz.ntmps9
      go_wp2
      go_ret
      exact ⟨rfl, hbz⟩
  have h0 : r.instrs.length ≤ 20000 := by omega
  have h1 : r.classes.length ≤ 1000 := by omega
  have hn' : ¬ (20000 : Int) < (r.instrs.length : Int) := by omega
  have hm' : ¬ (1000 : Int) < (r.classes.length : Int) := by omega
  clear hlong
  have hhead : r.params < 0 ∨ 6 < r.params ∨ (r.classes.length : Int) < r.params ∨ r.instrs.length = 0 := by omega
  clear hbad
  have HZ := Lib.hid (Rc.val_head h0 h1 hhead)
  obtain ⟨A, c, rfl, _⟩ := hr.cls
  have hbz := HB0.out.2.1
  clear hr HB0
  rw [HZ.out]
  generalize r.instrs.length = n, r.classes.length = m, r.params = p at *
  have hx : (p < 0) ∨ (¬ p < 0 ∧ 6 < p) ∨ (¬ p < 0 ∧ ¬ 6 < p ∧ (m : Int) < p) ∨ (¬ p < 0 ∧ ¬ 6 < p ∧ ¬ (m : Int) < p ∧ n = 0) := by omega
  clear hhead HZ
  rcases hx with hx | ⟨hx1, hx⟩ | ⟨hx1, hx2, hx⟩ | ⟨hx1, hx2, hx3, rfl⟩
  all_goals
    go_enter Tryz.func9, Tryz.ntmps9
    go_wp2
    go_ret
    exact ⟨rfl, hbz⟩
set_option maxRecDepth 100000 in
set_option maxHeartbeats 8000000 in
theorem c_RegVal (r : Rc) (cls : Value) (IA : Option Addr) (ic : Nat) (DA : Option Addr) (dc : Nat) (w : World) (B G : Nat) (hr : RcAt w B r cls IA ic) (hB : B ≤ w.heap.size) (hE : EnvS w G) (hR : EnvR w G) (hG : G ≤ w.heap.size) :
    Calls Tryz.prog 9 #[.agg #[.int .i64 r.params, cls, .slice IA r.instrs.length ic, .slice DA r.edits dc]] w fun e w' => e = .returned (.int .i64 r.validate) ∧ Below w.heap.size w w' := by
  by_cases hbad : (20000 < r.instrs.length ∨ 1000 < r.classes.length) ∨ (r.params < 0 ∨ 6 < r.params ∨ (r.classes.length : Int) < r.params ∨ r.instrs.length = 0)
  · exact c_RegValB r cls IA ic DA dc w B hr hbad
  have hhead : ¬ (r.params < 0 ∨ 6 < r.params ∨ (r.classes.length : Int) < r.params ∨ r.instrs.length = 0) := fun h => hbad (.inr h)
  have HB0 := Lib.hid (Bx.start w (.int .i64 r.params) cls (.slice IA r.instrs.length ic) (.slice DA r.edits dc))
  have h0 : r.instrs.length ≤ 20000 := by omega
  have h1 : r.classes.length ≤ 1000 := by omega
  have hn' : ¬ (20000 : Int) < (r.instrs.length : Int) := by omega
  have hm' : ¬ (1000 : Int) < (r.classes.length : Int) := by omega
  clear hbad
  have HH := Lib.hid hhead
  have hp0 : ¬ r.params < 0 := by omega
  have hp6 : ¬ 6 < r.params := by omega
  have hpm : ¬ (r.classes.length : Int) < r.params := by omega
  have HP1 : Hid (∃ p, r.instrs.length = p + 1) := Lib.hid ⟨r.instrs.length - 1, by have := HH.out; omega⟩
  clear hhead
  have HR := Lib.hid hr
  have HVA : Hid (∀ (W : World) (x : Ins) (A : Option Addr) (c : Nat) (TA : Option Addr) (tc : Nat) (EA : Option Addr) (ec : Nat), x ∈ r.instrs → Below w.heap.size w W → IsInts W B x.args (.slice A x.args.length c) → IsTy W 0 B x.ty (.agg #[.int .i64 x.ty.kind, .string x.ty.name, .int .i64 x.ty.index, .slice TA x.ty.args.length tc]) →
      Calls Tryz.prog 22 #[.agg #[.int .i64 r.params, cls, .slice IA r.instrs.length ic, .slice DA r.edits dc], .agg #[.int .i64 x.op, .int .i64 x.dst, .int .i64 x.a, .int .i64 x.b, .int .i64 x.imm, .string x.name, .slice A x.args.length c, .int .i64 x.ty.kind, .string x.ty.name, .int .i64 x.ty.index, .slice TA x.ty.args.length tc, .int .i64 x.ck, .int .i64 x.ci, .string x.cs, .slice EA x.ce ec]] W fun e w' => e = .returned (.bool (insB r x)) ∧ Below W.heap.size W w') := Lib.hid (fun W x A c TA tc EA ec hx hW h2 h3 =>
    c_valid r x (.int .i64 r.params) cls IA ic DA dc A c TA tc EA ec W B G (HR.out.cls.below hW hB) (Nat.le_trans hB hW.size) h2 h3 (HR.out.ok x hx) (hE.below hW hG) (hR.below hW hG) (Nat.le_trans hG hW.size))
  have HCY : Hid (∀ (W : World), Below w.heap.size w W → SuccOk r → Calls Tryz.prog 23 #[.agg #[.int .i64 r.params, cls, .slice IA r.instrs.length ic, .slice DA r.edits dc]] W fun e w' => ∃ b, e = .returned (.bool b) ∧ (b = true ↔ ¬ Acyc r.instrs.length r.free r.succ) ∧ Below W.heap.size W w') := Lib.hid (fun W hW hs =>
    c_hasFreeCycle r (.int .i64 r.params) cls (.slice DA r.edits dc) _ W B (HR.out.ins.below hW hB) (Nat.le_trans hB hW.size) h0 hs)
  have HIN := Lib.hid (fun (W : World) (hW : Below w.heap.size w W) (k : Nat) (hk : k < r.instrs.length) => HR.out.at_ (w' := W) (fun b hb => hW.block b (by omega)) hk)
  have HCL := Lib.hid hr.cls
  have HZC := Lib.hid (fun (i : Nat) (c : Int) (hi : r.classes[i]? = some c) (h : ¬ clsOk r.params i c) => Rc.val_cls h0 h1 hi h)
  have HZI := Lib.hid (fun (x : Ins) (hi : x ∈ r.instrs) (h : insB r x = false) => Rc.val_ins h0 h1 hi h)
  have HZL := Lib.hid (fun (h : ¬ r.lastOk) => Rc.val_last h0 h1 h)
  have HZY := Lib.hid (fun (h : ¬ Acyc r.instrs.length r.free r.succ) => Rc.val_cyc h0 h1 h)
  have HZA := Lib.hid (Rc.val_all h0 h1 HH.out)
  have HSO := Lib.hid (SuccOk.of (r := r))
  obtain ⟨CA, cc, rfl, _⟩ := hr.cls
  have hnz : ¬ (r.instrs.length : Int) = 0 := by have := HH.out; omega
  have kn := beq_f hnz
  clear hnz
  clear hr hE hR HH HR
  go_enter Tryz.func9, Tryz.ntmps9
  go_wp2
  generalize hW0 : w.alloc _ = W0 at *
  clear hW0
  have HB := HB0
  clear HB0 kn
  generalize hm : r.classes.length = m at *
  have HM := Lib.hid hm
  clear hm
  go_loopw [42] (fun s wr => ∃ k : Nat, k ≤ m ∧ s = .int .i64 k ∧ Hid (∀ (i : Nat) (c : Int), i < k → r.classes[i]? = some c → clsOk r.params i c) ∧ Hid (Bx w (.int .i64 r.params) (.slice CA m cc) (.slice IA r.instrs.length ic) (.slice DA r.edits dc) wr)) (fun s _ => m - (intOf s).toNat)
  case atStart => exact ⟨0, by omega, rfl, Lib.hid (fun _ _ h => absurd h (by omega)), HB⟩
  case round =>
    clear HB
    obtain ⟨k, hk, rfl, HS, HB⟩ := hrel
    by_cases hkm : k < m
    · obtain ⟨g, o, hk', rfl, hg, hc⟩ := HCL.out.at_ (fun b hb => HB.out.2.1.block b (by omega)) hkm
      have hk0 : (0 : Int) ≤ (k : Int) := by omega
      have hk1 : (k : Int) < (m : Int) := by omega
      have HX := Lib.hid (List.getElem?_eq_getElem hk')
      generalize r.classes[k] = c at *
      obtain ⟨b0, b1, b2, b3⟩ := HB.out.1
      have hbz := HB.out.2.1
      have HD : Hid (clsOk r.params k c → ∀ (i : Nat) (c : Int), i < k + 1 → r.classes[i]? = some c → clsOk r.params i c) := Lib.hid (fun h i c' hi hc' => by
        rcases Nat.lt_or_ge i k with h2 | h2
        · exact HS.out i c' h2 hc'
        · obtain rfl : i = k := by omega
          rw [HX.out] at hc'
          cases hc'
          exact h)
      have HE := Lib.hid (HZC.out k c HX.out)
      have HDX : Hid (clsOk r.params k c ↔ (¬ c < 0 ∧ ¬ 2 < c ∧ ((k : Int) < r.params → c = 0))) := Lib.hid (by unfold clsOk; omega)
      clear HX
      generalize r.params = pm at *
      by_cases c0 : c < 0
      · have HZ := Lib.hid (HE.out (fun h => (HDX.out.1 h).1 c0))
        clear HD HE HDX
        go_wp2
        go_ret
        exact ⟨ret_int HZ.out.symm, hbz⟩
      by_cases c2 : 2 < c
      · have HZ := Lib.hid (HE.out (fun h => (HDX.out.1 h).2.1 c2))
        clear HD HE HDX
        go_wp2
        go_ret
        exact ⟨ret_int HZ.out.symm, hbz⟩
      by_cases hkp : (k : Int) < pm
      · by_cases cz : c = 0
        · have HG := Lib.hid (HD.out (HDX.out.2 ⟨c0, c2, fun _ => cz⟩))
          clear HD HE HDX
          subst cz
          go_wp2
          go_roundw
          case rel => exact ⟨k + 1, by omega, by go_num, HG, HB⟩
          case measure => simp [intOf]; omega
        · have HZ := Lib.hid (HE.out (fun h => cz ((HDX.out.1 h).2.2 hkp)))
          have kz := beq_f cz
          clear HD HE HDX
          go_wp2
          go_ret
          exact ⟨ret_int HZ.out.symm, hbz⟩
      · have HG := Lib.hid (HD.out (HDX.out.2 ⟨c0, c2, fun h => absurd h hkp⟩))
        clear HD HE HDX
        go_wp2
        go_roundw
        case rel => exact ⟨k + 1, by omega, by go_num, HG, HB⟩
        case measure => simp [intOf]; omega
    · obtain rfl : m = k := by omega
      have HSC : Hid (∀ (i : Nat) (c : Int), r.classes[i]? = some c → clsOk r.params i c) := Lib.hid (fun i c hi => HS.out i c (by rw [← HM.out]; exact (List.getElem?_eq_some_iff.1 hi).1) hi)
      have HZA2 := Lib.hid (HZA.out HSC.out)
      obtain ⟨b0, b1, b2, b3⟩ := HB.out.1
      clear HS HZA HZC HSC HCL hm' h1
      go_wp2
      clear b0 b1 b2 b3
      generalize hn : r.instrs.length = n at *
      have HN := Lib.hid hn
      clear hn
      obtain ⟨wp, rfl⟩ : ∃ wp : World, wp = wr := ⟨_, rfl⟩
      go_loopw [67] (fun s wr => ∃ k : Nat, k ≤ n ∧ s = .int .i64 k ∧ Hid (∀ (i : Nat) (x : Ins), i < k → r.instrs[i]? = some x → insB r x = true) ∧ Hid (Bx w (.int .i64 r.params) (.slice CA m cc) (.slice IA n ic) (.slice DA r.edits dc) wr)) (fun s _ => n - (intOf s).toNat)
      case atStart => exact ⟨0, by omega, rfl, Lib.hid (fun _ _ h => absurd h (by omega)), HB⟩
      case round =>
        clear HB
        obtain ⟨k, hk, rfl, HS, HB⟩ := hrel
        have hbz := HB.out.2.1
        by_cases hkn : k < n
        · obtain ⟨g, o, x, hx, rfl, hg, hI⟩ := HIN.out wr hbz k hkn
          obtain ⟨A1, c1, TA, tc, EA, ec, hcs, hia, hta⟩ := hI
          have hk0 : (0 : Int) ≤ (k : Int) := by omega
          have hk1 : (k : Int) < (n : Int) := by omega
          have HXM : Hid (x ∈ r.instrs) := Lib.hid (List.mem_of_getElem? hx)
          have HX := Lib.hid hx
          obtain ⟨h0', h1', h2, h3, h4, h5, h6, h7, h8, h9, h10, h11, h12, h13, h14⟩ := hcs
          obtain ⟨b0, b1, b2, b3⟩ := HB.out.1
          have hsz := HB.out.2.2
          have HCALL := Lib.hid (fun (W : World) (hW : Below wr.heap.size wr W) => HVA.out W x A1 c1 TA tc EA ec HXM.out (below_step hbz hW) (hia.below hW (by omega)) (hta.below hW (by omega)))
          clear hx hia hta
          go_wp2_with fail
          refine (HCALL.out _ (below_new _ _)).mono ?_
          rintro e w1 ⟨rfl, hb1⟩
          have HB1 := Lib.hid (HB.out.step (below_step (below_new wr _) hb1))
          have hbz1 := HB1.out.2.1
          clear h0' h1' h2 h3 h4 h5 h6 h7 h8 h9 h10 h11 h12 h13 h14 b0 b1 b2 b3 hb1 HCALL HB
          cases hib : insB r x
          · have HZ := Lib.hid (HZI.out x HXM.out hib)
            clear hib
            go_wp2
            go_ret
            exact ⟨ret_int HZ.out.symm, hbz1⟩
          · have HG : Hid (∀ (i : Nat) (x : Ins), i < k + 1 → r.instrs[i]? = some x → insB r x = true) := Lib.hid (fun i x' hi hx' => by
              rcases Nat.lt_or_ge i k with h2 | h2
              · exact HS.out i x' h2 hx'
              · obtain rfl : i = k := by omega
                rw [HX.out] at hx'
                cases hx'
                exact hib)
            clear hib
            go_wp2
            go_roundw
            case rel => exact ⟨k + 1, by omega, by go_num, HG, HB1⟩
            case measure => simp [intOf]; omega
        · obtain rfl : n = k := by omega
          have HSI : Hid (∀ x ∈ r.instrs, insB r x = true) := Lib.hid (fun x hx => by
            obtain ⟨i, hi⟩ := List.mem_iff_getElem?.1 hx
            exact HS.out i x (by rw [← HN.out]; exact (List.getElem?_eq_some_iff.1 hi).1) hi)
          have HZA3 := Lib.hid (HZA2.out HSI.out)
          have HSO2 := Lib.hid (HSO.out HSI.out)
          obtain ⟨p, hp⟩ := HP1.out
          subst hp
          obtain ⟨g, o, x, hx, rfl, hg, hI⟩ := HIN.out wr hbz p (by omega)
          have hop := hI.choose_spec.choose_spec.choose_spec.choose_spec.choose_spec.choose_spec.1.1
          have HX := Lib.hid hx
          clear HS HZA2 HSO HSI HZI HVA hx hI
          obtain ⟨b0, b1, b2, b3⟩ := HB.out.1
          have hp1 : IntKind.i64.wrap (((p + 1 : Nat) : Int) - 1) = (p : Int) := by rw [IntWalk.i64_in _ (by omega)]; omega
          by_cases hl : x.op = 17 ∨ x.op = 21 ∨ x.op = 24
          · have HLO : Hid r.lastOk := Lib.hid ⟨x, by rw [HN.out]; exact HX.out, hl⟩
            have HCA := Lib.hid (HCY.out wr hbz (HSO2.out HLO.out))
            have HZA4 := Lib.hid (HZA3.out HLO.out)
            clear HZA3 HSO2 HCY HZL HX
            generalize x.op = op at *
            rcases hl with rfl | rfl | rfl
            all_goals
              go_wp2_with fail
              refine HCA.out.mono ?_
              rintro e w1 ⟨b, rfl, hb, hb1⟩
              have hbz1 := below_step hbz hb1
              clear HCA b0 b1 b2 b3 hop hb1
              cases b
              · have HZ := Lib.hid (HZA4.out (Classical.not_not.1 (fun h => by have := hb.2 h; cases this)))
                clear hb
                go_wp2
                go_ret
                exact ⟨ret_int HZ.out.symm, hbz1⟩
              · have HZ := Lib.hid (HZY.out (hb.1 rfl))
                clear hb
                go_wp2
                go_ret
                exact ⟨ret_int HZ.out.symm, hbz1⟩
          · have HZ := Lib.hid (HZL.out (last_no (by rw [HN.out]; exact HX.out) hl))
            have k1 := beq_f (a := x.op) (b := 17) (fun h => hl (.inl h))
            have k2 := beq_f (a := x.op) (b := 21) (fun h => hl (.inr (.inl h)))
            have k3 := beq_f (a := x.op) (b := 24) (fun h => hl (.inr (.inr h)))
            clear HZA3 HSO2 HCY HZL HX hl
            generalize x.op = op at *
            go_wp2
            go_ret
            exact ⟨ret_int HZ.out.symm, hbz⟩
end Go.Proofs.YtdjldmpfginkdaaGreatDoor
