/- The law at arbitrary input, by the symbolic walk on the machine. No statement of the seat is proved here. -/
import Derived.Test.YtmciehdmmnkdhaaGreatDoorFx5
import Derived.Test.YtmciehdmmnkdhaaGreatDoorTmQ
set_option linter.unnecessarySimpa false
set_option linter.constructorNameAsVariable false
set_option linter.unusedSectionVars false
set_option linter.deprecated false
set_option linter.unusedVariables false
set_option linter.unusedSimpArgs false
namespace Tm.L5
open Tm
open Go
set_option maxRecDepth 10000
/-- Certificates without numbers and terms. -/
inductive Tr where
  | nd (l : List Tr)
mutual
def encT : Tr → D
  | .nd l => .ag [.i .i64 0, .i .i64 0, .sl [], .sl (encTs l)]
def encTs : List Tr → List D
  | [] => []
  | t :: ts => encT t :: encTs ts
end
def Tr.kids : Tr → List Tr
  | .nd l => l
mutual
def Tr.size : Tr → Nat
  | .nd l => Tr.sizes l + 1
def Tr.sizes : List Tr → Nat
  | [] => 0
  | t :: ts => t.size + Tr.sizes ts
end
mutual
def Tr.depth : Tr → Nat
  | .nd l => Tr.depths l + 1
def Tr.depths : List Tr → Nat
  | [] => 0
  | t :: ts => max t.depth (Tr.depths ts)
end
theorem encTs_map (l : List Tr) : encTs l = l.map encT := by induction l with | nil => rfl | cons t ts ih => simp [encTs, ih]
@[simp] theorem encTs_len (l : List Tr) : (encTs l).length = l.length := by simp [encTs_map]
@[simp] theorem encTs_getE (l : List Tr) (i : Nat) (h : i < (encTs l).length) : (encTs l)[i] = encT (l[i]'(by simpa using h)) := by simp [encTs_map]
theorem encT_eq (t : Tr) : encT t = .ag [.i .i64 0, .i .i64 0, .sl [], .sl (encTs t.kids)] := by cases t; rfl
abbrev ccells (t : Tr) : List AV := [.d (.i .i64 0), .d (.i .i64 0), .d (.sl []), .d (.sl (encTs t.kids))]
@[simp] theorem cellsV_T (t : Tr) : cellsV (.d (encT t)) = some (ccells t) := by rw [encT_eq]; rfl
@[simp] theorem cellsD_T (t : Tr) : cellsD (encT t) = [.i .i64 0, .i .i64 0, .sl [], .sl (encTs t.kids)] := by rw [encT_eq]; rfl
@[simp] theorem vElt_T (t : Tr) : vElt 4 (some (encT t)) = some (.pe (ccells t) 0) := by rw [encT_eq]; rfl
@[simp] theorem toD_T (t : Tr) (h : Heap) : toD (.ag [.d (.i .i64 0), .d (.i .i64 0), .d (.sl []), .d (.sl (encTs t.kids))]) h = some (encT t, h) := by rw [encT_eq]; rfl
@[simp] theorem headSz_T (l : List Tr) : headSz (encTs l) 4 = true := by cases l <;> simp [headSz, encTs]
theorem Tr.size_eq (t : Tr) : t.size = Tr.sizes t.kids + 1 := by cases t; rw [Tr.size]; rfl
theorem Tr.depth_eq (t : Tr) : t.depth = Tr.depths t.kids + 1 := by cases t; rw [Tr.depth]; rfl
theorem Tr.size_pos (t : Tr) : 1 ≤ t.size := by rw [Tr.size_eq]; omega
theorem Tr.size_get {l : List Tr} (j : Nat) (hj : j < l.length) : l[j].size ≤ Tr.sizes l := by
  induction l generalizing j with
  | nil => simp at hj
  | cons t ts ih =>
    unfold Tr.sizes
    rcases j with _ | j
    · simp
    · have := ih j (by simpa using hj); simp; omega
theorem Tr.sizes_take {l : List Tr} (j : Nat) (hj : j < l.length) : Tr.sizes (l.take (j + 1)) = Tr.sizes (l.take j) + l[j].size := by
  induction l generalizing j with
  | nil => simp at hj
  | cons t ts ih =>
    rcases j with _ | j
    · simp [Tr.sizes]
    · have := ih j (by simpa using hj); simp [Tr.sizes] at this ⊢; omega
theorem Tr.depths_take {l : List Tr} (j : Nat) (hj : j < l.length) : Tr.depths (l.take (j + 1)) = max (Tr.depths (l.take j)) l[j].depth := by
  induction l generalizing j with
  | nil => simp at hj
  | cons t ts ih =>
    rcases j with _ | j
    · simp [Tr.depths]
    · have := ih j (by simpa using hj); simp [Tr.depths] at this ⊢; omega
theorem Tr.sizes_take_le (l : List Tr) (j : Nat) : Tr.sizes (l.take j) ≤ Tr.sizes l := by
  induction l generalizing j with
  | nil => simp
  | cons t ts ih =>
    rcases j with _ | j
    · simp [Tr.sizes]
    · have := ih j; simp [Tr.sizes]; omega
theorem Tr.len_le (l : List Tr) : l.length ≤ Tr.sizes l := by
  induction l with
  | nil => simp
  | cons t ts ih => have := Tr.size_pos t; unfold Tr.sizes; simp; omega
theorem Tr.depth_le_sizes : ∀ l : List Tr, (∀ t ∈ l, t.depth ≤ t.size) → Tr.depths l ≤ Tr.sizes l
  | [], _ => by simp [Tr.depths]
  | t :: ts, h => by
    unfold Tr.depths Tr.sizes
    have := h t (by simp)
    have := Tr.depth_le_sizes ts fun x hx => h x (by simp [hx])
    omega
theorem a_cSize : ∀ (N : Nat) (t : Tr), t.size ≤ N → t.size < 1073741824 → Res F 17 [encT t] [.d (.i .i64 t.size)] := by
  intro N
  induction N with
  | zero => intro t h; have := Tr.size_pos t; omega
  | succ N ih =>
    intro t hN hs
    refine res_of (cf := cf17) rfl rfl rfl rfl ?_
    have hsz := Tr.size_eq t
    have hlen := Tr.len_le t.kids
    simp [cf17]
    refine loop_rule (fun m e h n => ∃ i, m = t.kids.length - i ∧ i ≤ t.kids.length ∧ e.at 3 = .d (.i .i64 (1 + Tr.sizes (t.kids.take i) : Nat)) ∧ e.at 7 = .d (.sl (encTs t.kids)) ∧ e.at 8 = .d (.i .i64 t.kids.length) ∧ e.at 9 = .d (.i .i64 i) ∧ Fre h n) ?_ _ ⟨0, rfl, by simp, by simp [Tr.sizes], by simp, by simp, by simp, (Fre.lf 7).set (by omega) (Nat.le_refl _)⟩
    rintro m e h n ⟨i, rfl, hi, e3, e7, e8, e9, hf⟩ IH
    by_cases hlt : i < t.kids.length
    · have ht := Tr.size_get i hlt
      have ht2 := Tr.sizes_take i hlt
      have ht3 := Tr.sizes_take_le t.kids (i + 1)
      have hfr : h.get (n + 1 + 2) = none := hf _ (by omega)
      simp [e3, e7, e8, e9, hlt, hfr]
      refine cw_res (ih t.kids[i] (by omega) (by omega)) (by simp [toDs]) ?_
      simp [e3, e9, tup]
      rw [wrap64 (by omega) (by omega), wrap64 (by omega) (by omega)]
      exact IH _ _ _ _ ⟨i + 1, rfl, by omega, by simp; omega, by simp [e7], by simp [e8], by simp, ((hf.set (m := n + 1 + 4 + 5 + 2) (by omega) (by omega)).set (by omega) (Nat.le_refl _))⟩ (by omega)
    · obtain rfl : i = t.kids.length := by omega
      simp [e3, e7, e8, e9, hsz]
      omega
theorem a_cDepth : ∀ (N : Nat) (t : Tr), t.size ≤ N → t.size < 1073741824 → Res F 41 [encT t] [.d (.i .i64 t.depth)] ∧ t.depth ≤ t.size := by
  intro N
  induction N with
  | zero => intro t h; have := Tr.size_pos t; omega
  | succ N ih =>
    intro t hN hs
    have hsz := Tr.size_eq t
    have hdp := Tr.depth_eq t
    have hlen := Tr.len_le t.kids
    have hle : Tr.depths t.kids ≤ Tr.sizes t.kids := Tr.depth_le_sizes _ fun x hx => by
      obtain ⟨j, hj, rfl⟩ := List.mem_iff_getElem.1 hx
      have := Tr.size_get j hj
      exact (ih _ (by omega) (by omega)).2
    refine ⟨?_, by omega⟩
    refine res_of (cf := cf41) rfl rfl rfl rfl ?_
    simp [cf41]
    refine loop_rule (fun m e h n => ∃ i, m = t.kids.length - i ∧ i ≤ t.kids.length ∧ e.at 3 = .d (.i .i64 (Tr.depths (t.kids.take i) : Nat)) ∧ e.at 7 = .d (.sl (encTs t.kids)) ∧ e.at 8 = .d (.i .i64 t.kids.length) ∧ e.at 9 = .d (.i .i64 i) ∧ Fre h n) ?_ _ ⟨0, rfl, by simp, by simp [Tr.depths], by simp, by simp, by simp, (Fre.lf 7).set (by omega) (Nat.le_refl _)⟩
    rintro m e h n ⟨i, rfl, hi, e3, e7, e8, e9, hf⟩ IH
    by_cases hlt : i < t.kids.length
    · have ht := Tr.size_get i hlt
      have ht2 := Tr.depths_take i hlt
      have hfr : h.get (n + 1 + 2) = none := hf _ (by omega)
      simp [e3, e7, e8, e9, hlt, hfr]
      refine cw_res (ih t.kids[i] (by omega) (by omega)).1 (by simp [toDs]) ?_
      simp [e3, e9, tup]
      rw [wrap64 (by omega) (by omega)]
      exact IH _ _ _ _ ⟨i + 1, rfl, by omega, by simp [ht2], by simp [e7], by simp [e8], by simp, ((hf.set (m := n + 1 + 4 + 5 + 2) (by omega) (by omega)).set (by omega) (Nat.le_refl _))⟩ (by omega)
    · obtain rfl : i = t.kids.length := by omega
      simp [e3, e7, e8, e9]
      rw [wrap64 (by omega) (by omega), hdp]
      simp
end Tm.L5
set_option linter.unusedVariables false
set_option linter.unusedSimpArgs false
namespace Tm.L5
open Tm
open Go
set_option maxRecDepth 10000
def encB (l : List Int) : List D := l.map (.i .u8)
@[simp] theorem encB_nil : encB [] = [] := rfl
@[simp] theorem encB_len (l : List Int) : (encB l).length = l.length := by simp [encB]
@[simp] theorem headSz_B (l : List Int) : headSz (encB l) 1 = true := by cases l <;> simp [headSz, encB]
theorem encB_app (l m : List Int) : encB (l ++ m) = encB l ++ encB m := by simp [encB]
/-- An impure call that hands a row on: what it leaves. -/
structure Kp (v : AV) (h : Heap) (n : Nat) (v' : AV) (h' : Heap) (n' : Nat) : Prop where
  le : n ≤ n'
  fr : Fre h' n'
  at_ : ∀ b ob, b < n → h.get b = some ob → (∀ lo m, v ≠ .sl b lo m) → h'.get b = some ob
  nm : v' = v ∨ ∃ k m, v' = .sl k 0 m ∧ n ≤ k
theorem Kp.trans {v v1 v2 : AV} {h h1 h2 : Heap} {n n1 n2 : Nat} (a : Kp v h n v1 h1 n1) (b : Kp v1 h1 n1 v2 h2 n2) : Kp v h n v2 h2 n2 := by
  refine ⟨Nat.le_trans a.le b.le, b.fr, fun c ob hc hg hv => b.at_ c ob (Nat.lt_of_lt_of_le hc a.le) (a.at_ c ob hc hg hv) fun lo m e => ?_, ?_⟩
  · rcases a.nm with rfl | ⟨k, m', rfl, hk⟩
    · exact hv lo m e
    · cases e; omega
  · rcases b.nm with rfl | ⟨k, m, rfl, hk⟩
    · exact a.nm
    · exact .inr ⟨k, m, rfl, Nat.le_trans a.le hk⟩
theorem Kp.refl {v : AV} {h : Heap} {n : Nat} (hf : Fre h n) : Kp v h n v h n := ⟨Nat.le_refl _, hf, fun _ _ _ h _ => h, .inl rfl⟩
/-- One append. -/
theorem kp_of {v v' : AV} {h h' : Heap} {n n' k : Nat} (hf : Fre h n) (hk : Kept k v h h') (hv : v' = v ∧ h' = h ∨ ∃ m, v' = .sl k 0 m) (h1 : n ≤ k) (h2 : k < n') (h3 : n ≤ n') : Kp v h n v' h' n' :=
  ⟨h3, hf.kept hk h2 h3, fun b ob hb hg hv => hk.at_ b ob hg hv (by omega), hv.imp (fun h => h.1) fun ⟨m, e⟩ => ⟨k, m, e, h1⟩⟩
theorem Kp.more {v v' : AV} {h h' : Heap} {n n' m : Nat} (a : Kp v h n v' h' n') (hm : n' ≤ m) : Kp v h n v' h' m := ⟨Nat.le_trans a.le hm, a.fr.mono hm, a.at_, a.nm⟩
theorem Kp.box {v v' : AV} {h h' : Heap} {n n' sz b : Nat} {l : List D} {cs : List AV} (k : Kp v h n v' h' n') (ho : Own h sz v l) (hb : h.get b = some (.box cs)) (hn : b < n) : h'.get b = some (.box cs) := k.at_ b _ hn hb (own_ne ho hb fun _ _ _ e => by cases e)
/-- A new variable. -/
theorem kp_new {v : AV} {h : Heap} {n m b : Nat} {ob : Ob} (hf : Fre h n) (hb : n ≤ b) (hm : b < m) (hnm : n ≤ m) : Kp v h n v (h.set b ob) m := ⟨hnm, hf.set hm hnm, fun c ob' hc hg _ => by rw [get_set_ne (by omega)]; exact hg, .inl rfl⟩
/-- A variable of the call's own is written. -/
theorem Kp.wr {v v' : AV} {h h' : Heap} {n n' b : Nat} {ob : Ob} (k : Kp v h n v' h' n') (hb : n ≤ b) (hm : b < n') : Kp v h n v' (h'.set b ob) n' := ⟨k.le, k.fr.set hm (Nat.le_refl _), fun c ob' hc hg hv => by rw [get_set_ne (by omega)]; exact k.at_ c ob' hc hg hv, k.nm⟩
/-- The bits of two numbers together. -/
def orW (k : IntKind) (a b : Int) : Int := k.wrap (BitVec.ofInt k.bits a ||| BitVec.ofInt k.bits b).toNat
def orb (x : Nat) : Int := orW .u8 (IntKind.u8.wrap x) 128
/-- A number, seven bits a byte. -/
def leb : Nat → Nat → List Int
  | 0, _ => []
  | k + 1, x => if 128 ≤ x then orb x :: leb k (x / 128) else [IntKind.u8.wrap x]
theorem leb_len : ∀ (k x : Nat), (leb k x).length ≤ k
  | 0, _ => by simp [leb]
  | k + 1, x => by
    unfold leb
    have := leb_len k (x / 128)
    split <;> simp <;> omega
@[simp] theorem conv_i (k k' : IntKind) (x : Int) : vConv k (.d (.i k' x)) = some (.d (.i k (k.wrap x))) := rfl
@[simp] theorem binI_or (k : IntKind) (a b : Int) : binI .or k a b = some (.i k (orW k a b)) := rfl
theorem natge128 (n : Nat) : (128 : Int) ≤ n ↔ 128 ≤ n := by omega
theorem shr7 (x : Nat) : binA .shr 0 (.d (.i .i64 (x : Int))) (.d (.i .u64 7)) = some (.i .i64 ((x / 128 : Nat) : Int)) := by
  simp only [binA]
  rw [show (decide ((7 : Int) < 0)) = false from rfl, cond_false]
  have : (2 : Int) ^ (Nat.min (Int.toNat 7) IntKind.i64.bits) = 128 := by decide
  rw [this, Int.fdiv_eq_ediv_of_nonneg _ (by omega)]
  rfl
theorem a_appendNumber (h : Heap) (n : Nat) (v : AV) (l : List Int) (x : Nat) (ho : Own h 1 v (encB l)) (hf : Fre h n) (hl : l.length < 1073741824) (hx : x < 2147483648) : Cw F 85 [v, .d (.i .i64 (x : Int))] h n fun v' h' n' => Own h' 1 v' (encB (l ++ leb 5 x)) ∧ Kp v h n v' h' n' := by
  refine cw_imp (cf := cf85) rfl rfl rfl rfl rfl ?_
  simp [cf85]
  refine loop_rule (fun m e h' n' => ∃ v' x' pre, x' < 128 ^ (m + 1) ∧ leb 5 x = pre ++ leb (m + 1) x' ∧ pre.length + m = 4 ∧ e.at 0 = v' ∧ e.at 1 = .d (.i .i64 (x' : Nat)) ∧ Own h' 1 v' (encB (l ++ pre)) ∧ Kp v h n v' h' n') ?_ 4 ⟨v, x, [], by omega, rfl, rfl, by simp, by simp, by simpa using ho, (Kp.refl hf).more (by omega)⟩
  rintro m e h1 n1 ⟨v1, x1, pre, hx1, hleb, hpre, e0, e1, o1, k1⟩ IH
  by_cases hge : 128 ≤ x1
  · cases m with
    | zero => simp at hx1; omega
    | succ m =>
    simp [e0, e1, natge128, hge, bs1, shr7]
    refine opw_own o1 (by simp [headSz]) (by simp; omega) fun v2 h2 o2 k2 hv2 => ?_
    simp [e1, shr7]
    have hstep := kp_of (n' := n1 + 2 + 7 + 3) k1.fr k2 hv2 (by omega) (by omega) (by omega)
    refine IH _ _ _ m ⟨v2, x1 / 128, pre ++ [orb x1], ?_, ?_, by simp; omega, by simp, by simp, ?_, k1.trans hstep⟩ (by omega)
    · rw [Nat.pow_succ] at hx1
      exact Nat.div_lt_of_lt_mul (by rw [Nat.mul_comm]; exact hx1)
    · rw [hleb]
      conv => lhs; unfold leb
      rw [if_pos hge]; simp
    · simpa [encB, orb] using o2
  · simp [e0, e1, natge128, hge, bs1]
    refine opw_own o1 (by simp [headSz]) (by simp; omega) fun v2 h2 o2 k2 hv2 => ?_
    simp [own_okV o2, tup]
    have hstep := kp_of (n' := n1 + 2 + 6) k1.fr k2 hv2 (by omega) (by omega) (by omega)
    refine ⟨?_, k1.trans hstep⟩
    rw [hleb]
    conv => arg 4; unfold leb
    rw [if_neg hge]
    simpa [encB] using o2
mutual
/-- A tree, encoded. -/
def encN : Tr → List Int
  | .nd l => leb 5 0 ++ leb 5 0 ++ leb 5 0 ++ leb 5 l.length ++ encNs l
def encNs : List Tr → List Int
  | [] => []
  | t :: ts => encN t ++ encNs ts
end
theorem encN_eq (t : Tr) : encN t = leb 5 0 ++ leb 5 0 ++ leb 5 0 ++ leb 5 t.kids.length ++ encNs t.kids := by cases t; rw [encN]; rfl
theorem encNs_take {l : List Tr} (j : Nat) (hj : j < l.length) : encNs (l.take (j + 1)) = encNs (l.take j) ++ encN l[j] := by
  induction l generalizing j with
  | nil => simp at hj
  | cons t ts ih =>
    rcases j with _ | j
    · simp [encNs]
    · have := ih j (by simpa using hj); simp [encNs] at this ⊢; rw [this]
mutual
theorem encN_len : ∀ t : Tr, (encN t).length ≤ 20 * t.size
  | .nd l => by
    unfold encN Tr.size
    have := encNs_len l
    have := leb_len 5 0
    have := leb_len 5 l.length
    simp only [List.length_append]
    omega
theorem encNs_len : ∀ l : List Tr, (encNs l).length ≤ 20 * Tr.sizes l
  | [] => by simp [encNs]
  | t :: ts => by
    unfold encNs Tr.sizes
    have := encN_len t
    have := encNs_len ts
    simp only [List.length_append]
    omega
end
theorem a_appendNode : ∀ (N : Nat) (t : Tr), t.size ≤ N → ∀ (h : Heap) (n : Nat) (v : AV) (l : List Int), Own h 1 v (encB l) → Fre h n → l.length + 20 * t.size < 536870912 → ∀ x, cellsV x = some (ccells t) → Cw F 43 [v, x] h n fun v' h' n' => Own h' 1 v' (encB (l ++ encN t)) ∧ Kp v h n v' h' n' := by
  intro N
  induction N with
  | zero => intro t h; have := Tr.size_pos t; omega
  | succ N ih =>
    intro t hN h n v l ho hf hl x hx
    refine cw_imp (cf := cf43) rfl rfl rfl rfl rfl ?_
    have hfr : h.get n = none := hf _ (Nat.le_refl _)
    have hsz := Tr.size_eq t
    have hln := Tr.len_le t.kids
    simp [cf43, hfr, hx]
    have k0 : Kp v h n v (T.set h n (.box (ccells t))) (n + 2 + 12) := kp_new hf (Nat.le_refl _) (by omega) (by omega)
    have o0 := own_fresh (ob := .box (ccells t)) ho hfr
    refine (a_appendNumber _ (n + 2 + 12) v l 0 o0 k0.fr (by omega) (by omega)).mono ?_
    rintro v1 h1 n1 ⟨o1, k1⟩
    have b1 := k1.box o0 (get_set_same h n _) (by omega)
    have l1 := leb_len 5 0
    simp [b1]
    refine (a_appendNumber h1 n1 v1 (l ++ leb 5 0) 0 o1 k1.fr (by simp; omega) (by omega)).mono ?_
    rintro v2 h2 n2 ⟨o2, k2⟩
    have b2 := k2.box o1 b1 (by have := k1.le; omega)
    simp [b2]
    refine (a_appendNumber h2 n2 v2 (l ++ leb 5 0 ++ leb 5 0) 0 o2 k2.fr (by simp; omega) (by omega)).mono ?_
    rintro v3 h3 n3 ⟨o3, k3⟩
    have b3 := k3.box o2 b2 (by have := k1.le; have := k2.le; omega)
    simp [b3]
    rw [loop_iff]
    simp [b3]
    have hb3 : n < n3 := by have := k1.le; have := k2.le; have := k3.le; omega
    have k03 := ((k0.trans k1).trans k2).trans k3
    have l2 := leb_len 5 t.kids.length
    refine (a_appendNumber h3 (n3 + 4 + 1 + 6) v3 (l ++ leb 5 0 ++ leb 5 0 ++ leb 5 0) t.kids.length o3 (k3.fr.mono (by omega)) (by simp; omega) (by omega)).mono ?_
    rintro v4 h4 n4 ⟨o4, k4⟩
    have b4 := k4.box o3 b3 (by omega)
    simp [b4]
    have k04 := (k03.more (by omega : n3 ≤ n3 + 4 + 1 + 6)).trans k4
    have hb4 : n < n4 := by have := k4.le; omega
    refine loop_rule (fun m e h' n' => ∃ i v', m = t.kids.length - i ∧ i ≤ t.kids.length ∧ e.at 0 = v' ∧ e.at 37 = .d (.sl (encTs t.kids)) ∧ e.at 38 = .d (.i .i64 t.kids.length) ∧ e.at 39 = .d (.i .i64 i) ∧ Own h' 1 v' (encB (l ++ leb 5 0 ++ leb 5 0 ++ leb 5 0 ++ leb 5 t.kids.length ++ encNs (t.kids.take i))) ∧ Kp v h n v' h' n') ?_ _ ⟨0, v4, rfl, by simp, by simp, by simp, by simp, by simp, by simpa [encNs] using o4, k04.more (by omega)⟩
    rintro m e h5 n5 ⟨i, v5, rfl, hi, e0, e37, e38, e39, o5, k5⟩ IH
    by_cases hlt : i < t.kids.length
    · have ht := Tr.size_get i hlt
      have hst := Tr.sizes_take i hlt
      have hst2 := Tr.sizes_take_le t.kids (i + 1)
      have hel := encNs_len (t.kids.take i)
      have hfr5 : h5.get (n5 + 1 + 2) = none := k5.fr _ (by omega)
      simp [e0, e37, e38, e39, hlt, hfr5]
      have k6 := k5.trans (kp_new (v := v5) (b := n5 + 1 + 2) (m := n5 + 1 + 4 + 4) (ob := .box [.d (.i .i64 0), .d (.i .i64 0), .d (.sl []), .d (.sl [])]) k5.fr (by omega) (by omega) (by omega))
      have k7 := k6.wr (ob := .box (ccells t.kids[i])) (b := n5 + 1 + 2) (by have := k5.le; omega) (by omega)
      have o7 := own_set (ob := .box (ccells t.kids[i])) (own_fresh (ob := .box [.d (.i .i64 0), .d (.i .i64 0), .d (.sl []), .d (.sl [])]) o5 hfr5) (get_set_same _ _ _)
      refine (ih t.kids[i] (by omega) _ (n5 + 1 + 4 + 4) v5 _ o7 k7.fr (by simp; omega) _ rfl).mono ?_
      rintro v6 h6 n6 ⟨o6, k8⟩
      simp [e39]
      rw [wrap64 (by omega) (by omega)]
      refine IH _ _ _ _ ⟨i + 1, v6, rfl, by omega, by simp, by simp [e37], by simp [e38], by simp, ?_, (k7.trans k8).more (by omega)⟩ (by omega)
      rw [encNs_take i hlt]
      simpa using o6
    · obtain rfl : i = t.kids.length := by omega
      simp [e0, e37, e38, e39, own_okV o5, tup]
      refine ⟨?_, k5.more (by omega)⟩
      rw [encN_eq]
      simpa using o5
end Tm.L5
set_option linter.unusedVariables false
set_option linter.unusedSimpArgs false
namespace Tm.L5
open Tm
open Go
set_option maxRecDepth 10000
theorem a_encodable : ∀ (N : Nat) (t : Tr), t.size ≤ N → t.size < 1073741824 → Res F 42 [encT t] [.d (.b true)] := by
  intro N
  induction N with
  | zero => intro t h; have := Tr.size_pos t; omega
  | succ N ih =>
    intro t hN hs
    have hsz := Tr.size_eq t
    have hlen := Tr.len_le t.kids
    have h84 : ∀ i (hi : i < t.kids.length), Res F 84 [encT t.kids[i]] [.d (.b false)] := by
      intro i hi
      have := Tr.size_get i hi
      refine res_of (cf := cf84) rfl rfl rfl rfl ?_
      simp [cf84]
      refine cw_res (ih t.kids[i] (by omega) (by omega)) (by simp [toDs]) ?_
      simp [tup]
    have h136 : ∀ (h : Heap) (n : Nat), Cw F 136 [.d (.sl (encTs t.kids)), .f 84 [] []] h n fun v h' n' => v = .d (.i .i64 (-1)) ∧ h' = h := by
      intro h n
      refine cw_imp (cf := cf136) rfl rfl rfl rfl rfl ?_
      simp [cf136]
      refine loop_rule (fun m e h' n' => ∃ i, h' = h ∧ m = t.kids.length - i ∧ i ≤ t.kids.length ∧ e.at 0 = .d (.sl (encTs t.kids)) ∧ e.at 1 = .f 84 [] [] ∧ e.at 7 = .d (.i .i64 t.kids.length) ∧ e.at 8 = .d (.i .i64 i)) ?_ _ ⟨0, rfl, rfl, by simp, by simp, by simp, by simp, by simp⟩
      rintro m e h1 n1 ⟨i, rfl, rfl, hi, e0, e1, e7, e8⟩ IH
      by_cases hlt : i < t.kids.length
      · simp [e0, e1, e7, e8, hlt]
        refine ⟨84, [], [], ⟨rfl, rfl, rfl⟩, ?_⟩
        refine cw_res (h84 i hlt) (by simp [toDs]) ?_
        simp [tup, e8]
        rw [wrap64 (by omega) (by omega)]
        exact IH _ _ _ _ ⟨i + 1, rfl, rfl, by omega, by simp [e0], by simp [e1], by simp [e7], by simp⟩ (by omega)
      · obtain rfl : i = t.kids.length := by omega
        simp [e0, e1, e7, e8, tup]
    have h83 : ∀ (h : Heap) (n : Nat), Cw F 83 [.d (.sl (encTs t.kids)), .f 84 [] []] h n fun v h' n' => v = .d (.b false) ∧ h' = h := by
      intro h n
      refine cw_imp (cf := cf83) rfl rfl rfl rfl rfl ?_
      simp [cf83]
      refine (h136 _ _).mono ?_
      rintro v h1 n1 ⟨rfl, rfl⟩
      simp [tup]
    have h135 : ∀ (h : Heap) (n : Nat), Cw F 135 [.d (.sl []), .f 81 [] []] h n fun v h' n' => v = .d (.i .i64 (-1)) ∧ h' = h := by
      intro h n
      refine cw_imp (cf := cf135) rfl rfl rfl rfl rfl ?_
      simp [cf135]
      rw [loop_iff]
      simp [tup]
    have h82 : ∀ (h : Heap) (n : Nat), Cw F 82 [.d (.sl []), .f 81 [] []] h n fun v h' n' => v = .d (.b false) ∧ h' = h := by
      intro h n
      refine cw_imp (cf := cf82) rfl rfl rfl rfl rfl ?_
      simp [cf82]
      refine (h135 _ _).mono ?_
      rintro v h1 n1 ⟨rfl, rfl⟩
      simp [tup]
    have h80 : Res F 80 [.i .i64 0] [.d (.b true)] := by
      refine res_of (cf := cf80) rfl rfl rfl rfl ?_
      simp [cf80]
    refine res_of (cf := cf42) rfl rfl rfl rfl ?_
    simp [cf42]
    refine ⟨80, [], [], ⟨rfl, rfl, rfl⟩, cw_res h80 (by simp [toDs]) ?_⟩
    simp [tup]
    refine ⟨80, [], [], ⟨rfl, rfl, rfl⟩, cw_res h80 (by simp [toDs]) ?_⟩
    simp [tup]
    refine (h82 _ _).mono ?_
    rintro v h1 n1 ⟨rfl, rfl⟩
    simp [tup]
    refine (h83 _ _).mono ?_
    rintro v h1 n1 ⟨rfl, rfl⟩
    simp [tup]
theorem outs_own2 {h : Heap} {sz : Nat} {v : AV} {l : List D} (ho : Own h sz v l) (k : IntKind) (x : Int) : ∃ h', outsD [v, .d (.i k x)] h = some ([.d (.sl l), .d (.i k x)], h') := by
  obtain ⟨h', e⟩ := outs_own ho
  refine ⟨h', ?_⟩
  simp only [outsD] at e ⊢
  split at e
  · rename_i v' h1 e1
    simp only [Option.some.injEq, Prod.mk.injEq, List.cons.injEq, and_true] at e
    obtain ⟨rfl, rfl⟩ := e
    rfl
  · cases e
theorem a_Encode_ok (t : Tr) (hs : t.size ≤ 20000) (hd : t.depth ≤ 64) : Res F 16 [encT t] [.d (.sl (encB (encN t))), .d (.i .i64 0)] := by
  refine res_of (cf := cf16) rfl rfl rfl rfl ?_
  simp [cf16]
  refine cw_res (a_cSize _ t (Nat.le_refl _) (by omega)) (by simp [toDs]) ?_
  have h1 : ¬ (20000 : Int) < t.size := by omega
  simp [tup, h1]
  refine cw_res (a_cDepth _ t (Nat.le_refl _) (by omega)).1 (by simp [toDs]) ?_
  have h2 : ¬ (64 : Int) < t.depth := by omega
  simp [tup, h2]
  refine cw_res (a_encodable _ t (Nat.le_refl _) (by omega)) (by simp [toDs]) ?_
  simp [tup]
  refine (a_appendNode _ t (Nat.le_refl _) _ _ (.zl []) [] .nil (((Fre.lf 12).set (by omega) (Nat.le_refl _)).mono (by omega)) (by simp; omega) _ rfl).mono ?_
  rintro v h n ⟨o, k⟩
  simp [tup, own_okV o]
  simp at o
  exact outs_own2 o _ _
@[simp] theorem okV_zl (l : List D) : okV (.zl l) = true := rfl
theorem a_Encode_no (t : Tr) (hs : 20000 < t.size ∨ 64 < t.depth) (hb : t.size < 1073741824) : Res F 16 [encT t] [.d (.sl []), .d (.i .i64 4)] := by
  refine res_of (cf := cf16) rfl rfl rfl rfl ?_
  simp [cf16]
  refine cw_res (a_cSize _ t (Nat.le_refl _) (by omega)) (by simp [toDs]) ?_
  by_cases h1 : 20000 < t.size
  · have h1' : (20000 : Int) < t.size := by omega
    simp [tup, h1']
    exact outs_own2 (sz := 1) .nil _ _
  · have h1' : ¬ (20000 : Int) < t.size := by omega
    simp [tup, h1']
    refine cw_res (a_cDepth _ t (Nat.le_refl _) (by omega)).1 (by simp [toDs]) ?_
    have h2 : (64 : Int) < t.depth := by omega
    simp [tup, h2]
    exact outs_own2 (sz := 1) .nil _ _
end Tm.L5
set_option linter.unusedVariables false
set_option linter.unusedSimpArgs false
namespace Tm.L5
open Tm
open Go
set_option maxRecDepth 10000
theorem u8_wrap (x : Nat) : IntKind.u8.wrap (x : Int) = ((x % 256 : Nat) : Int) := by
  simp [IntKind.wrap, IntKind.bits, IntKind.signed]
theorem or128 : ∀ y < 256, y ||| 128 = y % 128 + 128 := by decide
theorem and127 : ∀ y < 256, y &&& 127 = y % 128 := by decide
theorem bv8 (x : Nat) (hx : x < 256) : (BitVec.ofInt IntKind.u8.bits (x : Int)).toNat = x := by
  simp only [BitVec.toNat_ofInt, IntKind.bits]
  omega
theorem orb_eq (x : Nat) : orb x = ((x % 128 + 128 : Nat) : Int) := by
  have e : (BitVec.ofInt IntKind.u8.bits ((x % 256 : Nat) : Int) ||| BitVec.ofInt IntKind.u8.bits ((128 : Nat) : Int)).toNat = x % 128 + 128 := by
    have h1 := or128 (x % 256) (by omega)
    rw [BitVec.toNat_or, bv8 _ (by omega), bv8 _ (by omega), h1]
    omega
  have e2 : orb x = IntKind.u8.wrap ((BitVec.ofInt IntKind.u8.bits ((x % 256 : Nat) : Int) ||| BitVec.ofInt IntKind.u8.bits ((128 : Nat) : Int)).toNat : Nat) := by
    unfold orb orW
    rw [u8_wrap]; rfl
  rw [e2, e, u8_wrap]
  congr 1
  omega
def andW (k : IntKind) (a b : Int) : Int := k.wrap (BitVec.ofInt k.bits a &&& BitVec.ofInt k.bits b).toNat
@[simp] theorem binI_and (k : IntKind) (a b : Int) : binI .and k a b = some (.i k (andW k a b)) := rfl
theorem and_127 (x : Nat) (hx : x < 256) : andW .u8 x 127 = ((x % 128 : Nat) : Int) := by
  have e : (BitVec.ofInt IntKind.u8.bits (x : Int) &&& BitVec.ofInt IntKind.u8.bits ((127 : Nat) : Int)).toNat = x % 128 := by
    rw [BitVec.toNat_and, bv8 _ hx, bv8 _ (by omega), and127 x hx]
  have e2 : andW .u8 x 127 = IntKind.u8.wrap ((BitVec.ofInt IntKind.u8.bits (x : Int) &&& BitVec.ofInt IntKind.u8.bits ((127 : Nat) : Int)).toNat : Nat) := rfl
  rw [e2, e, u8_wrap]
  congr 1
  omega
theorem orW_add (s a y : Nat) (ha : a < 2 ^ s) (hy : y * 2 ^ s + a < 9223372036854775808) : orW .i64 a ((y * 2 ^ s : Nat) : Int) = ((a + y * 2 ^ s : Nat) : Int) := by
  unfold orW
  have e : (BitVec.ofInt IntKind.i64.bits (a : Int) ||| BitVec.ofInt IntKind.i64.bits ((y * 2 ^ s : Nat) : Int)).toNat = a + y * 2 ^ s := by
    rw [BitVec.toNat_or]
    simp only [BitVec.toNat_ofInt, IntKind.bits]
    have h1 : ((a : Int) % ((2 ^ 64 : Nat) : Int)).toNat = a := by omega
    have h2 : (((y * 2 ^ s : Nat) : Int) % ((2 ^ 64 : Nat) : Int)).toNat = y * 2 ^ s := by
      generalize y * 2 ^ s = z at hy ⊢
      omega
    rw [h1, h2, Nat.or_comm, Nat.mul_comm, ← Nat.two_pow_add_eq_or_of_lt ha, Nat.add_comm]
  rw [e]
  generalize y * 2 ^ s = z at hy ⊢
  exact wrap64 (by omega) (by omega)
/-- What a call of the decoder leaves. -/
structure Dk (p : Nat) (h : Heap) (n : Nat) (h' : Heap) (n' : Nat) : Prop where
  le : n ≤ n'
  fr : Fre h' n'
  at_ : ∀ b, b < n → b ≠ p → h'.get b = h.get b
theorem Dk.refl {p n : Nat} {h : Heap} (hf : Fre h n) : Dk p h n h n := ⟨Nat.le_refl _, hf, fun _ _ _ => rfl⟩
theorem Dk.trans {p n n1 n2 : Nat} {h h1 h2 : Heap} (a : Dk p h n h1 n1) (b : Dk p h1 n1 h2 n2) : Dk p h n h2 n2 :=
  ⟨Nat.le_trans a.le b.le, b.fr, fun c hc hp => (b.at_ c (Nat.lt_of_lt_of_le hc a.le) hp).trans (a.at_ c hc hp)⟩
theorem Dk.more {p n n1 m : Nat} {h h1 : Heap} (a : Dk p h n h1 n1) (hm : n1 ≤ m) : Dk p h n h1 m := ⟨Nat.le_trans a.le hm, a.fr.mono hm, a.at_⟩
/-- The decoder itself is written. -/
theorem Dk.set {p n n1 : Nat} {h h1 : Heap} {ob : Ob} (a : Dk p h n h1 n1) (hp : p < n1) : Dk p h n (h1.set p ob) n1 := ⟨a.le, a.fr.set hp (Nat.le_refl _), fun c hc hcp => by rw [get_set_ne (by omega)]; exact a.at_ c hc hcp⟩
/-- A variable of the call's own is written. -/
theorem Dk.own {p n n1 b : Nat} {h h1 : Heap} {ob : Ob} (a : Dk p h n h1 n1) (hb : n ≤ b) (hm : b < n1) : Dk p h n (h1.set b ob) n1 := ⟨a.le, a.fr.set hm (Nat.le_refl _), fun c hc hcp => by rw [get_set_ne (by omega)]; exact a.at_ c hc hcp⟩
abbrev dbox (l : List Int) (nd er : Int) : Ob := .box [.d (cutD (encB l)), .d (.i .i64 nd), .d (.i .i64 er)]
@[simp] theorem encB_cons (x : Int) (l : List Int) : encB (x :: l) = .i .u8 x :: encB l := rfl
@[simp] theorem cutD_cons (x : D) (l : List D) : cutD (x :: l) = .sl (x :: l) := rfl
@[simp] theorem encB_takeL (l : List Int) : (encB l).take l.length = encB l := by simp [encB, ← List.map_take]
@[simp] theorem cellsV_cut (l : List D) : cellsV (.d (cutD l)) = some [.d (cutD l)] := by cases l <;> rfl
@[simp] theorem headSz_i (k : IntKind) (x : Int) (l : List D) : headSz (.i k x :: l) 1 = true := rfl
theorem shl_s (y s : Nat) (hy : y < 128) (hs : s ≤ 28) : binA .shl 0 (.d (.i .i64 (y : Int))) (.d (.i .i64 (s : Int))) = some (.i .i64 ((y * 2 ^ s : Nat) : Int)) := by
  simp only [binA]
  rw [show (decide ((s : Int) < 0)) = false by simp, cond_false]
  have h1 : Nat.min (Int.toNat (s : Int)) IntKind.i64.bits = s := by
    show min s 64 = s
    omega
  have h2 : 2 ^ s ≤ 2 ^ 28 := Nat.pow_le_pow_right (by omega) hs
  have h3 : y * 2 ^ s ≤ 128 * 2 ^ 28 := Nat.mul_le_mul (by omega) h2
  rw [h1, wrap64]
  · simp
  · generalize 2 ^ s = z at h2 h3
    have : (0 : Int) ≤ (y : Int) * ((2 : Int) ^ s) := Int.mul_nonneg (by omega) (Int.pow_nonneg (by omega))
    omega
  · have : (y : Int) * ((2 : Int) ^ s) = ((y * 2 ^ s : Nat) : Int) := by simp
    rw [this]
    generalize y * 2 ^ s = z at h3 ⊢
    omega
theorem a_number (h : Heap) (n p x : Nat) (nd : Int) (r : List Int) (hb : h.get p = some (dbox (leb 5 x ++ r) nd 0)) (hp : p < n) (hf : Fre h n) (hx : x < 2147483648) : Cw F 61 [.p p 0] h n fun v h' n' => v = .d (.i .i64 x) ∧ h'.get p = some (dbox r nd 0) ∧ Dk p h n h' n' := by
  refine cw_imp (cf := cf61) rfl rfl rfl rfl rfl ?_
  simp [cf61]
  refine loop_rule (fun m e h' n' => ∃ i s a y, m = 4 - i ∧ i ≤ 4 ∧ s = 7 * i ∧ a < 2 ^ s ∧ a + y * 2 ^ s = x ∧ (0 < s → 0 < y) ∧ e.at 0 = .p p 0 ∧ e.at 3 = .d (.i .i64 (a : Nat)) ∧ e.at 4 = .d (.i .i64 (s : Nat)) ∧ h'.get p = some (dbox (leb (5 - i) y ++ r) nd 0) ∧ Dk p h n h' n') ?_ 4 ⟨0, 0, 0, x, rfl, by omega, rfl, by simp, by simp, by simp, by simp, by simp, by simp, by simpa using hb, (Dk.refl hf).more (by omega)⟩
  rintro m e h1 n1 ⟨i, s, a, y, rfl, hi, hs, ha, hay, hpos, e0, e3, e4, b1, k1⟩ IH
  have hp1 : p < n1 := Nat.lt_of_lt_of_le hp k1.le
  by_cases hge : 128 ≤ y
  · have hi4 : i < 4 := by
      rcases Nat.lt_or_ge i 4 with h | h
      · exact h
      · obtain rfl : i = 4 := by omega
        subst hs
        have : 128 * 2 ^ (7 * 4) ≤ y * 2 ^ (7 * 4) := Nat.mul_le_mul hge (Nat.le_refl _)
        omega
    have hl : leb (5 - i) y = ((y % 128 + 128 : Nat) : Int) :: leb (5 - (i + 1)) (y / 128) := by
      obtain ⟨j, hj⟩ : ∃ j, 5 - i = j + 1 := ⟨4 - i, by omega⟩
      rw [hj, show 5 - (i + 1) = j by omega]
      conv => lhs; unfold leb
      rw [if_pos hge, orb_eq]
    rw [hl, List.cons_append] at b1
    obtain ⟨c, hc⟩ : ∃ c, c = y % 128 + 128 := ⟨_, rfl⟩
    rw [← hc] at b1
    obtain ⟨z, hz⟩ : ∃ z, z = (y % 128) * 2 ^ s := ⟨_, rfl⟩
    have hcm : c % 128 = y % 128 := by omega
    have hsh := shl_s (y % 128) s (by omega) (by omega)
    rw [← hz] at hsh
    have hzx : z + y / 128 * 2 ^ (s + 7) = y * 2 ^ s := by
      rw [hz, Nat.pow_add, ← Nat.mul_assoc, Nat.mul_right_comm, ← Nat.add_mul]
      congr 1
      omega
    have hax : a + z ≤ x := by omega
    have ho : orW .i64 a (z : Int) = ((a + z : Nat) : Int) := by rw [hz]; exact orW_add s a _ ha (by rw [← hz]; omega)
    obtain ⟨w, hw⟩ : ∃ w, w = a + z := ⟨_, rfl⟩
    rw [← hw] at ho
    obtain ⟨d, hd⟩ : ∃ d, d = y % 128 := ⟨_, rfl⟩
    rw [← hd] at hsh hcm
    have g1 : ¬ (2147483647 : Int) < w := by omega
    have g2 : (128 : Int) ≤ c := by omega
    have g3 : ¬ ((leb (5 - (i + 1)) (y / 128) ++ r).length : Int) + 1 = 0 := by omega
    have g4 : ¬ (c : Int) < 128 := by omega
    have g5 := wrap64 (x := (d : Int)) (by omega) (by omega)
    have g6 : ¬ (s : Int) = 28 := by omega
    have g7 : ¬ c = 0 := by omega
    generalize hr : leb (5 - (i + 1)) (y / 128) ++ r = r' at b1 g3
    have hand := and_127 c (by omega)
    rw [hcm] at hand
    simp [e0, e3, e4, b1, hand, hsh, ho, g1, g2, g3, g4, g5, g6, g7]
    rw [wrap64 (by omega) (by omega)]
    refine IH _ _ _ _ ⟨i + 1, s + 7, w, y / 128, rfl, by omega, by omega, ?_, by omega, by omega, by simp [e0], by simp, by simp, ?_, (k1.set hp1).more (by omega)⟩ (by omega)
    · have h2 : (y % 128 + 1) * 2 ^ s ≤ 2 ^ (s + 7) := by
        rw [Nat.pow_add, Nat.mul_comm]
        exact Nat.mul_le_mul (Nat.le_refl _) (by omega)
      rw [Nat.add_mul] at h2
      omega
    · rw [hr]; simp
  · have hl : leb (5 - i) y = [(y : Int)] := by
      obtain ⟨j, hj⟩ : ∃ j, 5 - i = j + 1 := ⟨4 - i, by omega⟩
      rw [hj]; unfold leb
      rw [if_neg hge, u8_wrap]
      congr 2
      omega
    rw [hl] at b1
    obtain ⟨z, hz⟩ : ∃ z, z = y * 2 ^ s := ⟨_, rfl⟩
    have hsh := shl_s y s (by omega) (by omega)
    rw [← hz] at hsh
    have ho : orW .i64 a (z : Int) = ((x : Nat) : Int) := by rw [hz, orW_add s a y ha (by rw [Nat.add_comm, hay]; omega), hay]
    have g1 : ¬ (2147483647 : Int) < x := by omega
    have g2 : ¬ (128 : Int) ≤ y := by omega
    have g3 : ¬ (r.length : Int) + 1 = 0 := by omega
    have g4 : (y : Int) < 128 := by omega
    have g5 := wrap64 (x := (y : Int)) (by omega) (by omega)
    obtain ⟨b28, d28⟩ : ∃ b, decide ((s : Int) = 28) = b := ⟨_, rfl⟩
    obtain ⟨by0, dy0⟩ : ∃ b, decide (y = 0) = b := ⟨_, rfl⟩
    obtain ⟨bs, ds⟩ : ∃ b, decide (0 < s) = b := ⟨_, rfl⟩
    have cf1 : b28 = true → by0 = true → False := fun h1 h2 => by
      rw [h1] at d28; rw [h2] at dy0
      have := of_decide_eq_true d28; have := of_decide_eq_true dy0
      omega
    have cf2 : by0 = true → bs = true → False := fun h1 h2 => by
      rw [h1] at dy0; rw [h2] at ds
      have := of_decide_eq_true ds; have := of_decide_eq_true dy0
      omega
    clear IH
    cases b28 <;> cases by0 <;> cases bs <;> (first | exact (cf1 rfl rfl).elim | exact (cf2 rfl rfl).elim | skip)
    all_goals simp [e0, e3, e4, b1, and_127 y (by omega), Nat.mod_eq_of_lt (by omega : y < 128), hsh, ho, g1, g2, g3, g4, g5, d28, dy0, ds, tup]
    all_goals exact (k1.set hp1).more (by omega)
end Tm.L5
set_option linter.unusedVariables false
set_option linter.unusedSimpArgs false
namespace Tm.L5
open Tm
open Go
set_option maxRecDepth 10000
@[simp] theorem fillV_nil (e : Env) (c : List AV) : fillV e [] c = some c := rfl
def fil1 (e : Env) (ps : List (Nat × Nat × Opd)) (o s : Nat) (c : List AV) : Option (List AV) → Option (List AV)
  | some vs => if vs.length = s ∧ o + s ≤ c.length then fillV e ps (putCells o vs c) else none
  | none => none
@[simp] theorem fil1_some (e : Env) (ps : List (Nat × Nat × Opd)) (o s : Nat) (c vs : List AV) : fil1 e ps o s c (some vs) = if vs.length = s ∧ o + s ≤ c.length then fillV e ps (putCells o vs c) else none := rfl
@[simp] theorem fillV_cons (e : Env) (o s : Nat) (x : Opd) (ps : List (Nat × Nat × Opd)) (c : List AV) : fillV e ((o, s, x) :: ps) c = fil1 e ps o s c (cellsV (x.ev e)) := by
  rw [fillV]
  cases cellsV (x.ev e) with
  | none => rfl
  | some vs =>
    simp only [fil1_some]
    by_cases h1 : vs.length = s <;> by_cases h2 : o + s ≤ c.length <;> simp [h1, h2]
    rw [show (vs.length == s) = false by simp [h1]]
/-- A row that a call made. -/
def OwnD (n n' : Nat) (h : Heap) (sz : Nat) (v : AV) (l : List D) : Prop := (v = .d (.sl []) ∧ l = []) ∨ (l ≠ [] ∧ ∃ a, n ≤ a ∧ a < n' ∧ v = .sl a 0 l.length ∧ h.get a = some (.row sz l false))
theorem OwnD.nil {n n' : Nat} {h : Heap} {sz : Nat} : OwnD n n' h sz (.d (.sl [])) [] := .inl ⟨rfl, rfl⟩
theorem OwnD.keep {n n' m : Nat} {h h' : Heap} {sz : Nat} {v : AV} {l : List D} (o : OwnD n n' h sz v l) (hm : n' ≤ m) (hk : ∀ a, n ≤ a → a < n' → (∃ r, h.get a = some (.row sz r false)) → h'.get a = h.get a) : OwnD n m h' sz v l :=
  o.imp id fun ⟨h1, a, h2, h3, h4, h5⟩ => ⟨h1, a, h2, Nat.lt_of_lt_of_le h3 hm, h4, by rw [hk a h2 h3 ⟨_, h5⟩, h5]⟩
theorem OwnD.cell {n n' : Nat} {h : Heap} {sz : Nat} {v : AV} {l : List D} (o : OwnD n n' h sz v l) (hf : Fre h n') : ∃ h', cellD v h = some (.sl l, h') ∧ (∀ b, b < n → h'.get b = h.get b) ∧ Fre h' n' := by
  rcases o with ⟨rfl, rfl⟩ | ⟨hl, a, h1, h2, rfl, ha⟩
  · exact ⟨h, rfl, fun _ _ => rfl, hf⟩
  · have hn : l.length ≠ 0 := by intro e; exact hl (List.eq_nil_of_length_eq_zero e)
    have := toD_row (lo := 0) hn ha (by simp)
    refine ⟨h.set a (.row sz l true), ?_, fun b hb => by rw [get_set_ne (by omega)], hf.set h2 (Nat.le_refl _)⟩
    simp only [toD] at this
    rw [this]; simp
theorem OwnD.tree {n n' : Nat} {h : Heap} {v : AV} {t : Tr} (o : OwnD n n' h 4 v (encTs t.kids)) (hf : Fre h n') : ∃ h', toD (.ag [.d (.i .i64 0), .d (.i .i64 0), .d (.sl []), v]) h = some (encT t, h') ∧ (∀ b, b < n → h'.get b = h.get b) ∧ Fre h' n' := by
  obtain ⟨h', e, h1, h2⟩ := o.cell hf
  refine ⟨h', ?_, h1, h2⟩
  simp only [toD, cellsToD, e, show ∀ (x : D) (h : Heap), cellD (.d x) h = some (x, h) from fun _ _ => rfl]
  rw [encT_eq]
theorem OwnD.app {n n' m k : Nat} {h : Heap} {sz : Nat} {v : AV} {l ys : List D} (o : OwnD n n' h sz v l) (hf : Fre h n') (hk : n ≤ k) (hkm : k < m) (hm : n' ≤ m) (hy : ys ≠ []) (hs : headSz ys sz = true) (hl : l.length + ys.length < 4294967296) : ∃ v' h', appA sz v ys h k = some (v', h') ∧ OwnD n m h' sz v' (l ++ ys) ∧ (∀ b, b ≠ k → (∀ r, h.get b ≠ some (.row sz r false)) → h'.get b = h.get b) ∧ (∀ b, b ≠ k → b < n → h'.get b = h.get b) ∧ Fre h' m ∧ okV v' = true ∧ cellsV v' = some [v'] := by
  rcases o with ⟨rfl, rfl⟩ | ⟨hl0, a, h1, h2, rfl, ha⟩
  · refine ⟨.sl k 0 ys.length, h.set k (.row sz ys false), ?_, .inr ⟨by simpa using hy, k, hk, hkm, by simp, by simp⟩, fun b hb _ => get_set_ne hb, fun b hb _ => get_set_ne hb, hf.set hkm hm, rfl, rfl⟩
    cases ys with
    | nil => exact absurd rfl hy
    | cons y ys =>
      have hl' : Nat.blt (y :: ys).length 4294967296 = true := by simp [Nat.blt_eq] at hl ⊢; omega
      simp only [appA, hs, hl']; rfl
  · refine ⟨_, _, appA_sl hy ha (by simp) hl, .inr ⟨by simp [hl0], k, hk, hkm, by simp, by simp⟩, fun b hb hv => ?_, fun b hb hv => ?_, fun b hb => ?_, rfl, rfl⟩
    · rw [get_set_ne hb, T.get_del, if_neg (fun e => hv l (by rw [e]; exact ha))]
    · rw [get_set_ne hb, T.get_del, if_neg (by omega)]
    · rw [get_set_ne (by omega), T.get_del, if_neg (by omega)]; exact hf b (by omega)
theorem encNs_drop {l : List Tr} (j : Nat) (hj : j < l.length) : encNs (l.drop j) = encN l[j] ++ encNs (l.drop (j + 1)) := by
  rw [List.drop_eq_getElem_cons hj, encNs]
theorem Tr.depth_get {l : List Tr} (j : Nat) (hj : j < l.length) : l[j].depth ≤ Tr.depths l := by
  induction l generalizing j with
  | nil => simp at hj
  | cons t ts ih =>
    unfold Tr.depths
    rcases j with _ | j
    · simp; omega
    · have := ih j (by simpa using hj); simp; omega
abbrev zbox : Ob := .box [.d (.i .i64 0), .d (.i .i64 0), .d (.sl []), .d (.sl [])]
theorem a_node : ∀ (N : Nat) (t : Tr), t.size ≤ N → ∀ (h : Heap) (n p nd dep : Nat) (r : List Int), h.get p = some (dbox (encN t ++ r) nd 0) → p < n → Fre h n → nd + t.size ≤ 20000 → dep + t.depth ≤ 65 → Cw F 27 [.p p 0, .d (.i .i64 dep)] h n fun v h' n' => (∃ pv, v = .ag [.d (.i .i64 0), .d (.i .i64 0), .d (.sl []), pv] ∧ OwnD n n' h' 4 pv (encTs t.kids)) ∧ h'.get p = some (dbox r ((nd + t.size : Nat) : Int) 0) ∧ Dk p h n h' n' := by
  intro N
  induction N with
  | zero => intro t h; have := Tr.size_pos t; omega
  | succ N ih =>
    intro t hN h n p nd dep r hb hp hf hnd hdep
    have hsz := Tr.size_eq t
    have hdp := Tr.depth_eq t
    have hlen := Tr.len_le t.kids
    have hfr : h.get n = none := hf _ (Nat.le_refl _)
    have hpn : p ≠ n := by omega
    have hnp : n ≠ p := by omega
    rw [encN_eq] at hb
    have g1 : ¬ (20000 : Int) < (nd : Int) + 1 := by omega
    have g2 : ¬ (64 : Int) < dep := by omega
    have g3 := wrap64 (x := (nd : Int) + 1) (by omega) (by omega)
    refine cw_imp (cf := cf27) rfl rfl rfl rfl rfl ?_
    simp [cf27, hfr, hb, T.get_set, hpn, hnp, g1, g2, g3]
    have k0 : Dk p h n _ (n + 1 + 8 + 9 + 5) := (((Dk.refl (p := p) hf).more (m := n + 1 + 8 + 9 + 5) (by omega)).own (b := n) (ob := .box [.d (.i .i64 0), .d (.i .i64 0), .d (.sl []), .d (.sl [])]) (Nat.le_refl _) (by omega)).set (ob := dbox (leb 5 0 ++ (leb 5 0 ++ (leb 5 0 ++ (leb 5 t.kids.length ++ (encNs t.kids ++ r))))) ((nd : Int) + 1) 0) (by omega)
    refine (a_number _ _ p 0 _ _ (get_set_same _ _ _) (by omega) k0.fr (by omega)).mono ?_
    rintro v1 h1 n1 ⟨rfl, b1, k1⟩
    have l1 := k1.le
    have q1 : h1.get n = some (.box [.d (.i .i64 0), .d (.i .i64 0), .d (.sl []), .d (.sl [])]) := by rw [k1.at_ n (by omega) hnp]; simp [T.get_set, hnp]
    have k01 := k0.trans k1
    have f1 : ∀ b, n1 ≤ b → h1.get b = none := k1.fr
    have fq : h1.get (n + 1 + 8 + 9 + 3) = none := by rw [k1.at_ _ (by omega) (by omega)]; rw [get_set_ne (by omega), get_set_ne (by omega)]; exact hf _ (by omega)
    obtain ⟨q, hq⟩ : ∃ q, q = n + 1 + 8 + 9 + 3 := ⟨_, rfl⟩
    rw [← hq] at fq
    have hqn : n ≤ q := by omega
    have hqn1 : q < n1 := by omega
    have hqp : q ≠ p := by omega
    have hpq : p ≠ q := by omega
    have hnq : n ≠ q := by omega
    simp [b1, q1, T.get_set, ← hq, fq, hpq, hqp]
    have k2 := (k01.own (b := q) (ob := .box [.d (.i .i64 0), .d (.i .i64 0), .d (.sl []), .d (.sl [])]) hqn hqn1).own (b := q) (ob := .box [.d (.i .i64 0), .d (.i .i64 0), .d (.sl []), .d (.sl [])]) hqn hqn1
    refine (a_number _ _ p 0 _ _ (by simp [T.get_set, hqp, hpq]; exact b1) (by omega) (k2.fr.mono (by omega)) (by omega)).mono ?_
    rintro v2 h2 n2 ⟨rfl, b2, k3⟩
    have l2 := k3.le
    have q2 : h2.get n = some (.box [.d (.i .i64 0), .d (.i .i64 0), .d (.sl []), .d (.sl [])]) := by rw [k3.at_ n (by omega) hnp]; simp [T.get_set, hnq, q1]
    have r2 : h2.get q = some (.box [.d (.i .i64 0), .d (.i .i64 0), .d (.sl []), .d (.sl [])]) := by rw [k3.at_ q (by omega) hqp]; simp [T.get_set]
    have k03 := (k2.more (by omega)).trans k3
    simp [b2, q2, r2, T.get_set, hqp, hpq]
    have k4 := k03.own (b := q) (ob := .box [.d (.i .i64 0), .d (.i .i64 0), .d (.sl []), .d (.sl [])]) hqn (by omega)
    refine (a_number _ _ p 0 _ _ (by rw [get_set_ne hpq]; exact b2) (by omega) (k4.fr.mono (by omega)) (by omega)).mono ?_
    rintro v3 h3 n3 ⟨rfl, b3, k5⟩
    have l3 := k5.le
    have q3 : h3.get n = some (.box [.d (.i .i64 0), .d (.i .i64 0), .d (.sl []), .d (.sl [])]) := by rw [k5.at_ n (by omega) hnp]; simp [T.get_set, hnq, q2]
    have r3 : h3.get q = some (.box [.d (.i .i64 0), .d (.i .i64 0), .d (.sl []), .d (.sl [])]) := by rw [k5.at_ q (by omega) hqp]; simp [T.get_set]
    have k05 := (k4.more (by omega)).trans k5
    simp [b3, q3, r3]
    rw [loop_iff]
    simp [b3, q3, r3]
    have hl5 := leb_len 5 t.kids.length
    refine (a_number h3 (n3 + 9 + 3) p t.kids.length _ _ b3 (by omega) (k05.fr.mono (by omega)) (by omega)).mono ?_
    rintro v4 h4 n4 ⟨rfl, b4, k6⟩
    have l4 := k6.le
    have q4 : h4.get n = some (.box [.d (.i .i64 0), .d (.i .i64 0), .d (.sl []), .d (.sl [])]) := by rw [k6.at_ n (by omega) hnp, q3]
    have r4 : h4.get q = some (.box [.d (.i .i64 0), .d (.i .i64 0), .d (.sl []), .d (.sl [])]) := by rw [k6.at_ q (by omega) hqp, r3]
    have k06 := (k05.more (by omega)).trans k6
    simp [b4, q4, r4]
    clear b1 b2 b3 q1 q2 q3 r2 r3 k0 k01 k2 k3 k03 k4 k5 k05
    refine loop_rule (fun m e h' n' => ∃ i pv, m = t.kids.length - i ∧ i ≤ t.kids.length ∧ e.at 0 = .p p 0 ∧ e.at 1 = .d (.i .i64 dep) ∧ e.at 4 = .p n 0 ∧ e.at 5 = .p q 0 ∧ e.at 8 = .d (.i .i64 ((t.kids.length - i : Nat) : Int)) ∧ h'.get p = some (dbox (encNs (t.kids.drop i) ++ r) ((nd + 1 + Tr.sizes (t.kids.take i) : Nat) : Int) 0) ∧ h'.get n = some zbox ∧ h'.get q = some (.box [.d (.i .i64 0), .d (.i .i64 0), .d (.sl []), pv]) ∧ OwnD n n' h' 4 pv (encTs (t.kids.take i)) ∧ Dk p h n h' n' ∧ n4 ≤ n') ?_ _ ⟨0, _, rfl, by omega, by simp, by simp, by simp, by simp, by simp, by simpa [Tr.sizes] using b4, q4, r4, .nil, k06.more (by omega), by omega⟩
    clear b4 q4 r4 k06
    rintro m e h5 n5 ⟨i, pv, rfl, hi, e0, e1, e4, e5, e8, b5, q5, r5, o5, k5, hn5⟩ IH
    by_cases hlt : i < t.kids.length
    · have ht := Tr.size_get i hlt
      have hst := Tr.sizes_take i hlt
      have hst2 := Tr.sizes_take_le t.kids (i + 1)
      have hdt := Tr.depth_get i hlt
      rw [encNs_drop i hlt, List.append_assoc] at b5
      have g0 : 0 < t.kids.length - i := by omega
      have g4 := wrap64 (x := (dep : Int) + 1) (by omega) (by omega)
      simp [e0, e1, e5, e8, b5, r5, g4, g0]
      have cf5 := k5.le
      refine (ih t.kids[i] (by omega) h5 (n5 + 9 + 10) p (nd + 1 + Tr.sizes (t.kids.take i)) (dep + 1) _ b5 (by omega) (k5.fr.mono (by omega)) (by omega) (by omega)).mono ?_
      rintro v6 h6 n6 ⟨⟨pw, rfl, o6⟩, b6, k6'⟩
      have cf6 := k6'.le
      have q6 : h6.get n = some zbox := by rw [k6'.at_ n (by omega) hnp, q5]
      have r6 : h6.get q = some (.box [.d (.i .i64 0), .d (.i .i64 0), .d (.sl []), pv]) := by rw [k6'.at_ q (by omega) hqp, r5]
      have o56 : OwnD n n6 h6 4 pv (encTs (t.kids.take i)) := o5.keep (by omega) fun a h1 h2 _ => k6'.at_ a (by omega) (by omega)
      obtain ⟨h7, e7, f7, fr7⟩ := o6.tree k6'.fr
      have hbq : beqV pv pv = true := by rcases o56 with ⟨rfl, _⟩ | ⟨_, a, _, _, rfl, _⟩ <;> simp
      have q7 : h7.get n = some zbox := by rw [f7 n (by omega), q6]
      have r7 : h7.get q = some (.box [.d (.i .i64 0), .d (.i .i64 0), .d (.sl []), pv]) := by rw [f7 q (by omega), r6]
      have o57 : OwnD n n6 h7 4 pv (encTs (t.kids.take i)) := o5.keep (by omega) fun a h1 h2 _ => by rw [f7 a (by omega), k6'.at_ a (by omega) (by omega)]
      obtain ⟨v8, h8, e8', o8, x8, y8, fr8, ok8, cv8⟩ := o57.app (ys := [encT t.kids[i]]) (k := n5 + 9 + 7) (m := n6) fr7 (by omega) (by omega) (Nat.le_refl _) (by simp) (by simp [headSz]) (by simp; omega)
      have e9 : appV 4 pv (.zl [encT t.kids[i]]) h7 (n5 + 9 + 7) = some (v8, h8) := (appV_zl (by simp [headSz])).trans e8'
      have q8 : h8.get n = some zbox := by rw [x8 n (by omega) (by simp [q7]), q7]
      have r8 : h8.get q = some (.box [.d (.i .i64 0), .d (.i .i64 0), .d (.sl []), pv]) := by rw [x8 q (by omega) (by simp [r7]), r7]
      have b8 : h8.get p = some (dbox (encNs (t.kids.drop (i + 1)) ++ r) ((nd + 1 + Tr.sizes (t.kids.take i) + t.kids[i].size : Nat) : Int) 0) := by rw [y8 p (by omega) hp, f7 p (by omega), b6]
      have g5 := wrap64 (x := ((t.kids.length - i : Nat) : Int) - 1) (by omega) (by omega)
      simp [e0, e5, e8, r6, hbq, bs1, e7, e9, r8, cv8, g5]
      refine IH _ _ _ _ ⟨i + 1, v8, rfl, by omega, by simp [e0], by simp [e1], by simp [e4], by simp [e5], by simp; omega, ?_, ?_, ?_, ?_, ?_, by omega⟩ (by omega)
      · rw [get_set_ne hpq, b8, hst]; simp; omega
      · rw [get_set_ne hnq, q8]
      · simp
      · rw [encTs_map, List.take_succ_eq_append_getElem hlt, List.map_append, ← encTs_map]
        exact o8.keep (by omega) fun a h1 h2 ⟨r, h3⟩ => by
          rw [get_set_ne]
          rintro rfl
          rw [r8] at h3; cases h3
      · exact ⟨by omega, (fr8.set (by omega) (Nat.le_refl _)).mono (by omega), fun b hb1 hb2 => by rw [get_set_ne (by omega), y8 b (by omega) hb1, f7 b (by omega), k6'.at_ b (by omega) hb2, k5.at_ b hb1 hb2]⟩
    · obtain rfl : i = t.kids.length := by omega
      simp [e0, e4, e5, e8, b5, q5, r5]
      rw [List.take_length] at o5
      refine ⟨⟨pv, rfl, o5.keep (by omega) fun a h1 h2 ⟨r, h3⟩ => ?_⟩, ?_, (k5.own (Nat.le_refl n) (by omega)).more (by omega)⟩
      · rw [get_set_ne]
        rintro rfl
        rw [q5] at h3; cases h3
      · rw [get_set_ne hpn, b5, hsz]
        simp [encNs]
        omega
end Tm.L5
set_option linter.unusedVariables false
set_option linter.unusedSimpArgs false
namespace Tm.L5
open Tm
open Go
set_option maxRecDepth 10000
theorem cutD_ne {l : List D} (h : l ≠ []) : cutD l = .sl l := by cases l with | nil => exact absurd rfl h | cons x l => rfl
theorem encN_ne (t : Tr) : encN t ≠ [] := by
  rw [encN_eq]
  unfold leb
  simp
@[simp] theorem cutD_nil : cutD [] = .se := rfl
@[simp] theorem len_se : vLen false (.d .se) = some (.d (.i .i64 0)) := rfl
theorem a_Decode_ok (t : Tr) (hs : t.size ≤ 20000) (hd : t.depth ≤ 64) : Res F 10 [.sl (encB (encN t))] [.d (encT t), .d (.i .i64 0)] := by
  have hne : encB (encN t) ≠ [] := by have := encN_ne t; cases h : encN t <;> simp_all [encB]
  refine res_of (cf := cf10) rfl rfl rfl rfl ?_
  simp [cf10, T.get_set]
  have hz : ((T.lf.set 0 zbox).set 4 (.box [.d (.sl (encB (encN t))), .d (.i .i64 0), .d (.i .i64 0)])).get 4 = some (dbox (encN t ++ []) ((0 : Nat) : Int) 0) := by
    rw [get_set_same, List.append_nil, dbox, cutD_ne hne]; rfl
  have hf : Fre ((T.lf.set 0 zbox).set 4 (.box [.d (.sl (encB (encN t))), .d (.i .i64 0), .d (.i .i64 0)])) 10 := ((Fre.lf 10).set (by omega) (Nat.le_refl _)).set (by omega) (Nat.le_refl _)
  refine (a_node _ t (Nat.le_refl _) _ 10 4 0 1 [] hz (by omega) hf (by omega) (by omega)).mono ?_
  rintro v h n ⟨⟨pv, rfl, o⟩, b, k⟩
  have hn := k.le
  have b0 : h.get 0 = some zbox := by rw [k.at_ 0 (by omega) (by omega), get_set_ne (by omega), get_set_same]
  have b8 : h.get 8 = none := by rw [k.at_ 8 (by omega) (by omega), get_set_ne (by omega), get_set_ne (by omega)]; rfl
  simp [b, b0, b8, T.get_set]
  have o3 : OwnD 10 n (((T.set h 8 zbox).set 8 (.box [.d (.i .i64 0), .d (.i .i64 0), .d (.sl []), pv])).set 0 (.box [.d (.i .i64 0), .d (.i .i64 0), .d (.sl []), pv])) 4 pv (encTs t.kids) := o.keep (Nat.le_refl _) fun a h1 h2 _ => by rw [get_set_ne (by omega), get_set_ne (by omega), get_set_ne (by omega)]
  obtain ⟨h', e, _⟩ := o3.tree (((k.fr.set (by omega) (Nat.le_refl _)).set (by omega) (Nat.le_refl _)).set (by omega) (Nat.le_refl _))
  rw [e]
  exact ⟨_, rfl⟩
@[simp] theorem binI_rem (k : IntKind) (a b : Int) : binI .rem k a b = bif b == 0 then none else some (.i k (a.tmod b)) := rfl
theorem a_Mod3 (n : Int) : Res F 9 [.i .i64 n, .i .i64 3] [.d (.i .i64 (n % 3))] := by
  refine res_of (cf := cf9) rfl rfl rfl rfl ?_
  have h1 := Int.tmod_eq_emod (a := n) (b := 3)
  have h2 : -3 < n.tmod 3 ∧ n.tmod 3 < 3 := by split at h1 <;> omega
  by_cases h : n.tmod 3 < 0
  · have h3 := wrap64 (x := n.tmod 3 + 3) (by omega) (by omega)
    simp [cf9, h, h3]
    split at h1 <;> omega
  · simp [cf9, h]
    split at h1 <;> omega
/-- The law's trees. -/
def Wd (k : Nat) : Tr := .nd (List.replicate k (.nd []))
def Dp : Nat → Tr
  | 0 => .nd []
  | k + 1 => .nd [Dp k]
theorem Wd_size (k : Nat) : (Wd k).size = k + 1 := by
  have : ∀ k, Tr.sizes (List.replicate k (.nd [])) = k := by
    intro k
    induction k with
    | zero => rfl
    | succ k ih => rw [List.replicate_succ, Tr.sizes, ih]; simp [Tr.size, Tr.sizes]; omega
  rw [Tr.size_eq]
  show Tr.sizes (List.replicate k (.nd [])) + 1 = k + 1
  rw [this]
theorem Wd_depth (k : Nat) : (Wd k).depth ≤ 2 := by
  have : ∀ k, Tr.depths (List.replicate k (.nd [])) ≤ 1 := by
    intro k
    induction k with
    | zero => simp [Tr.depths]
    | succ k ih => rw [List.replicate_succ, Tr.depths]; simp only [Tr.depth, Tr.depths]; omega
  rw [Tr.depth_eq]
  have := this k
  show Tr.depths (List.replicate k (.nd [])) + 1 ≤ 2
  omega
theorem Dp_size (k : Nat) : (Dp k).size = k + 1 := by
  induction k with
  | zero => rfl
  | succ k ih => rw [Dp, Tr.size, Tr.sizes, Tr.sizes, ih]
theorem Dp_depth (k : Nat) : (Dp k).depth = k + 1 := by
  induction k with
  | zero => rfl
  | succ k ih => rw [Dp, Tr.depth, Tr.depths, Tr.depths, ih]; simp only [Nat.max_zero]
theorem toD_0 (h : Heap) : toD (.ag [.d (.i .i64 0), .d (.i .i64 0), .d (.sl []), .d (.sl [])]) h = some (encT (.nd []), h) := rfl
theorem Wd_kids (k : Nat) : (Wd k).kids = List.replicate k (.nd []) := rfl
theorem encTs_rep (k : Nat) : encTs (List.replicate (k + 1) (.nd [])) = encTs (List.replicate k (.nd [])) ++ [encT (.nd [])] := by
  rw [encTs_map, List.replicate_succ', List.map_append, ← encTs_map]; rfl
theorem a_Limits (n : Int) (hck : Res F 12 [] [.d (.b true)]) (hdn : Res F 10 [.sl []] [.d (encT (.nd [])), .d (.i .i64 3)]) : Res F 5 [.i .i64 n] [.d (.b true)] := by
  refine res_of (cf := cf5) rfl rfl rfl rfl ?_
  simp [cf5]
  refine cw_res (a_Mod3 n) (by simp [toDs]) ?_
  obtain ⟨m, hm⟩ : ∃ m, m = (n % 3).toNat := ⟨_, rfl⟩
  have hm2 : m ≤ 2 := by omega
  have hm3 : n % 3 = m := by omega
  rw [hm3]
  obtain ⟨d, hd⟩ : ∃ d, d = (m : Int) - 1 := ⟨_, rfl⟩
  have g1 : IntKind.i64.wrap ((m : Int) - 1) = d := by rw [wrap64 (by omega) (by omega), hd]
  have g2 : IntKind.i64.wrap (20000 + d) = ((19999 + m : Nat) : Int) := by rw [wrap64 (by omega) (by omega)]; omega
  have g3 : IntKind.i64.wrap (64 + d) = ((63 + m : Nat) : Int) := by rw [wrap64 (by omega) (by omega)]; omega
  simp [tup, T.get_set, g1]
  clear hm hm3 g1
  refine loop_rule (fun k e h' n' => ∃ i pv, k = 19998 + m - i ∧ i ≤ 19998 + m ∧ e.at 0 = .d (.i .i64 d) ∧ e.at 3 = .p 5 0 ∧ e.at 4 = .p 6 0 ∧ e.at 5 = .d (.i .i64 ((i + 1 : Nat) : Int)) ∧ h'.get 5 = some (.box [.d (.i .i64 0), .d (.i .i64 0), .d (.sl []), pv]) ∧ h'.get 6 = some zbox ∧ OwnD 8 n' h' 4 pv (encTs (List.replicate i (.nd []))) ∧ Fre h' n' ∧ 8 ≤ n') ?_ _ ⟨0, _, rfl, by omega, by simp, by simp, by simp, by simp, by simp [T.get_set], by simp, .nil, ((Fre.lf 8).set (by omega) (Nat.le_refl _)).set (by omega) (Nat.le_refl _), by omega⟩
  rintro k e h1 n1 ⟨i, pv, rfl, hi, e0, e3, e4, e5, b5, b6, o, hf, hn⟩ IH
  by_cases hlt : i < 19998 + m
  · have g4 : ((i + 1 : Nat) : Int) < ((19999 + m : Nat) : Int) := by omega
    have g5 := wrap64 (x := ((i + 1 : Nat) : Int) + 1) (by omega) (by omega)
    obtain ⟨i1, hi1⟩ : ∃ i1, i1 = i + 1 := ⟨_, rfl⟩
    rw [← hi1] at e5 g4 g5
    obtain ⟨w, hw⟩ : ∃ w, w = 19999 + m := ⟨_, rfl⟩
    rw [← hw] at g4 g2
    have g6 : i1 < w := by omega
    obtain ⟨v8, h8, e8', o8, x8, y8, fr8, ok8, cv8⟩ := o.app (ys := [encT (.nd [])]) (k := n1 + 4 + 4) (m := n1 + 4 + 7) (hf.mono (by omega)) (by omega) (by omega) (by omega) (by simp) (by simp [headSz]) (by simp; omega)
    have e9 : appV 4 pv (.zl [encT (.nd [])]) h1 (n1 + 4 + 4) = some (v8, h8) := (appV_zl (by simp [headSz])).trans e8'
    have c5' : h8.get 5 = some (.box [.d (.i .i64 0), .d (.i .i64 0), .d (.sl []), pv]) := by rw [y8 5 (by omega) (by omega), b5]
    have c6' : h8.get 6 = some zbox := by rw [y8 6 (by omega) (by omega), b6]
    simp [e0, e3, e4, e5, g2, g5, g6, b5, bs1, toD_0, e9, c5', cv8]
    refine IH _ _ _ _ ⟨i + 1, v8, rfl, by omega, by simp [e0], by simp [e3], by simp [e4], by simp; omega, by simp, by rw [get_set_ne (by omega)]; exact c6', ?_, (fr8.set (by omega) (Nat.le_refl _)).mono (by omega), by omega⟩ (by omega)
    rw [encTs_rep]
    exact o8.keep (by omega) fun a h1 h2 _ => by rw [get_set_ne (by omega)]
  · obtain rfl : i = 19998 + m := by omega
    clear IH hlt hi
    have g4 : ((19998 + m + 1 : Nat) : Int) = ((19999 + m : Nat) : Int) := by omega
    rw [g4] at e5
    obtain ⟨w, hw⟩ : ∃ w, w = 19999 + m := ⟨_, rfl⟩
    rw [← hw] at e5 g2 g4
    simp [e0, e3, e4, e5, g2]
    refine loop_rule (fun k e h' n' => ∃ j dv, k = 62 + m - j ∧ j ≤ 62 + m ∧ e.at 0 = .d (.i .i64 d) ∧ e.at 3 = .p 5 0 ∧ e.at 4 = .p 6 0 ∧ e.at 6 = .d (.i .i64 ((j + 1 : Nat) : Int)) ∧ h'.get 5 = some (.box [.d (.i .i64 0), .d (.i .i64 0), .d (.sl []), pv]) ∧ h'.get 6 = some (.box [.d (.i .i64 0), .d (.i .i64 0), .d (.sl []), dv]) ∧ (∀ h, toD (.ag [.d (.i .i64 0), .d (.i .i64 0), .d (.sl []), dv]) h = some (encT (Dp j), h)) ∧ OwnD 8 n' h' 4 pv (encTs (List.replicate (19998 + m) (.nd []))) ∧ Fre h' n' ∧ 8 ≤ n') ?_ _ ⟨0, _, rfl, by omega, by simp [e0], by simp [e3], by simp [e4], by simp, b5, b6, fun _ => rfl, o.keep (by omega) fun _ _ _ _ => rfl, hf.mono (by omega), by omega⟩
    clear e0 e3 e4 e5 b5 b6 o hf hn
    rintro k e h2 n2 ⟨j, dv, rfl, hj, e0, e3, e4, e6, b5, b6, hdv, o, hf, hn⟩ IH
    by_cases hlt : j < 62 + m
    · have g5 := wrap64 (x := ((j + 1 : Nat) : Int) + 1) (by omega) (by omega)
      obtain ⟨j1, hj1⟩ : ∃ j1, j1 = j + 1 := ⟨_, rfl⟩
      rw [← hj1] at e6 g5
      obtain ⟨u, hu⟩ : ∃ u, u = 63 + m := ⟨_, rfl⟩
      rw [← hu] at g3
      have g6 : j1 < u := by omega
      simp [e0, e3, e4, e6, g3, g5, g6, b6, bs1, hdv]
      refine IH _ _ _ _ ⟨j + 1, _, rfl, by omega, by simp [e0], by simp [e3], by simp [e4], by simp; omega, by rw [get_set_ne (by omega)]; exact b5, by simp; rfl, fun _ => rfl, ?_, (hf.set (by omega) (Nat.le_refl _)).mono (by omega), by omega⟩ (by omega)
      exact o.keep (by omega) fun a h1 h2 _ => by rw [get_set_ne (by omega)]
    · obtain rfl : j = 62 + m := by omega
      clear IH hlt hj
      have g5 : ((62 + m + 1 : Nat) : Int) = ((63 + m : Nat) : Int) := by omega
      rw [g5] at e6
      obtain ⟨u, hu⟩ : ∃ u, u = 63 + m := ⟨_, rfl⟩
      rw [← hu] at e6 g3 g5
      obtain ⟨h3, e9, f3, fr3⟩ := o.tree (t := Wd (19998 + m)) hf
      simp [e0, e3, e4, e6, g3, b5]
      have s1 : (Wd (19998 + m)).size = 19999 + m := by rw [Wd_size]; omega
      have s2 := Wd_depth (19998 + m)
      have s3 : (Dp (62 + m)).size = 63 + m := by rw [Dp_size]; omega
      have s4 : (Dp (62 + m)).depth = 63 + m := by rw [Dp_depth]; omega
      have b36 : h3.get 6 = some (.box [.d (.i .i64 0), .d (.i .i64 0), .d (.sl []), dv]) := by rw [f3 6 (by omega), b6]
      by_cases hm : m = 2
      · refine cw_ans (h' := h3) (a_Encode_no (Wd (19998 + m)) (by omega) (by omega)) (by simp only [toDs, e9]) ?_
        have d1 : (0 : Int) < d := by omega
        simp [tup, e4, b36]
        refine cw_res (a_Encode_no (Dp (62 + m)) (by omega) (by omega)) (by simp only [toDs, hdv]) ?_
        simp [tup, e0, d1]
        refine cw_res hdn (by simp [toDs]) ?_
        have fq : h3.get (n2 + 4 + 7 + 7 + 1 + 2 + 1 + 5) = none := fr3 _ (by omega)
        simp [tup, fq, T.get_set]
        refine cw_res hck (by simp [toDs]) ?_
        simp [tup, e0, d1]
      · refine cw_ans (h' := h3) (a_Encode_ok (Wd (19998 + m)) (by omega) (by omega)) (by simp only [toDs, e9]) ?_
        have d1 : ¬ (0 : Int) < d := by omega
        simp [tup, e4, b36]
        refine cw_res (a_Encode_ok (Dp (62 + m)) (by omega) (by omega)) (by simp only [toDs, hdv]) ?_
        simp [tup, e0, d1]
        refine cw_res (a_Decode_ok (Wd (19998 + m)) (by omega) (by omega)) (by simp [toDs]) ?_
        have fq : h3.get (n2 + 4 + 7 + 7 + 1 + 2 + 5) = none := fr3 _ (by omega)
        simp [tup, fq, T.get_set]
        refine cw_res hck (by simp [toDs]) ?_
        simp [tup, e0, d1, T.get_set]
        refine cw_res (a_cSize _ (Wd (19998 + m)) (Nat.le_refl _) (by omega)) (by simp [toDs]) ?_
        simp [tup, e0, g2, s1]
        omega
end Tm.L5
