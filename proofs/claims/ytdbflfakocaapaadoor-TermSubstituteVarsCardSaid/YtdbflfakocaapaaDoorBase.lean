/- The contract of telmake.Base: eight declarations, each with a name and at most two parameters. -/
import Derived.Test.YtdbflfakocaapaaDoorInv
import Derived.Test.YtdbflfakocaapaaDoorCons
namespace Go.Proofs.YtdbflfakocaapaaDoor
open Go.RowKit
attribute [local go_sem ↓] Go.wp_at_zero Go.wp_at_succ

def IsT (v : Value) : Prop := ∃ (k : Int) (s : ByteArray) (i : Int) (A : Option Addr) (n c : Nat), v = .agg #[.int .i64 k, .string s, .int .i64 i, .slice A n c]
def IsS (v : Value) : Prop := ∃ (A : Option Addr) (n c : Nat), v = .slice A n c
def IsF (v : Value) : Prop := ∃ (s0 : ByteArray) (k : Int) (s : ByteArray) (i : Int) (A : Option Addr) (n c : Nat), v = .agg #[.string s0, .int .i64 k, .string s, .int .i64 i, .slice A n c]
def IsD (v : Value) : Prop := ∃ (nm : ByteArray) (ar k : Int) (s : ByteArray) (i : Int) (A : Option Addr) (n c : Nat) (b : Bool) (A' : Option Addr) (n' c' : Nat), 0 ≤ ar ∧ ar ≤ 2 ∧ v = .agg #[.string nm, .int .i64 ar, .int .i64 k, .string s, .int .i64 i, .slice A n c, .bool b, .slice A' n' c']
/-- Eight declarations lie in the block g. -/
def IsDs (g : Nat) (w : World) : Prop := ∀ j, j < 8 → ∃ (nm : ByteArray) (ar k : Int) (s : ByteArray) (i : Int) (A : Option Addr) (n c : Nat) (b : Bool) (A' : Option Addr) (n' c' : Nat), 0 ≤ ar ∧ ar ≤ 2 ∧
  w.cell? ⟨g, j * 8, none⟩ = some (.string nm) ∧ w.cell? ⟨g, j * 8 + 1, none⟩ = some (.int .i64 ar) ∧ w.cell? ⟨g, j * 8 + 2, none⟩ = some (.int .i64 k) ∧ w.cell? ⟨g, j * 8 + 3, none⟩ = some (.string s) ∧ w.cell? ⟨g, j * 8 + 4, none⟩ = some (.int .i64 i) ∧ w.cell? ⟨g, j * 8 + 5, none⟩ = some (.slice A n c) ∧ w.cell? ⟨g, j * 8 + 6, none⟩ = some (.bool b) ∧ w.cell? ⟨g, j * 8 + 7, none⟩ = some (.slice A' n' c')
theorem IsDs.keep {g : Nat} {w w' : World} (h : IsDs g w) (hk : w'.heap[g]? = w.heap[g]?) : IsDs g w' := by
  intro j hj
  obtain ⟨nm, ar, k, s, i, A, n, c, b, A', n', c', h1, h2, e0, e1, e2, e3, e4, e5, e6, e7⟩ := h j hj
  have hc := fun (o : Nat) => World.cell?_of_block (w := w) (w' := w') (a := ⟨g, o, none⟩) hk
  exact ⟨nm, ar, k, s, i, A, n, c, b, A', n', c', h1, h2, (hc _).trans e0, (hc _).trans e1, (hc _).trans e2, (hc _).trans e3, (hc _).trans e4, (hc _).trans e5, (hc _).trans e6, (hc _).trans e7⟩
/-- The slice v is eight declarations, in a block from lo on. -/
def DeclsIn (lo : Nat) (w : World) (v : Value) : Prop := ∃ g, v = .slice (some ⟨g, 0, none⟩) 8 8 ∧ lo ≤ g ∧ g < w.heap.size ∧ IsDs g w
def kindsB : List Nat := [3, 0, 1, 0, 0, 2, 1, 3, 0, 1, 0, 0, 2, 1, 3, 3, 0, 3, 0, 0, 2, 1, 3, 0, 2, 0, 2, 1, 3, 0, 1, 0, 1, 0, 0, 1, 0, 2, 1, 3, 4, 4]
def KPk (lo : Nat) (k : Nat) (w : World) (v : Value) : Prop := match k with
  | 0 => IsT v
  | 1 => IsS v
  | 2 => IsF v
  | 3 => IsD v
  | _ => DeclsIn lo w v
def KP (lo j : Nat) (w : World) (v : Value) : Prop := KPk lo (kindsB.getD j 0) w v
theorem KPk.keep {lo k : Nat} {w w' : World} {v : Value} (h : KPk lo k w v) (hb : Below w.heap.size w w') : KPk lo k w' v := by
  match k, h with
  | 0, h => exact h
  | 1, h => exact h
  | 2, h => exact h
  | 3, h => exact h
  | n + 4, h =>
    obtain ⟨g, hv, hl, hg, hd⟩ := h
    exact ⟨g, hv, hl, Nat.lt_of_lt_of_le hg hb.size, hd.keep (hb.block g hg)⟩
theorem KP.keep {lo j : Nat} {w w' : World} {v : Value} (h : KP lo j w v) (hb : Below w.heap.size w w') : KP lo j w' v := KPk.keep h hb
def dstB (j : Nat) : Nat := if j = 41 then 0 else j + 3
/-- The invariant: the box of v lies at block b1; what has come up has left a value of its kind. -/
structure BInv (w1 : World) (b1 : Nat) (listed : Array Bool) (a : Act) (w : World) : Prop where
  below : Below w1.heap.size w1 w
  box : ∃ (k : Int) (s : ByteArray) (i : Int) (A : Option Addr) (n c : Nat), w.heap[b1]? = some (.cells #[.int .i64 k, .string s, .int .i64 i, .slice A n c] 25 (0, 0))
  defers : a.defers = []
  size : a.tmps.size = 44
  ptr : a.tmps[1]? = some (.pointer (some ⟨b1, 0, none⟩))
  at_ : ∀ j, j < 42 → listed.getD j false = true → ∃ v, a.tmps[dstB j]? = some v ∧ KP w1.heap.size j w v
theorem BInv.put {w1 : World} {b1 : Nat} {listed : Array Bool} {a : Act} {w w' : World} {v : Value} {j : Nat} (h : BInv w1 b1 listed a w) (hj : j < 42) (hls : listed.size = 42) (hb : Below w.heap.size w w') (hv : KP w1.heap.size j w' v) :
    BInv w1 b1 (listed.setIfInBounds j true) ⟨a.tmps.setIfInBounds (dstB j) v, []⟩ w' := by
  obtain ⟨k, s, i, A, n, c, hbox⟩ := h.box
  have hlt : b1 < w.heap.size := by
    rcases Nat.lt_or_ge b1 w.heap.size with hl | hl
    · exact hl
    · rw [Array.getElem?_eq_none hl] at hbox; cases hbox
  refine ⟨below_step h.below hb, ⟨k, s, i, A, n, c, (hb.block b1 hlt).trans hbox⟩, rfl, by simpa using h.size, ?_, fun i hi hl => ?_⟩
  · show (a.tmps.setIfInBounds (dstB j) v)[1]? = _
    rw [Array.getElem?_setIfInBounds_ne (by unfold dstB; split <;> omega)]
    exact h.ptr
  · show ∃ u, (a.tmps.setIfInBounds (dstB j) v)[dstB i]? = some u ∧ _
    by_cases hij : i = j
    · subst hij
      have hd : dstB i < a.tmps.size := by rw [h.size]; unfold dstB; split <;> omega
      exact ⟨v, by simp [hd], hv⟩
    · have hl' : listed.getD i false = true := by
        have hi' : i < listed.size := by omega
        have hne : j ≠ i := fun e => hij e.symm
        simpa [Array.getD, hi', Array.getElem_setIfInBounds, hne] using hl
      obtain ⟨u, h1, h2⟩ := h.at_ i hi hl'
      refine ⟨u, ?_, h2.keep hb⟩
      rw [Array.getElem?_setIfInBounds_ne (by unfold dstB; split <;> split <;> omega)]
      exact h1
theorem arr44 {a : Array Value} (h : a.size = 44) : ∃ u0 u1 u2 u3 u4 u5 u6 u7 u8 u9 u10 u11 u12 u13 u14 u15 u16 u17 u18 u19 u20 u21 u22 u23 u24 u25 u26 u27 u28 u29 u30 u31 u32 u33 u34 u35 u36 u37 u38 u39 u40 u41 u42 u43, a = #[u0, u1, u2, u3, u4, u5, u6, u7, u8, u9, u10, u11, u12, u13, u14, u15, u16, u17, u18, u19, u20, u21, u22, u23, u24, u25, u26, u27, u28, u29, u30, u31, u32, u33, u34, u35, u36, u37, u38, u39, u40, u41, u42, u43] := by
  obtain ⟨l⟩ := a
  simp only [List.size_toArray] at h
  obtain ⟨u0, l, rfl⟩ : ∃ x t, l = x :: t := by cases l with
    | nil => simp at h
    | cons x t => exact ⟨x, t, rfl⟩
  obtain ⟨u1, l, rfl⟩ : ∃ x t, l = x :: t := by cases l with
    | nil => simp at h
    | cons x t => exact ⟨x, t, rfl⟩
  obtain ⟨u2, l, rfl⟩ : ∃ x t, l = x :: t := by cases l with
    | nil => simp at h
    | cons x t => exact ⟨x, t, rfl⟩
  obtain ⟨u3, l, rfl⟩ : ∃ x t, l = x :: t := by cases l with
    | nil => simp at h
    | cons x t => exact ⟨x, t, rfl⟩
  obtain ⟨u4, l, rfl⟩ : ∃ x t, l = x :: t := by cases l with
    | nil => simp at h
    | cons x t => exact ⟨x, t, rfl⟩
  obtain ⟨u5, l, rfl⟩ : ∃ x t, l = x :: t := by cases l with
    | nil => simp at h
    | cons x t => exact ⟨x, t, rfl⟩
  obtain ⟨u6, l, rfl⟩ : ∃ x t, l = x :: t := by cases l with
    | nil => simp at h
    | cons x t => exact ⟨x, t, rfl⟩
  obtain ⟨u7, l, rfl⟩ : ∃ x t, l = x :: t := by cases l with
    | nil => simp at h
    | cons x t => exact ⟨x, t, rfl⟩
  obtain ⟨u8, l, rfl⟩ : ∃ x t, l = x :: t := by cases l with
    | nil => simp at h
    | cons x t => exact ⟨x, t, rfl⟩
  obtain ⟨u9, l, rfl⟩ : ∃ x t, l = x :: t := by cases l with
    | nil => simp at h
    | cons x t => exact ⟨x, t, rfl⟩
  obtain ⟨u10, l, rfl⟩ : ∃ x t, l = x :: t := by cases l with
    | nil => simp at h
    | cons x t => exact ⟨x, t, rfl⟩
  obtain ⟨u11, l, rfl⟩ : ∃ x t, l = x :: t := by cases l with
    | nil => simp at h
    | cons x t => exact ⟨x, t, rfl⟩
  obtain ⟨u12, l, rfl⟩ : ∃ x t, l = x :: t := by cases l with
    | nil => simp at h
    | cons x t => exact ⟨x, t, rfl⟩
  obtain ⟨u13, l, rfl⟩ : ∃ x t, l = x :: t := by cases l with
    | nil => simp at h
    | cons x t => exact ⟨x, t, rfl⟩
  obtain ⟨u14, l, rfl⟩ : ∃ x t, l = x :: t := by cases l with
    | nil => simp at h
    | cons x t => exact ⟨x, t, rfl⟩
  obtain ⟨u15, l, rfl⟩ : ∃ x t, l = x :: t := by cases l with
    | nil => simp at h
    | cons x t => exact ⟨x, t, rfl⟩
  obtain ⟨u16, l, rfl⟩ : ∃ x t, l = x :: t := by cases l with
    | nil => simp at h
    | cons x t => exact ⟨x, t, rfl⟩
  obtain ⟨u17, l, rfl⟩ : ∃ x t, l = x :: t := by cases l with
    | nil => simp at h
    | cons x t => exact ⟨x, t, rfl⟩
  obtain ⟨u18, l, rfl⟩ : ∃ x t, l = x :: t := by cases l with
    | nil => simp at h
    | cons x t => exact ⟨x, t, rfl⟩
  obtain ⟨u19, l, rfl⟩ : ∃ x t, l = x :: t := by cases l with
    | nil => simp at h
    | cons x t => exact ⟨x, t, rfl⟩
  obtain ⟨u20, l, rfl⟩ : ∃ x t, l = x :: t := by cases l with
    | nil => simp at h
    | cons x t => exact ⟨x, t, rfl⟩
  obtain ⟨u21, l, rfl⟩ : ∃ x t, l = x :: t := by cases l with
    | nil => simp at h
    | cons x t => exact ⟨x, t, rfl⟩
  obtain ⟨u22, l, rfl⟩ : ∃ x t, l = x :: t := by cases l with
    | nil => simp at h
    | cons x t => exact ⟨x, t, rfl⟩
  obtain ⟨u23, l, rfl⟩ : ∃ x t, l = x :: t := by cases l with
    | nil => simp at h
    | cons x t => exact ⟨x, t, rfl⟩
  obtain ⟨u24, l, rfl⟩ : ∃ x t, l = x :: t := by cases l with
    | nil => simp at h
    | cons x t => exact ⟨x, t, rfl⟩
  obtain ⟨u25, l, rfl⟩ : ∃ x t, l = x :: t := by cases l with
    | nil => simp at h
    | cons x t => exact ⟨x, t, rfl⟩
  obtain ⟨u26, l, rfl⟩ : ∃ x t, l = x :: t := by cases l with
    | nil => simp at h
    | cons x t => exact ⟨x, t, rfl⟩
  obtain ⟨u27, l, rfl⟩ : ∃ x t, l = x :: t := by cases l with
    | nil => simp at h
    | cons x t => exact ⟨x, t, rfl⟩
  obtain ⟨u28, l, rfl⟩ : ∃ x t, l = x :: t := by cases l with
    | nil => simp at h
    | cons x t => exact ⟨x, t, rfl⟩
  obtain ⟨u29, l, rfl⟩ : ∃ x t, l = x :: t := by cases l with
    | nil => simp at h
    | cons x t => exact ⟨x, t, rfl⟩
  obtain ⟨u30, l, rfl⟩ : ∃ x t, l = x :: t := by cases l with
    | nil => simp at h
    | cons x t => exact ⟨x, t, rfl⟩
  obtain ⟨u31, l, rfl⟩ : ∃ x t, l = x :: t := by cases l with
    | nil => simp at h
    | cons x t => exact ⟨x, t, rfl⟩
  obtain ⟨u32, l, rfl⟩ : ∃ x t, l = x :: t := by cases l with
    | nil => simp at h
    | cons x t => exact ⟨x, t, rfl⟩
  obtain ⟨u33, l, rfl⟩ : ∃ x t, l = x :: t := by cases l with
    | nil => simp at h
    | cons x t => exact ⟨x, t, rfl⟩
  obtain ⟨u34, l, rfl⟩ : ∃ x t, l = x :: t := by cases l with
    | nil => simp at h
    | cons x t => exact ⟨x, t, rfl⟩
  obtain ⟨u35, l, rfl⟩ : ∃ x t, l = x :: t := by cases l with
    | nil => simp at h
    | cons x t => exact ⟨x, t, rfl⟩
  obtain ⟨u36, l, rfl⟩ : ∃ x t, l = x :: t := by cases l with
    | nil => simp at h
    | cons x t => exact ⟨x, t, rfl⟩
  obtain ⟨u37, l, rfl⟩ : ∃ x t, l = x :: t := by cases l with
    | nil => simp at h
    | cons x t => exact ⟨x, t, rfl⟩
  obtain ⟨u38, l, rfl⟩ : ∃ x t, l = x :: t := by cases l with
    | nil => simp at h
    | cons x t => exact ⟨x, t, rfl⟩
  obtain ⟨u39, l, rfl⟩ : ∃ x t, l = x :: t := by cases l with
    | nil => simp at h
    | cons x t => exact ⟨x, t, rfl⟩
  obtain ⟨u40, l, rfl⟩ : ∃ x t, l = x :: t := by cases l with
    | nil => simp at h
    | cons x t => exact ⟨x, t, rfl⟩
  obtain ⟨u41, l, rfl⟩ : ∃ x t, l = x :: t := by cases l with
    | nil => simp at h
    | cons x t => exact ⟨x, t, rfl⟩
  obtain ⟨u42, l, rfl⟩ : ∃ x t, l = x :: t := by cases l with
    | nil => simp at h
    | cons x t => exact ⟨x, t, rfl⟩
  obtain ⟨u43, l, rfl⟩ : ∃ x t, l = x :: t := by cases l with
    | nil => simp at h
    | cons x t => exact ⟨x, t, rfl⟩
  obtain rfl : l = [] := List.eq_nil_of_length_eq_zero (by simpa using h)
  exact ⟨u0, u1, u2, u3, u4, u5, u6, u7, u8, u9, u10, u11, u12, u13, u14, u15, u16, u17, u18, u19, u20, u21, u22, u23, u24, u25, u26, u27, u28, u29, u30, u31, u32, u33, u34, u35, u36, u37, u38, u39, u40, u41, u42, u43, rfl⟩
set_option maxHeartbeats 400000 in
theorem c_NamedS (s : ByteArray) (A : Option Addr) (n c : Nat) (w : World) : Calls Tryd.prog 22 #[.string s, .slice A n c] w fun e w' => e = .returned (.agg #[.int .i64 2, .string s, .int .i64 0, .slice A n c]) ∧ Below w.heap.size w w' := by
  go_enter Tryd.func22, Tryd.ntmps22
  go_wp2
  go_returns
  exact ⟨rfl, (Below.refl _ _).alloc (Nat.le_refl _) _⟩
set_option maxHeartbeats 400000 in
theorem c_VarS (i : Int) (w : World) : Calls Tryd.prog 40 #[.int .i64 i] w fun e w' => e = .returned (.agg #[.int .i64 5, .string ⟨#[]⟩, .int .i64 i, .slice none 0 0]) ∧ Below w.heap.size w w' := by
  go_enter Tryd.func40, Tryd.ntmps40
  go_wp2
  go_returns
  exact ⟨rfl, (Below.refl _ _).alloc (Nat.le_refl _) _⟩

set_option maxRecDepth 100000 in
set_option maxHeartbeats 40000000 in
theorem c_Base (w : World) : Calls Tryd.prog 18 #[] w fun e w' => ∃ v, e = .returned v ∧ DeclsIn w.heap.size w' v ∧ Below w.heap.size w w' := by
  go_enter Tryd.func18, Tryd.ntmps18
  go_wp2_with fail
  refine (c_VarS 0 _).mono ?_
  rintro e w0 ⟨rfl, hb0⟩
  have HW : Hid (∀ W : World, W = w0.alloc (.cells #[.int .i64 5, .string ⟨#[]⟩, .int .i64 0, .slice none 0 0] 25) → W.heap[w0.heap.size]? = some (.cells #[.int .i64 5, .string ⟨#[]⟩, .int .i64 0, .slice none 0 0] 25 (0, 0)) ∧ Below w.heap.size w W) := Lib.hid (fun W hW => by
    subst hW
    exact ⟨blk_new _ _, below_step hb0 (below_new _ _)⟩)
  go_wp2
  generalize hW1 : w0.alloc _ = w1
  obtain ⟨hbx, hbw⟩ := HW.out w1 hW1.symm
  clear hW1 HW
  refine wp_region_inv (by kernel_rfl) (BInv w1 w0.heap.size) ?hord ?h0 ?hstep ?hdone
  case hord =>
    exact ord_of (by kernel_rfl)
  case h0 =>
    exact ⟨below_drew _, ⟨5, ⟨#[]⟩, 0, none, 0, 0, hbx⟩, rfl, rfl, rfl, fun j hj hl => by simp [Array.getD] at hl⟩
  case hdone =>
    intro listed a wf hall hsz hI
    have hsz' : listed.size = 42 := hsz
    have h41 : listed.getD 41 false = true := by
      have := hall 41 (by decide)
      have h3 : 41 < listed.size := by omega
      simpa [Array.getD, h3] using this
    obtain ⟨tmps, defers⟩ := a
    obtain ⟨hbel, _, hdf, hts, _, hat⟩ := hI
    obtain ⟨v, q, g, e, hl, hg, hd⟩ := hat 41 (by decide) h41
    subst e
    obtain ⟨u0, u1, u2, u3, u4, u5, u6, u7, u8, u9, u10, u11, u12, u13, u14, u15, u16, u17, u18, u19, u20, u21, u22, u23, u24, u25, u26, u27, u28, u29, u30, u31, u32, u33, u34, u35, u36, u37, u38, u39, u40, u41, u42, u43, rfl⟩ := arr44 hts
    obtain rfl : defers = [] := hdf
    obtain rfl : u0 = .slice (some ⟨g, 0, none⟩) 8 8 := Option.some.inj q
    have HD := Lib.hid hd
    have hfin : Below w.heap.size w wf := below_step hbw hbel
    have hle := hbw.size
    clear hd hat hall
    go_wp2
    go_ret
    exact ⟨_, rfl, ⟨g, rfl, by omega, hg, HD.out⟩, hfin⟩
  case hstep =>
    intro i o listed a wc ho hls hpre hI
    have hls' : listed.size = 42 := hls
    have hI' := hI
    obtain ⟨tmps, defers⟩ := a
    obtain ⟨hbel, ⟨kb, sb, ib, Ab, nb, cb, hbox⟩, hdf, hts, hptr, hat⟩ := hI'
    obtain ⟨u0, u1, u2, u3, u4, u5, u6, u7, u8, u9, u10, u11, u12, u13, u14, u15, u16, u17, u18, u19, u20, u21, u22, u23, u24, u25, u26, u27, u28, u29, u30, u31, u32, u33, u34, u35, u36, u37, u38, u39, u40, u41, u42, u43, rfl⟩ := arr44 hts
    obtain rfl : defers = [] := hdf
    obtain rfl : u1 = .pointer (some ⟨w0.heap.size, 0, none⟩) := by simpa using hptr
    have hi42 : i < 42 := (Array.getElem?_eq_some_iff.1 ho).1
    have y0 : wc.cell? ⟨w0.heap.size, 0, none⟩ = some (.int .i64 kb) := by rw [cell_of_row wc _ 0 _ _ _ hbox]; rfl
    have y1 : wc.cell? ⟨w0.heap.size, 1, none⟩ = some (.string sb) := by rw [cell_of_row wc _ 1 _ _ _ hbox]; rfl
    have y2 : wc.cell? ⟨w0.heap.size, 2, none⟩ = some (.int .i64 ib) := by rw [cell_of_row wc _ 2 _ _ _ hbox]; rfl
    have y3 : wc.cell? ⟨w0.heap.size, 3, none⟩ = some (.slice Ab nb cb) := by rw [cell_of_row wc _ 3 _ _ _ hbox]; rfl
    have HI := Lib.hid hI
    have HAT := Lib.hid hat
    clear hI hat hts hptr hbox
    by_cases h0 : i = 0
    · subst h0
      obtain rfl := Option.some.inj ho
      clear hpre ho HAT
      refine wpOp_step rfl (fun K hK => ?_)
      rw [if_pos (by rfl)]
      have HK := Lib.hid hK
      clear hK
      go_simp
      exact HK.out _ _ (HI.out.put (j := 0) (by decide) hls' (Below.refl _ _) ⟨_, _, _, _, _, _, _, _, _, _, _, _, by decide, by decide, rfl⟩)
    by_cases h1 : i = 1
    · subst h1
      obtain rfl := Option.some.inj ho
      clear hpre ho HAT
      refine wpOp_step rfl (fun K hK => ?_)
      rw [if_pos (by rfl)]
      have HK := Lib.hid hK
      clear hK
      go_simp
      exact HK.out _ _ (HI.out.put (j := 1) (by decide) hls' (Below.refl _ _) ⟨_, _, _, _, _, _, rfl⟩)
    by_cases h2 : i = 2
    · subst h2
      obtain rfl := Option.some.inj ho
      have p1 : listed.getD 1 false = true := hpre ⟨1, .data⟩ (by simp) rfl
      obtain ⟨v1, q1, ⟨k1, s1, i1, A1, n1, c1, e1⟩⟩ := HAT.out 1 (by decide) p1
      obtain rfl : u4 = .agg #[.int .i64 k1, .string s1, .int .i64 i1, .slice A1 n1 c1] := (Option.some.inj q1).trans e1
      clear hpre ho HAT
      refine wpOp_step rfl (fun K hK => ?_)
      rw [if_pos (by rfl)]
      have HK := Lib.hid hK
      clear hK
      go_simp
      exact HK.out _ _ (HI.out.put (j := 2) (by decide) hls' (below_new _ _) ⟨_, _, _, rfl⟩)
    by_cases h3 : i = 3
    · subst h3
      obtain rfl := Option.some.inj ho
      have p2 : listed.getD 2 false = true := hpre ⟨2, .data⟩ (by simp) rfl
      obtain ⟨v2, q2, ⟨A2, n2, c2, e2⟩⟩ := HAT.out 2 (by decide) p2
      obtain rfl : u5 = .slice A2 n2 c2 := (Option.some.inj q2).trans e2
      clear hpre ho HAT
      refine wpOp_step rfl (fun K hK => ?_)
      rw [if_pos (by rfl)]
      have HK := Lib.hid hK
      clear hK
      go_simp
      refine (c_NamedS _ _ _ _ _).mono ?_
      rintro e wn ⟨rfl, hbn⟩
      go_wp2
      exact HK.out _ _ (HI.out.put (j := 3) (by decide) hls' hbn ⟨_, _, _, _, _, _, rfl⟩)
    by_cases h4 : i = 4
    · subst h4
      obtain rfl := Option.some.inj ho
      clear hpre ho HAT
      refine wpOp_step rfl (fun K hK => ?_)
      rw [if_pos (by rfl)]
      have HK := Lib.hid hK
      clear hK
      go_simp
      exact HK.out _ _ (HI.out.put (j := 4) (by decide) hls' (Below.refl _ _) ⟨_, _, _, _, _, _, rfl⟩)
    by_cases h5 : i = 5
    · subst h5
      obtain rfl := Option.some.inj ho
      have p4 : listed.getD 4 false = true := hpre ⟨4, .data⟩ (by simp) rfl
      obtain ⟨v4, q4, ⟨k4, s4, i4, A4, n4, c4, e4⟩⟩ := HAT.out 4 (by decide) p4
      obtain rfl : u7 = .agg #[.int .i64 k4, .string s4, .int .i64 i4, .slice A4 n4 c4] := (Option.some.inj q4).trans e4
      clear hpre ho HAT
      refine wpOp_step rfl (fun K hK => ?_)
      rw [if_pos (by rfl)]
      have HK := Lib.hid hK
      clear hK
      go_simp
      exact HK.out _ _ (HI.out.put (j := 5) (by decide) hls' (Below.refl _ _) ⟨_, _, _, _, _, _, _, rfl⟩)
    by_cases h6 : i = 6
    · subst h6
      obtain rfl := Option.some.inj ho
      have p5 : listed.getD 5 false = true := hpre ⟨5, .data⟩ (by simp) rfl
      obtain ⟨v5, q5, ⟨z5, k5, s5, i5, A5, n5, c5, e5⟩⟩ := HAT.out 5 (by decide) p5
      obtain rfl : u8 = .agg #[.string z5, .int .i64 k5, .string s5, .int .i64 i5, .slice A5 n5 c5] := (Option.some.inj q5).trans e5
      clear hpre ho HAT
      refine wpOp_step rfl (fun K hK => ?_)
      rw [if_pos (by rfl)]
      have HK := Lib.hid hK
      clear hK
      go_simp
      exact HK.out _ _ (HI.out.put (j := 6) (by decide) hls' (below_new _ _) ⟨_, _, _, rfl⟩)
    by_cases h7 : i = 7
    · subst h7
      obtain rfl := Option.some.inj ho
      have p3 : listed.getD 3 false = true := hpre ⟨3, .data⟩ (by simp) rfl
      obtain ⟨v3, q3, ⟨k3, s3, i3, A3, n3, c3, e3⟩⟩ := HAT.out 3 (by decide) p3
      obtain rfl : u6 = .agg #[.int .i64 k3, .string s3, .int .i64 i3, .slice A3 n3 c3] := (Option.some.inj q3).trans e3
      have p6 : listed.getD 6 false = true := hpre ⟨6, .data⟩ (by simp) rfl
      obtain ⟨v6, q6, ⟨A6, n6, c6, e6⟩⟩ := HAT.out 6 (by decide) p6
      obtain rfl : u9 = .slice A6 n6 c6 := (Option.some.inj q6).trans e6
      clear hpre ho HAT
      refine wpOp_step rfl (fun K hK => ?_)
      rw [if_pos (by rfl)]
      have HK := Lib.hid hK
      clear hK
      go_simp
      exact HK.out _ _ (HI.out.put (j := 7) (by decide) hls' (Below.refl _ _) ⟨_, _, _, _, _, _, _, _, _, _, _, _, by decide, by decide, rfl⟩)
    by_cases h8 : i = 8
    · subst h8
      obtain rfl := Option.some.inj ho
      clear hpre ho HAT
      refine wpOp_step rfl (fun K hK => ?_)
      rw [if_pos (by rfl)]
      have HK := Lib.hid hK
      clear hK
      go_simp
      refine (c_NamedS _ _ _ _ _).mono ?_
      rintro e wn ⟨rfl, hbn⟩
      go_wp2
      exact HK.out _ _ (HI.out.put (j := 8) (by decide) hls' hbn ⟨_, _, _, _, _, _, rfl⟩)
    by_cases h9 : i = 9
    · subst h9
      obtain rfl := Option.some.inj ho
      have p8 : listed.getD 8 false = true := hpre ⟨8, .data⟩ (by simp) rfl
      obtain ⟨v8, q8, ⟨k8, s8, i8, A8, n8, c8, e8⟩⟩ := HAT.out 8 (by decide) p8
      obtain rfl : u11 = .agg #[.int .i64 k8, .string s8, .int .i64 i8, .slice A8 n8 c8] := (Option.some.inj q8).trans e8
      clear hpre ho HAT
      refine wpOp_step rfl (fun K hK => ?_)
      rw [if_pos (by rfl)]
      have HK := Lib.hid hK
      clear hK
      go_simp
      exact HK.out _ _ (HI.out.put (j := 9) (by decide) hls' (below_new _ _) ⟨_, _, _, rfl⟩)
    by_cases h10 : i = 10
    · subst h10
      obtain rfl := Option.some.inj ho
      have p9 : listed.getD 9 false = true := hpre ⟨9, .data⟩ (by simp) rfl
      obtain ⟨v9, q9, ⟨A9, n9, c9, e9⟩⟩ := HAT.out 9 (by decide) p9
      obtain rfl : u12 = .slice A9 n9 c9 := (Option.some.inj q9).trans e9
      clear hpre ho HAT
      refine wpOp_step rfl (fun K hK => ?_)
      rw [if_pos (by rfl)]
      have HK := Lib.hid hK
      clear hK
      go_simp
      refine (c_NamedS _ _ _ _ _).mono ?_
      rintro e wn ⟨rfl, hbn⟩
      go_wp2
      exact HK.out _ _ (HI.out.put (j := 10) (by decide) hls' hbn ⟨_, _, _, _, _, _, rfl⟩)
    by_cases h11 : i = 11
    · subst h11
      obtain rfl := Option.some.inj ho
      clear hpre ho HAT
      refine wpOp_step rfl (fun K hK => ?_)
      rw [if_pos (by rfl)]
      have HK := Lib.hid hK
      clear hK
      go_simp
      refine (c_NamedS _ _ _ _ _).mono ?_
      rintro e wn ⟨rfl, hbn⟩
      go_wp2
      exact HK.out _ _ (HI.out.put (j := 11) (by decide) hls' hbn ⟨_, _, _, _, _, _, rfl⟩)
    by_cases h12 : i = 12
    · subst h12
      obtain rfl := Option.some.inj ho
      have p11 : listed.getD 11 false = true := hpre ⟨11, .data⟩ (by simp) rfl
      obtain ⟨v11, q11, ⟨k11, s11, i11, A11, n11, c11, e11⟩⟩ := HAT.out 11 (by decide) p11
      obtain rfl : u14 = .agg #[.int .i64 k11, .string s11, .int .i64 i11, .slice A11 n11 c11] := (Option.some.inj q11).trans e11
      clear hpre ho HAT
      refine wpOp_step rfl (fun K hK => ?_)
      rw [if_pos (by rfl)]
      have HK := Lib.hid hK
      clear hK
      go_simp
      exact HK.out _ _ (HI.out.put (j := 12) (by decide) hls' (Below.refl _ _) ⟨_, _, _, _, _, _, _, rfl⟩)
    by_cases h13 : i = 13
    · subst h13
      obtain rfl := Option.some.inj ho
      have p12 : listed.getD 12 false = true := hpre ⟨12, .data⟩ (by simp) rfl
      obtain ⟨v12, q12, ⟨z12, k12, s12, i12, A12, n12, c12, e12⟩⟩ := HAT.out 12 (by decide) p12
      obtain rfl : u15 = .agg #[.string z12, .int .i64 k12, .string s12, .int .i64 i12, .slice A12 n12 c12] := (Option.some.inj q12).trans e12
      clear hpre ho HAT
      refine wpOp_step rfl (fun K hK => ?_)
      rw [if_pos (by rfl)]
      have HK := Lib.hid hK
      clear hK
      go_simp
      exact HK.out _ _ (HI.out.put (j := 13) (by decide) hls' (below_new _ _) ⟨_, _, _, rfl⟩)
    by_cases h14 : i = 14
    · subst h14
      obtain rfl := Option.some.inj ho
      have p10 : listed.getD 10 false = true := hpre ⟨10, .data⟩ (by simp) rfl
      obtain ⟨v10, q10, ⟨k10, s10, i10, A10, n10, c10, e10⟩⟩ := HAT.out 10 (by decide) p10
      obtain rfl : u13 = .agg #[.int .i64 k10, .string s10, .int .i64 i10, .slice A10 n10 c10] := (Option.some.inj q10).trans e10
      have p13 : listed.getD 13 false = true := hpre ⟨13, .data⟩ (by simp) rfl
      obtain ⟨v13, q13, ⟨A13, n13, c13, e13⟩⟩ := HAT.out 13 (by decide) p13
      obtain rfl : u16 = .slice A13 n13 c13 := (Option.some.inj q13).trans e13
      clear hpre ho HAT
      refine wpOp_step rfl (fun K hK => ?_)
      rw [if_pos (by rfl)]
      have HK := Lib.hid hK
      clear hK
      go_simp
      exact HK.out _ _ (HI.out.put (j := 14) (by decide) hls' (Below.refl _ _) ⟨_, _, _, _, _, _, _, _, _, _, _, _, by decide, by decide, rfl⟩)
    by_cases h15 : i = 15
    · subst h15
      obtain rfl := Option.some.inj ho
      clear hpre ho HAT
      refine wpOp_step rfl (fun K hK => ?_)
      rw [if_pos (by rfl)]
      have HK := Lib.hid hK
      clear hK
      go_simp
      exact HK.out _ _ (HI.out.put (j := 15) (by decide) hls' (Below.refl _ _) ⟨_, _, _, _, _, _, _, _, _, _, _, _, by decide, by decide, rfl⟩)
    by_cases h16 : i = 16
    · subst h16
      obtain rfl := Option.some.inj ho
      clear hpre ho HAT
      refine wpOp_step rfl (fun K hK => ?_)
      rw [if_pos (by rfl)]
      have HK := Lib.hid hK
      clear hK
      go_simp
      refine (c_NamedS _ _ _ _ _).mono ?_
      rintro e wn ⟨rfl, hbn⟩
      go_wp2
      exact HK.out _ _ (HI.out.put (j := 16) (by decide) hls' hbn ⟨_, _, _, _, _, _, rfl⟩)
    by_cases h17 : i = 17
    · subst h17
      obtain rfl := Option.some.inj ho
      have p16 : listed.getD 16 false = true := hpre ⟨16, .data⟩ (by simp) rfl
      obtain ⟨v16, q16, ⟨k16, s16, i16, A16, n16, c16, e16⟩⟩ := HAT.out 16 (by decide) p16
      obtain rfl : u19 = .agg #[.int .i64 k16, .string s16, .int .i64 i16, .slice A16 n16 c16] := (Option.some.inj q16).trans e16
      clear hpre ho HAT
      refine wpOp_step rfl (fun K hK => ?_)
      rw [if_pos (by rfl)]
      have HK := Lib.hid hK
      clear hK
      go_simp
      exact HK.out _ _ (HI.out.put (j := 17) (by decide) hls' (Below.refl _ _) ⟨_, _, _, _, _, _, _, _, _, _, _, _, by decide, by decide, rfl⟩)
    by_cases h18 : i = 18
    · subst h18
      obtain rfl := Option.some.inj ho
      clear hpre ho HAT
      refine wpOp_step rfl (fun K hK => ?_)
      rw [if_pos (by rfl)]
      have HK := Lib.hid hK
      clear hK
      go_simp
      refine (c_NamedS _ _ _ _ _).mono ?_
      rintro e wn ⟨rfl, hbn⟩
      go_wp2
      exact HK.out _ _ (HI.out.put (j := 18) (by decide) hls' hbn ⟨_, _, _, _, _, _, rfl⟩)
    by_cases h19 : i = 19
    · subst h19
      obtain rfl := Option.some.inj ho
      clear hpre ho HAT
      refine wpOp_step rfl (fun K hK => ?_)
      rw [if_pos (by rfl)]
      have HK := Lib.hid hK
      clear hK
      go_simp
      refine (c_NamedS _ _ _ _ _).mono ?_
      rintro e wn ⟨rfl, hbn⟩
      go_wp2
      exact HK.out _ _ (HI.out.put (j := 19) (by decide) hls' hbn ⟨_, _, _, _, _, _, rfl⟩)
    by_cases h20 : i = 20
    · subst h20
      obtain rfl := Option.some.inj ho
      have p19 : listed.getD 19 false = true := hpre ⟨19, .data⟩ (by simp) rfl
      obtain ⟨v19, q19, ⟨k19, s19, i19, A19, n19, c19, e19⟩⟩ := HAT.out 19 (by decide) p19
      obtain rfl : u22 = .agg #[.int .i64 k19, .string s19, .int .i64 i19, .slice A19 n19 c19] := (Option.some.inj q19).trans e19
      clear hpre ho HAT
      refine wpOp_step rfl (fun K hK => ?_)
      rw [if_pos (by rfl)]
      have HK := Lib.hid hK
      clear hK
      go_simp
      exact HK.out _ _ (HI.out.put (j := 20) (by decide) hls' (Below.refl _ _) ⟨_, _, _, _, _, _, _, rfl⟩)
    by_cases h21 : i = 21
    · subst h21
      obtain rfl := Option.some.inj ho
      have p20 : listed.getD 20 false = true := hpre ⟨20, .data⟩ (by simp) rfl
      obtain ⟨v20, q20, ⟨z20, k20, s20, i20, A20, n20, c20, e20⟩⟩ := HAT.out 20 (by decide) p20
      obtain rfl : u23 = .agg #[.string z20, .int .i64 k20, .string s20, .int .i64 i20, .slice A20 n20 c20] := (Option.some.inj q20).trans e20
      clear hpre ho HAT
      refine wpOp_step rfl (fun K hK => ?_)
      rw [if_pos (by rfl)]
      have HK := Lib.hid hK
      clear hK
      go_simp
      exact HK.out _ _ (HI.out.put (j := 21) (by decide) hls' (below_new _ _) ⟨_, _, _, rfl⟩)
    by_cases h22 : i = 22
    · subst h22
      obtain rfl := Option.some.inj ho
      have p18 : listed.getD 18 false = true := hpre ⟨18, .data⟩ (by simp) rfl
      obtain ⟨v18, q18, ⟨k18, s18, i18, A18, n18, c18, e18⟩⟩ := HAT.out 18 (by decide) p18
      obtain rfl : u21 = .agg #[.int .i64 k18, .string s18, .int .i64 i18, .slice A18 n18 c18] := (Option.some.inj q18).trans e18
      have p21 : listed.getD 21 false = true := hpre ⟨21, .data⟩ (by simp) rfl
      obtain ⟨v21, q21, ⟨A21, n21, c21, e21⟩⟩ := HAT.out 21 (by decide) p21
      obtain rfl : u24 = .slice A21 n21 c21 := (Option.some.inj q21).trans e21
      clear hpre ho HAT
      refine wpOp_step rfl (fun K hK => ?_)
      rw [if_pos (by rfl)]
      have HK := Lib.hid hK
      clear hK
      go_simp
      exact HK.out _ _ (HI.out.put (j := 22) (by decide) hls' (Below.refl _ _) ⟨_, _, _, _, _, _, _, _, _, _, _, _, by decide, by decide, rfl⟩)
    by_cases h23 : i = 23
    · subst h23
      obtain rfl := Option.some.inj ho
      clear hpre ho HAT
      refine wpOp_step rfl (fun K hK => ?_)
      rw [if_pos (by rfl)]
      have HK := Lib.hid hK
      clear hK
      go_simp
      exact HK.out _ _ (HI.out.put (j := 23) (by decide) hls' (Below.refl _ _) ⟨_, _, _, _, _, _, rfl⟩)
    by_cases h24 : i = 24
    · subst h24
      obtain rfl := Option.some.inj ho
      have p23 : listed.getD 23 false = true := hpre ⟨23, .data⟩ (by simp) rfl
      obtain ⟨v23, q23, ⟨k23, s23, i23, A23, n23, c23, e23⟩⟩ := HAT.out 23 (by decide) p23
      obtain rfl : u26 = .agg #[.int .i64 k23, .string s23, .int .i64 i23, .slice A23 n23 c23] := (Option.some.inj q23).trans e23
      clear hpre ho HAT
      refine wpOp_step rfl (fun K hK => ?_)
      rw [if_pos (by rfl)]
      have HK := Lib.hid hK
      clear hK
      go_simp
      exact HK.out _ _ (HI.out.put (j := 24) (by decide) hls' (Below.refl _ _) ⟨_, _, _, _, _, _, _, rfl⟩)
    by_cases h25 : i = 25
    · subst h25
      obtain rfl := Option.some.inj ho
      clear hpre ho HAT
      refine wpOp_step rfl (fun K hK => ?_)
      rw [if_pos (by rfl)]
      have HK := Lib.hid hK
      clear hK
      go_simp
      refine (c_VarS _ _).mono ?_
      rintro e wn ⟨rfl, hbn⟩
      go_wp2
      exact HK.out _ _ (HI.out.put (j := 25) (by decide) hls' hbn ⟨_, _, _, _, _, _, rfl⟩)
    by_cases h26 : i = 26
    · subst h26
      obtain rfl := Option.some.inj ho
      have p25 : listed.getD 25 false = true := hpre ⟨25, .data⟩ (by simp) rfl
      obtain ⟨v25, q25, ⟨k25, s25, i25, A25, n25, c25, e25⟩⟩ := HAT.out 25 (by decide) p25
      obtain rfl : u28 = .agg #[.int .i64 k25, .string s25, .int .i64 i25, .slice A25 n25 c25] := (Option.some.inj q25).trans e25
      clear hpre ho HAT
      refine wpOp_step rfl (fun K hK => ?_)
      rw [if_pos (by rfl)]
      have HK := Lib.hid hK
      clear hK
      go_simp
      exact HK.out _ _ (HI.out.put (j := 26) (by decide) hls' (Below.refl _ _) ⟨_, _, _, _, _, _, _, rfl⟩)
    by_cases h27 : i = 27
    · subst h27
      obtain rfl := Option.some.inj ho
      have p24 : listed.getD 24 false = true := hpre ⟨24, .data⟩ (by simp) rfl
      obtain ⟨v24, q24, ⟨z24, k24, s24, i24, A24, n24, c24, e24⟩⟩ := HAT.out 24 (by decide) p24
      obtain rfl : u27 = .agg #[.string z24, .int .i64 k24, .string s24, .int .i64 i24, .slice A24 n24 c24] := (Option.some.inj q24).trans e24
      have p26 : listed.getD 26 false = true := hpre ⟨26, .data⟩ (by simp) rfl
      obtain ⟨v26, q26, ⟨z26, k26, s26, i26, A26, n26, c26, e26⟩⟩ := HAT.out 26 (by decide) p26
      obtain rfl : u29 = .agg #[.string z26, .int .i64 k26, .string s26, .int .i64 i26, .slice A26 n26 c26] := (Option.some.inj q26).trans e26
      clear hpre ho HAT
      refine wpOp_step rfl (fun K hK => ?_)
      rw [if_pos (by rfl)]
      have HK := Lib.hid hK
      clear hK
      go_simp
      exact HK.out _ _ (HI.out.put (j := 27) (by decide) hls' (below_new _ _) ⟨_, _, _, rfl⟩)
    by_cases h28 : i = 28
    · subst h28
      obtain rfl := Option.some.inj ho
      have p27 : listed.getD 27 false = true := hpre ⟨27, .data⟩ (by simp) rfl
      obtain ⟨v27, q27, ⟨A27, n27, c27, e27⟩⟩ := HAT.out 27 (by decide) p27
      obtain rfl : u30 = .slice A27 n27 c27 := (Option.some.inj q27).trans e27
      clear hpre ho HAT
      refine wpOp_step rfl (fun K hK => ?_)
      rw [if_pos (by rfl)]
      have HK := Lib.hid hK
      clear hK
      go_simp
      exact HK.out _ _ (HI.out.put (j := 28) (by decide) hls' (Below.refl _ _) ⟨_, _, _, _, _, _, _, _, _, _, _, _, by decide, by decide, rfl⟩)
    by_cases h29 : i = 29
    · subst h29
      obtain rfl := Option.some.inj ho
      clear hpre ho HAT
      refine wpOp_step rfl (fun K hK => ?_)
      rw [if_pos (by rfl)]
      have HK := Lib.hid hK
      clear hK
      go_simp
      exact HK.out _ _ (HI.out.put (j := 29) (by decide) hls' (Below.refl _ _) ⟨_, _, _, _, _, _, rfl⟩)
    by_cases h30 : i = 30
    · subst h30
      obtain rfl := Option.some.inj ho
      have p29 : listed.getD 29 false = true := hpre ⟨29, .data⟩ (by simp) rfl
      obtain ⟨v29, q29, ⟨k29, s29, i29, A29, n29, c29, e29⟩⟩ := HAT.out 29 (by decide) p29
      obtain rfl : u32 = .agg #[.int .i64 k29, .string s29, .int .i64 i29, .slice A29 n29 c29] := (Option.some.inj q29).trans e29
      clear hpre ho HAT
      refine wpOp_step rfl (fun K hK => ?_)
      rw [if_pos (by rfl)]
      have HK := Lib.hid hK
      clear hK
      go_simp
      exact HK.out _ _ (HI.out.put (j := 30) (by decide) hls' (below_new _ _) ⟨_, _, _, rfl⟩)
    by_cases h31 : i = 31
    · subst h31
      obtain rfl := Option.some.inj ho
      have p30 : listed.getD 30 false = true := hpre ⟨30, .data⟩ (by simp) rfl
      obtain ⟨v30, q30, ⟨A30, n30, c30, e30⟩⟩ := HAT.out 30 (by decide) p30
      obtain rfl : u33 = .slice A30 n30 c30 := (Option.some.inj q30).trans e30
      clear hpre ho HAT
      refine wpOp_step rfl (fun K hK => ?_)
      rw [if_pos (by rfl)]
      have HK := Lib.hid hK
      clear hK
      go_simp
      refine (c_NamedS _ _ _ _ _).mono ?_
      rintro e wn ⟨rfl, hbn⟩
      go_wp2
      exact HK.out _ _ (HI.out.put (j := 31) (by decide) hls' hbn ⟨_, _, _, _, _, _, rfl⟩)
    by_cases h32 : i = 32
    · subst h32
      obtain rfl := Option.some.inj ho
      have p31 : listed.getD 31 false = true := hpre ⟨31, .data⟩ (by simp) rfl
      obtain ⟨v31, q31, ⟨k31, s31, i31, A31, n31, c31, e31⟩⟩ := HAT.out 31 (by decide) p31
      obtain rfl : u34 = .agg #[.int .i64 k31, .string s31, .int .i64 i31, .slice A31 n31 c31] := (Option.some.inj q31).trans e31
      clear hpre ho HAT
      refine wpOp_step rfl (fun K hK => ?_)
      rw [if_pos (by rfl)]
      have HK := Lib.hid hK
      clear hK
      go_simp
      exact HK.out _ _ (HI.out.put (j := 32) (by decide) hls' (below_new _ _) ⟨_, _, _, rfl⟩)
    by_cases h33 : i = 33
    · subst h33
      obtain rfl := Option.some.inj ho
      have p32 : listed.getD 32 false = true := hpre ⟨32, .data⟩ (by simp) rfl
      obtain ⟨v32, q32, ⟨A32, n32, c32, e32⟩⟩ := HAT.out 32 (by decide) p32
      obtain rfl : u35 = .slice A32 n32 c32 := (Option.some.inj q32).trans e32
      clear hpre ho HAT
      refine wpOp_step rfl (fun K hK => ?_)
      rw [if_pos (by rfl)]
      have HK := Lib.hid hK
      clear hK
      go_simp
      refine (c_NamedS _ _ _ _ _).mono ?_
      rintro e wn ⟨rfl, hbn⟩
      go_wp2
      exact HK.out _ _ (HI.out.put (j := 33) (by decide) hls' hbn ⟨_, _, _, _, _, _, rfl⟩)
    by_cases h34 : i = 34
    · subst h34
      obtain rfl := Option.some.inj ho
      clear hpre ho HAT
      refine wpOp_step rfl (fun K hK => ?_)
      rw [if_pos (by rfl)]
      have HK := Lib.hid hK
      clear hK
      go_simp
      exact HK.out _ _ (HI.out.put (j := 34) (by decide) hls' (Below.refl _ _) ⟨_, _, _, _, _, _, rfl⟩)
    by_cases h35 : i = 35
    · subst h35
      obtain rfl := Option.some.inj ho
      have p34 : listed.getD 34 false = true := hpre ⟨34, .data⟩ (by simp) rfl
      obtain ⟨v34, q34, ⟨k34, s34, i34, A34, n34, c34, e34⟩⟩ := HAT.out 34 (by decide) p34
      obtain rfl : u37 = .agg #[.int .i64 k34, .string s34, .int .i64 i34, .slice A34 n34 c34] := (Option.some.inj q34).trans e34
      clear hpre ho HAT
      refine wpOp_step rfl (fun K hK => ?_)
      rw [if_pos (by rfl)]
      have HK := Lib.hid hK
      clear hK
      go_simp
      exact HK.out _ _ (HI.out.put (j := 35) (by decide) hls' (below_new _ _) ⟨_, _, _, rfl⟩)
    by_cases h36 : i = 36
    · subst h36
      obtain rfl := Option.some.inj ho
      have p35 : listed.getD 35 false = true := hpre ⟨35, .data⟩ (by simp) rfl
      obtain ⟨v35, q35, ⟨A35, n35, c35, e35⟩⟩ := HAT.out 35 (by decide) p35
      obtain rfl : u38 = .slice A35 n35 c35 := (Option.some.inj q35).trans e35
      clear hpre ho HAT
      refine wpOp_step rfl (fun K hK => ?_)
      rw [if_pos (by rfl)]
      have HK := Lib.hid hK
      clear hK
      go_simp
      refine (c_NamedS _ _ _ _ _).mono ?_
      rintro e wn ⟨rfl, hbn⟩
      go_wp2
      exact HK.out _ _ (HI.out.put (j := 36) (by decide) hls' hbn ⟨_, _, _, _, _, _, rfl⟩)
    by_cases h37 : i = 37
    · subst h37
      obtain rfl := Option.some.inj ho
      have p36 : listed.getD 36 false = true := hpre ⟨36, .data⟩ (by simp) rfl
      obtain ⟨v36, q36, ⟨k36, s36, i36, A36, n36, c36, e36⟩⟩ := HAT.out 36 (by decide) p36
      obtain rfl : u39 = .agg #[.int .i64 k36, .string s36, .int .i64 i36, .slice A36 n36 c36] := (Option.some.inj q36).trans e36
      clear hpre ho HAT
      refine wpOp_step rfl (fun K hK => ?_)
      rw [if_pos (by rfl)]
      have HK := Lib.hid hK
      clear hK
      go_simp
      exact HK.out _ _ (HI.out.put (j := 37) (by decide) hls' (Below.refl _ _) ⟨_, _, _, _, _, _, _, rfl⟩)
    by_cases h38 : i = 38
    · subst h38
      obtain rfl := Option.some.inj ho
      have p37 : listed.getD 37 false = true := hpre ⟨37, .data⟩ (by simp) rfl
      obtain ⟨v37, q37, ⟨z37, k37, s37, i37, A37, n37, c37, e37⟩⟩ := HAT.out 37 (by decide) p37
      obtain rfl : u40 = .agg #[.string z37, .int .i64 k37, .string s37, .int .i64 i37, .slice A37 n37 c37] := (Option.some.inj q37).trans e37
      clear hpre ho HAT
      refine wpOp_step rfl (fun K hK => ?_)
      rw [if_pos (by rfl)]
      have HK := Lib.hid hK
      clear hK
      go_simp
      exact HK.out _ _ (HI.out.put (j := 38) (by decide) hls' (below_new _ _) ⟨_, _, _, rfl⟩)
    by_cases h39 : i = 39
    · subst h39
      obtain rfl := Option.some.inj ho
      have p33 : listed.getD 33 false = true := hpre ⟨33, .data⟩ (by simp) rfl
      obtain ⟨v33, q33, ⟨k33, s33, i33, A33, n33, c33, e33⟩⟩ := HAT.out 33 (by decide) p33
      obtain rfl : u36 = .agg #[.int .i64 k33, .string s33, .int .i64 i33, .slice A33 n33 c33] := (Option.some.inj q33).trans e33
      have p38 : listed.getD 38 false = true := hpre ⟨38, .data⟩ (by simp) rfl
      obtain ⟨v38, q38, ⟨A38, n38, c38, e38⟩⟩ := HAT.out 38 (by decide) p38
      obtain rfl : u41 = .slice A38 n38 c38 := (Option.some.inj q38).trans e38
      clear hpre ho HAT
      refine wpOp_step rfl (fun K hK => ?_)
      rw [if_pos (by rfl)]
      have HK := Lib.hid hK
      clear hK
      go_simp
      exact HK.out _ _ (HI.out.put (j := 39) (by decide) hls' (Below.refl _ _) ⟨_, _, _, _, _, _, _, _, _, _, _, _, by decide, by decide, rfl⟩)
    by_cases h40 : i = 40
    · subst h40
      obtain rfl := Option.some.inj ho
      have p0 : listed.getD 0 false = true := hpre ⟨0, .data⟩ (by simp) rfl
      obtain ⟨v0, q0, ⟨m0, r0, k0, s0, i0, A0, n0, c0, b0, D0, f0, g0, h0, j0, e0⟩⟩ := HAT.out 0 (by decide) p0
      obtain rfl : u3 = .agg #[.string m0, .int .i64 r0, .int .i64 k0, .string s0, .int .i64 i0, .slice A0 n0 c0, .bool b0, .slice D0 f0 g0] := (Option.some.inj q0).trans e0
      have p7 : listed.getD 7 false = true := hpre ⟨7, .data⟩ (by simp) rfl
      obtain ⟨v7, q7, ⟨m7, r7, k7, s7, i7, A7, n7, c7, b7, D7, f7, g7, h7, j7, e7⟩⟩ := HAT.out 7 (by decide) p7
      obtain rfl : u10 = .agg #[.string m7, .int .i64 r7, .int .i64 k7, .string s7, .int .i64 i7, .slice A7 n7 c7, .bool b7, .slice D7 f7 g7] := (Option.some.inj q7).trans e7
      have p14 : listed.getD 14 false = true := hpre ⟨14, .data⟩ (by simp) rfl
      obtain ⟨v14, q14, ⟨m14, r14, k14, s14, i14, A14, n14, c14, b14, D14, f14, g14, h14, j14, e14⟩⟩ := HAT.out 14 (by decide) p14
      obtain rfl : u17 = .agg #[.string m14, .int .i64 r14, .int .i64 k14, .string s14, .int .i64 i14, .slice A14 n14 c14, .bool b14, .slice D14 f14 g14] := (Option.some.inj q14).trans e14
      have p15 : listed.getD 15 false = true := hpre ⟨15, .data⟩ (by simp) rfl
      obtain ⟨v15, q15, ⟨m15, r15, k15, s15, i15, A15, n15, c15, b15, D15, f15, g15, h15, j15, e15⟩⟩ := HAT.out 15 (by decide) p15
      obtain rfl : u18 = .agg #[.string m15, .int .i64 r15, .int .i64 k15, .string s15, .int .i64 i15, .slice A15 n15 c15, .bool b15, .slice D15 f15 g15] := (Option.some.inj q15).trans e15
      have p17 : listed.getD 17 false = true := hpre ⟨17, .data⟩ (by simp) rfl
      obtain ⟨v17, q17, ⟨m17, r17, k17, s17, i17, A17, n17, c17, b17, D17, f17, g17, h17, j17, e17⟩⟩ := HAT.out 17 (by decide) p17
      obtain rfl : u20 = .agg #[.string m17, .int .i64 r17, .int .i64 k17, .string s17, .int .i64 i17, .slice A17 n17 c17, .bool b17, .slice D17 f17 g17] := (Option.some.inj q17).trans e17
      have p22 : listed.getD 22 false = true := hpre ⟨22, .data⟩ (by simp) rfl
      obtain ⟨v22, q22, ⟨m22, r22, k22, s22, i22, A22, n22, c22, b22, D22, f22, g22, h22, j22, e22⟩⟩ := HAT.out 22 (by decide) p22
      obtain rfl : u25 = .agg #[.string m22, .int .i64 r22, .int .i64 k22, .string s22, .int .i64 i22, .slice A22 n22 c22, .bool b22, .slice D22 f22 g22] := (Option.some.inj q22).trans e22
      have p28 : listed.getD 28 false = true := hpre ⟨28, .data⟩ (by simp) rfl
      obtain ⟨v28, q28, ⟨m28, r28, k28, s28, i28, A28, n28, c28, b28, D28, f28, g28, h28, j28, e28⟩⟩ := HAT.out 28 (by decide) p28
      obtain rfl : u31 = .agg #[.string m28, .int .i64 r28, .int .i64 k28, .string s28, .int .i64 i28, .slice A28 n28 c28, .bool b28, .slice D28 f28 g28] := (Option.some.inj q28).trans e28
      have p39 : listed.getD 39 false = true := hpre ⟨39, .data⟩ (by simp) rfl
      obtain ⟨v39, q39, ⟨m39, r39, k39, s39, i39, A39, n39, c39, b39, D39, f39, g39, h39, j39, e39⟩⟩ := HAT.out 39 (by decide) p39
      obtain rfl : u42 = .agg #[.string m39, .int .i64 r39, .int .i64 k39, .string s39, .int .i64 i39, .slice A39 n39 c39, .bool b39, .slice D39 f39 g39] := (Option.some.inj q39).trans e39
      clear hpre ho HAT
      refine wpOp_step rfl (fun K hK => ?_)
      rw [if_pos (by rfl)]
      have HK := Lib.hid hK
      clear hK
      go_simp
      refine HK.out _ _ (HI.out.put (j := 40) (by decide) hls' (below_new _ _) ⟨wc.heap.size, rfl, hbel.size, by simp, fun q hq => ?_⟩)
      have hrow := blk_new wc (.cells #[.string m0, .int .i64 r0, .int .i64 k0, .string s0, .int .i64 i0, .slice A0 n0 c0, .bool b0, .slice D0 f0 g0, .string m7, .int .i64 r7, .int .i64 k7, .string s7, .int .i64 i7, .slice A7 n7 c7, .bool b7, .slice D7 f7 g7, .string m14, .int .i64 r14, .int .i64 k14, .string s14, .int .i64 i14, .slice A14 n14 c14, .bool b14, .slice D14 f14 g14, .string m15, .int .i64 r15, .int .i64 k15, .string s15, .int .i64 i15, .slice A15 n15 c15, .bool b15, .slice D15 f15 g15, .string m17, .int .i64 r17, .int .i64 k17, .string s17, .int .i64 i17, .slice A17 n17 c17, .bool b17, .slice D17 f17 g17, .string m22, .int .i64 r22, .int .i64 k22, .string s22, .int .i64 i22, .slice A22 n22 c22, .bool b22, .slice D22 f22 g22, .string m28, .int .i64 r28, .int .i64 k28, .string s28, .int .i64 i28, .slice A28 n28 c28, .bool b28, .slice D28 f28 g28, .string m39, .int .i64 r39, .int .i64 k39, .string s39, .int .i64 i39, .slice A39 n39 c39, .bool b39, .slice D39 f39 g39] 65)
      have hc := fun (o : Nat) => cell_of_row _ wc.heap.size o _ _ _ hrow
      by_cases hq0 : q = 0
      · subst hq0
        exact ⟨m0, r0, k0, s0, i0, A0, n0, c0, b0, D0, f0, g0, h0, j0, hc _, hc _, hc _, hc _, hc _, hc _, hc _, hc _⟩
      by_cases hq1 : q = 1
      · subst hq1
        exact ⟨m7, r7, k7, s7, i7, A7, n7, c7, b7, D7, f7, g7, h7, j7, hc _, hc _, hc _, hc _, hc _, hc _, hc _, hc _⟩
      by_cases hq2 : q = 2
      · subst hq2
        exact ⟨m14, r14, k14, s14, i14, A14, n14, c14, b14, D14, f14, g14, h14, j14, hc _, hc _, hc _, hc _, hc _, hc _, hc _, hc _⟩
      by_cases hq3 : q = 3
      · subst hq3
        exact ⟨m15, r15, k15, s15, i15, A15, n15, c15, b15, D15, f15, g15, h15, j15, hc _, hc _, hc _, hc _, hc _, hc _, hc _, hc _⟩
      by_cases hq4 : q = 4
      · subst hq4
        exact ⟨m17, r17, k17, s17, i17, A17, n17, c17, b17, D17, f17, g17, h17, j17, hc _, hc _, hc _, hc _, hc _, hc _, hc _, hc _⟩
      by_cases hq5 : q = 5
      · subst hq5
        exact ⟨m22, r22, k22, s22, i22, A22, n22, c22, b22, D22, f22, g22, h22, j22, hc _, hc _, hc _, hc _, hc _, hc _, hc _, hc _⟩
      by_cases hq6 : q = 6
      · subst hq6
        exact ⟨m28, r28, k28, s28, i28, A28, n28, c28, b28, D28, f28, g28, h28, j28, hc _, hc _, hc _, hc _, hc _, hc _, hc _, hc _⟩
      by_cases hq7 : q = 7
      · subst hq7
        exact ⟨m39, r39, k39, s39, i39, A39, n39, c39, b39, D39, f39, g39, h39, j39, hc _, hc _, hc _, hc _, hc _, hc _, hc _, hc _⟩
      omega
    by_cases h41 : i = 41
    · subst h41
      obtain rfl := Option.some.inj ho
      have p40 : listed.getD 40 false = true := hpre ⟨40, .data⟩ (by simp) rfl
      obtain ⟨v40, q40, ⟨g40, e40, hl40, hg40, hd40⟩⟩ := HAT.out 40 (by decide) p40
      obtain rfl : u43 = .slice (some ⟨g40, 0, none⟩) 8 8 := (Option.some.inj q40).trans e40
      clear hpre ho HAT
      refine wpOp_step rfl (fun K hK => ?_)
      rw [if_pos (by rfl)]
      have HK := Lib.hid hK
      clear hK
      go_simp
      exact HK.out _ _ (HI.out.put (j := 41) (by decide) hls' (Below.refl _ _) ⟨g40, rfl, hl40, hg40, hd40⟩)
    omega
end Go.Proofs.YtdbflfakocaapaaDoor
