/- Contract of tellaw27.same: it answers true. -/
import Derived.Test.YtdjldmpfginkdaaGreatDoorLiveR
import Derived.Test.YtdjldmpfginkdaaGreatDoorGRefPM
import Derived.Test.YtdjldmpfginkdaaGreatDoorGRegD
import Derived.Deep.RegionHeld3
namespace Go.Proofs.YtdjldmpfginkdaaGreatDoor
open Go.RowKit
attribute [local go_sem ↓] Go.wp_at_zero Go.wp_at_succ

noncomputable def Rc.livesR (r : Rc) : List (List Int) := if r.validate = 0 then r.lives else []
noncomputable def Rc.pmapsR (r : Rc) : List (List Int) := if r.validate = 0 then r.pmaps else []
theorem rows_nil (w : World) (B : Nat) : IsRows w B [] (.slice none 0 0) := ⟨none, 0, [], rfl, Nat.le_refl _, by decide, Rd.nil, rfl, fun i l u h1 _ => by simp at h1⟩
theorem livesR_no {r : Rc} (h : ¬ r.Ok) : r.livesR = [] := if_neg (fun e => h (Rc.val_ok_iff.1 e))
theorem livesR_ok {r : Rc} (h : r.Ok) : r.livesR = r.lives := if_pos (Rc.val_ok_iff.2 h)
theorem pmapsR_no {r : Rc} (h : ¬ r.Ok) : r.pmapsR = [] := if_neg (fun e => h (Rc.val_ok_iff.1 e))
theorem pmapsR_ok {r : Rc} (h : r.Ok) : r.pmapsR = r.pmaps := if_pos (Rc.val_ok_iff.2 h)
theorem livesR_len (r : Rc) : r.livesR.length ≤ 2 ^ 47 ∧ ∀ l ∈ r.livesR, l.length ≤ 2 ^ 47 := by
  by_cases h : r.Ok
  · rw [livesR_ok h]
    have h1 := h.1
    have h2 := h.2.1
    unfold Rc.lives
    refine ⟨by simp; omega, fun l hl => ?_⟩
    obtain ⟨i, _, rfl⟩ := List.mem_map.1 hl
    have := live_len r i
    omega
  · rw [livesR_no h]
    exact ⟨by simp, fun l hl => by cases hl⟩
theorem pmapsR_len (r : Rc) : r.pmapsR.length ≤ 2 ^ 47 ∧ ∀ l ∈ r.pmapsR, l.length ≤ 2 ^ 47 := by
  by_cases h : r.Ok
  · rw [pmapsR_ok h]
    have h1 := h.1
    have h2 := h.2.1
    unfold Rc.pmaps
    refine ⟨by simp; omega, fun l hl => ?_⟩
    obtain ⟨i, _, rfl⟩ := List.mem_map.1 hl
    have := live_len r i
    have h3 : (r.maps i).length ≤ (r.live i).length := List.length_filter_le _ _
    omega
  · rw [pmapsR_no h]
    exact ⟨by simp, fun l hl => by cases hl⟩
theorem next_len (r : Rc) (a : Int) : (r.next a).length ≤ 100 := by
  unfold Rc.next
  split
  · rw [List.length_map]; have := r.succ_le a.toNat; omega
  · simp
theorem IsRows.more {w : World} {B B' : Nat} {ls : List (List Int)} {v : Value} (h : IsRows w B ls v) (hB : B ≤ B') : IsRows w B' ls v := h.keep (fun _ _ => rfl) hB
theorem eqrows_below (ls : List (List Int)) (va vb : Value) (W : World) (hl : ls.length ≤ 2 ^ 47 ∧ ∀ l ∈ ls, l.length ≤ 2 ^ 47) (ha : IsRows W W.heap.size ls va) (hb : IsRows W W.heap.size ls vb) :
    Calls Tryz.prog 26 #[va, vb] W fun e w' => e = .returned (.bool true) ∧ Below W.heap.size W w' :=
  (c_EqualRows ls va vb W _ _ ha hb hl.1 hl.2).mono fun _ _ ⟨h, d, hd⟩ => ⟨h, by rw [hd]; exact below_drewN (Below.refl _ _) d⟩
theorem eqints_below (l : List Int) (va vb : Value) (W : World) (hl : l.length ≤ 100) (ha : IsInts W W.heap.size l va) (hb : IsInts W W.heap.size l vb) :
    Calls Tryz.prog 28 #[va, vb] W fun e w' => e = .returned (.bool true) ∧ Below W.heap.size W w' :=
  (c_EqualInts l va vb W _ _ ha hb (by omega)).mono fun _ _ ⟨h, d, hd⟩ => ⟨h, by rw [hd]; exact below_drewN (Below.refl _ _) d⟩
theorem equses_below (l : List Int) (va vb : Value) (W : World) (hl : l.length ≤ 2 ^ 47) (ha : IsInts W W.heap.size l va) (hb : IsInts W W.heap.size l vb) :
    Calls Tryz.prog 28 #[va, vb] W fun e w' => e = .returned (.bool true) ∧ Below W.heap.size W w' :=
  (c_EqualInts l va vb W _ _ ha hb hl).mono fun _ _ ⟨h, d, hd⟩ => ⟨h, by rw [hd]; exact below_drewN (Below.refl _ _) d⟩
/-- Both answer alike. -/
structure Both (r : Rc) (cls : Value) (IA : Option Addr) (ic : Nat) (DA : Option Addr) (dc : Nat) (w : World) (G : Nat) : Prop where
  va : ∀ W, Below w.heap.size w W → Calls Tryz.prog 9 #[.agg #[.int .i64 r.params, cls, .slice IA r.instrs.length ic, .slice DA r.edits dc]] W fun e w' => e = .returned (.int .i64 r.validate) ∧ Below W.heap.size W w'
  vb : ∀ W, Below w.heap.size w W → Calls Tryz.prog 10 #[.agg #[.int .i64 r.params, cls, .slice IA r.instrs.length ic, .slice DA r.edits dc]] W fun e w' => e = .returned (.int .i64 r.validate) ∧ Below W.heap.size W w'
  la : ∀ W, Below w.heap.size w W → Calls Tryz.prog 12 #[.agg #[.int .i64 r.params, cls, .slice IA r.instrs.length ic, .slice DA r.edits dc]] W fun e w' => ∃ v, e = .returned v ∧ IsRows w' w'.heap.size r.livesR v ∧ Below W.heap.size W w'
  lb : ∀ W, Below w.heap.size w W → Calls Tryz.prog 34 #[.agg #[.int .i64 r.params, cls, .slice IA r.instrs.length ic, .slice DA r.edits dc]] W fun e w' => ∃ v, e = .returned v ∧ IsRows w' w'.heap.size r.livesR v ∧ Below W.heap.size W w'
  pa : ∀ W, Below w.heap.size w W → Calls Tryz.prog 27 #[.agg #[.int .i64 r.params, cls, .slice IA r.instrs.length ic, .slice DA r.edits dc]] W fun e w' => ∃ v, e = .returned v ∧ IsRows w' w'.heap.size r.pmapsR v ∧ Below W.heap.size W w'
  pb : ∀ W, Below w.heap.size w W → Calls Tryz.prog 35 #[.agg #[.int .i64 r.params, cls, .slice IA r.instrs.length ic, .slice DA r.edits dc]] W fun e w' => ∃ v, e = .returned v ∧ IsRows w' w'.heap.size r.pmapsR v ∧ Below W.heap.size W w'
  sa : ∀ W, Below w.heap.size w W → ∀ i, Calls Tryz.prog 15 #[.agg #[.int .i64 r.params, cls, .slice IA r.instrs.length ic, .slice DA r.edits dc], .int .i64 i] W fun e w' => ∃ v, e = .returned v ∧ IsInts w' w'.heap.size (r.next i) v ∧ Below W.heap.size W w'
  sb : ∀ W, Below w.heap.size w W → ∀ i, Calls Tryz.prog 36 #[.agg #[.int .i64 r.params, cls, .slice IA r.instrs.length ic, .slice DA r.edits dc], .int .i64 i] W fun e w' => ∃ v, e = .returned v ∧ IsInts w' w'.heap.size (r.next i) v ∧ Below W.heap.size W w'
theorem both_of (r : Rc) (cls : Value) (IA : Option Addr) (ic : Nat) (DA : Option Addr) (dc : Nat) (w : World) (B G : Nat) (hr : RcAt w B r cls IA ic) (hB : B ≤ w.heap.size) (hE : EnvS w G) (hR : EnvR w G) (hG : G ≤ w.heap.size) : Both r cls IA ic DA dc w G where
  va := fun W hW => c_RegVal r cls IA ic DA dc W B G (hr.below hW hB) (Nat.le_trans hB hW.size) (hE.below hW hG) (hR.below hW hG) (Nat.le_trans hG hW.size)
  vb := fun W hW => c_RefVal r cls IA ic DA dc W B (hr.below hW hB) (Nat.le_trans hB hW.size)
  la := fun W hW => by
    refine (c_Liveness r cls IA ic DA dc W B G (hr.below hW hB) (Nat.le_trans hB hW.size) (hE.below hW hG) (hR.below hW hG) (Nat.le_trans hG hW.size)).mono ?_
    rintro e w' ⟨⟨h, rfl⟩ | ⟨h, g, rfl, hi⟩, hb⟩
    · exact ⟨_, rfl, by rw [livesR_no h]; exact rows_nil _ _, hb⟩
    · exact ⟨_, rfl, by rw [livesR_ok h]; exact hi, hb⟩
  lb := fun W hW => by
    refine (c_RefLive r cls IA ic DA dc W B (hr.below hW hB) (Nat.le_trans hB hW.size)).mono ?_
    rintro e w' ⟨⟨h, rfl⟩ | ⟨h, g, rfl, hi⟩, hb⟩
    · exact ⟨_, rfl, by rw [livesR_no h]; exact rows_nil _ _, hb⟩
    · exact ⟨_, rfl, by rw [livesR_ok h]; exact hi, hb⟩
  pa := fun W hW => by
    refine (c_PointerMaps r cls IA ic DA dc W B G (hr.below hW hB) (Nat.le_trans hB hW.size) (hE.below hW hG) (hR.below hW hG) (Nat.le_trans hG hW.size)).mono ?_
    rintro e w' ⟨⟨h, rfl⟩ | ⟨h, v, rfl, hi⟩, hb⟩
    · exact ⟨_, rfl, by rw [pmapsR_no h]; exact rows_nil _ _, hb⟩
    · exact ⟨_, rfl, by rw [pmapsR_ok h]; exact hi, hb⟩
  pb := fun W hW => by
    refine (c_RefPM r cls IA ic DA dc W B (hr.below hW hB) (Nat.le_trans hB hW.size)).mono ?_
    rintro e w' ⟨⟨h, rfl⟩ | ⟨h, v, rfl, hi⟩, hb⟩
    · exact ⟨_, rfl, by rw [pmapsR_no h]; exact rows_nil _ _, hb⟩
    · exact ⟨_, rfl, by rw [pmapsR_ok h]; exact hi, hb⟩
  sa := fun W hW i => by
    refine (c_Successors r cls IA ic DA dc i W B G (hr.below hW hB) (Nat.le_trans hB hW.size) (hE.below hW hG) (hR.below hW hG) (Nat.le_trans hG hW.size)).mono ?_
    rintro e w' ⟨v, rfl, hi, hb⟩
    exact ⟨_, rfl, hi.ints (by have := next_len r i; omega), hb⟩
  sb := fun W hW i => by
    refine (c_RefSucc r cls IA ic DA dc i W B (hr.below hW hB) (Nat.le_trans hB hW.size)).mono ?_
    rintro e w' ⟨v, rfl, hi, hb⟩
    exact ⟨_, rfl, hi.ints (by have := next_len r i; omega), hb⟩
set_option maxRecDepth 100000 in
set_option maxHeartbeats 16000000 in
theorem c_sameR (r : Rc) (cls : Value) (IA : Option Addr) (ic : Nat) (DA : Option Addr) (dc : Nat) (at_ : Int) (w : World) (B G : Nat) (hr : RcAt w B r cls IA ic) (hB : B ≤ w.heap.size) (hE : EnvS w G) (hR : EnvR w G) (hG : G ≤ w.heap.size) (hal : ∀ x ∈ r.instrs, x.args.length ≤ 2 ^ 20) (hnl : r.instrs.length ≤ 2 ^ 40) :
    Calls Tryz.prog 18 #[.agg #[.int .i64 r.params, cls, .slice IA r.instrs.length ic, .slice DA r.edits dc], .int .i64 at_] w fun e w' => e = .returned (.bool true) ∧ Below w.heap.size w w' := by
  have HB0 := Lib.hid (Bx.start w (.int .i64 r.params) cls (.slice IA r.instrs.length ic) (.slice DA r.edits dc))
  have HT := both_of r cls IA ic DA dc w B G hr hB hE hR hG
  have HVA := Lib.hid HT.va
  have HVB := Lib.hid HT.vb
  have HLA := Lib.hid HT.la
  have HLB := Lib.hid HT.lb
  have HPA := Lib.hid HT.pa
  have HPB := Lib.hid HT.pb
  have HSA := Lib.hid HT.sa
  have HSB := Lib.hid HT.sb
  have HIN := Lib.hid (fun (W : World) (hW : Below w.heap.size w W) (k : Nat) (hk : k < r.instrs.length) => hr.at_ (w' := W) (fun b hb => hW.block b (by omega)) hk)
  have HDEF := Lib.hid (fun (W : World) (hW : Below w.heap.size w W) (op dst imm : Int) (u2 u3 u5 u6 u7 u8 u9 u10 u11 u12 u13 u14 : Value) => c_Def op dst imm u2 u3 u5 u6 u7 u8 u9 u10 u11 u12 u13 u14 W G (hE.below hW hG) (Nat.le_trans hG hW.size))
  have HDEG := Lib.hid (fun (W : World) (op dst imm : Int) (u2 u3 u5 u6 u7 u8 u9 u10 u11 u12 u13 u14 : Value) => c_RefDef op dst imm u2 u3 u5 u6 u7 u8 u9 u10 u11 u12 u13 u14 W)
  have HUSE := Lib.hid (fun (W : World) (hW : Below w.heap.size w W) (x : Ins) (A : Option Addr) (c : Nat) (TA : Option Addr) (tc : Nat) (EA : Option Addr) (ec : Nat) (hx : IsInts W B x.args (.slice A x.args.length c)) (ha : x.args.length ≤ 2 ^ 20) => c_Uses x A c TA tc EA ec W B G hx (Nat.le_trans hB hW.size) (by omega) (hE.below hW hG) (Nat.le_trans hG hW.size))
  have HUSF := Lib.hid (fun (W : World) (hW : Below w.heap.size w W) (x : Ins) (A : Option Addr) (c : Nat) (TA : Option Addr) (tc : Nat) (EA : Option Addr) (ec : Nat) (hx : IsInts W B x.args (.slice A x.args.length c)) (ha : x.args.length ≤ 2 ^ 20) => c_RefUses x A c TA tc EA ec W B hx (Nat.le_trans hB hW.size) ha)
  have HAL := Lib.hid hal
  have HL1 := Lib.hid (livesR_len r)
  have HL2 := Lib.hid (pmapsR_len r)
  have HL3 := Lib.hid (next_len r)
  obtain ⟨CA, cc, rfl, _⟩ := hr.cls
  clear hr hE hR hal HT
  generalize r.validate = vl, r.livesR = ls, r.pmapsR = ps at *
  generalize hn : r.instrs.length = n at *
  generalize r.classes.length = m at *
  have HN := Lib.hid hn
  clear hn
  have HEQ := Lib.hid (fun (ls : List (List Int)) (va vb : Value) (W : World) (hl : ls.length ≤ 2 ^ 47 ∧ ∀ l ∈ ls, l.length ≤ 2 ^ 47) (ha : IsRows W W.heap.size ls va) (hb : IsRows W W.heap.size ls vb) => eqrows_below ls va vb W hl ha hb)
  go_enter Tryz.func18, Tryz.ntmps18
  go_wp2
  have SK : Hid (∀ W' : World, Bx w (.int .i64 r.params) (.slice CA m cc) (.slice IA n ic) (.slice DA r.edits dc) W' → (fun W' : World => Below w.heap.size w W' ∧ w.heap.size < W'.heap.size ∧ (W'.cell? ⟨w.heap.size, 0, none⟩ = some (.int .i64 r.params) ∧ W'.cell? ⟨w.heap.size, 1, none⟩ = some (.slice CA m cc) ∧ W'.cell? ⟨w.heap.size, 2, none⟩ = some (.slice IA n ic) ∧ W'.cell? ⟨w.heap.size, 3, none⟩ = some (.slice DA r.edits dc))) W') := Lib.hid (fun W' h => ⟨h.2.1, h.2.2, h.1⟩)
  have SB : Hid (∀ W W' : World, (fun W' : World => Below w.heap.size w W' ∧ w.heap.size < W'.heap.size ∧ (W'.cell? ⟨w.heap.size, 0, none⟩ = some (.int .i64 r.params) ∧ W'.cell? ⟨w.heap.size, 1, none⟩ = some (.slice CA m cc) ∧ W'.cell? ⟨w.heap.size, 2, none⟩ = some (.slice IA n ic) ∧ W'.cell? ⟨w.heap.size, 3, none⟩ = some (.slice DA r.edits dc))) W → Below W.heap.size W W' → (fun W' : World => Below w.heap.size w W' ∧ w.heap.size < W'.heap.size ∧ (W'.cell? ⟨w.heap.size, 0, none⟩ = some (.int .i64 r.params) ∧ W'.cell? ⟨w.heap.size, 1, none⟩ = some (.slice CA m cc) ∧ W'.cell? ⟨w.heap.size, 2, none⟩ = some (.slice IA n ic) ∧ W'.cell? ⟨w.heap.size, 3, none⟩ = some (.slice DA r.edits dc))) W') := Lib.hid (fun W W' h hb => by
    have h1 : Bx w (.int .i64 r.params) (.slice CA m cc) (.slice IA n ic) (.slice DA r.edits dc) W := ⟨h.2.2, h.1, h.2.1⟩
    have h2 := h1.step hb
    exact ⟨h2.2.1, h2.2.2, h2.1⟩)
  have SR : Hid (∀ W' : World, (fun W' : World => Below w.heap.size w W' ∧ w.heap.size < W'.heap.size ∧ (W'.cell? ⟨w.heap.size, 0, none⟩ = some (.int .i64 r.params) ∧ W'.cell? ⟨w.heap.size, 1, none⟩ = some (.slice CA m cc) ∧ W'.cell? ⟨w.heap.size, 2, none⟩ = some (.slice IA n ic) ∧ W'.cell? ⟨w.heap.size, 3, none⟩ = some (.slice DA r.edits dc))) W' → Bx w (.int .i64 r.params) (.slice CA m cc) (.slice IA n ic) (.slice DA r.edits dc) W') := Lib.hid (fun W' h => ⟨h.2.2, h.1, h.2.1⟩)
  have tok0 : True := trivial
  go_region_held3 (fun W' : World => Below w.heap.size w W' ∧ w.heap.size < W'.heap.size ∧ (W'.cell? ⟨w.heap.size, 0, none⟩ = some (.int .i64 r.params) ∧ W'.cell? ⟨w.heap.size, 1, none⟩ = some (.slice CA m cc) ∧ W'.cell? ⟨w.heap.size, 2, none⟩ = some (.slice IA n ic) ∧ W'.cell? ⟨w.heap.size, 3, none⟩ = some (.slice DA r.edits dc)))
    (first | exact SK.out _ (HB0.out.step (below_drew _)) | exact SB.out _ _ (by assumption) hbn)
    (first
    | (go_at_call 28; have _t := tok10; refine HEA.out.mono ?_; rintro e wb ⟨rfl, hbn⟩; have tok11 : True := trivial)
    | (go_at_call 36; have _t := tok9; refine (HSB.out _ ?h9 _).mono ?_; (case h9 => exact And.left (by assumption)); rintro e wn ⟨va, rfl, hra, hbn⟩; have HEA := Lib.hid (eqints_below (r.next at_) v9 va wn (HL3.out at_) ((HR9.out.below hbn (Nat.le_refl _)).more hbn.size) hra); clear hra; have tok10 : True := trivial)
    | (go_at_call 15; have _t := tok8; refine (HSA.out _ ?h8 _).mono ?_; (case h8 => exact And.left (by assumption)); rintro e wn ⟨v9, rfl, hr9, hbn⟩; have HR9 := Lib.hid hr9; clear hr9; have tok9 : True := trivial)
    | (go_at_call 26; have _t := tok7; refine HE7.out.mono ?_; rintro e wn ⟨rfl, hbn⟩; have tok8 : True := trivial)
    | (go_at_call 35; have _t := tok6; refine (HPB.out _ ?h6).mono ?_; (case h6 => exact And.left (by assumption)); rintro e wn ⟨v7, rfl, hr7, hbn⟩; have HE7 := Lib.hid (HEQ.out ps v6 v7 wn HL2.out ((HR6.out.below hbn (Nat.le_refl _)).more hbn.size) hr7); clear hr7; have tok7 : True := trivial)
    | (go_at_call 27; have _t := tok5; refine (HPA.out _ ?h5).mono ?_; (case h5 => exact And.left (by assumption)); rintro e wn ⟨v6, rfl, hr6, hbn⟩; have HR6 := Lib.hid hr6; clear hr6; have tok6 : True := trivial)
    | (go_at_call 26; have _t := tok4; refine HE4.out.mono ?_; rintro e wn ⟨rfl, hbn⟩; have tok5 : True := trivial)
    | (go_at_call 34; have _t := tok3; refine (HLB.out _ ?h3).mono ?_; (case h3 => exact And.left (by assumption)); rintro e wn ⟨v4, rfl, hr4, hbn⟩; have HE4 := Lib.hid (HEQ.out ls v3 v4 wn HL1.out ((HR3.out.below hbn (Nat.le_refl _)).more hbn.size) hr4); clear hr4; have tok4 : True := trivial)
    | (go_at_call 12; have _t := tok2; refine (HLA.out _ ?h2).mono ?_; (case h2 => exact And.left (by assumption)); rintro e wn ⟨v3, rfl, hr3, hbn⟩; have HR3 := Lib.hid hr3; clear hr3; have tok3 : True := trivial)
    | (go_at_call 10; have _t := tok1; refine (HVB.out _ ?h1).mono ?_; (case h1 => exact And.left (by assumption)); rintro e wn ⟨rfl, hbn⟩; have tok2 : True := trivial)
    | (go_at_call 9; have _t := tok0; refine (HVA.out _ ?h0).mono ?_; (case h0 => exact And.left (by assumption)); rintro e wn ⟨rfl, hbn⟩; have tok1 : True := trivial))
  have HBb := Lib.hid (SR.out wb (by assumption))
  go_wp2
  go_loopw [5] (fun s wr => ∃ i : Nat, i ≤ n ∧ s = .int .i64 i ∧ Hid (Bx w (.int .i64 r.params) (.slice CA m cc) (.slice IA n ic) (.slice DA r.edits dc) wr)) (fun s _ => n - (intOf s).toNat)
  case atStart => exact ⟨0, by omega, rfl, HBb⟩
  case round =>
    clear HBb
    obtain ⟨i, hi, rfl, HB⟩ := hrel
    obtain ⟨c0, c1, c2, c3⟩ := HB.out.1
    have hi0 : (0 : Int) ≤ (i : Int) := by omega
    by_cases hin : i < n
    · have hi1 : (i : Int) < (n : Int) := by omega
      obtain ⟨g, o, x, hx, rfl, hg, hI⟩ := HIN.out wr HB.out.2.1 i hin
      obtain ⟨X1, e1, TX, tx, EX, ex, hcs, hia, _⟩ := hI
      have HXM : Hid (x ∈ r.instrs) := Lib.hid (List.mem_of_getElem? hx)
      have hxa := HAL.out x HXM.out
      have HIA := Lib.hid hia
      obtain ⟨h0, h1, h2, h3, h4, h5, h6, h7, h8, h9, h10, h11, h12, h13, h14⟩ := hcs
      clear hx hia
      go_wp2_with fail
      clear h0 h1 h2 h3 h4 h5 h6 h7 h8 h9 h10 h11 h12 h13 h14 c0 c1 c2 c3
      have hxc : IBox x X1 e1 TX tx EX ex wr.heap.size (wr.alloc (.cells #[.int .i64 x.op, .int .i64 x.dst, .int .i64 x.a, .int .i64 x.b, .int .i64 x.imm, .string x.name, .slice X1 x.args.length e1, .int .i64 x.ty.kind, .string x.ty.name, .int .i64 x.ty.index, .slice TX x.ty.args.length tx, .int .i64 x.ck, .int .i64 x.ci, .string x.cs, .slice EX x.ce ex] 38)) := blk_new _ _
      have hba := below_new wr (.cells #[.int .i64 x.op, .int .i64 x.dst, .int .i64 x.a, .int .i64 x.b, .int .i64 x.imm, .string x.name, .slice X1 x.args.length e1, .int .i64 x.ty.kind, .string x.ty.name, .int .i64 x.ty.index, .slice TX x.ty.args.length tx, .int .i64 x.ck, .int .i64 x.ci, .string x.cs, .slice EX x.ce ex] 38)
      generalize hWa : wr.alloc _ = wa at *
      have HXC := Lib.hid hxc
      have HBa := Lib.hid (HB.out.step hba)
      have HIA2 := Lib.hid (HIA.out.below hba (Nat.le_trans hB HB.out.2.1.size))
      clear hWa hxc hba HB HIA
      generalize wr.heap.size = xb at *
      refine (HDEF.out wa HBa.out.2.1 _ _ _ _ _ _ _ _ _ _ _ _ _ _ _).mono ?_
      rintro e w2 ⟨rfl, hb2⟩
      have HB2 := Lib.hid (HBa.out.step hb2)
      have HXC2 := Lib.hid (HXC.out.below hb2)
      have HIA3 := Lib.hid (HIA2.out.below hb2 (Nat.le_trans hB HBa.out.2.1.size))
      clear hb2 HBa HXC HIA2
      obtain ⟨h0, h1, h2, h3, h4, h5, h6, h7, h8, h9, h10, h11, h12, h13, h14⟩ := HXC2.out.cells
      generalize hdv : (if oD x.op = true then x.dst else 0) = dv
      have HDV := Lib.hid hdv
      generalize hod : oD x.op = od
      have HOD := Lib.hid hod
      clear hdv hod
      go_wp2_with fail
      refine (HDEG.out w2 _ _ _ _ _ _ _ _ _ _ _ _ _ _ _).mono ?_
      rintro e w3 ⟨rfl, hb3⟩
      rw [HDV.out, HOD.out]
      clear HDV HOD
      have HB3 := Lib.hid (HB2.out.step hb3)
      have HXC3 := Lib.hid (HXC2.out.below hb3)
      have HIA4 := Lib.hid (HIA3.out.below hb3 (Nat.le_trans hB HB2.out.2.1.size))
      clear hb3 HB2 HXC2 HIA3 h0 h1 h2 h3 h4 h5 h6 h7 h8 h9 h10 h11 h12 h13 h14
      obtain ⟨h0, h1, h2, h3, h4, h5, h6, h7, h8, h9, h10, h11, h12, h13, h14⟩ := HXC3.out.cells
      clear h0 h1 h2 h3 h4 h5 h6 h7 h8 h9 h10 h11 h12 h13 h14
      have hbz3 := HB3.out.2.1
      have HUA := Lib.hid (fun (W : World) (hW : Below w3.heap.size w3 W) => HUSE.out W (below_step hbz3 hW) x X1 e1 TX tx EX ex (HIA4.out.below hW (Nat.le_trans hB hbz3.size)) hxa)
      have HUB := Lib.hid (fun (W : World) (hW : Below w3.heap.size w3 W) => HUSF.out W (below_step hbz3 hW) x X1 e1 TX tx EX ex (HIA4.out.below hW (Nat.le_trans hB hbz3.size)) hxa)
      have HSA9 := Lib.hid (fun (W : World) (hW : Below w3.heap.size w3 W) => HSA.out W (below_step hbz3 hW) i)
      have HSB9 := Lib.hid (fun (W : World) (hW : Below w3.heap.size w3 W) => HSB.out W (below_step hbz3 hW) i)
      have hul : x.uses.length ≤ 2 ^ 47 := Nat.le_trans (uses_len x) (Nat.le_trans (regs_len x) (by omega))
      have HUL := Lib.hid hul
      have HLN := HL3.out i
      have SK9 : Hid (∀ W' : World, Below w3.heap.size w3 W' → (fun W' : World => Below w3.heap.size w3 W' ∧ (W'.cell? ⟨w.heap.size, 0, none⟩ = some (.int .i64 r.params) ∧ W'.cell? ⟨w.heap.size, 1, none⟩ = some (.slice CA m cc) ∧ W'.cell? ⟨w.heap.size, 2, none⟩ = some (.slice (some ⟨g, o, none⟩) n ic) ∧ W'.cell? ⟨w.heap.size, 3, none⟩ = some (.slice DA r.edits dc)) ∧ (W'.cell? ⟨xb, 0, none⟩ = some (.int .i64 x.op) ∧ W'.cell? ⟨xb, 1, none⟩ = some (.int .i64 x.dst) ∧ W'.cell? ⟨xb, 2, none⟩ = some (.int .i64 x.a) ∧ W'.cell? ⟨xb, 3, none⟩ = some (.int .i64 x.b) ∧ W'.cell? ⟨xb, 4, none⟩ = some (.int .i64 x.imm) ∧ W'.cell? ⟨xb, 5, none⟩ = some (.string x.name) ∧ W'.cell? ⟨xb, 6, none⟩ = some (.slice X1 x.args.length e1) ∧ W'.cell? ⟨xb, 7, none⟩ = some (.int .i64 x.ty.kind) ∧ W'.cell? ⟨xb, 8, none⟩ = some (.string x.ty.name) ∧ W'.cell? ⟨xb, 9, none⟩ = some (.int .i64 x.ty.index) ∧ W'.cell? ⟨xb, 10, none⟩ = some (.slice TX x.ty.args.length tx) ∧ W'.cell? ⟨xb, 11, none⟩ = some (.int .i64 x.ck) ∧ W'.cell? ⟨xb, 12, none⟩ = some (.int .i64 x.ci) ∧ W'.cell? ⟨xb, 13, none⟩ = some (.string x.cs) ∧ W'.cell? ⟨xb, 14, none⟩ = some (.slice EX x.ce ex))) W') := Lib.hid (fun W' h => ⟨h, (HB3.out.step h).1, (HXC3.out.below h).cells⟩)
      clear hul HIA4 HXC3
      go_wp2
      have tox0 : True := trivial
      go_region_held3 (fun W' : World => Below w3.heap.size w3 W' ∧ (W'.cell? ⟨w.heap.size, 0, none⟩ = some (.int .i64 r.params) ∧ W'.cell? ⟨w.heap.size, 1, none⟩ = some (.slice CA m cc) ∧ W'.cell? ⟨w.heap.size, 2, none⟩ = some (.slice (some ⟨g, o, none⟩) n ic) ∧ W'.cell? ⟨w.heap.size, 3, none⟩ = some (.slice DA r.edits dc)) ∧ (W'.cell? ⟨xb, 0, none⟩ = some (.int .i64 x.op) ∧ W'.cell? ⟨xb, 1, none⟩ = some (.int .i64 x.dst) ∧ W'.cell? ⟨xb, 2, none⟩ = some (.int .i64 x.a) ∧ W'.cell? ⟨xb, 3, none⟩ = some (.int .i64 x.b) ∧ W'.cell? ⟨xb, 4, none⟩ = some (.int .i64 x.imm) ∧ W'.cell? ⟨xb, 5, none⟩ = some (.string x.name) ∧ W'.cell? ⟨xb, 6, none⟩ = some (.slice X1 x.args.length e1) ∧ W'.cell? ⟨xb, 7, none⟩ = some (.int .i64 x.ty.kind) ∧ W'.cell? ⟨xb, 8, none⟩ = some (.string x.ty.name) ∧ W'.cell? ⟨xb, 9, none⟩ = some (.int .i64 x.ty.index) ∧ W'.cell? ⟨xb, 10, none⟩ = some (.slice TX x.ty.args.length tx) ∧ W'.cell? ⟨xb, 11, none⟩ = some (.int .i64 x.ck) ∧ W'.cell? ⟨xb, 12, none⟩ = some (.int .i64 x.ci) ∧ W'.cell? ⟨xb, 13, none⟩ = some (.string x.cs) ∧ W'.cell? ⟨xb, 14, none⟩ = some (.slice EX x.ce ex)))
        (first | exact SK9.out _ (below_drew _) | exact SK9.out _ (below_step (And.left (by assumption)) hbn))
        (first
        | (go_at_call 28; have _t := tox5; refine HEY.out.mono ?_; rintro e wz ⟨rfl, hbn⟩; have tox6 : True := trivial)
        | (go_at_call 36; have _t := tox4; refine (HSB9.out _ ?g4).mono ?_; (case g4 => exact And.left (by assumption)); rintro e wn ⟨vy, rfl, hry, hbn⟩; have HEY := Lib.hid (eqints_below (r.next i) vx vy wn HLN ((HRX.out.below hbn (Nat.le_refl _)).more hbn.size) hry); clear hry; have tox5 : True := trivial)
        | (go_at_call 15; have _t := tox3; refine (HSA9.out _ ?g3).mono ?_; (case g3 => exact And.left (by assumption)); rintro e wn ⟨vx, rfl, hrx, hbn⟩; have HRX := Lib.hid hrx; clear hrx; have tox4 : True := trivial)
        | (go_at_call 28; have _t := tox2; refine HEU.out.mono ?_; rintro e wn ⟨rfl, hbn⟩; have tox3 : True := trivial)
        | (go_at_call 38; have _t := tox1; refine (HUB.out _ ?g1).mono ?_; (case g1 => exact And.left (by assumption)); rintro e wn ⟨vu, rfl, hru, hbn⟩; have HEU := Lib.hid (equses_below x.uses vt vu wn HUL.out ((HRT.out.below hbn (Nat.le_refl _)).more hbn.size) hru); clear hru; have tox2 : True := trivial)
        | (go_at_call 14; have _t := tox0; refine (HUA.out _ ?g0).mono ?_; (case g0 => exact And.left (by assumption)); rintro e wn ⟨vt, rfl, hrt, hbn⟩; have HRT := Lib.hid (IsInts.own hrt); clear hrt; have tox1 : True := trivial))
      have HBz := Lib.hid (HB3.out.step (And.left (by assumption) : Below w3.heap.size w3 wz))
      go_wp2
      go_roundw
      case rel => exact ⟨i + 1, by omega, by go_num, HBz⟩
      case measure => simp [intOf]; omega
    · obtain rfl : n = i := by omega
      have hbz := HB.out.2.1
      go_wp2
      go_ret
      exact ⟨rfl, hbz⟩
end Go.Proofs.YtdjldmpfginkdaaGreatDoor
