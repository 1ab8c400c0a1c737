/- The walk of tellaw2.spoil: it returns some term, at most twice as large; it may share memory with its argument. -/
import Derived.Test.YtdbflfakocaapaaDoorBoxP
import Derived.Test.YtdbflfakocaapaaDoorSize2
import Derived.Test.YtdbflfakocaapaaDoorStream
import Derived.Deep.RegionWith
namespace Go.Proofs.YtdbflfakocaapaaDoor
open Go.RowKit
attribute [local go_sem ↓] Go.wp_at_zero Go.wp_at_succ

def SpR (t : Ty) (P : Nat → Prop) (w : World) (e : Ending) (w' : World) : Prop := ∃ x A c, e = .returned (.agg #[.int .i64 x.kind, .string x.name, .int .i64 x.index, .slice A x.args.length c]) ∧ IsTyP w' (fun b => P b ∨ (w.heap.size ≤ b ∧ b < w'.heap.size)) x (.agg #[.int .i64 x.kind, .string x.name, .int .i64 x.index, .slice A x.args.length c]) ∧ x.ok ∧ x.size ≤ 2 * t.size ∧ Below w.heap.size w w'

set_option maxHeartbeats 400000 in
theorem c_Mod2 (a m : Int) (w : World) (hm : 1 ≤ m) (hm2 : m ≤ 2 ^ 60) : Calls Tryd.prog 20 #[.int .i64 a, .int .i64 m] w fun e w' => e = .returned (.int .i64 (a % m)) ∧ w' = w := by
  have h1 := Int.tmod_eq_emod (a := a) (b := m)
  have h2 := Int.emod_nonneg a (show m ≠ 0 by omega)
  have h3 := Int.emod_lt_of_pos a (show 0 < m by omega)
  have hz : (m == 0) = false := by rw [beq_eq_false_iff_ne]; omega
  have hz2 : ¬ m = 0 := by omega
  by_cases hneg : a.tmod m < 0
  · have hr : Hid (a.tmod m + m = a % m) := Lib.hid (by rw [h1] at hneg ⊢; split at hneg <;> rename_i hc <;> simp only [hc, if_true, if_false] <;> omega)
    have hb : -m ≤ a.tmod m := by have := hr.out; omega
    clear h1 h2 h3
    go_enter Tryd.func20, Tryd.ntmps20
    go_wp2
    go_ret
    exact ⟨ret_int (by rw [← hr.out]), rfl⟩
  · have hr : Hid (a.tmod m = a % m) := Lib.hid (by rw [h1] at hneg ⊢; split <;> rename_i hc <;> simp only [hc, if_false] at hneg <;> omega)
    have hb : a.tmod m < m := by have := hr.out; omega
    clear h1 h2 h3
    go_enter Tryd.func20, Tryd.ntmps20
    go_wp2
    go_ret
    exact ⟨ret_int (by rw [← hr.out]), rfl⟩
theorem below_set {w W : World} {b i : Nat} {u : Value} (h : Below w.heap.size w W) (hb : w.heap.size ≤ b) : Below w.heap.size w (W.setCell ⟨b, i, none⟩ u) :=
  ⟨h.os, h.tape, h.output, by simp [World.setCell]; exact h.size, fun k hk => (Below.heap_setCell _ _ _ _ (by show k ≠ b; omega)).trans (h.block k hk)⟩
/-- The end of a way: the variable's term is stored into the result's box. -/
theorem sp_fin {t : Ty} {P Q : Nat → Prop} {w W : World} {k ix : Int} {nm : ByteArray} {ts : List Ty} {A : Option Addr} {n c : Nat} {x0 x1 x2 x3 : Value} (hP : ∀ b, P b → b < w.heap.size) (hb : Below w.heap.size w W) (hn : ts.length = n) (hl : IsTylP W Q ts (.slice A n c)) (hQ : ∀ b, Q b → P b ∨ (w.heap.size + 1 < b ∧ b < W.heap.size)) (hok : inI k ∧ inI ix ∧ Ty.oks ts) (hsz : 1 + Ty.sizes ts ≤ 2 * t.size) (hr : W.heap[w.heap.size + 1]? = some (.cells #[x0, x1, x2, x3] 25 (0, 0))) :
    ∀ W' : World, W' = ((((W.setCell ⟨w.heap.size + 1, 0, none⟩ (.int .i64 k)).setCell ⟨w.heap.size + 1, 1, none⟩ (.string nm)).setCell ⟨w.heap.size + 1, 2, none⟩ (.int .i64 ix)).setCell ⟨w.heap.size + 1, 3, none⟩ (.slice A n c)) →
    Hid (SpR t P w (.returned (.agg #[.int .i64 k, .string nm, .int .i64 ix, .slice A n c])) W') ∧ (W'.cell? ⟨w.heap.size + 1, 0, none⟩ = some (.int .i64 k) ∧ W'.cell? ⟨w.heap.size + 1, 1, none⟩ = some (.string nm) ∧ W'.cell? ⟨w.heap.size + 1, 2, none⟩ = some (.int .i64 ix) ∧ W'.cell? ⟨w.heap.size + 1, 3, none⟩ = some (.slice A n c)) := by
  rintro W' rfl
  subst hn
  obtain ⟨s1, s2, s3⟩ := set4 (.int .i64 k) (.string nm) (.int .i64 ix) (.slice A ts.length c) hr
  refine ⟨Lib.hid ⟨⟨k, nm, ix, ts⟩, A, c, rfl, IsTyP.mk_ (hl.keep (fun b hq => s2 b ?_) (fun b hq => ?_)), by rw [Ty.ok_eq]; exact hok, by rw [Ty.size_eq]; exact hsz, ⟨hb.os, hb.tape, hb.output, by rw [s3]; exact hb.size, fun j hj => (s2 j (by omega)).trans (hb.block j hj)⟩⟩, (box_frozen s1).1⟩
  · rcases hQ b hq with h | h
    · have := hP b h; omega
    · omega
  · rcases hQ b hq with h | h
    · exact .inl h
    · exact .inr ⟨by omega, by rw [s3]; exact h.2⟩
theorem three_boxesP (w : World) (k : Int) (nm : ByteArray) (ix : Int) (A : Option Addr) (n c : Nat) : ∀ W : World, W = (((w.alloc (.cells #[.int .i64 k, .string nm, .int .i64 ix, .slice A n c] 25)).alloc (.cells #[.int .i64 0, .string ⟨#[]⟩, .int .i64 0, .slice none 0 0] 25)).alloc (.cells #[.int .i64 k, .string nm, .int .i64 ix, .slice A n c] 25)) →
    W.heap[w.heap.size]? = some (.cells #[.int .i64 k, .string nm, .int .i64 ix, .slice A n c] 25 (0, 0)) ∧ W.heap[w.heap.size + 1]? = some (.cells #[.int .i64 0, .string ⟨#[]⟩, .int .i64 0, .slice none 0 0] 25 (0, 0)) ∧ W.heap[w.heap.size + 1 + 1]? = some (.cells #[.int .i64 k, .string nm, .int .i64 ix, .slice A n c] 25 (0, 0)) ∧ Below w.heap.size w W := by
  rintro W rfl
  refine ⟨blk_old (blk_old (blk_new _ _)), blk_old ?_, ?_, below_step (below_step (below_new _ _) (below_new _ _)) (below_new _ _)⟩
  · have := blk_new (w.alloc (.cells #[.int .i64 k, .string nm, .int .i64 ix, .slice A n c] 25)) (.cells #[.int .i64 0, .string ⟨#[]⟩, .int .i64 0, .slice none 0 0] 25)
    simpa using this
  · have := blk_new ((w.alloc (.cells #[.int .i64 k, .string nm, .int .i64 ix, .slice A n c] 25)).alloc (.cells #[.int .i64 0, .string ⟨#[]⟩, .int .i64 0, .slice none 0 0] 25)) (.cells #[.int .i64 k, .string nm, .int .i64 ix, .slice A n c] 25)
    simpa using this
theorem IsTysP.cells {w : World} {P : Nat → Prop} {g : Nat} : ∀ {ts : List Ty} {o : Nat}, IsTysP w P ts g o → ∃ xs : List Value, xs.length = ts.length * 4 ∧ (∀ j u, xs[j]? = some u → w.cell? ⟨g, o + j, none⟩ = some u) ∧ (∀ u ∈ xs, u.oneCell' = true) ∧
    ∀ (i : Nat) (hi : i < ts.length), ∃ x0 x1 x2 x3, xs[i * 4]? = some x0 ∧ xs[i * 4 + 1]? = some x1 ∧ xs[i * 4 + 2]? = some x2 ∧ xs[i * 4 + 3]? = some x3 ∧ IsTyP w P ts[i] (.agg #[x0, x1, x2, x3])
  | [], o, _ => ⟨[], by simp, by simp, by simp, fun i hi => by simp at hi⟩
  | t :: ts, o, h => by
    unfold IsTysP at h
    obtain ⟨⟨v0, v1, v2, v3, c0, c1, c2, c3, ht⟩, hs⟩ := h
    obtain ⟨xs, h1, h2, h3, h4⟩ := IsTysP.cells hs
    refine ⟨v0 :: v1 :: v2 :: v3 :: xs, by simp [h1]; omega, fun j u hj => ?_, fun u hu => ?_, fun i hi => ?_⟩
    · rcases j with _ | _ | _ | _ | j
      · simp at hj; subst hj; simpa using c0
      · simp at hj; subst hj; exact c1
      · simp at hj; subst hj; exact c2
      · simp at hj; subst hj; exact c3
      · have := h2 j u (by simpa using hj)
        have e : o + (j + 1 + 1 + 1 + 1) = o + 4 + j := by omega
        rw [e]; exact this
    · obtain ⟨A', c', e, _⟩ := ht.args_
      simp only [Value.agg.injEq, Array.mk.injEq, List.cons.injEq, and_true] at e
      obtain ⟨rfl, rfl, rfl, rfl⟩ := e
      simp only [List.mem_cons] at hu
      rcases hu with rfl | rfl | rfl | rfl | hu
      · rfl
      · rfl
      · rfl
      · rfl
      · exact h3 u hu
    · rcases i with _ | i
      · exact ⟨v0, v1, v2, v3, rfl, rfl, rfl, rfl, ht⟩
      · obtain ⟨x0, x1, x2, x3, e0, e1, e2, e3, hx⟩ := h4 i (by simpa using hi)
        have e : (i + 1) * 4 = i * 4 + 1 + 1 + 1 + 1 := by omega
        refine ⟨x0, x1, x2, x3, ?_, ?_, ?_, ?_, hx⟩
        · rw [e]; simpa using e0
        · rw [e]; simpa using e1
        · rw [e]; simpa using e2
        · rw [e]; simpa using e3
/-- The cells of a slice of terms, to be appended. -/
theorem IsTylP.rd {w : World} {P : Nat → Prop} {B : Nat} {ts : List Ty} {A : Option Addr} {n c : Nat} (h : IsTylP w P ts (.slice A n c)) (hP : ∀ b, P b → b < B) : ∃ xs : List Value, Rd w B 4 xs A n ∧ (∀ u ∈ xs, u.oneCell' = true) ∧
    ∀ (i : Nat) (hi : i < ts.length), ∃ x0 x1 x2 x3, xs[i * 4]? = some x0 ∧ xs[i * 4 + 1]? = some x1 ∧ xs[i * 4 + 2]? = some x2 ∧ xs[i * 4 + 3]? = some x3 ∧ IsTyP w P ts[i] (.agg #[x0, x1, x2, x3]) := by
  obtain ⟨A', c', hv, _, h⟩ := h
  simp only [Value.slice.injEq] at hv
  obtain ⟨rfl, rfl, rfl⟩ := hv
  rcases h with h | ⟨g, o, rfl, hg, h⟩
  · exact ⟨[], ⟨by simp [h], .inl h⟩, by simp, fun i hi => by omega⟩
  · obtain ⟨xs, h1, h2, h3, h4⟩ := IsTysP.cells h
    exact ⟨xs, ⟨h1, .inr ⟨g, o, rfl, hP g hg, h2⟩⟩, h3, h4⟩
/-- A row of the call's own that holds copies of old terms and one more. -/
theorem acc_copy {w W : World} {P : Nat → Prop} {lo : Nat} {ts : List Ty} {t : Ty} {xs : List Value} {u0 u1 u2 u3 v : Value} (hP : ∀ b, P b → b < w.heap.size) (hb : Below w.heap.size w W) (hlen : xs.length = ts.length * 4)
    (hel : ∀ (i : Nat) (hi : i < ts.length), ∃ x0 x1 x2 x3, xs[i * 4]? = some x0 ∧ xs[i * 4 + 1]? = some x1 ∧ xs[i * 4 + 2]? = some x2 ∧ xs[i * 4 + 3]? = some x3 ∧ IsTyP w P ts[i] (.agg #[x0, x1, x2, x3])) (ht : IsTyP w P t (.agg #[u0, u1, u2, u3]))
    (hown : W.ownsRow lo 25 4 v (ts.length + 1) (xs ++ [u0, u1, u2, u3])) : AccP W P lo (ts ++ [t]) v := by
  have conv : ∀ {t : Ty} {y0 y1 y2 y3 : Value}, IsTyP w P t (.agg #[y0, y1, y2, y3]) → ElemP W P lo v.ownBlock t y0 y1 y2 y3 := fun h => IsTyP.keep (fun b hp => hb.block b (hP b hp)) (fun b hp => .inl hp) h
  refine ⟨xs ++ [u0, u1, u2, u3], by simpa using hown, fun i hi => ?_⟩
  by_cases hlt : i < ts.length
  · obtain ⟨y0, y1, y2, y3, e0, e1, e2, e3, he⟩ := hel i hlt
    refine ⟨y0, y1, y2, y3, ?_, ?_, ?_, ?_, ?_⟩
    · rw [List.getElem?_append_left (by omega)]; exact e0
    · rw [List.getElem?_append_left (by omega)]; exact e1
    · rw [List.getElem?_append_left (by omega)]; exact e2
    · rw [List.getElem?_append_left (by omega)]; exact e3
    · rw [List.getElem_append_left hlt]; exact conv he
  · have hi' : i = ts.length := by simp at hi; omega
    subst hi'
    refine ⟨u0, u1, u2, u3, ?_, ?_, ?_, ?_, ?_⟩
    · rw [List.getElem?_append_right (by omega), hlen]; simp
    · rw [List.getElem?_append_right (by omega), hlen]; simp
    · rw [List.getElem?_append_right (by omega), hlen]; simp
    · rw [List.getElem?_append_right (by omega), hlen]; simp
    · simp only [List.getElem_concat_length]
      exact conv ht
theorem SpR.drew {t : Ty} {P : Nat → Prop} {w W : World} {e : Ending} (h : SpR t P w e W) : SpR t P w e W.drew := by
  obtain ⟨x, A, c, h1, h2, h3, h4, h5⟩ := h
  exact ⟨x, A, c, h1, IsTyP.keep (w := W) (w' := W.drew) (P := fun b => P b ∨ (w.heap.size ≤ b ∧ b < W.heap.size)) (P' := fun b => P b ∨ (w.heap.size ≤ b ∧ b < W.drew.heap.size)) (fun _ _ => rfl) (fun _ h => h) h2, h3, h4, h5.drew⟩
theorem oks_take {ts : List Ty} (h : Ty.oks ts) (j : Nat) : Ty.oks (ts.take j) := Ty.oks_of fun t ht => by
  obtain ⟨i, hi, rfl⟩ := List.getElem_of_mem (List.mem_of_mem_take ht)
  exact Ty.ok_get h i hi

set_option maxRecDepth 20000 in
set_option maxHeartbeats 4000000 in
theorem spoil_zero (t : Ty) (how n : Int) (name : ByteArray) (P : Nat → Prop) (w : World) (v : Value) (hn : inI n) (hty : IsTyP w P t v) (hP : ∀ b, P b → b < w.heap.size) (hok : t.ok) (hnar : t.nar) :
    Calls Tryd.prog 19 #[v, .int .i64 0, .int .i64 how, .int .i64 n, .string name] w (SpR t P w) := by
  obtain ⟨A0, c0, rfl, hl⟩ := hty.args_
  have HTY := Lib.hid hty
  have HL := Lib.hid hl
  have HOKT := Lib.hid hok
  rw [Ty.ok_eq] at hok
  rw [Ty.nar_eq] at hnar
  have hcap := hl.cap
  have hm40 := hnar.1
  obtain ⟨hk, hix, hoks⟩ := hok
  have HOKS := Lib.hid hoks
  have HSZ := Lib.hid t.size_eq
  have HP := Lib.hid hP
  have HMH := Lib.hid (fun W => c_Mod_q how 5 W (by omega) (by omega))
  obtain ⟨p, hp⟩ := Int.eq_ofNat_of_zero_le (Int.emod_nonneg how (show (5 : Int) ≠ 0 by omega))
  have hp5 := Int.emod_lt_of_pos how (show (0 : Int) < 5 by omega)
  rw [hp] at HMH hp5
  have SPF : Hid (∀ (k' ix' : Int) (nm' : ByteArray) (W : World), inI k' → inI ix' → Below w.heap.size w W → SpR t P w (.returned (.agg #[.int .i64 k', .string nm', .int .i64 ix', .slice A0 t.args.length c0])) W) := Lib.hid (fun k' ix' nm' W h1 h2 hb =>
    ⟨⟨k', nm', ix', t.args⟩, A0, c0, rfl, IsTyP.mk_ (hl.keep (fun b hb' => hb.block b (hP b hb')) (fun b hb' => .inl hb')), by rw [Ty.ok_eq]; exact ⟨h1, h2, hoks⟩, by rw [Ty.size_eq, t.size_eq]; show 1 + Ty.sizes t.args ≤ _; omega, hb⟩)
  have HK := Lib.hid hk
  have HIX := Lib.hid hix
  have HNI := Lib.hid hn
  clear hp hty hl hnar hoks hP hk hix hn
  generalize t.kind = k, t.name = nm, t.index = ix at *
  generalize hln : t.args.length = m at *
  have HLN := Lib.hid hln
  clear hln
  go_enter Tryd.func19, Tryd.ntmps19
  go_wp2_with fail
  refine (HMH.out _).mono ?_
  rintro e wx ⟨rfl, rfl⟩
  have hpc : p = 0 ∨ p = 1 ∨ p = 2 ∨ p = 3 ∨ p = 4 := by omega
  rcases hpc with rfl | rfl | rfl | rfl | rfl
  · obtain ⟨q, hq⟩ := Int.eq_ofNat_of_zero_le (Int.emod_nonneg n (show (9 : Int) ≠ 0 by omega))
    have hq9 := Int.emod_lt_of_pos n (show (0 : Int) < 9 by omega)
    have HM9 := Lib.hid (fun W => c_Mod_q n 9 W (by omega) (by omega))
    rw [hq] at HM9 hq9
    clear hq
    have hw9 : IntKind.i64.wrap ((q : Int) - 1) = (q : Int) - 1 := IntWalk.i64_in _ (by omega)
    go_wp2_with fail
    refine (HM9.out _).mono ?_
    rintro e wx ⟨rfl, rfl⟩
    go_wp2
    go_returns
    exact SPF.out _ _ _ _ ⟨by omega, by omega⟩ HIX.out (below_step (below_step (below_new _ _) (below_new _ _)) (below_new _ _))
  · go_wp2
    go_returns
    exact SPF.out _ _ _ _ HK.out HNI.out (below_step (below_step (below_new _ _) (below_new _ _)) (below_new _ _))
  · go_wp2
    go_returns
    exact SPF.out _ _ _ _ HK.out HIX.out (below_step (below_step (below_new _ _) (below_new _ _)) (below_new _ _))
  · obtain ⟨CS, hrd, hcs1, hcel⟩ := HL.out.rd HP.out
    have HRD := Lib.hid hrd
    have HCS1 := Lib.hid hcs1
    have HCEL := Lib.hid hcel
    have HCL := Lib.hid hrd.1
    obtain ⟨i0, hi0, hz0, hz1, hz2⟩ := info_parts info_Type
    have HI : Hid (i0.zero = some (.agg #[.int .i64 0, .string ⟨#[]⟩, .int .i64 0, .slice none 0 0]) ∧ i0.size = 4 ∧ i0.bytes = 56) := Lib.hid ⟨hz0, hz1, hz2⟩
    have Hi0 := Lib.hid hi0
    clear hi0 hz0 hz1 hz2 hrd hcs1 hcel
    have HW := Lib.hid (three_boxesP w k nm ix A0 m c0)
    have HWS : Hid (∀ W : World, W = (((w.alloc (.cells #[.int .i64 k, .string nm, .int .i64 ix, .slice A0 m c0] 25)).alloc (.cells #[.int .i64 0, .string ⟨#[]⟩, .int .i64 0, .slice none 0 0] 25)).alloc (.cells #[.int .i64 k, .string nm, .int .i64 ix, .slice A0 m c0] 25)) → W.heap.size = w.heap.size + 1 + 1 + 1) := Lib.hid (fun W hW => by subst hW; simp)
    go_wp2
    generalize hW4 : ((w.alloc _).alloc _).alloc _ = W4
    obtain ⟨hbx1, hbx2, hbx3, hb4⟩ := HW.out W4 hW4.symm
    have hsz4 : w.heap.size + 1 + 1 + 1 ≤ W4.heap.size := Nat.le_of_eq (HWS.out W4 hW4.symm).symm
    have HS4 := Lib.hid (Nat.le_of_eq (HWS.out W4 hW4.symm))
    have hlt1 : w.heap.size < W4.heap.size := by omega
    have hlt2 : w.heap.size + 1 < W4.heap.size := by omega
    have hlt3 : w.heap.size + 1 + 1 < W4.heap.size := by omega
    clear hW4 HW HWS SPF
    obtain ⟨⟨y0, y1, y2, y3⟩, _⟩ := box_frozen hbx1
    obtain ⟨⟨z0, z1, z2, z3⟩, g0, g1, g2, g3⟩ := box_frozen hbx3
    have hs4 := hb4.size
    go_region_law (first
      | (refine step_append_rd _ ?_ (.tmp 49) (.tmp 51) _ ?_ (w.heap.size + 1 + 1 + 1) 25 i0 (.agg #[.int .i64 0, .string ⟨#[]⟩, .int .i64 0, .slice none 0 0]) 4 56 Tryd.underlying23 Hi0.out HI.out.1 HI.out.2.1 HI.out.2.2 rfl ?_ (.slice (some ⟨W4.heap.size, 0, none⟩) 0 0) 0 [] ?_ ?_ w.heap.size A0 m c0 CS ?_ ?_ ?_ ?_ ?_ ?_; rfl; rfl; omega; rfl; exact own_empty (by first | exact blk_new _ _ | exact blk_old (blk_new _ _) | exact blk_new2 _ _ _) (by omega); rfl; exact HRD.out.below (C := w.heap.size) (hb4.trans ((by go_grown : Below W4.heap.size W4 _).mono hs4)) (Nat.le_refl _); exact HCS1.out; omega; go_size; intro va wa howna hga hata
         have hKA : Below W4.heap.size W4 wa := (by go_grown : Below W4.heap.size W4 _).grown hga (by go_size) (by simp [Value.ownBlock])
         have hsa := hKA.size
         have hsg := hga.size
         (try simp at hsg)
         have hogA := own_ge howna
         have hW4le : W4.heap.size ≤ w.heap.size + 1 + 1 + 1 := HS4.out
         obtain ⟨⟨j0, j1, j2, j3⟩, _⟩ := box_frozen ((hKA.block w.heap.size hlt1).trans hbx1)
         have tokA : True := trivial
         have hlta : w.heap.size < wa.heap.size := by omega)
      | (refine step_append_rd _ ?_ (.tmp 49) (.tmp 51) _ ?_ (w.heap.size + 1 + 1 + 1) 25 i0 (.agg #[.int .i64 0, .string ⟨#[]⟩, .int .i64 0, .slice none 0 0]) 4 56 Tryd.underlying23 Hi0.out HI.out.1 HI.out.2.1 HI.out.2.2 rfl ?_ (.slice (some ⟨W4.heap.size + 1, 0, none⟩) 0 0) 0 [] ?_ ?_ w.heap.size A0 m c0 CS ?_ ?_ ?_ ?_ ?_ ?_; rfl; rfl; omega; rfl; exact own_empty (by first | exact blk_new _ _ | exact blk_old (blk_new _ _) | exact blk_new2 _ _ _) (by omega); rfl; exact HRD.out.below (C := w.heap.size) (hb4.trans ((by go_grown : Below W4.heap.size W4 _).mono hs4)) (Nat.le_refl _); exact HCS1.out; omega; go_size; intro va wa howna hga hata
         have hKA : Below W4.heap.size W4 wa := (by go_grown : Below W4.heap.size W4 _).grown hga (by go_size) (by simp [Value.ownBlock])
         have hsa := hKA.size
         have hsg := hga.size
         (try simp at hsg)
         have hogA := own_ge howna
         have hW4le : W4.heap.size ≤ w.heap.size + 1 + 1 + 1 := HS4.out
         obtain ⟨⟨j0, j1, j2, j3⟩, _⟩ := box_frozen ((hKA.block w.heap.size hlt1).trans hbx1)
         have tokA : True := trivial
         have hlta : w.heap.size < wa.heap.size := by omega)
      | (have _t := tokA; refine step_append_rd _ ?_ (.tmp 52) (.tmp 54) _ ?_ (w.heap.size + 1 + 1 + 1) 25 i0 (.agg #[.int .i64 0, .string ⟨#[]⟩, .int .i64 0, .slice none 0 0]) 4 56 Tryd.underlying23 Hi0.out HI.out.1 HI.out.2.1 HI.out.2.2 rfl ?_ va (0 + m) ([] ++ CS) ?_ ?_ (wa.heap.size + 1) (some ⟨wa.heap.size, 0, none⟩) 1 1 [.int .i64 k, .string nm, .int .i64 ix, .slice A0 m c0] ?_ ?_ ?_ ?_ ?_ ?_; rfl; rfl; omega; rfl; exact howna.alloc _; rfl; exact Rd.blk (cs := #[.int .i64 k, .string nm, .int .i64 ix, .slice A0 m c0]) (f := (0, 0)) (blk_new _ _) rfl (by omega); exact (by simp [Value.oneCell']); omega; go_size; intro vb wb hownb hgb hatb
         have hKB : Below W4.heap.size W4 wb := (hKA.alloc hsa _).grown hgb (by go_size) (fun k hk => by have := hogA k hk; have := hsz4; exact Nat.le_trans hW4le (hogA k hk))
         have HKB := Lib.hid hKB
         have hownb' : wb.ownsRow (w.heap.size + 1 + 1 + 1) 25 4 vb (m + 1) (CS ++ [.int .i64 k, .string nm, .int .i64 ix, .slice A0 m c0]) := by simpa using hownb
         obtain ⟨Ab, cb, rfl⟩ : ∃ A c, vb = .slice A (m + 1) c := by
           rcases hownb'.2 with ⟨_, h0⟩ | ⟨g, cap, cur, rfl, _⟩
           · omega
           · exact ⟨_, _, rfl⟩
         have HOB := Lib.hid hownb'
         obtain ⟨⟨x0, x1, x2, x3⟩, e0, e1, e2, e3⟩ := box_frozen ((hKB.block (w.heap.size + 1 + 1) hlt3).trans hbx3)
         have HX2 := Lib.hid ((hKB.block (w.heap.size + 1) hlt2).trans hbx2)
         have hsb := hKB.size
         clear hownb hownb' hgb hatb hKB)
      | (have _t := tokA; refine step_append_rd _ ?_ (.tmp 52) (.tmp 54) _ ?_ (w.heap.size + 1 + 1 + 1) 25 i0 (.agg #[.int .i64 0, .string ⟨#[]⟩, .int .i64 0, .slice none 0 0]) 4 56 Tryd.underlying23 Hi0.out HI.out.1 HI.out.2.1 HI.out.2.2 rfl ?_ va (0 + m) ([] ++ CS) ?_ ?_ (wa.heap.size) (some ⟨W4.heap.size, 0, none⟩) 1 1 [.int .i64 k, .string nm, .int .i64 ix, .slice A0 m c0] ?_ ?_ ?_ ?_ ?_ ?_; rfl; rfl; omega; rfl; exact howna; rfl; exact Rd.blk (cs := #[.int .i64 k, .string nm, .int .i64 ix, .slice A0 m c0]) (f := (0, 0)) ((hga.block W4.heap.size (by first | (simp; done) | (simp; omega)) (by simp [Value.ownBlock])).trans (by first | exact blk_new2 _ _ _ | exact blk_old (blk_new _ _))) rfl (by omega); exact (by simp [Value.oneCell']); omega; go_size; intro vb wb hownb hgb hatb
         have hKB : Below W4.heap.size W4 wb := (hKA).grown hgb (by go_size) (fun k hk => by have := hogA k hk; have := hsz4; exact Nat.le_trans hW4le (hogA k hk))
         have HKB := Lib.hid hKB
         have hownb' : wb.ownsRow (w.heap.size + 1 + 1 + 1) 25 4 vb (m + 1) (CS ++ [.int .i64 k, .string nm, .int .i64 ix, .slice A0 m c0]) := by simpa using hownb
         obtain ⟨Ab, cb, rfl⟩ : ∃ A c, vb = .slice A (m + 1) c := by
           rcases hownb'.2 with ⟨_, h0⟩ | ⟨g, cap, cur, rfl, _⟩
           · omega
           · exact ⟨_, _, rfl⟩
         have HOB := Lib.hid hownb'
         obtain ⟨⟨x0, x1, x2, x3⟩, e0, e1, e2, e3⟩ := box_frozen ((hKB.block (w.heap.size + 1 + 1) hlt3).trans hbx3)
         have HX2 := Lib.hid ((hKB.block (w.heap.size + 1) hlt2).trans hbx2)
         have hsb := hKB.size
         clear hownb hownb' hgb hatb hKB)
      | (have _t := tokA; refine step_append_rd _ ?_ (.tmp 52) (.tmp 54) _ ?_ (w.heap.size + 1 + 1 + 1) 25 i0 (.agg #[.int .i64 0, .string ⟨#[]⟩, .int .i64 0, .slice none 0 0]) 4 56 Tryd.underlying23 Hi0.out HI.out.1 HI.out.2.1 HI.out.2.2 rfl ?_ va (0 + m) ([] ++ CS) ?_ ?_ (wa.heap.size) (some ⟨W4.heap.size + 1, 0, none⟩) 1 1 [.int .i64 k, .string nm, .int .i64 ix, .slice A0 m c0] ?_ ?_ ?_ ?_ ?_ ?_; rfl; rfl; omega; rfl; exact howna; rfl; exact Rd.blk (cs := #[.int .i64 k, .string nm, .int .i64 ix, .slice A0 m c0]) (f := (0, 0)) ((hga.block (W4.heap.size + 1) (by first | (simp; done) | (simp; omega)) (by simp [Value.ownBlock])).trans (by first | exact blk_new2 _ _ _ | exact blk_new _ _ | exact blk_old (blk_new _ _))) rfl (by omega); exact (by simp [Value.oneCell']); omega; go_size; intro vb wb hownb hgb hatb
         have hKB : Below W4.heap.size W4 wb := (hKA).grown hgb (by go_size) (fun k hk => by have := hogA k hk; have := hsz4; exact Nat.le_trans hW4le (hogA k hk))
         have HKB := Lib.hid hKB
         have hownb' : wb.ownsRow (w.heap.size + 1 + 1 + 1) 25 4 vb (m + 1) (CS ++ [.int .i64 k, .string nm, .int .i64 ix, .slice A0 m c0]) := by simpa using hownb
         obtain ⟨Ab, cb, rfl⟩ : ∃ A c, vb = .slice A (m + 1) c := by
           rcases hownb'.2 with ⟨_, h0⟩ | ⟨g, cap, cur, rfl, _⟩
           · omega
           · exact ⟨_, _, rfl⟩
         have HOB := Lib.hid hownb'
         obtain ⟨⟨x0, x1, x2, x3⟩, e0, e1, e2, e3⟩ := box_frozen ((hKB.block (w.heap.size + 1 + 1) hlt3).trans hbx3)
         have HX2 := Lib.hid ((hKB.block (w.heap.size + 1) hlt2).trans hbx2)
         have hsb := hKB.size
         clear hownb hownb' hgb hatb hKB)
      )
    all_goals
      have HACC : Hid (AccP wb P (w.heap.size + 1 + 1 + 1) (t.args ++ [t]) (.slice Ab (m + 1) cb)) := Lib.hid (acc_copy HP.out (hb4.trans (HKB.out.mono hs4)) (by rw [HLN.out]; exact HCL.out) HCEL.out HTY.out (by rw [HLN.out]; exact HOB.out))
      have HFB := Lib.hid (sp_fin (t := t) (nm := nm) (k := k) (ix := ix) (Q := fun b => P b ∨ (w.heap.size + 1 + 1 + 1 ≤ b ∧ b < wb.heap.size)) (ts := t.args ++ [t]) (A := Ab) (n := m + 1) (c := cb) (W := wb.setCell ⟨w.heap.size + 1 + 1, 3, none⟩ (.slice Ab (m + 1) cb)) HP.out (below_set (hb4.trans (HKB.out.mono hs4)) (by omega)) (by simp [HLN.out])
        (HACC.out.isTylP.keep (fun b hb => Below.heap_setCell _ _ _ _ (by
          show b ≠ w.heap.size + 1 + 1
          rcases hb with h | h
          · have := HP.out b h; omega
          · omega)) (fun _ h => h))
        (fun b hb => by
          rcases hb with h | h
          · exact .inl h
          · exact .inr ⟨by omega, by simp [World.setCell]; exact h.2⟩) ⟨HK.out, HIX.out, oks_snoc HOKS.out HOKT.out⟩ (by rw [sizes_snoc]; have := HSZ.out; omega) ((Below.heap_setCell _ _ _ _ (by show w.heap.size + 1 ≠ w.heap.size + 1 + 1; omega)).trans HX2.out))
      obtain ⟨⟨r0, r1, r2, r3⟩, f0, f1, f2, f3⟩ := box_frozen HX2.out
      clear HACC HOB
      go_wp2
      generalize hWF : ((((wb.setCell _ _).setCell _ _).setCell _ _).setCell _ _).setCell _ _ = WF
      obtain ⟨hfin, d0, d1, d2, d3⟩ := HFB.out WF hWF.symm
      clear hWF
      exact bodyPost_ret (v := .agg #[.int .i64 k, .string nm, .int .i64 ix, .slice Ab (m + 1) cb]) (by simp [results, Tryd.results19, go_sem, d0, d1, d2, d3]) rfl hfin.out
  · obtain ⟨q, hq⟩ := Int.eq_ofNat_of_zero_le (Int.emod_nonneg n (show ((m : Int) + 1) ≠ 0 by omega))
    have hqm := Int.emod_lt_of_pos n (show (0 : Int) < (m : Int) + 1 by omega)
    have HMQ := Lib.hid (fun W => c_Mod2 n ((m : Int) + 1) W (by omega) (by omega))
    rw [hq] at HMQ hqm
    clear hq
    have hq0 : (0 : Int) ≤ (q : Int) := by omega
    have hqc : (q : Int) ≤ (c0 : Int) := by omega
    have hmw : IntKind.i64.wrap ((m : Int) + 1) = (m : Int) + 1 := IntWalk.i64_in _ (by omega)
    have HW := Lib.hid (three_boxesP w k nm ix A0 m c0)
    go_wp2
    generalize hW4 : ((w.alloc _).alloc _).alloc _ = W4
    obtain ⟨hbx1, hbx2, hbx3, hb4⟩ := HW.out W4 hW4.symm
    clear hW4 HW SPF
    obtain ⟨⟨_, _, _, y3⟩, _⟩ := box_frozen hbx1
    obtain ⟨⟨r0, r1, r2, r3⟩, f0, f1, f2, f3⟩ := box_frozen hbx2
    obtain ⟨⟨z0, z1, z2, z3⟩, g0, g1, g2, g3⟩ := box_frozen hbx3
    have hs4 := hb4.size
    by_cases hm0 : m = 0
    · subst hm0
      obtain rfl : q = 0 := by omega
      rcases A0 with _ | aa
      · skip
        have HFB := Lib.hid (sp_fin (t := t) (nm := nm) (k := k) (ix := ix) (Q := P) (ts := t.args.take 0) (A := none) (n := 0) (c := c0) (W := W4.setCell ⟨w.heap.size + 1 + 1, 3, none⟩ (.slice none 0 c0)) HP.out (below_set hb4 (by omega)) (by rw [List.length_take, HLN.out]; omega) (IsTylP.nil none _) (fun b hb => .inl hb) ⟨HK.out, HIX.out, oks_take HOKS.out _⟩ (by have := HSZ.out; have := Ty.sizes_take_le t.args 0; omega) ((Below.heap_setCell _ _ _ _ (by show w.heap.size + 1 ≠ w.heap.size + 1 + 1; omega)).trans hbx2))
        go_region_with (first | (go_at_call 20; refine (HMQ.out _).mono ?_; rintro e wz ⟨rfl, rfl⟩))
        all_goals
          go_wp2
          generalize hWF : ((((W4.setCell _ _).setCell _ _).setCell _ _).setCell _ _).setCell _ _ = WF
          obtain ⟨hfin, u0, u1, u2, u3⟩ := HFB.out WF hWF.symm
          have HFD := Lib.hid hfin.out.drew
          clear hWF hfin
          have d0 : WF.drew.cell? ⟨w.heap.size + 1, 0, none⟩ = some (.int .i64 k) := u0
          have d1 : WF.drew.cell? ⟨w.heap.size + 1, 1, none⟩ = some (.string nm) := u1
          have d2 : WF.drew.cell? ⟨w.heap.size + 1, 2, none⟩ = some (.int .i64 ix) := u2
          have d3 : WF.drew.cell? ⟨w.heap.size + 1, 3, none⟩ = some (.slice none 0 c0) := u3
          generalize WF.drew = WG at *
          exact bodyPost_ret (v := .agg #[.int .i64 k, .string nm, .int .i64 ix, .slice none 0 c0]) (by simp [results, Tryd.results19, go_sem, d0, d1, d2, d3]) rfl HFD.out
      · skip
        have HFB := Lib.hid (sp_fin (t := t) (nm := nm) (k := k) (ix := ix) (Q := P) (ts := t.args.take 0) (A := (some aa)) (n := 0) (c := c0) (W := W4.setCell ⟨w.heap.size + 1 + 1, 3, none⟩ (.slice (some aa) 0 c0)) HP.out (below_set hb4 (by omega)) (by rw [List.length_take, HLN.out]; omega) (IsTylP.nil (some aa) _) (fun b hb => .inl hb) ⟨HK.out, HIX.out, oks_take HOKS.out _⟩ (by have := HSZ.out; have := Ty.sizes_take_le t.args 0; omega) ((Below.heap_setCell _ _ _ _ (by show w.heap.size + 1 ≠ w.heap.size + 1 + 1; omega)).trans hbx2))
        go_region_with (first | (go_at_call 20; refine (HMQ.out _).mono ?_; rintro e wz ⟨rfl, rfl⟩))
        all_goals
          go_wp2
          generalize hWF : ((((W4.setCell _ _).setCell _ _).setCell _ _).setCell _ _).setCell _ _ = WF
          obtain ⟨hfin, u0, u1, u2, u3⟩ := HFB.out WF hWF.symm
          have HFD := Lib.hid hfin.out.drew
          clear hWF hfin
          have d0 : WF.drew.cell? ⟨w.heap.size + 1, 0, none⟩ = some (.int .i64 k) := u0
          have d1 : WF.drew.cell? ⟨w.heap.size + 1, 1, none⟩ = some (.string nm) := u1
          have d2 : WF.drew.cell? ⟨w.heap.size + 1, 2, none⟩ = some (.int .i64 ix) := u2
          have d3 : WF.drew.cell? ⟨w.heap.size + 1, 3, none⟩ = some (.slice (some aa) 0 c0) := u3
          generalize WF.drew = WG at *
          exact bodyPost_ret (v := .agg #[.int .i64 k, .string nm, .int .i64 ix, .slice (some aa) 0 c0]) (by simp [results, Tryd.results19, go_sem, d0, d1, d2, d3]) rfl HFD.out
    · have HAS : Hid (∃ g o, A0 = some ⟨g, o, none⟩) := Lib.hid (by
        obtain ⟨A', c', hv, _, h⟩ := HL.out
        simp only [Value.slice.injEq] at hv
        obtain ⟨rfl, _, _⟩ := hv
        rcases h with h | ⟨g, o, e, _⟩
        · rw [HLN.out] at h; omega
        · exact ⟨g, o, e⟩)
      obtain ⟨ga, oa, rfl⟩ := HAS.out
      clear HAS
      have HFB := Lib.hid (sp_fin (t := t) (nm := nm) (k := k) (ix := ix) (Q := P) (ts := t.args.take q) (A := (some ⟨ga, oa, none⟩)) (n := q) (c := c0) (W := W4.setCell ⟨w.heap.size + 1 + 1, 3, none⟩ (.slice (some ⟨ga, oa, none⟩) q c0)) HP.out (below_set hb4 (by omega)) (by rw [List.length_take, HLN.out]; omega) (((HL.out.take q (by rw [HLN.out]; omega) (by omega)).keep (fun b hb => (below_set hb4 (by omega)).block b (HP.out b hb)) (fun _ h => h))) (fun b hb => .inl hb) ⟨HK.out, HIX.out, oks_take HOKS.out _⟩ (by have := HSZ.out; have := Ty.sizes_take_le t.args q; omega) ((Below.heap_setCell _ _ _ _ (by show w.heap.size + 1 ≠ w.heap.size + 1 + 1; omega)).trans hbx2))
      go_region_with (first | (go_at_call 20; refine (HMQ.out _).mono ?_; rintro e wz ⟨rfl, rfl⟩))
      all_goals
        go_wp2
        generalize hWF : ((((W4.setCell _ _).setCell _ _).setCell _ _).setCell _ _).setCell _ _ = WF
        obtain ⟨hfin, u0, u1, u2, u3⟩ := HFB.out WF hWF.symm
        have HFD := Lib.hid hfin.out.drew
        clear hWF hfin
        have d0 : WF.drew.cell? ⟨w.heap.size + 1, 0, none⟩ = some (.int .i64 k) := u0
        have d1 : WF.drew.cell? ⟨w.heap.size + 1, 1, none⟩ = some (.string nm) := u1
        have d2 : WF.drew.cell? ⟨w.heap.size + 1, 2, none⟩ = some (.int .i64 ix) := u2
        have d3 : WF.drew.cell? ⟨w.heap.size + 1, 3, none⟩ = some (.slice (some ⟨ga, oa, none⟩) q c0) := u3
        generalize WF.drew = WG at *
        exact bodyPost_ret (v := .agg #[.int .i64 k, .string nm, .int .i64 ix, .slice (some ⟨ga, oa, none⟩) q c0]) (by simp [results, Tryd.results19, go_sem, d0, d1, d2, d3]) rfl HFD.out

set_option maxRecDepth 20000 in
set_option maxHeartbeats 8000000 in
theorem c_spoil (how n : Int) (name : ByteArray) (hn : inI n) (N : Nat) : ∀ (t : Ty) (a : Int) (P : Nat → Prop) (w : World) (v : Value), t.size ≤ N → 0 ≤ a → a ≤ 2 ^ 61 → IsTyP w P t v → (∀ b, P b → b < w.heap.size) → t.ok → t.nar → t.size ≤ 2 ^ 59 →
    Calls Tryd.prog 19 #[v, .int .i64 a, .int .i64 how, .int .i64 n, .string name] w (SpR t P w) := by
  induction N with
  | zero => intro t a P w v h; have := t.size_pos; omega
  | succ N ih =>
  intro t a P w v hN ha0 ha1 hty hP hok hnar hM
  by_cases ha : a = 0
  · subst ha; exact spoil_zero t how n name P w v hn hty hP hok hnar
  obtain ⟨A0, c0, rfl, hl⟩ := hty.args_
  have HV := Lib.hid hl
  rw [Ty.ok_eq] at hok
  rw [Ty.nar_eq] at hnar
  obtain ⟨hk, hix, hoks⟩ := hok
  obtain ⟨hn40, hnars⟩ := hnar
  have HOKS := Lib.hid hoks
  have HNAR := Lib.hid hnars
  have HKI := Lib.hid (And.intro hk hix)
  have HP := Lib.hid hP
  have hsz := t.size_eq
  have HSZ := Lib.hid hsz
  have IH := Lib.hid ih
  clear ih hty hl hk hix hoks hnars hP
  have ha' : (a == 0) = false := by rw [beq_eq_false_iff_ne]; exact ha
  have hwa : IntKind.i64.wrap (a - 1) = a - 1 := IntWalk.i64_in _ (by omega)
  generalize t.kind = k, t.name = nm, t.index = ix, t.args = args at *
  generalize hln : args.length = m at *
  have HLN := Lib.hid hln
  clear hln
  have HX0 := Lib.hid (three_boxes w k nm ix A0 m c0 k ix nm)
  go_enter Tryd.func19, Tryd.ntmps19
  go_wp2
  generalize hW0 : ((w.alloc _).alloc _).alloc _ = W0
  obtain ⟨wb, hbb, hsb, htb, hrb, hbl0⟩ := HX0.out W0 hW0.symm
  have HBP0 : Hid (BP P (w.heap.size + 1 + 1) wb W0 k nm ix (.slice none 0 0) []) := Lib.hid (BP.start hbl0.1 (below_of_grown0 hbl0.2.1))
  have HRB := Lib.hid hrb
  have HTB := Lib.hid htb
  have HPT : Hid (∀ b, P b → b < w.heap.size + 1 + 1) := Lib.hid (fun b hb => by have := HP.out b hb; omega)
  clear hW0 HX0 hbl0 hrb htb
  go_loopw [1, 12, 13] (fun s1 s12 _ wr => ∃ (j : Nat) (b : Int), j ≤ m ∧ s12 = .int .i64 j ∧ s1 = .int .i64 b ∧ -1 ≤ b ∧ b ≤ 2 ^ 61 ∧ Hid (∃ v ts, ts.length = j ∧ Ty.oks ts ∧ Ty.sizes ts ≤ 2 * Ty.sizes (args.take j) ∧ BP P (w.heap.size + 1 + 1) wb wr k nm ix v ts)) (fun _ s12 _ _ => m - (intOf s12).toNat)
  case atStart => exact ⟨0, a - 1, by omega, rfl, rfl, by omega, by omega, Lib.hid ⟨_, [], rfl, by unfold Ty.oks; trivial, by simp [Ty.sizes], HBP0.out⟩⟩
  case round =>
    obtain ⟨j, b, hj, rfl, rfl, hb0, hb1, HBL⟩ := hrel
    obtain ⟨v, ts, hlen, hos, hszj, hbp⟩ := HBL.out
    subst hlen
    have hbwb := hbp.2.1
    have hbwr : Below w.heap.size w wr := hbb.trans (hbwb.mono hbb.size)
    have hltt0 := blk_lt' hbp.1
    have HBW := Lib.hid hbp
    have HOS := Lib.hid hos
    have HSZJ := Lib.hid hszj
    have HTB0 := Lib.hid ((hbwb.block w.heap.size (by omega)).trans HTB.out)
    clear HBL HBP0 hos hszj
    by_cases hjn : ts.length < m
    · obtain ⟨g, o, A', c', hj', rfl, hg1, e0, e1, e2, e3, ht⟩ := HV.out.at_ (fun b hb => hbwr.block b (HP.out b hb)) hjn
      have hsg := Ty.size_get ts.length hj'
      have HSTK := Lib.hid (Ty.sizes_take ts.length hj')
      have HNJ := Lib.hid (Ty.nar_get HNAR.out ts.length hj')
      have HOJ := Lib.hid (Ty.ok_get HOKS.out ts.length hj')
      have HTE := Lib.hid ht
      have hgw := HP.out g hg1
      have hs0 := hbwr.size
      have hsj := (args[ts.length]).size_pos
      clear ht hbp
      generalize args[ts.length] = te at *
      obtain ⟨⟨_, _, _, y3⟩, _⟩ := box_frozen HTB0.out
      go_wp2_with fail
      refine (c_TermSize2 te.size te _ 0 wr.heap.size _ (Nat.le_refl _) (HTE.out.ty fun b hb => by have := HP.out b hb; omega) (Nat.le_refl _) (by omega)).mono ?_
      rintro e w1 ⟨rfl, hbn⟩
      have hs1 := hbn.size
      have hal := HBW.out.alloc HPT.out hbn
      obtain ⟨⟨_, _, _, z3⟩, _⟩ := box_frozen ((hbn.block w.heap.size (by omega)).trans HTB0.out)
      have d0 := (hbn.cell (p := ⟨g, o + ts.length * 4, none⟩) (show g < _ by omega)).trans e0
      have d1 := (hbn.cell (p := ⟨g, o + ts.length * 4 + 1, none⟩) (show g < _ by omega)).trans e1
      have d2 := (hbn.cell (p := ⟨g, o + ts.length * 4 + 2, none⟩) (show g < _ by omega)).trans e2
      have d3 := (hbn.cell (p := ⟨g, o + ts.length * 4 + 3, none⟩) (show g < _ by omega)).trans e3
      have HTE1 := Lib.hid (HTE.out.below hbn (fun b hb => by have := HP.out b hb; omega))
      have hj0 : (0 : Int) ≤ (ts.length : Int) := by omega
      have hjm : (ts.length : Int) < (m : Int) := by omega
      clear HTE HBW e0 e1 e2 e3 y3
      by_cases hba : 0 ≤ b ∧ b < (te.size : Int)
      · obtain ⟨hba1, hba2⟩ := hba
        have HA := Lib.hid hal
        obtain ⟨A, c, rfl⟩ := hal.2.2.form
        have hltt := blk_lt' hal.1
        have hsgw := hal.2.1.size
        have HOG := Lib.hid hal.2.2.own_ge
        have b3 : w1.cell? ⟨w.heap.size + 1 + 1, 3, none⟩ = some (.slice A ts.length c) := hal.cell0.2.2.2
        obtain ⟨i0, hi0, hz0, hz1, hz2⟩ := info_parts info_Type
        have HI : Hid (i0.zero = some (.agg #[.int .i64 0, .string ⟨#[]⟩, .int .i64 0, .slice none 0 0]) ∧ i0.size = 4 ∧ i0.bytes = 56) := Lib.hid ⟨hz0, hz1, hz2⟩
        clear hz0 hz1 hz2
        have Hi0 := Lib.hid hi0
        clear hi0 hal
        go_wp2
        go_region_law (first
          | (have _t := tok4; refine step_append_rd _ ?_ (.tmp 81) (.tmp 92) _ ?_ (w.heap.size + 1 + 1 + 1) 25 i0 (.agg #[.int .i64 0, .string ⟨#[]⟩, .int .i64 0, .slice none 0 0]) 4 56 Tryd.underlying23 Hi0.out HI.out.1 HI.out.2.1 HI.out.2.2 rfl ?_ (.slice A ts.length c) ts.length xs ?_ ?_ (w4.heap.size + 1) (some ⟨w4.heap.size, 0, none⟩) 1 1 [.int .i64 t1.kind, .string t1.name, .int .i64 t1.index, .slice A1 t1.args.length C1] ?_ ?_ ?_ ?_ ?_ ?_; rfl; rfl; omega; rfl; exact hown4; rfl; exact Rd.blk (cs := #[.int .i64 t1.kind, .string t1.name, .int .i64 t1.index, .slice A1 t1.args.length C1]) (blk_new w4 _) rfl (by omega); exact (by simp [Value.oneCell']); omega; go_size; intro v5 w5 hown5 hg5 hat5
             have hs5 := hg5.size
             have ht5 := (hg5.block (w.heap.size + 1 + 1) (by simp; omega) (fun e => by have := HOG.out (w.heap.size + 1 + 1) e.symm; omega)).trans (blk_old ht4)
             have q3 : w5.cell? ⟨w.heap.size + 1 + 1, 3, none⟩ = some (.slice A ts.length c) := by rw [cell_of_row w5 (w.heap.size + 1 + 1) 3 _ _ _ ht5]; rfl
             have q4 : w5.frozen? ⟨w.heap.size + 1 + 1, 3, none⟩ = false := by simp [World.frozen?, ht5]
             obtain ⟨A5, c5, rfl⟩ : ∃ A c, v5 = .slice A (ts.length + 1) c := by
               rcases hown5.2 with ⟨_, h0⟩ | ⟨g, cap, cur, rfl, _⟩
               · omega
               · exact ⟨_, _, rfl⟩
             have HFIN := Lib.hid (HA.out.round HPT.out (by omega) HB4.out HTY.out HEL.out hown4 hown5 hg5 hat5)
             clear hown5 hg5 hat5 ht5)
          | (go_simp; go_at_call 19; refine (IH.out te b P _ _ (by omega) hba1 hb1 (HTE1.out.below (below_drew w1) (fun b hb => by have := HP.out b hb; omega)) (fun b hb => by have := HP.out b hb; show b < w1.heap.size; omega) HOJ.out HNJ.out (by omega)).mono ?_; rintro e w4 ⟨t1, A1, C1, rfl, hty1, hok1, hsz1, hb4⟩
             have tok4 : True := trivial
             have HB4 := Lib.hid (below_step (below_drew w1) hb4)
             have HTY := Lib.hid (IsTyP.keep (P' := fun b => P b ∨ (w1.heap.size ≤ b ∧ b < w4.heap.size)) (fun _ _ => rfl) (fun b h => h) hty1)
             have hs4 := HB4.out.size
             have hlt4 : w.heap.size + 1 + 1 < w4.heap.size := by omega
             have ht4 := (HB4.out.block (w.heap.size + 1 + 1) hltt).trans HA.out.1
             have q43 : w4.cell? ⟨w.heap.size + 1 + 1, 3, none⟩ = some (.slice A ts.length c) := by rw [cell_of_row w4 (w.heap.size + 1 + 1) 3 _ _ _ ht4]; rfl
             obtain ⟨xs, hown4, hel4⟩ := HA.out.acc4 HPT.out HB4.out (.cells #[.int .i64 t1.kind, .string t1.name, .int .i64 t1.index, .slice A1 t1.args.length C1] 25)
             have HEL := Lib.hid hel4
             have HO1 := Lib.hid hok1
             have HS1 := Lib.hid hsz1
             have z34 := (HB4.out.cell (p := ⟨w.heap.size, 3, none⟩) (show w.heap.size < _ by omega)).trans z3
             have d04 := (HB4.out.cell (p := ⟨g, o + ts.length * 4, none⟩) (show g < _ by omega)).trans d0
             clear hel4 hty1 hok1 hsz1 hb4))
        all_goals
          have HFN : Hid (Ty.oks (ts ++ [t1]) ∧ Ty.sizes (ts ++ [t1]) ≤ 2 * Ty.sizes (args.take (ts.length + 1))) := Lib.hid ⟨oks_snoc HOS.out HO1.out, by
            have q1 := HS1.out
            have q2 := HSZJ.out
            have q5 := HSTK.out
            rw [sizes_snoc]
            omega⟩
          clear HEL HB4 HTY hown4 q43 ht4 HA
          go_wp2
          go_roundw
          case rel => exact ⟨ts.length + 1, -1, by omega, by go_num, rfl, by omega, by omega, Lib.hid ⟨_, _, by simp, HFN.out.1, HFN.out.2, HFIN.out⟩⟩
          case measure => simp [intOf]; omega
      · have hbw : IntKind.i64.wrap (b - (te.size : Int)) = b - (te.size : Int) := IntWalk.i64_in _ (by omega)
        have HA := Lib.hid hal
        obtain ⟨A, c, rfl⟩ := hal.2.2.form
        have hltt := blk_lt' hal.1
        have hsgw := hal.2.1.size
        have HOG := Lib.hid hal.2.2.own_ge
        have b3 : w1.cell? ⟨w.heap.size + 1 + 1, 3, none⟩ = some (.slice A ts.length c) := hal.cell0.2.2.2
        obtain ⟨i0, hi0, hz0, hz1, hz2⟩ := info_parts info_Type
        have HI : Hid (i0.zero = some (.agg #[.int .i64 0, .string ⟨#[]⟩, .int .i64 0, .slice none 0 0]) ∧ i0.size = 4 ∧ i0.bytes = 56) := Lib.hid ⟨hz0, hz1, hz2⟩
        clear hz0 hz1 hz2
        have Hi0 := Lib.hid hi0
        clear hi0 hal
        have HB4 := Lib.hid (below_drew w1)
        have HTY : Hid (IsTyP w1.drew (fun b => P b ∨ (w1.heap.size ≤ b ∧ b < w1.drew.heap.size)) te (.agg #[.int .i64 te.kind, .string te.name, .int .i64 te.index, .slice A' te.args.length c'])) := Lib.hid (IsTyP.keep (fun _ _ => rfl) (fun b h => .inl h) (HTE1.out.below (below_drew w1) (fun b hb => by have := HP.out b hb; omega)))
        have ht4 : w1.drew.heap[w.heap.size + 1 + 1]? = some (.cells #[.int .i64 k, .string nm, .int .i64 ix, .slice A ts.length c] 25 (0, 0)) := HA.out.1
        obtain ⟨xs, hown4, hel4⟩ := HA.out.acc4 HPT.out HB4.out (.cells #[.int .i64 te.kind, .string te.name, .int .i64 te.index, .slice A' te.args.length c'] 25)
        have HEL := Lib.hid hel4
        have tok4 : True := trivial
        have HFN : Hid (Ty.oks (ts ++ [te]) ∧ Ty.sizes (ts ++ [te]) ≤ 2 * Ty.sizes (args.take (ts.length + 1))) := Lib.hid ⟨oks_snoc HOS.out HOJ.out, by
          have q2 := HSZJ.out
          have q5 := HSTK.out
          rw [sizes_snoc]
          omega⟩
        clear hel4
        have hway : (b < 0 ∧ b - (te.size : Int) < -1) ∨ (0 ≤ b ∧ ¬ b < (te.size : Int) ∧ ¬ b - (te.size : Int) < -1) := by omega
        rcases hway with ⟨hw1, hc1⟩ | ⟨hw1, hw2, hc1⟩
        all_goals
          go_wp2
          go_region_law (first
            | (have _t := tok4; refine step_append_rd _ ?_ (.tmp 96) (.tmp 102) _ ?_ (w.heap.size + 1 + 1 + 1) 25 i0 (.agg #[.int .i64 0, .string ⟨#[]⟩, .int .i64 0, .slice none 0 0]) 4 56 Tryd.underlying23 Hi0.out HI.out.1 HI.out.2.1 HI.out.2.2 rfl ?_ (.slice A ts.length c) ts.length xs ?_ ?_ (w1.drew.heap.size + 1) (some ⟨w1.drew.heap.size, 0, none⟩) 1 1 [.int .i64 te.kind, .string te.name, .int .i64 te.index, .slice A' te.args.length c'] ?_ ?_ ?_ ?_ ?_ ?_; rfl; rfl; omega; rfl; exact hown4; rfl; exact Rd.blk (cs := #[.int .i64 te.kind, .string te.name, .int .i64 te.index, .slice A' te.args.length c']) (blk_new w1.drew _) rfl (by omega); exact (by simp [Value.oneCell']); omega; go_size; intro v5 w5 hown5 hg5 hat5
               have hs5 := hg5.size
               have ht5 := (hg5.block (w.heap.size + 1 + 1) (by simp; omega) (fun e => by have := HOG.out (w.heap.size + 1 + 1) e.symm; omega)).trans (blk_old ht4)
               have q3 : w5.cell? ⟨w.heap.size + 1 + 1, 3, none⟩ = some (.slice A ts.length c) := by rw [cell_of_row w5 (w.heap.size + 1 + 1) 3 _ _ _ ht5]; rfl
               have q4 : w5.frozen? ⟨w.heap.size + 1 + 1, 3, none⟩ = false := by simp [World.frozen?, ht5]
               obtain ⟨A5, c5, rfl⟩ : ∃ A c, v5 = .slice A (ts.length + 1) c := by
                 rcases hown5.2 with ⟨_, h0⟩ | ⟨g, cap, cur, rfl, _⟩
                 · omega
                 · exact ⟨_, _, rfl⟩
               have HFIN := Lib.hid (HA.out.round HPT.out (by omega) HB4.out HTY.out HEL.out hown4 hown5 hg5 hat5)
               clear hown5 hg5 hat5 ht5)
            )
          all_goals
            go_wp2
            go_roundw
            case rel => first | exact ⟨ts.length + 1, -1, by omega, by go_num, rfl, by omega, by omega, Lib.hid ⟨_, _, by simp, HFN.out.1, HFN.out.2, HFIN.out⟩⟩ | exact ⟨ts.length + 1, b - (te.size : Int), by omega, by go_num, rfl, by omega, by omega, Lib.hid ⟨_, _, by simp, HFN.out.1, HFN.out.2, HFIN.out⟩⟩
            case measure => simp [intOf]; omega
    · obtain ⟨Av, cv, rfl⟩ := hbp.2.2.form
      have hrr : wr.heap[w.heap.size + 1]? = some (.cells #[.int .i64 0, .string ⟨#[]⟩, .int .i64 0, .slice none 0 0] 25 (0, 0)) := (hbwb.block _ (by omega)).trans HRB.out
      obtain ⟨⟨r0, r1, r2, r3⟩, f0, f1, f2, f3⟩ := box_frozen hrr
      obtain ⟨y0, y1, y2, y3⟩ := hbp.cell0
      obtain ⟨⟨_, _, _, yt3⟩, _⟩ := box_frozen HTB0.out
      have hsm : Ty.sizes ts ≤ 2 * Ty.sizes args := by have := HSZJ.out; have := Ty.sizes_take_le args ts.length; omega
      have HFB := Lib.hid (sp_fin (t := t) (nm := nm) HP.out hbwr rfl hbp.2.2.isTylP (fun b hb => by
        rcases hb with h | h
        · exact .inl h
        · exact .inr ⟨by omega, h.2⟩) ⟨HKI.out.1, HKI.out.2, HOS.out⟩ (by have := HSZ.out; omega) hrr)
      clear hbp hrr
      go_wp2
      generalize hWF : (((wr.setCell _ _).setCell _ _).setCell _ _).setCell _ _ = WF
      obtain ⟨hfin, z0, z1, z2, z3⟩ := HFB.out WF hWF.symm
      clear hWF
      exact bodyPost_ret (v := .agg #[.int .i64 k, .string nm, .int .i64 ix, .slice Av ts.length cv]) (by simp [results, Tryd.results19, go_sem, z0, z1, z2, z3]) rfl hfin.out
end Go.Proofs.YtdbflfakocaapaaDoor
