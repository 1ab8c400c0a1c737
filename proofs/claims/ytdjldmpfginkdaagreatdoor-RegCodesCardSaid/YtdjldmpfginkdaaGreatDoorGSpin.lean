/- Contract of telref25.spins.
  A matrix of Bools in memory; rows made and set.
  The reference's way to the liveness: rows that grow. Plain. -/
import Derived.Test.YtdjldmpfginkdaaGreatDoorFree1
import Derived.Test.YtdjldmpfginkdaaGreatDoorGRegC
import Derived.Test.YtdjldmpfginkdaaGreatDoorGOrd
import Derived.BigGuard
import Derived.BigQuiet
import Derived.Deep.QuietTactic
import Derived.WalkSmall
import Derived.Test.YtdjldmpfginkdaaGreatDoorGRegB
namespace Go.Proofs.YtdjldmpfginkdaaGreatDoor
open Go.RowKit
attribute [local go_sem ↓] Go.wp_at_zero Go.wp_at_succ

def boolV (l : List Bool) : List Value := l.map Value.bool
theorem boolV_set (l : List Bool) (i : Nat) (b : Bool) : boolV (l.set i b) = (boolV l).set i (.bool b) := by simp [boolV, List.map_set]
theorem boolV_get {l : List Bool} {i : Nat} {b : Bool} (h : l[i]? = some b) : (boolV l)[i]? = some (.bool b) := by simp [boolV, h]
/-- What holds between the operations: the box of the code, a row of Bools behind it. -/
def Fb (w : World) (u0 u1 u2 u3 : Value) (gs : List Bool) (W : World) : Prop := (W.cell? ⟨w.heap.size, 0, none⟩ = some (u0) ∧ W.cell? ⟨w.heap.size, 1, none⟩ = some (u1) ∧ W.cell? ⟨w.heap.size, 2, none⟩ = some (u2) ∧ W.cell? ⟨w.heap.size, 3, none⟩ = some (u3)) ∧ RowV W (w.heap.size + 1) 4 (boolV gs) ∧ Below w.heap.size w W ∧ w.heap.size + 1 < W.heap.size
section
variable {w W W' : World} {u0 u1 u2 u3 : Value} {gs : List Bool}
theorem Fb.step (h : Fb w u0 u1 u2 u3 gs W) (hb : Below W.heap.size W W') : Fb w u0 u1 u2 u3 gs W' := by
  obtain ⟨⟨b0, b1, b2, b3⟩, hr, hbw, hl⟩ := h
  have hc : ∀ (i : Nat) (v : Value), W.cell? ⟨w.heap.size, i, none⟩ = some v → W'.cell? ⟨w.heap.size, i, none⟩ = some v := fun i v h => (hb.cell (p := ⟨w.heap.size, i, none⟩) (by simp; omega)).trans h
  exact ⟨⟨hc _ _ b0, hc _ _ b1, hc _ _ b2, hc _ _ b3⟩, hr.below hb, below_step hbw hb, Nat.lt_of_lt_of_le hl hb.size⟩
theorem Fb.set (h : Fb w u0 u1 u2 u3 gs W) (i : Nat) (b : Bool) : Fb w u0 u1 u2 u3 (gs.set i b) (W.setCell ⟨w.heap.size + 1, i, none⟩ (.bool b)) := by
  obtain ⟨⟨b0, b1, b2, b3⟩, hr, hbw, hl⟩ := h
  have hk : (W.setCell ⟨w.heap.size + 1, i, none⟩ (.bool b)).heap[w.heap.size]? = W.heap[w.heap.size]? := Below.heap_setCell _ _ _ _ (by show w.heap.size ≠ w.heap.size + 1; omega)
  have hc : ∀ (j : Nat), (W.setCell ⟨w.heap.size + 1, i, none⟩ (.bool b)).cell? ⟨w.heap.size, j, none⟩ = W.cell? ⟨w.heap.size, j, none⟩ := fun j => World.cell?_of_block (w := W) hk
  refine ⟨⟨(hc _).trans b0, (hc _).trans b1, (hc _).trans b2, (hc _).trans b3⟩, ?_, below_set hbw (by omega) _ _, by simp [World.setCell]; exact hl⟩
  rw [boolV_set]
  exact hr.set i _
end
theorem fb_start (w : World) (u0 u1 u2 u3 : Value) (n : Nat) : Fb w u0 u1 u2 u3 (List.replicate n false) ((w.alloc (.cells #[u0, u1, u2, u3] 26)).alloc (.cells (Array.replicate n (.bool false)) 4)) := by
  have h1 := blk_old (o' := .cells (Array.replicate n (.bool false)) 4) (blk_new w (.cells #[u0, u1, u2, u3] 26))
  have h2 := blk_new2 w (.cells #[u0, u1, u2, u3] 26) (.cells (Array.replicate n (.bool false)) 4)
  refine ⟨⟨?_, ?_, ?_, ?_⟩, ?_, below_step (below_new _ _) (below_new _ _), by simp⟩
  · rw [cell_of_row _ w.heap.size _ _ _ _ h1]; rfl
  · rw [cell_of_row _ w.heap.size _ _ _ _ h1]; rfl
  · rw [cell_of_row _ w.heap.size _ _ _ _ h1]; rfl
  · rw [cell_of_row _ w.heap.size _ _ _ _ h1]; rfl
  · unfold RowV boolV
    rw [h2]
    simp
/-- One of the first k nodes of a list is open. -/
def openTo (free : Nat → Bool) (gone : List Bool) (l : List Nat) (k : Nat) : Bool := (l.take k).any fun j => gone[j]? == some false && free j
theorem openTo_zero (free : Nat → Bool) (gone : List Bool) (l : List Nat) : openTo free gone l 0 = false := by simp [openTo]
theorem openTo_succ (free : Nat → Bool) (gone : List Bool) (l : List Nat) {k x : Nat} {b : Bool} (h : l[k]? = some x) (hb : gone[x]? = some b) : openTo free gone l (k + 1) = (openTo free gone l k || (!b && free x)) := by
  obtain ⟨hk, hx⟩ := List.getElem?_eq_some_iff.1 h
  unfold openTo
  rw [List.take_succ_eq_append_getElem hk, List.any_append, hx]
  simp [hb]
theorem open_iff {free : Nat → Bool} {succ : Nat → List Nat} {gone : List Bool} {i : Nat} : openE free succ gone i ↔ free i = true ∧ openTo free gone (succ i) (succ i).length = true := by
  unfold openE openTo
  simp
/-- A pass over the nodes from above: so far b has been set, or all that was passed is open. -/
def Pass (n : Nat) (free : Nat → Bool) (succ : Nat → List Nat) (L0 k : Nat) (b : Bool) (gone : List Bool) : Prop := (∃ σ T, Spin n free succ gone σ T) ∧ (b = true → gone.count false < L0) ∧ (b = false → gone.count false = L0 ∧ ∀ i, k ≤ i → gone[i]? = some false → openE free succ gone i)
section
variable {n : Nat} {free : Nat → Bool} {succ : Nat → List Nat} {L0 k : Nat} {b : Bool} {gone : List Bool}
theorem Pass.start (h : ∃ σ T, Spin n free succ gone σ T) : Pass n free succ (gone.count false) n false gone := ⟨h, by simp, fun _ => ⟨rfl, fun i hi hg => by
  obtain ⟨σ, T, h⟩ := h
  rw [List.getElem?_eq_none (by rw [h.len]; exact hi)] at hg
  cases hg⟩⟩
theorem Pass.gone_ (h : Pass n free succ L0 (k + 1) b gone) (hg : gone[k]? = some true) : Pass n free succ L0 k b gone := ⟨h.1, h.2.1, fun hb => ⟨(h.2.2 hb).1, fun i hi hgi => by
  rcases Nat.lt_or_ge k i with h1 | h1
  · exact (h.2.2 hb).2 i h1 hgi
  · obtain rfl : i = k := by omega
    rw [hg] at hgi
    cases hgi⟩⟩
theorem Pass.stays (h : Pass n free succ L0 (k + 1) b gone) (ho : openE free succ gone k) : Pass n free succ L0 k b gone := ⟨h.1, h.2.1, fun hb => ⟨(h.2.2 hb).1, fun i hi hgi => by
  rcases Nat.lt_or_ge k i with h1 | h1
  · exact (h.2.2 hb).2 i h1 hgi
  · obtain rfl : i = k := by omega
    exact ho⟩⟩
theorem Pass.go (h : Pass n free succ L0 (k + 1) b gone) (hk : k < n) (hg : gone[k]? = some false) (ho : ¬ openE free succ gone k) : gone.count false = (gone.set k true).count false + 1 ∧ Pass n free succ L0 k true (gone.set k true) := by
  have hc := count_set hg
  obtain ⟨⟨σ, T, hs⟩, h1, h2⟩ := h
  refine ⟨hc, ⟨_, _, hs.remove hk hg ho⟩, fun _ => ?_, by simp⟩
  cases b
  · have := (h2 rfl).1; omega
  · have := h1 rfl; omega
theorem Pass.end_ (h : Pass n free succ L0 0 false gone) (h0 : 0 < gone.count false) : ¬ Acyc n free succ := by
  obtain ⟨⟨σ, T, hs⟩, _, h2⟩ := h
  exact Spin.stuck hs.len h0 fun i hi => (h2 rfl).2 i (by omega) hi
end

theorem c_ticksQ (op : Int) (w : World) : Calls Tryz.prog 57 #[.int .i64 op] w fun e w' => e = .returned (.bool (oTick op)) ∧ w' = w := (c_ticks op w).mono fun _ _ h => ⟨h.1, h.2.symm⟩
theorem Rc.succ_le (r : Rc) (i : Nat) : (r.succ i).length ≤ 2 := by
  unfold Rc.succ
  split
  · simp
  · split
    · simp
    · split
      · simp
      · split
        · split
          · simp
          · split <;> simp
        · simp
def bitN : Value → Nat
  | .bool true => 1
  | _ => 0
set_option maxRecDepth 100000 in
set_option maxHeartbeats 8000000 in
theorem c_spins (r : Rc) (u0 u1 u3 v : Value) (w : World) (B : Nat) (hv : IsInsl w B r.instrs v) (hB : B ≤ w.heap.size) (hm : r.instrs.length ≤ 20000) (hs : SuccOk r) :
    Calls Tryz.prog 25 #[.agg #[u0, u1, v, u3]] w fun e w' => ∃ b, e = .returned (.bool b) ∧ (b = true ↔ ¬ Acyc r.instrs.length r.free r.succ) ∧ Below w.heap.size w w' := by
  obtain ⟨n, hn⟩ : ∃ n, n = r.instrs.length := ⟨_, rfl⟩
  have HV := Lib.hid hv
  obtain ⟨A, c, rfl, _⟩ := hv
  have HSU : Hid (∀ (W : World) (_ : Below w.heap.size w W) (i : Nat) (_ : i < n), Calls Tryz.prog 56 #[.agg #[u0, u1, .slice A n c, u3], .int .i64 i] W (RetRow ((r.succ i).map fun (q : Nat) => (q : Int)) W)) := Lib.hid (fun W hW i hi => by
    rw [hn] at hi ⊢
    have := c_nextR u0 u1 u3 r.instrs _ i W B (HV.out.below hW hB) (Nat.le_trans hB hW.size) hi (Nat.le_trans hm (by omega))
    rw [(hs i hi).1] at this
    exact this)
  have HIN : Hid (∀ (W : World) (_ : Below w.heap.size w W) (k : Nat) (_ : k < n), ∃ g o x, A = some ⟨g, o, none⟩ ∧ g < B ∧ InsAt W B x g (o + k * 15) ∧ r.free k = !oTick x.op) := Lib.hid (fun W hW k hk => by
    obtain ⟨g, o, hk', hA, hg, hI⟩ := HV.out.at_ (w' := W) (fun b hb => hW.block b (by omega)) (by rw [← hn]; exact hk)
    exact ⟨g, o, _, hA, hg, hI, by simp [Rc.free, hk']⟩)
  have HSL : Hid (∀ i, i < n → ∀ j ∈ r.succ i, j < n) := Lib.hid (fun i hi j hj => by rw [hn] at hi ⊢; exact (hs i hi).2 j hj)
  have HLE := Lib.hid r.succ_le
  have hmk := fun (W : World) => made_bools W n (by omega)
  have HST := Lib.hid (fb_start w u0 u1 (.slice A n c) u3 n)
  have HSP := Lib.hid (Spin.start n r.free r.succ)
  rw [← hn]
  rw [← hn] at hm
  clear hs HV hn
  generalize r.free = free, r.succ = succ at *
  go_enter Tryz.func25, Tryz.ntmps25
  go_wp2
  generalize hW0 : (w.alloc _).alloc _ = W0 at *
  have HF0 := HST
  clear hW0 HST hmk
  have HQ0 : Hid ((List.replicate n false).count false = n) := Lib.hid (by simp)
  go_loopw [4, 5] (fun lf rm wr => ∃ (gs : List Bool) (b : Bool), rm = .bool b ∧ lf = .int .i64 (gs.count false : Nat) ∧ gs.count false ≤ n ∧ Hid (∃ σ T, Spin n free succ gs σ T) ∧ Hid (b = false → 0 < gs.count false → ¬ Acyc n free succ) ∧ Hid (Fb w u0 u1 (.slice A n c) u3 gs wr)) (fun lf rm _ => 2 * (intOf lf).toNat + bitN rm)
  case atStart => exact ⟨_, true, rfl, by rw [HQ0.out], by rw [HQ0.out]; omega, Lib.hid ⟨_, _, HSP.out⟩, Lib.hid (by simp), HF0⟩
  case round =>
    clear HF0 HSP HQ0
    obtain ⟨gs, b, rfl, rfl, hgn, HSP, HNB, HF⟩ := hrel
    have hbz := HF.out.2.2.1
    by_cases hgo : b = true ∧ 0 < gs.count false
    · obtain ⟨rfl, hpos⟩ := hgo
      obtain ⟨b0, b1, b2, b3⟩ := HF.out.1
      have HPS := Lib.hid (Pass.start HSP.out)
      have hpos' : (0 : Int) < (gs.count false : Nat) := by omega
      have hsub : IntKind.i64.wrap ((n : Int) - 1) = (n : Int) - 1 := IntWalk.i64_in _ (by omega)
      clear HSP HNB
      generalize hL0 : gs.count false = L0 at *
      have HL0 := Lib.hid hL0
      clear hL0
      go_wp2
      clear b0 b1 b2 b3
      obtain ⟨wq, rfl⟩ : ∃ wq : World, wq = wr := ⟨_, rfl⟩
      go_loopw [4, 5, 6] (fun lf rm ix wr => ∃ (k : Nat) (z : Int) (gs : List Bool) (b : Bool), k ≤ n ∧ z + 1 = k ∧ ix = .int .i64 z ∧ rm = .bool b ∧ lf = .int .i64 (gs.count false : Nat) ∧ gs.count false ≤ L0 ∧ Hid (Pass n free succ L0 k b gs) ∧ Hid (Fb w u0 u1 (.slice A n c) u3 gs wr)) (fun _ _ ix _ => (intOf ix + 1).toNat)
      case atStart => exact ⟨n, _, gs, false, by omega, by omega, rfl, rfl, by rw [HL0.out], by rw [HL0.out]; omega, by rw [HL0.out] at *; exact HPS, HF⟩
      case round =>
        clear HPS HF hbz
        obtain ⟨k, z, gs, b, hk, hz, rfl, rfl, rfl, hcl, HP, HF⟩ := hrel
        have hbz := HF.out.2.2.1
        cases k with
        | zero =>
          obtain rfl : z = -1 := by omega
          have HE : Hid ((∃ σ T, Spin n free succ gs σ T) ∧ (b = false → 0 < gs.count false → ¬ Acyc n free succ)) := Lib.hid ⟨HP.out.1, fun hb h0 => by
            subst hb
            exact HP.out.end_ h0⟩
          have HM : Hid (2 * gs.count false + bitN (.bool b) < 2 * L0 + 1) := Lib.hid (by
            cases b
            · have := (HP.out.2.2 rfl).1
              simp only [bitN]
              omega
            · have := HP.out.2.1 rfl
              simp only [bitN]
              omega)
          clear HP
          go_wp2
          go_roundw
          case rel => exact ⟨gs, b, rfl, rfl, by omega, Lib.hid HE.out.1, Lib.hid HE.out.2, HF⟩
          case measure => simpa [intOf, bitN] using HM.out
        | succ j =>
          obtain rfl : z = (j : Int) := by omega
          have hjn : j < n := by omega
          obtain ⟨σ, T, hsp⟩ := HP.out.1
          obtain ⟨gj, hgj⟩ : ∃ gj, gs[j]? = some gj := ⟨_, List.getElem?_eq_getElem (by rw [hsp.len]; exact hjn)⟩
          have HLN := Lib.hid hsp.len
          have hcell := HF.out.2.1.cell (boolV_get hgj)
          have HGJ := Lib.hid hgj
          have hj0 : (0 : Int) ≤ (j : Int) := by omega
          have hj1 : (j : Int) < (n : Int) := by omega
          have hjs : IntKind.i64.wrap ((j : Int) - 1) = (j : Int) - 1 := IntWalk.i64_in _ (by omega)
          clear hsp hgj σ T
          cases gj
          · obtain ⟨b0, b1, b2, b3⟩ := HF.out.1
            go_wp2_with fail
            clear b0 b1 b2 b3 hcell
            refine (HSU.out wr hbz j hjn).mono ?_
            rintro e w2 ⟨v2, rfl, hres, hb2⟩
            obtain ⟨A2, c2, rfl, hed⟩ := hres.form
            have HED : Hid (Edg A2 wr.heap.size w2.heap.size ((succ j).map fun (q : Nat) => (q : Int)) w2) := Lib.hid (Edg.made hed)
            have HF2 := Lib.hid (HF.out.step hb2)
            have hL0' := HF.out.2.2.2
            have hbz2 := HF2.out.2.2.1
            clear hres hed hb2 HF hbz
            generalize wr.heap.size = L at *
            rw [List.length_map]
            generalize hml : (succ j).length = m2 at *
            have HML := Lib.hid hml
            have hm2 : m2 ≤ 2 := by rw [← hml]; exact HLE.out j
            clear hml
            obtain ⟨g, o, x, rfl, hg, hI, hfx⟩ := HIN.out w2 hbz2 j hjn
            obtain ⟨A1, c1, TA, tc, EA, ec, hcs, _, _⟩ := hI
            have HFX := Lib.hid hfx
            have hop := hcs.1
            clear hfx hcs
            generalize x.op = op at *
            obtain ⟨b0, b1, b2, b3⟩ := HF2.out.1
            have hrow := HF2.out.2.1
            have HAT : Hid (∀ q, q < m2 → ∃ (g2 xq : Nat) (bx : Bool), A2 = some ⟨g2, 0, none⟩ ∧ xq < n ∧ (succ j)[q]? = some xq ∧ gs[xq]? = some bx ∧ w2.cell? ⟨g2, q, none⟩ = some (.int .i64 (xq : Nat)) ∧ w2.cell? ⟨w.heap.size + 1, xq, none⟩ = some (.bool bx)) := Lib.hid (fun q hq => by
              have hql : q < (succ j).length := by rw [HML.out]; exact hq
              obtain ⟨g2, hA2, _, hc2⟩ := HED.out.get hql
              have hxn := HSL.out j hjn _ (List.getElem_mem hql)
              obtain ⟨bx, hgx⟩ : ∃ bx, gs[(succ j)[q]]? = some bx := ⟨_, List.getElem?_eq_getElem (by rw [HLN.out]; exact hxn)⟩
              exact ⟨g2, _, bx, hA2, hxn, List.getElem?_eq_getElem hql, hgx, hc2, hrow.cell (boolV_get hgx)⟩)
            have hcj := hrow.cell (boolV_get HGJ.out)
            have hfj := hrow.free j
            have HFS := Lib.hid (fun d => (HF2.out.step (below_drewN (Below.refl _ _) d)).set j true)
            have HFD := Lib.hid (fun d => HF2.out.step (below_drewN (Below.refl _ _) d))
            have HGO := Lib.hid (HP.out.go hjn HGJ.out)
            have HSY := Lib.hid (HP.out.stays)
            have hcb : gs.count false ≤ 20000 := Nat.le_trans hcl (by omega)
            clear hrow HED HP HGJ HLN
            go_wp2
            go_loopw [7, 9] (fun ov qv wr => ∃ (q : Nat) (ob : Bool) (d : Nat), wr = w2.drewN d ∧ q ≤ m2 ∧ qv = .int .i64 q ∧ ov = .bool ob ∧ Hid (ob = openTo free gs (succ j) q) ∧ Hid (free j = false → q = 0)) (fun _ qv _ => m2 - (intOf qv).toNat)
            case atStart => exact ⟨0, false, 0, rfl, by omega, rfl, rfl, Lib.hid (openTo_zero _ _ _).symm, Lib.hid (fun _ => rfl)⟩
            case round =>
              obtain ⟨q, ob, d, rfl, hq, rfl, rfl, HO, HZ⟩ := hrel
              have hq0 : (0 : Int) ≤ (q : Int) := by omega
              by_cases hqm : q < m2
              · have hq1 : (q : Int) < (m2 : Int) := by omega
                obtain ⟨g2, xq, bx, rfl, hxn, hsx, hgx, hcx, hcg⟩ := HAT.out q hqm
                have HOS := Lib.hid (openTo_succ free gs (succ j) hsx hgx)
                have HZS := Lib.hid (fun h : oTick op = false => show free j = false → q + 1 = 0 from fun h2 => by rw [HFX.out, h] at h2; cases h2)
                clear hsx hgx
                go_wp2_with fail
                refine (c_ticks op _).mono ?_
                rintro e w' ⟨rfl, hw'⟩
                subst hw'
                cases hot : oTick op
                · have HZ2 := Lib.hid (HZS.out hot)
                  clear HZS HZ HSY HGO HFS hcj hfj
                  cases ob
                  · cases bx
                    · obtain ⟨g5, o5, y, hga, hg5, hI5, hfy⟩ := HIN.out w2 hbz2 xq hxn
                      simp only [Option.some.injEq, Addr.mk.injEq, and_true] at hga
                      obtain ⟨rfl, rfl⟩ := hga
                      obtain ⟨A5, c5, TA5, tc5, EA5, ec5, hcs5, _, _⟩ := hI5
                      have hop5 := hcs5.1
                      have HFY := Lib.hid hfy
                      clear hcs5 hfy
                      generalize y.op = op5 at *
                      have hx0 : (0 : Int) ≤ (xq : Int) := by omega
                      have hx1 : (xq : Int) < (n : Int) := by omega
                      clear HAT
                      go_wp2_with fail
                      go_quiet (first | (go_at_call 57; exact (c_ticksQ op5 _).mono (fun _ _ h => ⟨h.1, _, h.2⟩)))
                      cases hot5 : oTick op5
                      · have HO2 : Hid (openTo free gs (succ j) (q + 1) = true) := Lib.hid (HOS.out.trans (by rw [← HO.out, HFY.out, hot5]; rfl))
                        clear HOS HFY hot5
                        go_wp2
                        go_roundw
                        case rel => exact ⟨q + 1, true, _, rfl, by omega, by go_num, rfl, Lib.hid HO2.out.symm, HZ2⟩
                        case measure => simp [intOf]; omega
                      · have HO2 : Hid (openTo free gs (succ j) (q + 1) = false) := Lib.hid (HOS.out.trans (by rw [← HO.out, HFY.out, hot5]; rfl))
                        clear HOS HFY hot5
                        go_wp2
                        go_roundw
                        case rel => exact ⟨q + 1, false, _, rfl, by omega, by go_num, rfl, Lib.hid HO2.out.symm, HZ2⟩
                        case measure => simp [intOf]; omega
                    · clear HAT
                      have hx0 : (0 : Int) ≤ (xq : Int) := by omega
                      have hx1 : (xq : Int) < (n : Int) := by omega
                      go_wp2_with fail
                      go_quiet (fail)
                      go_wp2
                      go_roundw
                      case rel => exact ⟨q + 1, false, _, rfl, by omega, by go_num, rfl, Lib.hid (by rw [HOS.out, ← HO.out]; rfl), HZ2⟩
                      case measure => simp [intOf]; omega
                  · clear HAT
                    go_wp2_with fail
                    go_quiet (fail)
                    go_wp2
                    go_roundw
                    case rel => exact ⟨q + 1, true, _, rfl, by omega, by go_num, rfl, Lib.hid (by rw [HOS.out, ← HO.out]; rfl), HZ2⟩
                    case measure => simp [intOf]; omega
                · have hfj0 : free j = false := by rw [HFX.out, hot]; rfl
                  have hob : ob = false := by rw [HO.out, HZ.out hfj0]; exact openTo_zero _ _ _
                  have HN : Hid (¬ openE free succ gs j) := Lib.hid (fun h => by rw [h.1] at hfj0; cases hfj0)
                  clear HAT HOS HZS hot hfj0
                  subst hob
                  go_wp2
                  go_roundw
                  case rel => exact ⟨j, _, gs.set j true, true, by omega, by omega, rfl, rfl, by have := (HGO.out HN.out).1; exact congrArg (Value.int .i64) (by omega), by have := (HGO.out HN.out).1; omega, Lib.hid (HGO.out HN.out).2, Lib.hid (HFS.out _)⟩
                  case measure => simp [intOf]
              · have hqm1 : ¬ (q : Int) < (m2 : Int) := by omega
                have hqe : q = m2 := by omega
                cases ob
                · have HN : Hid (¬ openE free succ gs j) := Lib.hid (fun h => by
                    have h2 := (open_iff.1 h).2
                    rw [HML.out, ← hqe, ← HO.out] at h2
                    cases h2)
                  clear HAT hqe
                  go_wp2
                  go_roundw
                  case rel => exact ⟨j, _, gs.set j true, true, by omega, by omega, rfl, rfl, by have := (HGO.out HN.out).1; exact congrArg (Value.int .i64) (by omega), by have := (HGO.out HN.out).1; omega, Lib.hid (HGO.out HN.out).2, Lib.hid (HFS.out _)⟩
                  case measure => simp [intOf]
                · have HN : Hid (Pass n free succ L0 j b gs) := Lib.hid (HSY.out (open_iff.2 ⟨by
                    cases hfj : free j
                    · have := HZ.out hfj
                      have h2 := HO.out
                      rw [this, openTo_zero] at h2
                      cases h2
                    · rfl, by rw [HML.out, ← hqe, ← HO.out]⟩))
                  clear HAT hqe
                  go_wp2
                  go_roundw
                  case rel => exact ⟨j, _, gs, b, by omega, by omega, rfl, rfl, rfl, hcl, HN, Lib.hid (HFD.out _)⟩
                  case measure => simp [intOf]
          · have HP2 := Lib.hid (HP.out.gone_ HGJ.out)
            clear HP HGJ HLN
            go_wp2
            go_roundw
            case rel => exact ⟨j, _, gs, b, by omega, by omega, rfl, rfl, rfl, hcl, HP2, HF⟩
            case measure => simp [intOf]
    · have HSP2 := HSP
      clear HSP
      by_cases hp : 0 < gs.count false
      · have hb0 : b = false := by
          cases b
          · rfl
          · exact absurd ⟨rfl, hp⟩ hgo
        have HN := Lib.hid (HNB.out hb0 hp)
        subst hb0
        obtain ⟨b0, b1, b2, b3⟩ := HF.out.1
        have hp' : (0 : Int) < (gs.count false : Nat) := by omega
        clear HSP2 HNB hgo
        go_wp2
        go_ret
        exact ⟨true, rfl, by simpa using HN.out, hbz⟩
      · have hz : gs.count false = 0 := by omega
        have HA : Hid (Acyc n free succ) := Lib.hid (by
          obtain ⟨σ, T, h⟩ := HSP2.out
          exact h.all hz)
        obtain ⟨b0, b1, b2, b3⟩ := HF.out.1
        rw [hz]
        clear HSP2 HNB hgo hp hz hgn
        cases b
        all_goals
          go_wp2
          go_ret
          exact ⟨false, rfl, by simpa using HA.out, hbz⟩
end Go.Proofs.YtdjldmpfginkdaaGreatDoor
namespace Go.Proofs.YtdjldmpfginkdaaGreatDoor
open Go.RowKit

def tabV (n : Nat) (f : Nat → Value) : List Value := (List.range n).map f
theorem tabV_len (n : Nat) (f : Nat → Value) : (tabV n f).length = n := by simp [tabV]
theorem tabV_get {n i : Nat} {f : Nat → Value} (h : i < n) : (tabV n f)[i]? = some (f i) := by simp [tabV, h]
theorem tabV_congr {n : Nat} {f g : Nat → Value} (h : ∀ i, i < n → f i = g i) : tabV n f = tabV n g := by
  unfold tabV
  exact List.map_congr_left fun i hi => h i (List.mem_range.1 hi)
theorem tabV_set (n i : Nat) (f : Nat → Value) (v : Value) : (tabV n f).set i v = tabV n (fun k => if k = i then v else f k) := by
  apply List.ext_getElem
  · simp [tabV]
  · intro k h1 h2
    simp only [tabV, List.length_set, List.length_map, List.length_range] at h1
    simp only [tabV, List.getElem_set, List.getElem_map, List.getElem_range]
    by_cases hk : i = k
    · subst hk; simp
    · rw [if_neg hk, if_neg (fun e => hk e.symm)]
theorem tabV_const (n : Nat) (v : Value) : List.replicate n v = tabV n fun _ => v := by
  apply List.ext_getElem
  · simp [tabV]
  · intro k h1 h2
    simp [tabV]
/-- A row of Bools. -/
def RowB (W : World) (g m : Nat) (f : Nat → Bool) : Prop := RowV W g 4 (tabV m fun i => .bool (f i))
section
variable {W W' : World} {g m i : Nat} {f f' : Nat → Bool}
theorem RowB.cell (h : RowB W g m f) (hi : i < m) : W.cell? ⟨g, i, none⟩ = some (.bool (f i)) := RowV.cell h (tabV_get hi)
theorem RowB.keep (h : RowB W g m f) (hk : W'.heap[g]? = W.heap[g]?) : RowB W' g m f := RowV.keep h hk
theorem RowB.below (h : RowB W g m f) (hb : Below W.heap.size W W') : RowB W' g m f := RowV.below h hb
theorem RowB.congr (h : RowB W g m f) (he : ∀ i, i < m → f i = f' i) : RowB W g m f' := by
  unfold RowB
  rw [← tabV_congr (f := fun i => Value.bool (f i)) (fun i hi => by rw [he i hi])]
  exact h
theorem RowB.set (h : RowB W g m f) (i : Nat) (b : Bool) : RowB (W.setCell ⟨g, i, none⟩ (.bool b)) g m (fun k => if k = i then b else f k) := by
  have h1 := RowV.set h i (.bool b)
  rw [tabV_set] at h1
  unfold RowB
  rw [tabV_congr (g := fun k => if k = i then .bool b else .bool (f k)) (fun k _ => by by_cases hk : k = i <;> simp [hk])]
  exact h1
theorem RowB.new (W : World) (m : Nat) : RowB (W.alloc (.cells (Array.replicate m (.bool false)) 4)) W.heap.size m fun _ => false := by
  unfold RowB
  rw [← tabV_const]
  exact blk_new _ _
theorem RowB.lt (h : RowB W g m f) : g < W.heap.size := RowV.lt h
end
def rowP (b0 m i : Nat) : Value := .slice (some ⟨b0 + 1 + i, 0, none⟩) m m
/-- n rows of m Bools: the rows' slices stand in block b0, the rows behind it. -/
structure Mat (b0 n m : Nat) (M : Nat → Nat → Bool) (W : World) : Prop where
  row : RowV W b0 63 (tabV n (rowP b0 m))
  ent : ∀ i, i < n → RowB W (b0 + 1 + i) m (M i)
  lt : b0 + n < W.heap.size
section
variable {b0 n m : Nat} {M : Nat → Nat → Bool} {W W' : World}
theorem Mat.keep (h : Mat b0 n m M W) (hk : ∀ b, b ≤ b0 + n → W'.heap[b]? = W.heap[b]?) (hs : W.heap.size ≤ W'.heap.size) : Mat b0 n m M W' :=
  ⟨RowV.keep h.row (hk _ (by omega)), fun i hi => (h.ent i hi).keep (hk _ (by omega)), Nat.lt_of_lt_of_le h.lt hs⟩
theorem Mat.below (h : Mat b0 n m M W) (hb : Below W.heap.size W W') : Mat b0 n m M W' := h.keep (fun b hb' => hb.block b (by have := h.lt; omega)) hb.size
theorem Mat.set (h : Mat b0 n m M W) {i : Nat} (hi : i < n) (k : Nat) : Mat b0 n m (upd2 M i k) (W.setCell ⟨b0 + 1 + i, k, none⟩ (.bool true)) := by
  have hk : ∀ b, b ≠ b0 + 1 + i → (W.setCell ⟨b0 + 1 + i, k, none⟩ (.bool true)).heap[b]? = W.heap[b]? := fun b hb => Below.heap_setCell _ _ _ _ (by show b ≠ b0 + 1 + i; exact hb)
  refine ⟨RowV.keep h.row (hk _ (by omega)), fun a ha => ?_, by simp [World.setCell]; exact h.lt⟩
  by_cases hai : a = i
  · subst hai
    refine ((h.ent a ha).set k true).congr fun b _ => ?_
    simp [upd2]
  · refine ((h.ent a ha).keep (hk _ (by omega))).congr fun b _ => ?_
    simp [upd2, hai]
theorem Mat.rowAt (h : Mat b0 n m M W) {i : Nat} (hi : i < n) : W.cell? ⟨b0, i, none⟩ = some (.slice (some ⟨b0 + 1 + i, 0, none⟩) m m) := RowV.cell h.row (tabV_get hi)
theorem Mat.ent_ (h : Mat b0 n m M W) {i k : Nat} (hi : i < n) (hk : k < m) : W.cell? ⟨b0 + 1 + i, k, none⟩ = some (.bool (M i k)) := (h.ent i hi).cell hk
end
/-- The matrix while its rows are made. -/
structure MatTo (b0 n m k : Nat) (W : World) : Prop where
  row : RowV W b0 63 (tabV n fun i => if i < k then rowP b0 m i else .slice none 0 0)
  ent : ∀ i, i < k → RowB W (b0 + 1 + i) m fun _ => false
  sz : W.heap.size = b0 + 1 + k
theorem MatTo.start (W : World) (n m : Nat) : MatTo W.heap.size n m 0 (W.alloc (.cells (Array.replicate n (.slice none 0 0)) 63)) := by
  refine ⟨?_, fun i hi => by omega, by simp⟩
  rw [tabV_congr (g := fun _ => .slice none 0 0) (fun i _ => by simp), ← tabV_const]
  exact blk_new _ _
theorem MatTo.step {b0 n m k : Nat} {W : World} (h : MatTo b0 n m k W) : MatTo b0 n m (k + 1) ((W.alloc (.cells (Array.replicate m (.bool false)) 4)).setCell ⟨b0, k, none⟩ (.slice (some ⟨W.heap.size, 0, none⟩) m m)) := by
  have hs := h.sz
  have hb := below_new W (.cells (Array.replicate m (.bool false)) 4)
  have h1 := (RowV.below h.row hb).set k (.slice (some ⟨W.heap.size, 0, none⟩) m m)
  have hk : ∀ b, b ≠ b0 → ((W.alloc (.cells (Array.replicate m (.bool false)) 4)).setCell ⟨b0, k, none⟩ (.slice (some ⟨W.heap.size, 0, none⟩) m m)).heap[b]? = (W.alloc (.cells (Array.replicate m (.bool false)) 4)).heap[b]? := fun b hb => Below.heap_setCell _ _ _ _ (by show b ≠ b0; exact hb)
  refine ⟨?_, fun i hi => ?_, by simp [World.setCell, hs]; omega⟩
  · rw [tabV_set] at h1
    rw [tabV_congr (g := fun i => if i = k then .slice (some ⟨W.heap.size, 0, none⟩) m m else if i < k then rowP b0 m i else .slice none 0 0) (fun i _ => ?_)]
    · exact h1
    · by_cases hik : i = k
      · subst hik
        simp [rowP, hs]
      · by_cases h2 : i < k
        · simp [hik, h2, Nat.lt_succ_of_lt h2]
        · have : ¬ i < k + 1 := by omega
          simp [hik, h2, this]
  · rcases Nat.lt_or_ge i k with h2 | h2
    · exact ((h.ent i h2).below hb).keep (hk _ (by omega))
    · obtain rfl : i = k := by omega
      have h3 := RowB.new W m
      rw [hs] at h3
      exact h3.keep (hk (b0 + 1 + i) (by omega))
theorem MatTo.done {b0 n m : Nat} {W : World} (h : MatTo b0 n m n W) : Mat b0 n m (fun _ _ => false) W :=
  ⟨by rw [tabV_congr (g := fun i => if i < n then rowP b0 m i else .slice none 0 0) (fun i hi => by simp [hi])]; exact h.row, h.ent, by have := h.sz; omega⟩
theorem info_boolrow : (Tryz.prog.info? 63).map (fun i => (i.zero, i.size, i.bytes)) = some (some (.slice none 0 0), 1, 24) := by kernel_rfl
theorem info_introw : (Tryz.prog.info? 22).map (fun i => (i.zero, i.size, i.bytes)) = some (some (.slice none 0 0), 1, 24) := by kernel_rfl
theorem made_boolrows (W : World) (n : Nat) (hn : n ≤ 2 ^ 40) : (Instr.makeSlice 62 (.int .i64 n) (.int .i64 n)).run Tryz.prog W = .ok (.slice (some ⟨W.heap.size, 0, none⟩) n n) (W.alloc (.cells (List.replicate n (.slice none 0 0)).toArray 63)) := by
  obtain ⟨i0, hi0, hz0, hz1, hz2⟩ := info_parts info_boolrow
  have := run_make (P := Tryz.prog) W 62 63 i0 _ Tryz.underlying62 hi0 hz0 .i64 .i64 n n (by omega) (Int.le_refl _) (by rw [hz2]; omega) (by omega)
  rw [hz1, show (Value.slice none 0 0).cells = #[.slice none 0 0] from rfl] at this
  simp only [Int.toNat_natCast] at this
  rw [made_one] at this
  exact this
theorem made_introws (W : World) (n : Nat) (hn : n ≤ 2 ^ 40) : (Instr.makeSlice 43 (.int .i64 n) (.int .i64 n)).run Tryz.prog W = .ok (.slice (some ⟨W.heap.size, 0, none⟩) n n) (W.alloc (.cells (List.replicate n (.slice none 0 0)).toArray 22)) := by
  obtain ⟨i0, hi0, hz0, hz1, hz2⟩ := info_parts info_introw
  have := run_make (P := Tryz.prog) W 43 22 i0 _ Tryz.underlying43 hi0 hz0 .i64 .i64 n n (by omega) (Int.le_refl _) (by rw [hz2]; omega) (by omega)
  rw [hz1, show (Value.slice none 0 0).cells = #[.slice none 0 0] from rfl] at this
  simp only [Int.toNat_natCast] at this
  rw [made_one] at this
  exact this
end Go.Proofs.YtdjldmpfginkdaaGreatDoor
namespace Go.Proofs.YtdjldmpfginkdaaGreatDoor
open Go.RowKit

/-- One number more, unless the instruction writes it. -/
def put1 (x : Ins) (l : List Int) (k : Int) : List Int := if oD x.op = true ∧ k = x.dst then l else ins k l
def putL (x : Ins) (l ks : List Int) : List Int := ks.foldl (put1 x) l
def putS (x : Ins) (out : Nat → List Int) (l : List Int) (js : List Nat) : List Int := js.foldl (fun l j => putL x l (out j)) l
/-- Row i anew. -/
def newV (r : Rc) (out : Nat → List Int) (i : Nat) (x : Ins) : List Int := putS x out x.uses (r.succ i)
theorem ins_iff {k : Int} {l : List Int} {n : Int} : n ∈ ins k l ↔ n = k ∨ n ∈ l := by
  have h := insAll_mem n l [k]
  rw [List.mem_singleton] at h
  exact (show n ∈ ins k l ↔ _ from h).trans or_comm
theorem ins_srt {k : Int} {l : List Int} (h : l.Pairwise (· < ·)) : (ins k l).Pairwise (· < ·) := insAll_sorted l [k] h
theorem put1_mem {x : Ins} {l : List Int} {k n : Int} : n ∈ put1 x l k ↔ n ∈ l ∨ (¬ (oD x.op = true ∧ n = x.dst) ∧ n = k) := by
  unfold put1
  split
  · rename_i h
    constructor
    · exact .inl
    · rintro (h1 | ⟨h1, rfl⟩)
      · exact h1
      · exact absurd h h1
  · rename_i h
    rw [ins_iff]
    constructor
    · rintro (rfl | h1)
      · exact .inr ⟨h, rfl⟩
      · exact .inl h1
    · rintro (h1 | ⟨_, h1⟩)
      · exact .inr h1
      · exact .inl h1
theorem put1_srt {x : Ins} {l : List Int} {k : Int} (h : l.Pairwise (· < ·)) : (put1 x l k).Pairwise (· < ·) := by
  unfold put1
  split
  · exact h
  · exact ins_srt h
theorem putL_mem {x : Ins} {n : Int} : ∀ {ks l : List Int}, n ∈ putL x l ks ↔ n ∈ l ∨ (¬ (oD x.op = true ∧ n = x.dst) ∧ n ∈ ks)
  | [], l => by simp [putL]
  | k :: ks, l => by
    rw [show putL x l (k :: ks) = putL x (put1 x l k) ks from rfl, putL_mem, put1_mem, List.mem_cons]
    constructor
    · rintro ((h | ⟨h1, h2⟩) | ⟨h1, h2⟩)
      · exact .inl h
      · exact .inr ⟨h1, .inl h2⟩
      · exact .inr ⟨h1, .inr h2⟩
    · rintro (h | ⟨h1, h2 | h2⟩)
      · exact .inl (.inl h)
      · exact .inl (.inr ⟨h1, h2⟩)
      · exact .inr ⟨h1, h2⟩
theorem putL_srt {x : Ins} : ∀ {ks l : List Int}, l.Pairwise (· < ·) → (putL x l ks).Pairwise (· < ·)
  | [], _, h => h
  | k :: ks, l, h => by
    rw [show putL x l (k :: ks) = putL x (put1 x l k) ks from rfl]
    exact putL_srt (put1_srt h)
theorem putL_snoc (x : Ins) (l ks : List Int) (k : Int) : putL x l (ks ++ [k]) = put1 x (putL x l ks) k := by simp [putL]
theorem putS_mem {x : Ins} {out : Nat → List Int} {n : Int} : ∀ {js : List Nat} {l : List Int}, n ∈ putS x out l js ↔ n ∈ l ∨ (¬ (oD x.op = true ∧ n = x.dst) ∧ ∃ j ∈ js, n ∈ out j)
  | [], l => by simp [putS]
  | j :: js, l => by
    rw [show putS x out l (j :: js) = putS x out (putL x l (out j)) js from rfl, putS_mem, putL_mem]
    constructor
    · rintro ((h | ⟨h1, h2⟩) | ⟨h1, i, h2, h3⟩)
      · exact .inl h
      · exact .inr ⟨h1, j, by simp, h2⟩
      · exact .inr ⟨h1, i, by simp [h2], h3⟩
    · rintro (h | ⟨h1, i, h2, h3⟩)
      · exact .inl (.inl h)
      · rcases List.mem_cons.1 h2 with rfl | h2
        · exact .inl (.inr ⟨h1, h3⟩)
        · exact .inr ⟨h1, i, h2, h3⟩
theorem putS_srt {x : Ins} {out : Nat → List Int} : ∀ {js : List Nat} {l : List Int}, l.Pairwise (· < ·) → (putS x out l js).Pairwise (· < ·)
  | [], _, h => h
  | j :: js, l, h => by
    rw [show putS x out l (j :: js) = putS x out (putL x l (out j)) js from rfl]
    exact putS_srt (putL_srt h)
theorem putS_snoc (x : Ins) (out : Nat → List Int) (l : List Int) (js : List Nat) (j : Nat) : putS x out l (js ++ [j]) = putL x (putS x out l js) (out j) := by simp [putS]
/-- Sorted rows within [0, m) have at most m entries. -/
theorem srt_len_le : ∀ {l : List Int} {a m : Int}, l.Pairwise (· < ·) → (∀ k ∈ l, a ≤ k ∧ k < m) → a ≤ m → (l.length : Int) ≤ m - a
  | [], a, m, _, _, h => by simp; omega
  | k :: l, a, m, hl, hr, h => by
    rw [List.pairwise_cons] at hl
    have h1 := hr k (by simp)
    have := srt_len_le (a := k + 1) (m := m) hl.2 (fun q hq => by
      have h2 := hl.1 q hq
      have h3 := hr q (by simp [hq])
      omega) (by omega)
    rw [List.length_cons]
    omega
theorem srt_sub_len : ∀ {l m : List Int}, l.Pairwise (· < ·) → m.Pairwise (· < ·) → (∀ k ∈ l, k ∈ m) → l.length ≤ m.length
| [], _, _, _, _ => by simp
| k :: l, [], _, _, h => by have := h k (by simp); cases this
| k :: l, q :: m, hl, hm, hs => by
  have hl' := List.pairwise_cons.1 hl
  have hm' := List.pairwise_cons.1 hm
  have : ∀ y ∈ l, y ∈ m := fun y hy => by
    rcases List.mem_cons.1 (hs y (by simp [hy])) with e | e
    · rcases List.mem_cons.1 (hs k (by simp)) with e2 | e2
      · have := hl'.1 y hy; omega
      · have h1 := hm'.1 k e2
        have h2 := hl'.1 y hy
        omega
    · exact e
  have := srt_sub_len hl'.2 hm'.2 this
  simp only [List.length_cons]
  omega
/-- A sorted row within another one of the same length is that one. -/
theorem srt_sub_eq : ∀ {l m : List Int}, l.Pairwise (· < ·) → m.Pairwise (· < ·) → (∀ k ∈ l, k ∈ m) → m.length ≤ l.length → l = m
  | [], [], _, _, _, _ => rfl
  | [], k :: m, _, _, _, h => by simp at h
  | k :: l, [], _, _, h, _ => by have := h k (by simp); cases this
  | k :: l, q :: m, hl, hm, hs, hn => by
    rw [List.pairwise_cons] at hl hm
    simp only [List.length_cons] at hn
    rcases List.mem_cons.1 (hs k (by simp)) with e | e
    · subst e
      have hsub : ∀ y ∈ l, y ∈ m := fun y hy => by
        rcases List.mem_cons.1 (hs y (by simp [hy])) with e | e
        · have := hl.1 y hy; omega
        · exact e
      rw [srt_sub_eq hl.2 hm.2 hsub (by omega)]
    · exfalso
      have hq := hm.1 k e
      have hsub : ∀ y ∈ k :: l, y ∈ m := fun y hy => by
        rcases List.mem_cons.1 (hs y hy) with e1 | e1
        · rcases List.mem_cons.1 hy with e2 | e2
          · omega
          · have := hl.1 y e2; omega
        · exact e1
      have hle := srt_sub_len (List.pairwise_cons.2 hl) hm.2 hsub
      simp only [List.length_cons] at hle
      omega
/-- What holds of the rows. -/
structure LR (r : Rc) (out : Nat → List Int) : Prop where
  srt : ∀ i, i < r.instrs.length → (out i).Pairwise (· < ·)
  snd : ∀ i, i < r.instrs.length → ∀ k ∈ out i, ∃ q : Nat, k = (q : Int) ∧ q < r.classes.length ∧ LiveP r i q
  sub : ∀ i x, r.instrs[i]? = some x → ∀ k ∈ out i, k ∈ newV r out i x
theorem LR.start (r : Rc) : LR r (fun _ => []) := ⟨fun _ _ => .nil, (fun _ _ k hk => by cases hk), (fun _ _ _ k hk => by cases hk)⟩
theorem newV_mem {r : Rc} {out : Nat → List Int} {i : Nat} {x : Ins} {n : Int} : n ∈ newV r out i x ↔ n ∈ x.uses ∨ (¬ (oD x.op = true ∧ n = x.dst) ∧ ∃ j ∈ r.succ i, n ∈ out j) := putS_mem
theorem newV_srt {r : Rc} {out : Nat → List Int} {i : Nat} {x : Ins} : (newV r out i x).Pairwise (· < ·) := putS_srt (uses_sorted x)
theorem LR.new {r : Rc} {out : Nat → List Int} (h : LR r out) (hok : ∀ x ∈ r.instrs, insB r x = true) (hs : ∀ i, i < r.instrs.length → ∀ j ∈ r.succ i, j < r.instrs.length) {i : Nat} {x : Ins} (hx : r.instrs[i]? = some x) :
    ∀ k ∈ newV r out i x, ∃ q : Nat, k = (q : Int) ∧ q < r.classes.length ∧ LiveP r i q := by
  intro k hk
  have hi := (List.getElem?_eq_some_iff.1 hx).1
  rcases newV_mem.1 hk with h1 | ⟨h1, j, h2, h3⟩
  · obtain ⟨h4, h5⟩ := (ok_regs (hok x (List.mem_of_getElem? hx))).2 k h1
    obtain ⟨q, rfl⟩ := Int.eq_ofNat_of_zero_le h4
    exact ⟨q, rfl, by omega, .use hx h1⟩
  · obtain ⟨q, rfl, h4, h5⟩ := h.snd j (hs i hi j h2) k h3
    exact ⟨q, rfl, h4, .step hx (fun e => h1 ⟨e.1, e.2.symm⟩) h2 h5⟩
def updR (out : Nat → List Int) (i : Nat) (l : List Int) : Nat → List Int := fun a => if a = i then l else out a
theorem LR.set {r : Rc} {out : Nat → List Int} (h : LR r out) (hok : ∀ x ∈ r.instrs, insB r x = true) (hs : ∀ i, i < r.instrs.length → ∀ j ∈ r.succ i, j < r.instrs.length) {i : Nat} {x : Ins} (hx : r.instrs[i]? = some x) : LR r (updR out i (newV r out i x)) := by
  have hup : ∀ a k, k ∈ out a → k ∈ updR out i (newV r out i x) a := fun a k hk => by
    unfold updR
    split
    · rename_i e
      subst e
      exact h.sub a x hx k hk
    · exact hk
  have hnew : ∀ a y k, k ∈ newV r out a y → k ∈ newV r (updR out i (newV r out i x)) a y := fun a y k hk => by
    rcases newV_mem.1 hk with h1 | ⟨h1, j, h2, h3⟩
    · exact newV_mem.2 (.inl h1)
    · exact newV_mem.2 (.inr ⟨h1, j, h2, hup j k h3⟩)
  refine ⟨fun a ha => ?_, fun a ha k hk => ?_, fun a y hy k hk => ?_⟩
  · unfold updR
    split
    · exact newV_srt
    · exact h.srt a ha
  · unfold updR at hk
    split at hk
    · rename_i e
      subst e
      exact h.new hok hs hx k hk
    · exact h.snd a ha k hk
  · unfold updR at hk
    split at hk
    · rename_i e
      subst e
      rw [hx] at hy
      cases hy
      exact hnew _ _ _ hk
    · exact hnew _ _ _ (h.sub a y hy k hk)
theorem LR.len {r : Rc} {out : Nat → List Int} (h : LR r out) {i : Nat} (hi : i < r.instrs.length) : (out i).length ≤ r.classes.length := by
  have := srt_len_le (a := 0) (m := r.classes.length) (h.srt i hi) (fun k hk => by
    obtain ⟨q, rfl, hq, _⟩ := h.snd i hi k hk
    omega) (by omega)
  omega
theorem LR.newlen {r : Rc} {out : Nat → List Int} (h : LR r out) (hok : ∀ x ∈ r.instrs, insB r x = true) (hs : ∀ i, i < r.instrs.length → ∀ j ∈ r.succ i, j < r.instrs.length) {i : Nat} {x : Ins} (hx : r.instrs[i]? = some x) : (newV r out i x).length ≤ r.classes.length := by
  have := srt_len_le (a := 0) (m := r.classes.length) newV_srt (fun k hk => by
    obtain ⟨q, rfl, hq, _⟩ := h.new hok hs hx k hk
    omega) (by omega)
  omega
/-- Equal lengths: the row is what it should be. -/
theorem LR.same {r : Rc} {out : Nat → List Int} (h : LR r out) {i : Nat} {x : Ins} (hx : r.instrs[i]? = some x) (hl : (newV r out i x).length = (out i).length) : out i = newV r out i x :=
  srt_sub_eq (h.srt i (List.getElem?_eq_some_iff.1 hx).1) newV_srt (h.sub i x hx) (by omega)
theorem LR.more {r : Rc} {out : Nat → List Int} (h : LR r out) {i : Nat} {x : Ins} (hx : r.instrs[i]? = some x) (hl : (newV r out i x).length ≠ (out i).length) : (out i).length < (newV r out i x).length := by
  have := srt_sub_len (h.srt i (List.getElem?_eq_some_iff.1 hx).1) newV_srt (h.sub i x hx)
  omega
/-- All rows are what they should be: they are the liveness. -/
theorem LR.done {r : Rc} {out : Nat → List Int} (h : LR r out) (hs : ∀ i, i < r.instrs.length → ∀ j ∈ r.succ i, j < r.instrs.length) (hc : ∀ i x, r.instrs[i]? = some x → out i = newV r out i x) {i : Nat} (hi : i < r.instrs.length) (n : Nat) :
    (n : Int) ∈ out i ↔ n < r.classes.length ∧ LiveP r i n := by
  constructor
  · intro h1
    obtain ⟨q, e, h2, h3⟩ := h.snd i hi _ h1
    obtain rfl : n = q := by omega
    exact ⟨h2, h3⟩
  · rintro ⟨hn, hl⟩
    have key : ∀ {a k : Nat}, LiveP r a k → a < r.instrs.length → (k : Int) ∈ out a := by
      intro a k hl
      induction hl with
      | use h1 h2 =>
        intro _
        rw [hc _ _ h1]
        exact newV_mem.2 (.inl h2)
      | step h1 h2 h3 _ ih =>
        intro ha
        rw [hc _ _ h1]
        exact newV_mem.2 (.inr ⟨fun e => h2 ⟨e.1, e.2.symm⟩, _, h3, ih (hs _ ha _ h3)⟩)
    exact key hl hi
/-- A pass from below the last instruction down: as LPass. -/
def lens (n m : Nat) (out : Nat → List Int) : Nat := Sm (fun i => m - (out i).length) n
structure RPass (r : Rc) (F0 k : Nat) (b : Bool) (out : Nat → List Int) : Prop where
  lr : LR r out
  yes : b = true → lens r.instrs.length r.classes.length out < F0
  no : b = false → lens r.instrs.length r.classes.length out = F0 ∧ ∀ i x, k ≤ i → r.instrs[i]? = some x → out i = newV r out i x
theorem RPass.start {r : Rc} {out : Nat → List Int} (h : LR r out) : RPass r (lens r.instrs.length r.classes.length out) r.instrs.length false out := ⟨h, by simp, fun _ => ⟨rfl, fun i x h1 h2 => by have := (List.getElem?_eq_some_iff.1 h2).1; omega⟩⟩
theorem RPass.skip {r : Rc} {F0 j : Nat} {b : Bool} {out : Nat → List Int} (h : RPass r F0 (j + 1) b out) {x : Ins} (hx : r.instrs[j]? = some x) (hl : (newV r out j x).length = (out j).length) : RPass r F0 j b out :=
  ⟨h.lr, h.yes, fun hb => ⟨(h.no hb).1, fun i y h1 h2 => by
    rcases Nat.lt_or_ge j i with h3 | h3
    · exact (h.no hb).2 i y h3 h2
    · obtain rfl : i = j := by omega
      rw [hx] at h2
      cases h2
      exact h.lr.same hx hl⟩⟩
theorem lens_set {n m : Nat} {out : Nat → List Int} {i : Nat} {l : List Int} (hi : i < n) (h1 : (out i).length < l.length) (h2 : l.length ≤ m) : lens n m (updR out i l) < lens n m out := by
  unfold lens
  have key : ∀ n, Sm (fun a => m - (updR out i l a).length) n + (if i < n then l.length - (out i).length else 0) = Sm (fun a => m - (out a).length) n := by
    intro n
    induction n with
    | zero => simp [Sm]
    | succ n ih =>
      rw [Sm, Sm]
      rcases Nat.lt_trichotomy i n with h3 | h3 | h3
      · rw [if_pos h3] at ih
        rw [if_pos (by omega)]
        have : updR out i l n = out n := by unfold updR; rw [if_neg (by omega)]
        rw [this]
        omega
      · subst h3
        rw [if_neg (by omega)] at ih
        rw [if_pos (by omega)]
        have : updR out i l i = l := by unfold updR; rw [if_pos rfl]
        rw [this]
        omega
      · rw [if_neg (by omega)] at ih
        rw [if_neg (by omega)]
        have : updR out i l n = out n := by unfold updR; rw [if_neg (by omega)]
        rw [this]
        omega
  have := key n
  rw [if_pos hi] at this
  omega
theorem RPass.set {r : Rc} {F0 j : Nat} {b : Bool} {out : Nat → List Int} (h : RPass r F0 (j + 1) b out) (hok : ∀ x ∈ r.instrs, insB r x = true) (hs : ∀ i, i < r.instrs.length → ∀ j ∈ r.succ i, j < r.instrs.length) {x : Ins} (hx : r.instrs[j]? = some x) (hl : (newV r out j x).length ≠ (out j).length) : RPass r F0 j true (updR out j (newV r out j x)) := by
  refine ⟨h.lr.set hok hs hx, fun _ => ?_, by simp⟩
  have h1 := lens_set (m := r.classes.length) (List.getElem?_eq_some_iff.1 hx).1 (h.lr.more hx hl) (h.lr.newlen hok hs hx)
  cases b
  · have := (h.no rfl).1; omega
  · have := h.yes rfl; omega
theorem part_len {r : Rc} {out : Nat → List Int} (h : LR r out) (hok : ∀ x ∈ r.instrs, insB r x = true) (hs : ∀ i, i < r.instrs.length → ∀ j ∈ r.succ i, j < r.instrs.length) {i : Nat} {x : Ins} (hx : r.instrs[i]? = some x) {a : Nat} (ha : a < (r.succ i).length) (b : Nat) :
    (putL x (putS x out x.uses ((r.succ i).take a)) ((out (r.succ i)[a]).take b)).length ≤ r.classes.length := by
  refine Nat.le_trans (srt_sub_len (putL_srt (putS_srt (uses_sorted x))) (newV_srt (r := r) (out := out) (i := i)) fun k hk => ?_) (h.newlen hok hs hx)
  rcases putL_mem.1 hk with h1 | ⟨h1, h2⟩
  · rcases putS_mem.1 h1 with h3 | ⟨h3, j, h4, h5⟩
    · exact newV_mem.2 (.inl h3)
    · exact newV_mem.2 (.inr ⟨h3, j, List.mem_of_mem_take h4, h5⟩)
  · exact newV_mem.2 (.inr ⟨h1, _, List.getElem_mem ha, List.mem_of_mem_take h2⟩)
end Go.Proofs.YtdjldmpfginkdaaGreatDoor
