/- Contract of telref25.inserted (as telref1.insertInt's).
  Contracts of telref25.RegUses, RegDef. -/
import Derived.Test.YtdjldmpfginkdaaGreatDoorGInts
import Derived.Test.YtdjldmpfginkdaaGreatDoorGRegB
import Derived.Test.YtdjldmpfginkdaaGreatDoorGRegC
import Derived.Test.YtdjldmpfginkdaaGreatDoorGRegD
import Derived.Deep.CutRange
namespace Go.Proofs.YtdjldmpfginkdaaGreatDoor
open Go.RowKit
attribute [local go_sem ↓] Go.wp_at_zero Go.wp_at_succ

set_option maxHeartbeats 4000000 in
theorem c_inserted (xs : List Int) (x : Int) (v : Value) (w : World) (B : Nat) (hv : IsInts w B xs v) (hB : B ≤ w.heap.size) (hlen : xs.length ≤ 2 ^ 30) :
    Calls Tryz.prog 61 #[v, .int .i64 x] w (RetInts (ins x xs) w) := by
  obtain ⟨A, c, rfl, hc, hm, hnil, hspot, hr⟩ := hv
  have HR := Lib.hid hr; clear hr
  generalize hn : xs.length = n at *
  have Hn := Lib.hid hn; clear hn
  have Hm := Lib.hid hm; clear hm
  have Hnil := Lib.hid hnil; clear hnil
  have Hspot := Lib.hid hspot; clear hspot
  obtain ⟨i0, hi0, hz0, hz1, hz2⟩ := info_parts info_int
  have HI : Hid (i0.zero = some (.int .i64 0) ∧ i0.size = 1 ∧ i0.bytes = 8) := Lib.hid ⟨hz0, hz1, hz2⟩
  clear hz0 hz1 hz2
  have Hi0 := Lib.hid hi0
  clear hi0
  go_enter Tryz.func61, Tryz.ntmps61
  go_wp2
  go_loop [5] (fun i => ∃ j : Nat, j ≤ n ∧ i = .int .i64 j ∧ Hid (∀ (i : Nat) (hi : i < xs.length), i < j → xs[i] < x)) (fun i => n - (intOf i).toNat)
  case atStart => exact ⟨0, by omega, rfl, Lib.hid (fun _ _ h => by omega)⟩
  case round =>
    obtain ⟨j, hj, rfl, hall⟩ := hrel
    by_cases hjn : j < n
    · obtain ⟨g, o, hj', rfl, hg, hcell⟩ := HR.out.at_ (j := j) (by omega)
      rw [ints_get] at hcell
      by_cases hlt : (xs[j]'(by rw [Hn.out]; exact hjn)) < x
      · have hz : Hid (∀ (i : Nat) (hi : i < xs.length), i < j + 1 → xs[i] < x) := Lib.hid (fun i hi hij => by
          rcases Nat.lt_or_ge i j with h1 | h1
          · exact hall.out i hi h1
          · obtain rfl : i = j := by omega
            exact hlt)
        go_wp2
        go_round
        case rel => exact ⟨j + 1, by omega, by go_num, hz⟩
        case measure => simp [intOf]; omega
      · by_cases heq : (xs[j]'(by rw [Hn.out]; exact hjn)) = x
        · have hz := Lib.hid ((ins_at x xs j (by rw [Hn.out]; exact hj) hall.out (fun _ => hlt)).1 (by rw [Hn.out]; exact hjn) heq)
          have heq' : ((xs[j]'(by rw [Hn.out]; exact hjn)) == x) = true := by rw [beq_iff_eq]; exact heq
          clear heq
          go_wp2
          go_ret
          exact ⟨.slice (some ⟨g, o, none⟩) n c, rfl, by rw [hz.out]; exact ⟨_, _, by rw [Hn.out], by rw [Hn.out]; exact hc, Hm.out, by simp, by simp, by rw [Hn.out]; exact HR.out.more hB⟩, Below.refl _ _⟩
        · have hz := Lib.hid ((ins_at x xs j (by rw [Hn.out]; exact hj) hall.out (fun _ => hlt)).2 (fun _ => heq))
          have heq' : ((xs[j]'(by rw [Hn.out]; exact hjn)) == x) = false := by rw [beq_eq_false_iff_ne]; exact heq
          clear heq hall
          have hcj : ¬ c = j := by omega
          have hjc : j ≤ c := by omega
          have hin1 : (0 : Int) ≤ (j : Int) := by omega
          have hin2 : (j : Int) ≤ (n : Int) := by omega
          have hin3 : (n : Int) ≤ (c : Int) := by omega
          go_wp2
          have HT := Lib.hid (HR.out.take_ hj)
          have HD : Hid (Rd w B 1 ((ints xs).drop (j * 1)) (some ⟨g, o + j, none⟩) (n - j)) := Lib.hid (by simpa using HR.out.drop' hj)
          go_region_law (first
            | (refine step_append_rd _ ?_ (.tmp 33) (.tmp 36) _ ?_ w.heap.size 3 i0 (.int .i64 0) 1 8 Tryz.underlying22 Hi0.out HI.out.1 HI.out.2.1 HI.out.2.2 rfl ?_ (.slice (some ⟨w.heap.size, 0, none⟩) 0 0) (0) ([]) ?_ ?_ (B) (some ⟨g, o, none⟩) (j) (c) ((ints xs).take (j * 1)) ?_ ?_ ?_ ?_ ?_ ?_; rfl; rfl; omega; rfl; exact own_empty (by first | exact blk_new _ _ | exact blk_old (blk_new _ _) | exact blk_new2 _ _ _) (by go_size); rfl; exact HT.out.below (C := w.heap.size) (by go_grown) hB; exact (by rw [ints_take]; exact ints_one _); omega; go_size; intro v1 w1 hown1 hg1 hat1; have hb1 : Below w.heap.size w w1 := (by go_grown : Below w.heap.size w _).grown hg1 (by go_size) (by simp [Value.ownBlock]); have hs1 := hg1.size; (try simp at hs1))
            | (refine step_append_rd _ ?_ (.tmp 33) (.tmp 36) _ ?_ w.heap.size 3 i0 (.int .i64 0) 1 8 Tryz.underlying22 Hi0.out HI.out.1 HI.out.2.1 HI.out.2.2 rfl ?_ (.slice (some ⟨w.heap.size + 1, 0, none⟩) 0 0) (0) ([]) ?_ ?_ (B) (some ⟨g, o, none⟩) (j) (c) ((ints xs).take (j * 1)) ?_ ?_ ?_ ?_ ?_ ?_; rfl; rfl; omega; rfl; exact own_empty (by first | exact blk_new _ _ | exact blk_old (blk_new _ _) | exact blk_new2 _ _ _) (by go_size); rfl; exact HT.out.below (C := w.heap.size) (by go_grown) hB; exact (by rw [ints_take]; exact ints_one _); omega; go_size; intro v1 w1 hown1 hg1 hat1; have hb1 : Below w.heap.size w w1 := (by go_grown : Below w.heap.size w _).grown hg1 (by go_size) (by simp [Value.ownBlock]); have hs1 := hg1.size; (try simp at hs1))
            | (refine step_append_rd _ ?_ (.tmp 37) (.tmp 39) _ ?_ w.heap.size 3 i0 (.int .i64 0) 1 8 Tryz.underlying22 Hi0.out HI.out.1 HI.out.2.1 HI.out.2.2 rfl ?_ (v1) (0 + j) ([] ++ (ints xs).take (j * 1)) ?_ ?_ (w1.heap.size + 1) (some ⟨w1.heap.size, 0, none⟩) (1) (1) ([.int .i64 x]) ?_ ?_ ?_ ?_ ?_ ?_; rfl; rfl; omega; rfl; exact hown1.alloc _; rfl; exact Rd.blk (cs := #[.int .i64 x]) (blk_new _ _) rfl (by omega); exact (by simp [Value.oneCell']); omega; go_size; intro v2 w2 hown2 hg2 hat2; have hb2 : Below w.heap.size w w2 := (by first | exact hb1 | exact hb1.alloc (by omega) _ : Below w.heap.size w _).grown hg2 (by go_size) (own_ge hown1); have hs2 := hg2.size; (try simp at hs2))
            | (refine step_append_rd _ ?_ (.tmp 37) (.tmp 39) _ ?_ w.heap.size 3 i0 (.int .i64 0) 1 8 Tryz.underlying22 Hi0.out HI.out.1 HI.out.2.1 HI.out.2.2 rfl ?_ (v1) (0 + j) ([] ++ (ints xs).take (j * 1)) ?_ ?_ (w1.heap.size) (some ⟨w.heap.size, 0, none⟩) (1) (1) ([.int .i64 x]) ?_ ?_ ?_ ?_ ?_ ?_; rfl; rfl; omega; rfl; exact hown1; rfl; exact Rd.blk (cs := #[.int .i64 x]) (f := (0, 0)) ((hg1.block (w.heap.size) (by simp; omega) (by simp [Value.ownBlock])).trans (by first | exact blk_new2 _ _ _ | exact blk_old (blk_new _ _))) rfl (by omega); exact (by simp [Value.oneCell']); omega; go_size; intro v2 w2 hown2 hg2 hat2; have hb2 : Below w.heap.size w w2 := (by first | exact hb1 | exact hb1.alloc (by omega) _ : Below w.heap.size w _).grown hg2 (by go_size) (own_ge hown1); have hs2 := hg2.size; (try simp at hs2))
            | (refine step_append_rd _ ?_ (.tmp 37) (.tmp 39) _ ?_ w.heap.size 3 i0 (.int .i64 0) 1 8 Tryz.underlying22 Hi0.out HI.out.1 HI.out.2.1 HI.out.2.2 rfl ?_ (v1) (0 + j) ([] ++ (ints xs).take (j * 1)) ?_ ?_ (w1.heap.size) (some ⟨w.heap.size + 1, 0, none⟩) (1) (1) ([.int .i64 x]) ?_ ?_ ?_ ?_ ?_ ?_; rfl; rfl; omega; rfl; exact hown1; rfl; exact Rd.blk (cs := #[.int .i64 x]) (f := (0, 0)) ((hg1.block (w.heap.size + 1) (by simp) (by simp [Value.ownBlock])).trans (by first | exact blk_new2 _ _ _ | exact blk_old (blk_new _ _))) rfl (by omega); exact (by simp [Value.oneCell']); omega; go_size; intro v2 w2 hown2 hg2 hat2; have hb2 : Below w.heap.size w w2 := (by first | exact hb1 | exact hb1.alloc (by omega) _ : Below w.heap.size w _).grown hg2 (by go_size) (own_ge hown1); have hs2 := hg2.size; (try simp at hs2))
            | (refine step_append_rd _ ?_ (.tmp 40) (.tmp 43) _ ?_ w.heap.size 3 i0 (.int .i64 0) 1 8 Tryz.underlying22 Hi0.out HI.out.1 HI.out.2.1 HI.out.2.2 rfl ?_ (v2) (0 + j + 1) ([] ++ (ints xs).take (j * 1) ++ [.int .i64 x]) ?_ ?_ (B) (some ⟨g, o + j, none⟩) (n - j) (c - j) ((ints xs).drop (j * 1)) ?_ ?_ ?_ ?_ ?_ ?_; rfl; rfl; omega; rfl; exact hown2; rfl; exact HD.out.below (C := w.heap.size) hb2 hB; exact (by rw [ints_drop]; exact ints_one _); omega; go_size; intro v3 w3 hown3 hg3 hat3; have hb3 : Below w.heap.size w w3 := hb2.grown hg3 (by go_size) (own_ge hown2))
            )
          all_goals
            go_wp2
            go_ret
            refine ⟨v3, rfl, ?_, hb3⟩
            have e1 : 0 + j + 1 + (n - j) = (ins x xs).length := by rw [hz.out]; simp [Hn.out]; try omega
            have e2 : [] ++ (ints xs).take (j * 1) ++ [Value.int .i64 x] ++ (ints xs).drop (j * 1) = ints (ins x xs) := by rw [hz.out, ints_take, ints_drop]; simp [ints]
            rw [e1, e2] at hown3
            exact IsInts.own hown3
    · obtain rfl : j = n := by omega
      have hz := Lib.hid ((ins_at x xs j (by rw [Hn.out]; exact Nat.le_refl _) hall.out (fun h => absurd h (by rw [Hn.out]; omega))).2 (fun h => absurd h (by rw [Hn.out]; omega)))
      have hdr : Hid (∀ a, Rd w B 1 ((ints xs).drop (j * 1)) a 0) := Lib.hid (fun a => by
        have : (ints xs).drop (j * 1) = [] := List.drop_eq_nil_of_le (by rw [ints_len, Hn.out]; omega)
        rw [this]; exact Rd.nil)
      clear hall
      have hjc : j ≤ c := by omega
      have hin1 : (0 : Int) ≤ (j : Int) := by omega
      have hin3 : (j : Int) ≤ (c : Int) := by omega
      rcases A with _ | ⟨g, o, sp⟩
      · obtain rfl : c = 0 := Hnil.out rfl
        obtain rfl : j = 0 := by omega
        have hj : 0 ≤ 0 := Nat.le_refl _
        go_wp2
        have HT := Lib.hid (HR.out.take_ hj)
        have HD : Hid (Rd w B 1 ((ints xs).drop (0 * 1)) (none) (0)) := Lib.hid (hdr.out _)
        go_region_law (first
          | (refine step_append_rd _ ?_ (.tmp 33) (.tmp 36) _ ?_ w.heap.size 3 i0 (.int .i64 0) 1 8 Tryz.underlying22 Hi0.out HI.out.1 HI.out.2.1 HI.out.2.2 rfl ?_ (.slice (some ⟨w.heap.size, 0, none⟩) 0 0) (0) ([]) ?_ ?_ (B) (none) (0) (0) ((ints xs).take (0 * 1)) ?_ ?_ ?_ ?_ ?_ ?_; rfl; rfl; omega; rfl; exact own_empty (by first | exact blk_new _ _ | exact blk_old (blk_new _ _) | exact blk_new2 _ _ _) (by go_size); rfl; exact HT.out.below (C := w.heap.size) (by go_grown) hB; exact (by rw [ints_take]; exact ints_one _); omega; go_size; intro v1 w1 hown1 hg1 hat1; have hb1 : Below w.heap.size w w1 := (by go_grown : Below w.heap.size w _).grown hg1 (by go_size) (by simp [Value.ownBlock]); have hs1 := hg1.size; (try simp at hs1))
          | (refine step_append_rd _ ?_ (.tmp 33) (.tmp 36) _ ?_ w.heap.size 3 i0 (.int .i64 0) 1 8 Tryz.underlying22 Hi0.out HI.out.1 HI.out.2.1 HI.out.2.2 rfl ?_ (.slice (some ⟨w.heap.size + 1, 0, none⟩) 0 0) (0) ([]) ?_ ?_ (B) (none) (0) (0) ((ints xs).take (0 * 1)) ?_ ?_ ?_ ?_ ?_ ?_; rfl; rfl; omega; rfl; exact own_empty (by first | exact blk_new _ _ | exact blk_old (blk_new _ _) | exact blk_new2 _ _ _) (by go_size); rfl; exact HT.out.below (C := w.heap.size) (by go_grown) hB; exact (by rw [ints_take]; exact ints_one _); omega; go_size; intro v1 w1 hown1 hg1 hat1; have hb1 : Below w.heap.size w w1 := (by go_grown : Below w.heap.size w _).grown hg1 (by go_size) (by simp [Value.ownBlock]); have hs1 := hg1.size; (try simp at hs1))
          | (refine step_append_rd _ ?_ (.tmp 37) (.tmp 39) _ ?_ w.heap.size 3 i0 (.int .i64 0) 1 8 Tryz.underlying22 Hi0.out HI.out.1 HI.out.2.1 HI.out.2.2 rfl ?_ (v1) (0 + 0) ([] ++ (ints xs).take (0 * 1)) ?_ ?_ (w1.heap.size + 1) (some ⟨w1.heap.size, 0, none⟩) (1) (1) ([.int .i64 x]) ?_ ?_ ?_ ?_ ?_ ?_; rfl; rfl; omega; rfl; exact hown1.alloc _; rfl; exact Rd.blk (cs := #[.int .i64 x]) (blk_new _ _) rfl (by omega); exact (by simp [Value.oneCell']); omega; go_size; intro v2 w2 hown2 hg2 hat2; have hb2 : Below w.heap.size w w2 := (by first | exact hb1 | exact hb1.alloc (by omega) _ : Below w.heap.size w _).grown hg2 (by go_size) (own_ge hown1); have hs2 := hg2.size; (try simp at hs2))
          | (refine step_append_rd _ ?_ (.tmp 37) (.tmp 39) _ ?_ w.heap.size 3 i0 (.int .i64 0) 1 8 Tryz.underlying22 Hi0.out HI.out.1 HI.out.2.1 HI.out.2.2 rfl ?_ (v1) (0 + 0) ([] ++ (ints xs).take (0 * 1)) ?_ ?_ (w1.heap.size) (some ⟨w.heap.size, 0, none⟩) (1) (1) ([.int .i64 x]) ?_ ?_ ?_ ?_ ?_ ?_; rfl; rfl; omega; rfl; exact hown1; rfl; exact Rd.blk (cs := #[.int .i64 x]) (f := (0, 0)) ((hg1.block (w.heap.size) (by simp; omega) (by simp [Value.ownBlock])).trans (by first | exact blk_new2 _ _ _ | exact blk_old (blk_new _ _))) rfl (by omega); exact (by simp [Value.oneCell']); omega; go_size; intro v2 w2 hown2 hg2 hat2; have hb2 : Below w.heap.size w w2 := (by first | exact hb1 | exact hb1.alloc (by omega) _ : Below w.heap.size w _).grown hg2 (by go_size) (own_ge hown1); have hs2 := hg2.size; (try simp at hs2))
          | (refine step_append_rd _ ?_ (.tmp 37) (.tmp 39) _ ?_ w.heap.size 3 i0 (.int .i64 0) 1 8 Tryz.underlying22 Hi0.out HI.out.1 HI.out.2.1 HI.out.2.2 rfl ?_ (v1) (0 + 0) ([] ++ (ints xs).take (0 * 1)) ?_ ?_ (w1.heap.size) (some ⟨w.heap.size + 1, 0, none⟩) (1) (1) ([.int .i64 x]) ?_ ?_ ?_ ?_ ?_ ?_; rfl; rfl; omega; rfl; exact hown1; rfl; exact Rd.blk (cs := #[.int .i64 x]) (f := (0, 0)) ((hg1.block (w.heap.size + 1) (by simp) (by simp [Value.ownBlock])).trans (by first | exact blk_new2 _ _ _ | exact blk_old (blk_new _ _))) rfl (by omega); exact (by simp [Value.oneCell']); omega; go_size; intro v2 w2 hown2 hg2 hat2; have hb2 : Below w.heap.size w w2 := (by first | exact hb1 | exact hb1.alloc (by omega) _ : Below w.heap.size w _).grown hg2 (by go_size) (own_ge hown1); have hs2 := hg2.size; (try simp at hs2))
          | (refine step_append_rd _ ?_ (.tmp 40) (.tmp 43) _ ?_ w.heap.size 3 i0 (.int .i64 0) 1 8 Tryz.underlying22 Hi0.out HI.out.1 HI.out.2.1 HI.out.2.2 rfl ?_ (v2) (0 + 0 + 1) ([] ++ (ints xs).take (0 * 1) ++ [.int .i64 x]) ?_ ?_ (B) (none) (0) (0) ((ints xs).drop (0 * 1)) ?_ ?_ ?_ ?_ ?_ ?_; rfl; rfl; omega; rfl; exact hown2; rfl; exact HD.out.below (C := w.heap.size) hb2 hB; exact (by rw [ints_drop]; exact ints_one _); omega; go_size; intro v3 w3 hown3 hg3 hat3; have hb3 : Below w.heap.size w w3 := hb2.grown hg3 (by go_size) (own_ge hown2))
          )
        all_goals
          go_wp2
          go_ret
          refine ⟨v3, rfl, ?_, hb3⟩
          have e1 : 0 + 0 + 1 + (0) = (ins x xs).length := by rw [hz.out]; simp [Hn.out]; try omega
          have e2 : [] ++ (ints xs).take (0 * 1) ++ [Value.int .i64 x] ++ (ints xs).drop (0 * 1) = ints (ins x xs) := by rw [hz.out, ints_take, ints_drop]; simp [ints]
          rw [e1, e2] at hown3
          exact IsInts.own hown3
      · by_cases hcj : c = j
        · have hcj' : j = c := hcj.symm
          subst hcj'
          go_wp2
          have HT := Lib.hid (HR.out.take_ hj)
          have HD : Hid (Rd w B 1 ((ints xs).drop (j * 1)) (some ⟨g, o, sp⟩) (0)) := Lib.hid (hdr.out _)
          go_region_law (first
            | (refine step_append_rd _ ?_ (.tmp 33) (.tmp 36) _ ?_ w.heap.size 3 i0 (.int .i64 0) 1 8 Tryz.underlying22 Hi0.out HI.out.1 HI.out.2.1 HI.out.2.2 rfl ?_ (.slice (some ⟨w.heap.size, 0, none⟩) 0 0) (0) ([]) ?_ ?_ (B) (some ⟨g, o, sp⟩) (j) (j) ((ints xs).take (j * 1)) ?_ ?_ ?_ ?_ ?_ ?_; rfl; rfl; omega; rfl; exact own_empty (by first | exact blk_new _ _ | exact blk_old (blk_new _ _) | exact blk_new2 _ _ _) (by go_size); rfl; exact HT.out.below (C := w.heap.size) (by go_grown) hB; exact (by rw [ints_take]; exact ints_one _); omega; go_size; intro v1 w1 hown1 hg1 hat1; have hb1 : Below w.heap.size w w1 := (by go_grown : Below w.heap.size w _).grown hg1 (by go_size) (by simp [Value.ownBlock]); have hs1 := hg1.size; (try simp at hs1))
            | (refine step_append_rd _ ?_ (.tmp 33) (.tmp 36) _ ?_ w.heap.size 3 i0 (.int .i64 0) 1 8 Tryz.underlying22 Hi0.out HI.out.1 HI.out.2.1 HI.out.2.2 rfl ?_ (.slice (some ⟨w.heap.size + 1, 0, none⟩) 0 0) (0) ([]) ?_ ?_ (B) (some ⟨g, o, sp⟩) (j) (j) ((ints xs).take (j * 1)) ?_ ?_ ?_ ?_ ?_ ?_; rfl; rfl; omega; rfl; exact own_empty (by first | exact blk_new _ _ | exact blk_old (blk_new _ _) | exact blk_new2 _ _ _) (by go_size); rfl; exact HT.out.below (C := w.heap.size) (by go_grown) hB; exact (by rw [ints_take]; exact ints_one _); omega; go_size; intro v1 w1 hown1 hg1 hat1; have hb1 : Below w.heap.size w w1 := (by go_grown : Below w.heap.size w _).grown hg1 (by go_size) (by simp [Value.ownBlock]); have hs1 := hg1.size; (try simp at hs1))
            | (refine step_append_rd _ ?_ (.tmp 37) (.tmp 39) _ ?_ w.heap.size 3 i0 (.int .i64 0) 1 8 Tryz.underlying22 Hi0.out HI.out.1 HI.out.2.1 HI.out.2.2 rfl ?_ (v1) (0 + j) ([] ++ (ints xs).take (j * 1)) ?_ ?_ (w1.heap.size + 1) (some ⟨w1.heap.size, 0, none⟩) (1) (1) ([.int .i64 x]) ?_ ?_ ?_ ?_ ?_ ?_; rfl; rfl; omega; rfl; exact hown1.alloc _; rfl; exact Rd.blk (cs := #[.int .i64 x]) (blk_new _ _) rfl (by omega); exact (by simp [Value.oneCell']); omega; go_size; intro v2 w2 hown2 hg2 hat2; have hb2 : Below w.heap.size w w2 := (by first | exact hb1 | exact hb1.alloc (by omega) _ : Below w.heap.size w _).grown hg2 (by go_size) (own_ge hown1); have hs2 := hg2.size; (try simp at hs2))
            | (refine step_append_rd _ ?_ (.tmp 37) (.tmp 39) _ ?_ w.heap.size 3 i0 (.int .i64 0) 1 8 Tryz.underlying22 Hi0.out HI.out.1 HI.out.2.1 HI.out.2.2 rfl ?_ (v1) (0 + j) ([] ++ (ints xs).take (j * 1)) ?_ ?_ (w1.heap.size) (some ⟨w.heap.size, 0, none⟩) (1) (1) ([.int .i64 x]) ?_ ?_ ?_ ?_ ?_ ?_; rfl; rfl; omega; rfl; exact hown1; rfl; exact Rd.blk (cs := #[.int .i64 x]) (f := (0, 0)) ((hg1.block (w.heap.size) (by simp; omega) (by simp [Value.ownBlock])).trans (by first | exact blk_new2 _ _ _ | exact blk_old (blk_new _ _))) rfl (by omega); exact (by simp [Value.oneCell']); omega; go_size; intro v2 w2 hown2 hg2 hat2; have hb2 : Below w.heap.size w w2 := (by first | exact hb1 | exact hb1.alloc (by omega) _ : Below w.heap.size w _).grown hg2 (by go_size) (own_ge hown1); have hs2 := hg2.size; (try simp at hs2))
            | (refine step_append_rd _ ?_ (.tmp 37) (.tmp 39) _ ?_ w.heap.size 3 i0 (.int .i64 0) 1 8 Tryz.underlying22 Hi0.out HI.out.1 HI.out.2.1 HI.out.2.2 rfl ?_ (v1) (0 + j) ([] ++ (ints xs).take (j * 1)) ?_ ?_ (w1.heap.size) (some ⟨w.heap.size + 1, 0, none⟩) (1) (1) ([.int .i64 x]) ?_ ?_ ?_ ?_ ?_ ?_; rfl; rfl; omega; rfl; exact hown1; rfl; exact Rd.blk (cs := #[.int .i64 x]) (f := (0, 0)) ((hg1.block (w.heap.size + 1) (by simp) (by simp [Value.ownBlock])).trans (by first | exact blk_new2 _ _ _ | exact blk_old (blk_new _ _))) rfl (by omega); exact (by simp [Value.oneCell']); omega; go_size; intro v2 w2 hown2 hg2 hat2; have hb2 : Below w.heap.size w w2 := (by first | exact hb1 | exact hb1.alloc (by omega) _ : Below w.heap.size w _).grown hg2 (by go_size) (own_ge hown1); have hs2 := hg2.size; (try simp at hs2))
            | (refine step_append_rd _ ?_ (.tmp 40) (.tmp 43) _ ?_ w.heap.size 3 i0 (.int .i64 0) 1 8 Tryz.underlying22 Hi0.out HI.out.1 HI.out.2.1 HI.out.2.2 rfl ?_ (v2) (0 + j + 1) ([] ++ (ints xs).take (j * 1) ++ [.int .i64 x]) ?_ ?_ (B) (some ⟨g, o, sp⟩) (0) (0) ((ints xs).drop (j * 1)) ?_ ?_ ?_ ?_ ?_ ?_; rfl; rfl; omega; rfl; exact hown2; rfl; exact HD.out.below (C := w.heap.size) hb2 hB; exact (by rw [ints_drop]; exact ints_one _); omega; go_size; intro v3 w3 hown3 hg3 hat3; have hb3 : Below w.heap.size w w3 := hb2.grown hg3 (by go_size) (own_ge hown2))
            )
          all_goals
            go_wp2
            go_ret
            refine ⟨v3, rfl, ?_, hb3⟩
            have e1 : 0 + j + 1 + (0) = (ins x xs).length := by rw [hz.out]; simp [Hn.out]; try omega
            have e2 : [] ++ (ints xs).take (j * 1) ++ [Value.int .i64 x] ++ (ints xs).drop (j * 1) = ints (ins x xs) := by rw [hz.out, ints_take, ints_drop]; simp [ints]
            rw [e1, e2] at hown3
            exact IsInts.own hown3
        · obtain rfl : sp = none := Hspot.out _ rfl (by omega)
          go_wp2
          have HT := Lib.hid (HR.out.take_ hj)
          have HD : Hid (Rd w B 1 ((ints xs).drop (j * 1)) (some ⟨g, o + j, none⟩) (0)) := Lib.hid (hdr.out _)
          go_region_law (first
            | (refine step_append_rd _ ?_ (.tmp 33) (.tmp 36) _ ?_ w.heap.size 3 i0 (.int .i64 0) 1 8 Tryz.underlying22 Hi0.out HI.out.1 HI.out.2.1 HI.out.2.2 rfl ?_ (.slice (some ⟨w.heap.size, 0, none⟩) 0 0) (0) ([]) ?_ ?_ (B) (some ⟨g, o, none⟩) (j) (c) ((ints xs).take (j * 1)) ?_ ?_ ?_ ?_ ?_ ?_; rfl; rfl; omega; rfl; exact own_empty (by first | exact blk_new _ _ | exact blk_old (blk_new _ _) | exact blk_new2 _ _ _) (by go_size); rfl; exact HT.out.below (C := w.heap.size) (by go_grown) hB; exact (by rw [ints_take]; exact ints_one _); omega; go_size; intro v1 w1 hown1 hg1 hat1; have hb1 : Below w.heap.size w w1 := (by go_grown : Below w.heap.size w _).grown hg1 (by go_size) (by simp [Value.ownBlock]); have hs1 := hg1.size; (try simp at hs1))
            | (refine step_append_rd _ ?_ (.tmp 33) (.tmp 36) _ ?_ w.heap.size 3 i0 (.int .i64 0) 1 8 Tryz.underlying22 Hi0.out HI.out.1 HI.out.2.1 HI.out.2.2 rfl ?_ (.slice (some ⟨w.heap.size + 1, 0, none⟩) 0 0) (0) ([]) ?_ ?_ (B) (some ⟨g, o, none⟩) (j) (c) ((ints xs).take (j * 1)) ?_ ?_ ?_ ?_ ?_ ?_; rfl; rfl; omega; rfl; exact own_empty (by first | exact blk_new _ _ | exact blk_old (blk_new _ _) | exact blk_new2 _ _ _) (by go_size); rfl; exact HT.out.below (C := w.heap.size) (by go_grown) hB; exact (by rw [ints_take]; exact ints_one _); omega; go_size; intro v1 w1 hown1 hg1 hat1; have hb1 : Below w.heap.size w w1 := (by go_grown : Below w.heap.size w _).grown hg1 (by go_size) (by simp [Value.ownBlock]); have hs1 := hg1.size; (try simp at hs1))
            | (refine step_append_rd _ ?_ (.tmp 37) (.tmp 39) _ ?_ w.heap.size 3 i0 (.int .i64 0) 1 8 Tryz.underlying22 Hi0.out HI.out.1 HI.out.2.1 HI.out.2.2 rfl ?_ (v1) (0 + j) ([] ++ (ints xs).take (j * 1)) ?_ ?_ (w1.heap.size + 1) (some ⟨w1.heap.size, 0, none⟩) (1) (1) ([.int .i64 x]) ?_ ?_ ?_ ?_ ?_ ?_; rfl; rfl; omega; rfl; exact hown1.alloc _; rfl; exact Rd.blk (cs := #[.int .i64 x]) (blk_new _ _) rfl (by omega); exact (by simp [Value.oneCell']); omega; go_size; intro v2 w2 hown2 hg2 hat2; have hb2 : Below w.heap.size w w2 := (by first | exact hb1 | exact hb1.alloc (by omega) _ : Below w.heap.size w _).grown hg2 (by go_size) (own_ge hown1); have hs2 := hg2.size; (try simp at hs2))
            | (refine step_append_rd _ ?_ (.tmp 37) (.tmp 39) _ ?_ w.heap.size 3 i0 (.int .i64 0) 1 8 Tryz.underlying22 Hi0.out HI.out.1 HI.out.2.1 HI.out.2.2 rfl ?_ (v1) (0 + j) ([] ++ (ints xs).take (j * 1)) ?_ ?_ (w1.heap.size) (some ⟨w.heap.size, 0, none⟩) (1) (1) ([.int .i64 x]) ?_ ?_ ?_ ?_ ?_ ?_; rfl; rfl; omega; rfl; exact hown1; rfl; exact Rd.blk (cs := #[.int .i64 x]) (f := (0, 0)) ((hg1.block (w.heap.size) (by simp; omega) (by simp [Value.ownBlock])).trans (by first | exact blk_new2 _ _ _ | exact blk_old (blk_new _ _))) rfl (by omega); exact (by simp [Value.oneCell']); omega; go_size; intro v2 w2 hown2 hg2 hat2; have hb2 : Below w.heap.size w w2 := (by first | exact hb1 | exact hb1.alloc (by omega) _ : Below w.heap.size w _).grown hg2 (by go_size) (own_ge hown1); have hs2 := hg2.size; (try simp at hs2))
            | (refine step_append_rd _ ?_ (.tmp 37) (.tmp 39) _ ?_ w.heap.size 3 i0 (.int .i64 0) 1 8 Tryz.underlying22 Hi0.out HI.out.1 HI.out.2.1 HI.out.2.2 rfl ?_ (v1) (0 + j) ([] ++ (ints xs).take (j * 1)) ?_ ?_ (w1.heap.size) (some ⟨w.heap.size + 1, 0, none⟩) (1) (1) ([.int .i64 x]) ?_ ?_ ?_ ?_ ?_ ?_; rfl; rfl; omega; rfl; exact hown1; rfl; exact Rd.blk (cs := #[.int .i64 x]) (f := (0, 0)) ((hg1.block (w.heap.size + 1) (by simp) (by simp [Value.ownBlock])).trans (by first | exact blk_new2 _ _ _ | exact blk_old (blk_new _ _))) rfl (by omega); exact (by simp [Value.oneCell']); omega; go_size; intro v2 w2 hown2 hg2 hat2; have hb2 : Below w.heap.size w w2 := (by first | exact hb1 | exact hb1.alloc (by omega) _ : Below w.heap.size w _).grown hg2 (by go_size) (own_ge hown1); have hs2 := hg2.size; (try simp at hs2))
            | (refine step_append_rd _ ?_ (.tmp 40) (.tmp 43) _ ?_ w.heap.size 3 i0 (.int .i64 0) 1 8 Tryz.underlying22 Hi0.out HI.out.1 HI.out.2.1 HI.out.2.2 rfl ?_ (v2) (0 + j + 1) ([] ++ (ints xs).take (j * 1) ++ [.int .i64 x]) ?_ ?_ (B) (some ⟨g, o + j, none⟩) (0) (c - j) ((ints xs).drop (j * 1)) ?_ ?_ ?_ ?_ ?_ ?_; rfl; rfl; omega; rfl; exact hown2; rfl; exact HD.out.below (C := w.heap.size) hb2 hB; exact (by rw [ints_drop]; exact ints_one _); omega; go_size; intro v3 w3 hown3 hg3 hat3; have hb3 : Below w.heap.size w w3 := hb2.grown hg3 (by go_size) (own_ge hown2))
            )
          all_goals
            go_wp2
            go_ret
            refine ⟨v3, rfl, ?_, hb3⟩
            have e1 : 0 + j + 1 + (0) = (ins x xs).length := by rw [hz.out]; simp [Hn.out]; try omega
            have e2 : [] ++ (ints xs).take (j * 1) ++ [Value.int .i64 x] ++ (ints xs).drop (j * 1) = ints (ins x xs) := by rw [hz.out, ints_take, ints_drop]; simp [ints]
            rw [e1, e2] at hown3
            exact IsInts.own hown3
end Go.Proofs.YtdjldmpfginkdaaGreatDoor
namespace Go.Proofs.YtdjldmpfginkdaaGreatDoor
open Go.RowKit
attribute [local go_sem ↓] Go.wp_at_zero Go.wp_at_succ

theorem take_all {α : Type} {l : List α} {n : Nat} (h : l.length = n) : l.take n = l := List.take_of_length_le (by omega)
theorem insAll_snoc (l xs : List Int) (x : Int) : insAll l (xs ++ [x]) = ins x (insAll l xs) := by rw [insAll_append]; rfl
theorem insAll_len0 (xs : List Int) : (insAll [] xs).length ≤ xs.length := by
  have := (insAll_len [] xs).2
  simpa using this
/-- The boxes of an instruction and of its fields. -/
structure UB (w : World) (x : Ins) (A : Option Addr) (c fb : Nat) (W : World) : Prop where
  c2 : W.cell? ⟨w.heap.size, 2, none⟩ = some (.int .i64 x.a)
  c3 : W.cell? ⟨w.heap.size, 3, none⟩ = some (.int .i64 x.b)
  c6 : W.cell? ⟨w.heap.size, 6, none⟩ = some (.slice A x.args.length c)
  s1 : W.cell? ⟨fb, 1, none⟩ = some (.bool (oA x.op))
  s2 : W.cell? ⟨fb, 2, none⟩ = some (.bool (oB x.op x.imm))
  s5 : W.cell? ⟨fb, 5, none⟩ = some (.bool (oL x.op))
  bw : Below w.heap.size w W
  lt : w.heap.size < fb
  le : fb < W.heap.size
theorem UB.step {w W W' : World} {x : Ins} {A : Option Addr} {c fb : Nat} (h : UB w x A c fb W) (hb : Below W.heap.size W W') : UB w x A c fb W' := by
  have hl := h.lt
  have hl2 := h.le
  have hs := hb.size
  have h1 : ∀ (i : Nat) (v : Value), W.cell? ⟨w.heap.size, i, none⟩ = some v → W'.cell? ⟨w.heap.size, i, none⟩ = some v := fun i v e => (hb.cell (p := ⟨w.heap.size, i, none⟩) (by simp; omega)).trans e
  have h2 : ∀ (i : Nat) (v : Value), W.cell? ⟨fb, i, none⟩ = some v → W'.cell? ⟨fb, i, none⟩ = some v := fun i v e => (hb.cell (p := ⟨fb, i, none⟩) (by simp; omega)).trans e
  exact ⟨h1 _ _ h.c2, h1 _ _ h.c3, h1 _ _ h.c6, h2 _ _ h.s1, h2 _ _ h.s2, h2 _ _ h.s5, below_step h.bw hb, hl, by omega⟩
/-- The row so far. -/
def UR (L : List Int) (v : Value) (W : World) : Prop := IsInts W W.heap.size L v
set_option maxRecDepth 100000 in
set_option maxHeartbeats 8000000 in
theorem c_RefUses (x : Ins) (A : Option Addr) (c : Nat) (TA : Option Addr) (tc : Nat) (EA : Option Addr) (ec : Nat) (w : World) (B : Nat)
    (hx : IsInts w B x.args (.slice A x.args.length c)) (hB : B ≤ w.heap.size) (hla : x.args.length ≤ 2 ^ 20) :
    Calls Tryz.prog 38 #[.agg #[.int .i64 x.op, .int .i64 x.dst, .int .i64 x.a, .int .i64 x.b, .int .i64 x.imm, .string x.name, .slice A x.args.length c, .int .i64 x.ty.kind, .string x.ty.name, .int .i64 x.ty.index, .slice TA x.ty.args.length tc, .int .i64 x.ck, .int .i64 x.ci, .string x.cs, .slice EA x.ce ec]] w (RetInts x.uses w) := by
  have HS := Lib.hid (fun (W : World) => c_fieldsOf x.op x.imm (.int .i64 x.dst) (.int .i64 x.a) (.int .i64 x.b) (.string x.name) (.slice A x.args.length c) (.int .i64 x.ty.kind) (.string x.ty.name) (.int .i64 x.ty.index) (.slice TA x.ty.args.length tc) (.int .i64 x.ck) (.int .i64 x.ci) (.string x.cs) (.slice EA x.ce ec) W)
  unfold FldR at HS
  have HX := Lib.hid (fun (W : World) (hW : Below w.heap.size w W) => hx.below hW hB)
  have hrl := regs_len x
  have HU : Hid (insAll [] x.regs = x.uses) := Lib.hid rfl
  have HR : Hid (x.regs = (if oA x.op = true then [x.a] else []) ++ ((if oB x.op x.imm = true then [x.b] else []) ++ (if oL x.op = true then x.args else []))) := Lib.hid rfl
  clear hx
  go_enter Tryz.func38, Tryz.ntmps38
  go_wp2_with fail
  refine (HS.out _).mono ?_
  rintro e w1 ⟨rfl, hb1⟩
  have HUB : Hid (UB w x A c w1.heap.size (w1.alloc (.cells #[.bool (oD x.op), .bool (oA x.op), .bool (oB x.op x.imm), .bool (oI x.op), .bool (oN x.op), .bool (oL x.op), .bool (oT x.op), .bool (oC x.op)] 79))) := Lib.hid (by
    have hs1 := hb1.size
    simp at hs1
    have hc : ∀ i, (w1.alloc (.cells #[.bool (oD x.op), .bool (oA x.op), .bool (oB x.op x.imm), .bool (oI x.op), .bool (oN x.op), .bool (oL x.op), .bool (oT x.op), .bool (oC x.op)] 79)).cell? ⟨w.heap.size, i, none⟩ = (w.alloc (.cells #[.int .i64 x.op, .int .i64 x.dst, .int .i64 x.a, .int .i64 x.b, .int .i64 x.imm, .string x.name, .slice A x.args.length c, .int .i64 x.ty.kind, .string x.ty.name, .int .i64 x.ty.index, .slice TA x.ty.args.length tc, .int .i64 x.ck, .int .i64 x.ci, .string x.cs, .slice EA x.ce ec] 38)).cell? ⟨w.heap.size, i, none⟩ := fun i =>
      ((below_new w1 _).cell (p := ⟨w.heap.size, i, none⟩) (by simp; omega)).trans (hb1.cell (p := ⟨w.heap.size, i, none⟩) (by simp))
    refine ⟨(hc _).trans ?_, (hc _).trans ?_, (hc _).trans ?_, ?_, ?_, ?_, below_step (below_step (below_new w _) hb1) (below_new _ _), by omega, by simp⟩
    · rw [cell_of_row _ w.heap.size _ _ _ _ (blk_new _ _)]; rfl
    · rw [cell_of_row _ w.heap.size _ _ _ _ (blk_new _ _)]; rfl
    · rw [cell_of_row _ w.heap.size _ _ _ _ (blk_new _ _)]; rfl
    · rw [cell_of_row _ w1.heap.size _ _ _ _ (blk_new _ _)]; rfl
    · rw [cell_of_row _ w1.heap.size _ _ _ _ (blk_new _ _)]; rfl
    · rw [cell_of_row _ w1.heap.size _ _ _ _ (blk_new _ _)]; rfl)
  clear HS hb1
  go_upto_if 9 with fail
  generalize hW2 : w1.alloc _ = w2
  rw [hW2] at HUB
  clear hW2
  generalize w1.heap.size = fb at *
  obtain ⟨p1, hp1⟩ : ∃ p, p = (if oA x.op = true then [x.a] else []) := ⟨_, rfl⟩
  obtain ⟨p2, hp2⟩ : ∃ p, p = (if oB x.op x.imm = true then [x.b] else []) := ⟨_, rfl⟩
  have hl1 : p1.length ≤ 1 := by rw [hp1]; split <;> simp
  have hl2 : p2.length ≤ 1 := by rw [hp2]; split <;> simp
  have HP1 := Lib.hid hp1
  have HP2 := Lib.hid hp2
  clear hp1 hp2
  have s1 := HUB.out.s1
  go_cut [4] from 6 to 14 (fun v wx => Hid (UB w x A c fb wx) ∧ Hid (UR (insAll [] p1) v wx))
  case first =>
    clear s1
    by_cases ha : oA x.op = true
    · have hp : p1 = [x.a] := by rw [HP1.out, if_pos ha]
      rw [ha]
      have c2 := HUB.out.c2
      go_wp2_with fail
      refine (c_inserted [] x.a (.slice none 0 0) w2 w2.heap.size (IsInts.nil _ _) (Nat.le_refl _) (by simp)).mono ?_
      rintro e w3 ⟨v3, rfl, hi3, hb3⟩
      have H3 := Lib.hid (HUB.out.step hb3)
      have HI3 : Hid (UR (insAll [] p1) v3 w3) := Lib.hid (by rw [hp]; exact hi3)
      clear hi3 hb3
      go_wp2
      go_meet
      exact ⟨H3, HI3⟩
    · have hp : p1 = [] := by rw [HP1.out, if_neg ha]
      have ha' : oA x.op = false := by simpa using ha
      rw [ha']
      have HI3 : Hid (UR (insAll [] p1) (.slice none 0 0) w2) := Lib.hid (by rw [hp]; exact IsInts.nil _ _)
      go_wp2
      go_meet
      exact ⟨HUB, HI3⟩
  case rest =>
    obtain ⟨HC, HV⟩ := hcut
    clear HUB s1
    have s2 := HC.out.s2
    go_upto_if 15 with fail
    go_cut [4] from 6 to 19 (fun v wx => Hid (UB w x A c fb wx) ∧ Hid (UR (insAll [] (p1 ++ p2)) v wx))
    case first =>
      clear s2
      by_cases ha : oB x.op x.imm = true
      · have hp : p2 = [x.b] := by rw [HP2.out, if_pos ha]
        rw [ha]
        have c3 := HC.out.c3
        go_wp2_with fail
        have hl := insAll_len0 p1
        refine (c_inserted (insAll [] p1) x.b _ wc wc.heap.size HV.out (Nat.le_refl _) (by omega)).mono ?_
        rintro e w3 ⟨v3, rfl, hi3, hb3⟩
        have H3 := Lib.hid (HC.out.step hb3)
        have HI3 : Hid (UR (insAll [] (p1 ++ p2)) v3 w3) := Lib.hid (by rw [hp, insAll_snoc]; exact hi3)
        clear hi3 hb3
        go_wp2
        go_meet
        exact ⟨H3, HI3⟩
      · have hp : p2 = [] := by rw [HP2.out, if_neg ha]
        have ha' : oB x.op x.imm = false := by simpa using ha
        rw [ha']
        have HI3 : Hid (UR (insAll [] (p1 ++ p2)) u4 wc) := Lib.hid (by rw [hp, List.append_nil]; exact HV.out)
        go_wp2
        go_meet
        exact ⟨HC, HI3⟩
    case rest =>
      obtain ⟨HC2, HV2⟩ := hcut
      clear HC HV s2
      obtain ⟨wp, rfl⟩ : ∃ wp : World, wp = wc := ⟨_, rfl⟩
      have HQ := Lib.hid (show x.regs = p1 ++ (p2 ++ (if oL x.op = true then x.args else [])) by rw [HR.out, HP1.out, HP2.out])
      generalize hla0 : x.args.length = la at *
      have HLA := Lib.hid hla0
      clear hla0
      go_wp2
      go_loopw [4, 5] (fun v i wr => ∃ (j : Nat), j ≤ la ∧ i = .int .i64 j ∧ (j = 0 ∨ oL x.op = true) ∧ Hid (UB w x A c fb wr) ∧ Hid (UR (insAll [] (p1 ++ p2 ++ x.args.take j)) v wr)) (fun _ i _ => la - (intOf i).toNat)
      case atStart => exact ⟨0, by omega, rfl, .inl rfl, HC2, Lib.hid (by simpa using HV2.out)⟩
      case round =>
        obtain ⟨j, hj, rfl, hjo, HB, HV⟩ := hrel
        clear HC2 HV2
        have c6 : wr.cell? ⟨w.heap.size, 6, none⟩ = some (.slice A la c) := by have := HB.out.c6; rw [HLA.out] at this; exact this
        have s5 := HB.out.s5
        by_cases hjn : j < la
        · by_cases hl : oL x.op = true
          · obtain ⟨g, o, hj', rfl, _, k1⟩ := (HX.out _ HB.out.bw).at_ (w' := wr) (fun _ _ => rfl) hjn
            have HT := Lib.hid (show insAll [] (p1 ++ p2 ++ x.args.take (j + 1)) = ins x.args[j] (insAll [] (p1 ++ p2 ++ x.args.take j)) by
              rw [List.take_succ_eq_append_getElem (by omega), ← List.append_assoc, insAll_snoc])
            have hln := insAll_len0 (p1 ++ p2 ++ x.args.take j)
            have hln2 : (p1 ++ p2 ++ x.args.take j).length ≤ 2 ^ 30 := by simp; omega
            generalize x.args[j] = y at *
            have hj0 : (0 : Int) ≤ (j : Int) := by omega
            have hj1 : (j : Int) < (la : Int) := by omega
            go_wp2_with fail
            refine (c_inserted _ y _ wr wr.heap.size HV.out (Nat.le_refl _) (Nat.le_trans hln hln2)).mono ?_
            rintro e w3 ⟨v3, rfl, hi3, hb3⟩
            have H3 := Lib.hid (HB.out.step hb3)
            have HI3 : Hid (UR (insAll [] (p1 ++ p2 ++ x.args.take (j + 1))) v3 w3) := Lib.hid (by rw [HT.out]; exact hi3)
            clear hi3 hb3
            go_wp2
            go_roundw
            case rel => exact ⟨j + 1, by omega, by go_num, .inr hl, H3, HI3⟩
            case measure => simp [intOf]; omega
          · have hl' : oL x.op = false := by simpa using hl
            obtain rfl : j = 0 := by
              rcases hjo with h | h
              · exact h
              · exact absurd h hl
            have HE : Hid (UR x.uses u4 wr) := Lib.hid (by
              rw [← HU.out, HQ.out, if_neg hl]
              simpa using HV.out)
            have HBW := Lib.hid HB.out.bw
            have hj1 : (0 : Int) < (la : Int) := by omega
            rw [hl'] at s5
            go_wp2
            go_ret
            exact ⟨_, rfl, HE.out, HBW.out⟩
        · have HE : Hid (UR x.uses u4 wr) := Lib.hid (by
            have h := HV.out
            rw [← HU.out, HQ.out]
            rcases hjo with h0 | h0
            · have : x.args = [] := List.eq_nil_of_length_eq_zero (by have := HLA.out; omega)
              rw [this] at h ⊢
              simpa using h
            · rw [if_pos h0, ← List.append_assoc]
              rw [take_all (by have := HLA.out; omega)] at h
              exact h)
          have HBW := Lib.hid HB.out.bw
          have hj1 : ¬ (j : Int) < (la : Int) := by omega
          go_wp2
          go_ret
          exact ⟨_, rfl, HE.out, HBW.out⟩
set_option maxRecDepth 20000 in
set_option maxHeartbeats 4000000 in
theorem c_RefDef (op dst imm : Int) (u2 u3 u5 u6 u7 u8 u9 u10 u11 u12 u13 u14 : Value) (w : World) :
    Calls Tryz.prog 37 #[.agg #[.int .i64 op, .int .i64 dst, u2, u3, .int .i64 imm, u5, u6, u7, u8, u9, u10, u11, u12, u13, u14]] w fun e w' => e = .returned (.tuple #[.int .i64 (if oD op = true then dst else 0), .bool (oD op)]) ∧ Below w.heap.size w w' := by
  have HS := Lib.hid (fun (W : World) => c_fieldsOf op imm (.int .i64 dst) u2 u3 u5 u6 u7 u8 u9 u10 u11 u12 u13 u14 W)
  unfold FldR at HS
  have hfd : ∀ (w : World) (b0 b1 b2 b3 b4 b5 b6 b7 : Bool), (Instr.field 79 (.agg #[.bool b0, .bool b1, .bool b2, .bool b3, .bool b4, .bool b5, .bool b6, .bool b7]) 0).run Tryz.prog w = .ok (.bool b0) w := fun _ _ _ _ _ _ _ _ _ => by kernel_rfl
  by_cases hd : oD op = true
  · rw [hd] at HS ⊢
    rw [if_pos rfl]
    go_enter Tryz.func37, Tryz.ntmps37
    go_wp2_with fail
    refine (HS.out _).mono ?_
    rintro e w1 ⟨rfl, hb1⟩
    have d1 : w1.cell? ⟨w.heap.size, 1, none⟩ = some (.int .i64 dst) := (hb1.cell (p := ⟨w.heap.size, 1, none⟩) (by simp)).trans (by rw [cell_of_row _ w.heap.size _ _ _ _ (blk_new _ _)]; rfl)
    have HB := Lib.hid (below_step (below_new w _) hb1)
    clear hb1 HS
    go_wp2
    go_returns
    exact ⟨rfl, HB.out⟩
  · have hd' : oD op = false := by simpa using hd
    rw [hd'] at HS ⊢
    rw [if_neg (by decide)]
    go_enter Tryz.func37, Tryz.ntmps37
    go_wp2_with fail
    refine (HS.out _).mono ?_
    rintro e w1 ⟨rfl, hb1⟩
    have HB := Lib.hid (below_step (below_new w _) hb1)
    clear hb1 HS
    go_wp2
    go_returns
    exact ⟨rfl, HB.out⟩
end Go.Proofs.YtdjldmpfginkdaaGreatDoor
