/- Slices of Int, and the reference's insertion into a sorted set of them.
  Slices of ByteArray, and the reference's insertion into a sorted set of them. -/
import Derived.Test.YtdjldmpfginkdaaGreatDoorGBase
namespace Go.Proofs.YtdjldmpfginkdaaGreatDoor
open Go.RowKit
attribute [local go_sem ↓] Go.wp_at_zero Go.wp_at_succ

def ints (xs : List Int) : List Value := xs.map (Value.int .i64)
theorem ints_len (xs : List Int) : (ints xs).length = xs.length := by simp [ints]
theorem ints_get (xs : List Int) (j : Nat) (h : j < (ints xs).length) : (ints xs)[j] = .int .i64 (xs[j]'(by simpa [ints] using h)) := by simp [ints]
theorem ints_one (xs : List Int) : ∀ u ∈ ints xs, u.oneCell' = true := by
  intro u hu
  simp only [ints, List.mem_map] at hu
  obtain ⟨a, _, rfl⟩ := hu
  rfl
theorem ints_take (xs : List Int) (k : Nat) : (ints xs).take (k * 1) = ints (xs.take k) := by simp [ints]
theorem ints_drop (xs : List Int) (k : Nat) : (ints xs).drop (k * 1) = ints (xs.drop k) := by simp [ints]
theorem ints_append (xs ys : List Int) : ints xs ++ ints ys = ints (xs ++ ys) := by simp [ints]

/-- A slice that reads as xs, below block B. -/
def IsInts (w : World) (B : Nat) (xs : List Int) (v : Value) : Prop := ∃ A c, v = .slice A xs.length c ∧ xs.length ≤ c ∧ c ≤ maxLen ∧ (A = none → c = 0) ∧ (∀ a, A = some a → c ≠ 0 → a.spot = none) ∧ Rd w B 1 (ints xs) A xs.length
theorem IsInts.keep {w w' : World} {B B' : Nat} {xs : List Int} {v : Value} (h : IsInts w B xs v) (hk : ∀ b, b < B → w'.heap[b]? = w.heap[b]?) (hB : B ≤ B') : IsInts w' B' xs v := by
  obtain ⟨A, c, hv, hc, hm, h0, hs, hr⟩ := h
  exact ⟨A, c, hv, hc, hm, h0, hs, hr.keep hk hB⟩
theorem IsInts.below {w w' : World} {B C : Nat} {xs : List Int} {v : Value} (h : IsInts w B xs v) (hb : Below C w w') (hB : B ≤ C) : IsInts w' B xs v :=
  h.keep (fun b hb' => hb.block b (by omega)) (Nat.le_refl _)
theorem IsInts.more {w : World} {B B' : Nat} {xs : List Int} {v : Value} (h : IsInts w B xs v) (hB : B ≤ B') : IsInts w B' xs v := h.keep (fun _ _ => rfl) hB
theorem IsInts.nil (w : World) (B : Nat) : IsInts w B [] (.slice none 0 0) := ⟨none, 0, rfl, by simp, by simp, fun _ => rfl, by simp, Rd.nil⟩
theorem IsInts.own {w : World} {base : Nat} {xs : List Int} {v : Value} (h : w.ownsRow base 3 1 v xs.length (ints xs)) : IsInts w w.heap.size xs v := by
  rcases h.2 with ⟨rfl, h0⟩ | ⟨g, cap, cur, rfl, hb, hh, hnc, hcm, hcs, ht⟩
  · have : xs = [] := List.eq_nil_of_length_eq_zero h0
    subst this
    exact IsInts.nil _ _
  · exact ⟨_, _, rfl, hnc, hcm, by simp, by simp, Rd.own h⟩
/-- A new slice comes back; nothing old has changed. -/
def RetInts (xs : List Int) (w : World) (e : Ending) (w' : World) : Prop := ∃ v, e = .returned v ∧ IsInts w' w'.heap.size xs v ∧ Below w.heap.size w w'
theorem ins_at (x : Int) (xs : List Int) (k : Nat) (hk : k ≤ xs.length) (h1 : ∀ (i : Nat) (hi : i < xs.length), i < k → xs[i] < x) (h2 : ∀ (h : k < xs.length), ¬ xs[k] < x) :
    (∀ (h : k < xs.length), xs[k] = x → ins x xs = xs) ∧ ((∀ (h : k < xs.length), ¬ xs[k] = x) → ins x xs = xs.take k ++ x :: xs.drop k) := by
  induction xs generalizing k with
  | nil => simp [ins]
  | cons y ys ih =>
    rcases k with _ | k
    · have h2' : ¬ y < x := h2 (by simp)
      refine ⟨fun _ e => ?_, fun e => ?_⟩
      · have e' : y = x := e
        simp only [ins]
        rw [if_neg h2', if_pos e']
      · have e' : ¬ y = x := e (by simp)
        simp only [ins]
        rw [if_neg h2', if_neg e']
        simp
    · have hy : y < x := h1 0 (by simp) (by omega)
      have := ih k (by simpa using hk) (fun i hi hik => h1 (i + 1) (by simpa using hi) (by omega)) (fun h => h2 (by simpa using h))
      refine ⟨fun h e => ?_, fun e => ?_⟩
      · simp only [ins, if_pos hy]
        rw [this.1 (by simpa using h) (by simpa using e)]
      · simp only [ins, if_pos hy]
        rw [this.2 (fun h => e (by simpa using h))]
        simp

set_option maxHeartbeats 4000000 in
theorem c_insertInt (xs : List Int) (x : Int) (v : Value) (w : World) (B : Nat) (hv : IsInts w B xs v) (hB : B ≤ w.heap.size) (hlen : xs.length ≤ 2 ^ 30) :
    Calls Tryz.prog 114 #[v, .int .i64 x] w (RetInts (ins x xs) w) := by
  obtain ⟨A, c, rfl, hc, hm, hnil, hspot, hr⟩ := hv
  have HR := Lib.hid hr; clear hr
  generalize hn : xs.length = n at *
  have Hn := Lib.hid hn; clear hn
  have Hm := Lib.hid hm; clear hm
  have Hnil := Lib.hid hnil; clear hnil
  have Hspot := Lib.hid hspot; clear hspot
  obtain ⟨i0, hi0, hz0, hz1, hz2⟩ := info_parts info_int
  have HI : Hid (i0.zero = some (.int .i64 0) ∧ i0.size = 1 ∧ i0.bytes = 8) := Lib.hid ⟨hz0, hz1, hz2⟩
  clear hz0 hz1 hz2
  have Hi0 := Lib.hid hi0
  clear hi0
  go_enter Tryz.func114, Tryz.ntmps114
  go_wp2
  go_loop [5] (fun i => ∃ j : Nat, j ≤ n ∧ i = .int .i64 j ∧ Hid (∀ (i : Nat) (hi : i < xs.length), i < j → xs[i] < x)) (fun i => n - (intOf i).toNat)
  case atStart => exact ⟨0, by omega, rfl, Lib.hid (fun _ _ h => by omega)⟩
  case round =>
    obtain ⟨j, hj, rfl, hall⟩ := hrel
    by_cases hjn : j < n
    · obtain ⟨g, o, hj', rfl, hg, hcell⟩ := HR.out.at_ (j := j) (by omega)
      rw [ints_get] at hcell
      by_cases hlt : (xs[j]'(by rw [Hn.out]; exact hjn)) < x
      · have hz : Hid (∀ (i : Nat) (hi : i < xs.length), i < j + 1 → xs[i] < x) := Lib.hid (fun i hi hij => by
          rcases Nat.lt_or_ge i j with h1 | h1
          · exact hall.out i hi h1
          · obtain rfl : i = j := by omega
            exact hlt)
        go_wp2
        go_round
        case rel => exact ⟨j + 1, by omega, by go_num, hz⟩
        case measure => simp [intOf]; omega
      · by_cases heq : (xs[j]'(by rw [Hn.out]; exact hjn)) = x
        · have hz := Lib.hid ((ins_at x xs j (by rw [Hn.out]; exact hj) hall.out (fun _ => hlt)).1 (by rw [Hn.out]; exact hjn) heq)
          have heq' : ((xs[j]'(by rw [Hn.out]; exact hjn)) == x) = true := by rw [beq_iff_eq]; exact heq
          clear heq
          go_wp2
          go_ret
          exact ⟨.slice (some ⟨g, o, none⟩) n c, rfl, by rw [hz.out]; exact ⟨_, _, by rw [Hn.out], by rw [Hn.out]; exact hc, Hm.out, by simp, by simp, by rw [Hn.out]; exact HR.out.more hB⟩, Below.refl _ _⟩
        · have hz := Lib.hid ((ins_at x xs j (by rw [Hn.out]; exact hj) hall.out (fun _ => hlt)).2 (fun _ => heq))
          have heq' : ((xs[j]'(by rw [Hn.out]; exact hjn)) == x) = false := by rw [beq_eq_false_iff_ne]; exact heq
          clear heq hall
          have hcj : ¬ c = j := by omega
          have hjc : j ≤ c := by omega
          have hin1 : (0 : Int) ≤ (j : Int) := by omega
          have hin2 : (j : Int) ≤ (n : Int) := by omega
          have hin3 : (n : Int) ≤ (c : Int) := by omega
          go_wp2
          have HT := Lib.hid (HR.out.take_ hj)
          have HD : Hid (Rd w B 1 ((ints xs).drop (j * 1)) (some ⟨g, o + j, none⟩) (n - j)) := Lib.hid (by simpa using HR.out.drop' hj)
          go_region_law (first
            | (refine step_append_rd _ ?_ (.tmp 33) (.tmp 36) _ ?_ w.heap.size 3 i0 (.int .i64 0) 1 8 Tryz.underlying22 Hi0.out HI.out.1 HI.out.2.1 HI.out.2.2 rfl ?_ (.slice (some ⟨w.heap.size, 0, none⟩) 0 0) (0) ([]) ?_ ?_ (B) (some ⟨g, o, none⟩) (j) (c) ((ints xs).take (j * 1)) ?_ ?_ ?_ ?_ ?_ ?_; rfl; rfl; omega; rfl; exact own_empty (by first | exact blk_new _ _ | exact blk_old (blk_new _ _) | exact blk_new2 _ _ _) (by go_size); rfl; exact HT.out.below (C := w.heap.size) (by go_grown) hB; exact (by rw [ints_take]; exact ints_one _); omega; go_size; intro v1 w1 hown1 hg1 hat1; have hb1 : Below w.heap.size w w1 := (by go_grown : Below w.heap.size w _).grown hg1 (by go_size) (by simp [Value.ownBlock]); have hs1 := hg1.size; (try simp at hs1))
            | (refine step_append_rd _ ?_ (.tmp 33) (.tmp 36) _ ?_ w.heap.size 3 i0 (.int .i64 0) 1 8 Tryz.underlying22 Hi0.out HI.out.1 HI.out.2.1 HI.out.2.2 rfl ?_ (.slice (some ⟨w.heap.size + 1, 0, none⟩) 0 0) (0) ([]) ?_ ?_ (B) (some ⟨g, o, none⟩) (j) (c) ((ints xs).take (j * 1)) ?_ ?_ ?_ ?_ ?_ ?_; rfl; rfl; omega; rfl; exact own_empty (by first | exact blk_new _ _ | exact blk_old (blk_new _ _) | exact blk_new2 _ _ _) (by go_size); rfl; exact HT.out.below (C := w.heap.size) (by go_grown) hB; exact (by rw [ints_take]; exact ints_one _); omega; go_size; intro v1 w1 hown1 hg1 hat1; have hb1 : Below w.heap.size w w1 := (by go_grown : Below w.heap.size w _).grown hg1 (by go_size) (by simp [Value.ownBlock]); have hs1 := hg1.size; (try simp at hs1))
            | (refine step_append_rd _ ?_ (.tmp 37) (.tmp 39) _ ?_ w.heap.size 3 i0 (.int .i64 0) 1 8 Tryz.underlying22 Hi0.out HI.out.1 HI.out.2.1 HI.out.2.2 rfl ?_ (v1) (0 + j) ([] ++ (ints xs).take (j * 1)) ?_ ?_ (w1.heap.size + 1) (some ⟨w1.heap.size, 0, none⟩) (1) (1) ([.int .i64 x]) ?_ ?_ ?_ ?_ ?_ ?_; rfl; rfl; omega; rfl; exact hown1.alloc _; rfl; exact Rd.blk (cs := #[.int .i64 x]) (blk_new _ _) rfl (by omega); exact (by simp [Value.oneCell']); omega; go_size; intro v2 w2 hown2 hg2 hat2; have hb2 : Below w.heap.size w w2 := (by first | exact hb1 | exact hb1.alloc (by omega) _ : Below w.heap.size w _).grown hg2 (by go_size) (own_ge hown1); have hs2 := hg2.size; (try simp at hs2))
            | (refine step_append_rd _ ?_ (.tmp 37) (.tmp 39) _ ?_ w.heap.size 3 i0 (.int .i64 0) 1 8 Tryz.underlying22 Hi0.out HI.out.1 HI.out.2.1 HI.out.2.2 rfl ?_ (v1) (0 + j) ([] ++ (ints xs).take (j * 1)) ?_ ?_ (w1.heap.size) (some ⟨w.heap.size, 0, none⟩) (1) (1) ([.int .i64 x]) ?_ ?_ ?_ ?_ ?_ ?_; rfl; rfl; omega; rfl; exact hown1; rfl; exact Rd.blk (cs := #[.int .i64 x]) (f := (0, 0)) ((hg1.block (w.heap.size) (by simp; omega) (by simp [Value.ownBlock])).trans (by first | exact blk_new2 _ _ _ | exact blk_old (blk_new _ _))) rfl (by omega); exact (by simp [Value.oneCell']); omega; go_size; intro v2 w2 hown2 hg2 hat2; have hb2 : Below w.heap.size w w2 := (by first | exact hb1 | exact hb1.alloc (by omega) _ : Below w.heap.size w _).grown hg2 (by go_size) (own_ge hown1); have hs2 := hg2.size; (try simp at hs2))
            | (refine step_append_rd _ ?_ (.tmp 37) (.tmp 39) _ ?_ w.heap.size 3 i0 (.int .i64 0) 1 8 Tryz.underlying22 Hi0.out HI.out.1 HI.out.2.1 HI.out.2.2 rfl ?_ (v1) (0 + j) ([] ++ (ints xs).take (j * 1)) ?_ ?_ (w1.heap.size) (some ⟨w.heap.size + 1, 0, none⟩) (1) (1) ([.int .i64 x]) ?_ ?_ ?_ ?_ ?_ ?_; rfl; rfl; omega; rfl; exact hown1; rfl; exact Rd.blk (cs := #[.int .i64 x]) (f := (0, 0)) ((hg1.block (w.heap.size + 1) (by simp) (by simp [Value.ownBlock])).trans (by first | exact blk_new2 _ _ _ | exact blk_old (blk_new _ _))) rfl (by omega); exact (by simp [Value.oneCell']); omega; go_size; intro v2 w2 hown2 hg2 hat2; have hb2 : Below w.heap.size w w2 := (by first | exact hb1 | exact hb1.alloc (by omega) _ : Below w.heap.size w _).grown hg2 (by go_size) (own_ge hown1); have hs2 := hg2.size; (try simp at hs2))
            | (refine step_append_rd _ ?_ (.tmp 40) (.tmp 43) _ ?_ w.heap.size 3 i0 (.int .i64 0) 1 8 Tryz.underlying22 Hi0.out HI.out.1 HI.out.2.1 HI.out.2.2 rfl ?_ (v2) (0 + j + 1) ([] ++ (ints xs).take (j * 1) ++ [.int .i64 x]) ?_ ?_ (B) (some ⟨g, o + j, none⟩) (n - j) (c - j) ((ints xs).drop (j * 1)) ?_ ?_ ?_ ?_ ?_ ?_; rfl; rfl; omega; rfl; exact hown2; rfl; exact HD.out.below (C := w.heap.size) hb2 hB; exact (by rw [ints_drop]; exact ints_one _); omega; go_size; intro v3 w3 hown3 hg3 hat3; have hb3 : Below w.heap.size w w3 := hb2.grown hg3 (by go_size) (own_ge hown2))
            )
          all_goals
            go_wp2
            go_ret
            refine ⟨v3, rfl, ?_, hb3⟩
            have e1 : 0 + j + 1 + (n - j) = (ins x xs).length := by rw [hz.out]; simp [Hn.out]; try omega
            have e2 : [] ++ (ints xs).take (j * 1) ++ [Value.int .i64 x] ++ (ints xs).drop (j * 1) = ints (ins x xs) := by rw [hz.out, ints_take, ints_drop]; simp [ints]
            rw [e1, e2] at hown3
            exact IsInts.own hown3
    · obtain rfl : j = n := by omega
      have hz := Lib.hid ((ins_at x xs j (by rw [Hn.out]; exact Nat.le_refl _) hall.out (fun h => absurd h (by rw [Hn.out]; omega))).2 (fun h => absurd h (by rw [Hn.out]; omega)))
      have hdr : Hid (∀ a, Rd w B 1 ((ints xs).drop (j * 1)) a 0) := Lib.hid (fun a => by
        have : (ints xs).drop (j * 1) = [] := List.drop_eq_nil_of_le (by rw [ints_len, Hn.out]; omega)
        rw [this]; exact Rd.nil)
      clear hall
      have hjc : j ≤ c := by omega
      have hin1 : (0 : Int) ≤ (j : Int) := by omega
      have hin3 : (j : Int) ≤ (c : Int) := by omega
      rcases A with _ | ⟨g, o, sp⟩
      · obtain rfl : c = 0 := Hnil.out rfl
        obtain rfl : j = 0 := by omega
        have hj : 0 ≤ 0 := Nat.le_refl _
        go_wp2
        have HT := Lib.hid (HR.out.take_ hj)
        have HD : Hid (Rd w B 1 ((ints xs).drop (0 * 1)) (none) (0)) := Lib.hid (hdr.out _)
        go_region_law (first
          | (refine step_append_rd _ ?_ (.tmp 33) (.tmp 36) _ ?_ w.heap.size 3 i0 (.int .i64 0) 1 8 Tryz.underlying22 Hi0.out HI.out.1 HI.out.2.1 HI.out.2.2 rfl ?_ (.slice (some ⟨w.heap.size, 0, none⟩) 0 0) (0) ([]) ?_ ?_ (B) (none) (0) (0) ((ints xs).take (0 * 1)) ?_ ?_ ?_ ?_ ?_ ?_; rfl; rfl; omega; rfl; exact own_empty (by first | exact blk_new _ _ | exact blk_old (blk_new _ _) | exact blk_new2 _ _ _) (by go_size); rfl; exact HT.out.below (C := w.heap.size) (by go_grown) hB; exact (by rw [ints_take]; exact ints_one _); omega; go_size; intro v1 w1 hown1 hg1 hat1; have hb1 : Below w.heap.size w w1 := (by go_grown : Below w.heap.size w _).grown hg1 (by go_size) (by simp [Value.ownBlock]); have hs1 := hg1.size; (try simp at hs1))
          | (refine step_append_rd _ ?_ (.tmp 33) (.tmp 36) _ ?_ w.heap.size 3 i0 (.int .i64 0) 1 8 Tryz.underlying22 Hi0.out HI.out.1 HI.out.2.1 HI.out.2.2 rfl ?_ (.slice (some ⟨w.heap.size + 1, 0, none⟩) 0 0) (0) ([]) ?_ ?_ (B) (none) (0) (0) ((ints xs).take (0 * 1)) ?_ ?_ ?_ ?_ ?_ ?_; rfl; rfl; omega; rfl; exact own_empty (by first | exact blk_new _ _ | exact blk_old (blk_new _ _) | exact blk_new2 _ _ _) (by go_size); rfl; exact HT.out.below (C := w.heap.size) (by go_grown) hB; exact (by rw [ints_take]; exact ints_one _); omega; go_size; intro v1 w1 hown1 hg1 hat1; have hb1 : Below w.heap.size w w1 := (by go_grown : Below w.heap.size w _).grown hg1 (by go_size) (by simp [Value.ownBlock]); have hs1 := hg1.size; (try simp at hs1))
          | (refine step_append_rd _ ?_ (.tmp 37) (.tmp 39) _ ?_ w.heap.size 3 i0 (.int .i64 0) 1 8 Tryz.underlying22 Hi0.out HI.out.1 HI.out.2.1 HI.out.2.2 rfl ?_ (v1) (0 + 0) ([] ++ (ints xs).take (0 * 1)) ?_ ?_ (w1.heap.size + 1) (some ⟨w1.heap.size, 0, none⟩) (1) (1) ([.int .i64 x]) ?_ ?_ ?_ ?_ ?_ ?_; rfl; rfl; omega; rfl; exact hown1.alloc _; rfl; exact Rd.blk (cs := #[.int .i64 x]) (blk_new _ _) rfl (by omega); exact (by simp [Value.oneCell']); omega; go_size; intro v2 w2 hown2 hg2 hat2; have hb2 : Below w.heap.size w w2 := (by first | exact hb1 | exact hb1.alloc (by omega) _ : Below w.heap.size w _).grown hg2 (by go_size) (own_ge hown1); have hs2 := hg2.size; (try simp at hs2))
          | (refine step_append_rd _ ?_ (.tmp 37) (.tmp 39) _ ?_ w.heap.size 3 i0 (.int .i64 0) 1 8 Tryz.underlying22 Hi0.out HI.out.1 HI.out.2.1 HI.out.2.2 rfl ?_ (v1) (0 + 0) ([] ++ (ints xs).take (0 * 1)) ?_ ?_ (w1.heap.size) (some ⟨w.heap.size, 0, none⟩) (1) (1) ([.int .i64 x]) ?_ ?_ ?_ ?_ ?_ ?_; rfl; rfl; omega; rfl; exact hown1; rfl; exact Rd.blk (cs := #[.int .i64 x]) (f := (0, 0)) ((hg1.block (w.heap.size) (by simp; omega) (by simp [Value.ownBlock])).trans (by first | exact blk_new2 _ _ _ | exact blk_old (blk_new _ _))) rfl (by omega); exact (by simp [Value.oneCell']); omega; go_size; intro v2 w2 hown2 hg2 hat2; have hb2 : Below w.heap.size w w2 := (by first | exact hb1 | exact hb1.alloc (by omega) _ : Below w.heap.size w _).grown hg2 (by go_size) (own_ge hown1); have hs2 := hg2.size; (try simp at hs2))
          | (refine step_append_rd _ ?_ (.tmp 37) (.tmp 39) _ ?_ w.heap.size 3 i0 (.int .i64 0) 1 8 Tryz.underlying22 Hi0.out HI.out.1 HI.out.2.1 HI.out.2.2 rfl ?_ (v1) (0 + 0) ([] ++ (ints xs).take (0 * 1)) ?_ ?_ (w1.heap.size) (some ⟨w.heap.size + 1, 0, none⟩) (1) (1) ([.int .i64 x]) ?_ ?_ ?_ ?_ ?_ ?_; rfl; rfl; omega; rfl; exact hown1; rfl; exact Rd.blk (cs := #[.int .i64 x]) (f := (0, 0)) ((hg1.block (w.heap.size + 1) (by simp) (by simp [Value.ownBlock])).trans (by first | exact blk_new2 _ _ _ | exact blk_old (blk_new _ _))) rfl (by omega); exact (by simp [Value.oneCell']); omega; go_size; intro v2 w2 hown2 hg2 hat2; have hb2 : Below w.heap.size w w2 := (by first | exact hb1 | exact hb1.alloc (by omega) _ : Below w.heap.size w _).grown hg2 (by go_size) (own_ge hown1); have hs2 := hg2.size; (try simp at hs2))
          | (refine step_append_rd _ ?_ (.tmp 40) (.tmp 43) _ ?_ w.heap.size 3 i0 (.int .i64 0) 1 8 Tryz.underlying22 Hi0.out HI.out.1 HI.out.2.1 HI.out.2.2 rfl ?_ (v2) (0 + 0 + 1) ([] ++ (ints xs).take (0 * 1) ++ [.int .i64 x]) ?_ ?_ (B) (none) (0) (0) ((ints xs).drop (0 * 1)) ?_ ?_ ?_ ?_ ?_ ?_; rfl; rfl; omega; rfl; exact hown2; rfl; exact HD.out.below (C := w.heap.size) hb2 hB; exact (by rw [ints_drop]; exact ints_one _); omega; go_size; intro v3 w3 hown3 hg3 hat3; have hb3 : Below w.heap.size w w3 := hb2.grown hg3 (by go_size) (own_ge hown2))
          )
        all_goals
          go_wp2
          go_ret
          refine ⟨v3, rfl, ?_, hb3⟩
          have e1 : 0 + 0 + 1 + (0) = (ins x xs).length := by rw [hz.out]; simp [Hn.out]; try omega
          have e2 : [] ++ (ints xs).take (0 * 1) ++ [Value.int .i64 x] ++ (ints xs).drop (0 * 1) = ints (ins x xs) := by rw [hz.out, ints_take, ints_drop]; simp [ints]
          rw [e1, e2] at hown3
          exact IsInts.own hown3
      · by_cases hcj : c = j
        · have hcj' : j = c := hcj.symm
          subst hcj'
          go_wp2
          have HT := Lib.hid (HR.out.take_ hj)
          have HD : Hid (Rd w B 1 ((ints xs).drop (j * 1)) (some ⟨g, o, sp⟩) (0)) := Lib.hid (hdr.out _)
          go_region_law (first
            | (refine step_append_rd _ ?_ (.tmp 33) (.tmp 36) _ ?_ w.heap.size 3 i0 (.int .i64 0) 1 8 Tryz.underlying22 Hi0.out HI.out.1 HI.out.2.1 HI.out.2.2 rfl ?_ (.slice (some ⟨w.heap.size, 0, none⟩) 0 0) (0) ([]) ?_ ?_ (B) (some ⟨g, o, sp⟩) (j) (j) ((ints xs).take (j * 1)) ?_ ?_ ?_ ?_ ?_ ?_; rfl; rfl; omega; rfl; exact own_empty (by first | exact blk_new _ _ | exact blk_old (blk_new _ _) | exact blk_new2 _ _ _) (by go_size); rfl; exact HT.out.below (C := w.heap.size) (by go_grown) hB; exact (by rw [ints_take]; exact ints_one _); omega; go_size; intro v1 w1 hown1 hg1 hat1; have hb1 : Below w.heap.size w w1 := (by go_grown : Below w.heap.size w _).grown hg1 (by go_size) (by simp [Value.ownBlock]); have hs1 := hg1.size; (try simp at hs1))
            | (refine step_append_rd _ ?_ (.tmp 33) (.tmp 36) _ ?_ w.heap.size 3 i0 (.int .i64 0) 1 8 Tryz.underlying22 Hi0.out HI.out.1 HI.out.2.1 HI.out.2.2 rfl ?_ (.slice (some ⟨w.heap.size + 1, 0, none⟩) 0 0) (0) ([]) ?_ ?_ (B) (some ⟨g, o, sp⟩) (j) (j) ((ints xs).take (j * 1)) ?_ ?_ ?_ ?_ ?_ ?_; rfl; rfl; omega; rfl; exact own_empty (by first | exact blk_new _ _ | exact blk_old (blk_new _ _) | exact blk_new2 _ _ _) (by go_size); rfl; exact HT.out.below (C := w.heap.size) (by go_grown) hB; exact (by rw [ints_take]; exact ints_one _); omega; go_size; intro v1 w1 hown1 hg1 hat1; have hb1 : Below w.heap.size w w1 := (by go_grown : Below w.heap.size w _).grown hg1 (by go_size) (by simp [Value.ownBlock]); have hs1 := hg1.size; (try simp at hs1))
            | (refine step_append_rd _ ?_ (.tmp 37) (.tmp 39) _ ?_ w.heap.size 3 i0 (.int .i64 0) 1 8 Tryz.underlying22 Hi0.out HI.out.1 HI.out.2.1 HI.out.2.2 rfl ?_ (v1) (0 + j) ([] ++ (ints xs).take (j * 1)) ?_ ?_ (w1.heap.size + 1) (some ⟨w1.heap.size, 0, none⟩) (1) (1) ([.int .i64 x]) ?_ ?_ ?_ ?_ ?_ ?_; rfl; rfl; omega; rfl; exact hown1.alloc _; rfl; exact Rd.blk (cs := #[.int .i64 x]) (blk_new _ _) rfl (by omega); exact (by simp [Value.oneCell']); omega; go_size; intro v2 w2 hown2 hg2 hat2; have hb2 : Below w.heap.size w w2 := (by first | exact hb1 | exact hb1.alloc (by omega) _ : Below w.heap.size w _).grown hg2 (by go_size) (own_ge hown1); have hs2 := hg2.size; (try simp at hs2))
            | (refine step_append_rd _ ?_ (.tmp 37) (.tmp 39) _ ?_ w.heap.size 3 i0 (.int .i64 0) 1 8 Tryz.underlying22 Hi0.out HI.out.1 HI.out.2.1 HI.out.2.2 rfl ?_ (v1) (0 + j) ([] ++ (ints xs).take (j * 1)) ?_ ?_ (w1.heap.size) (some ⟨w.heap.size, 0, none⟩) (1) (1) ([.int .i64 x]) ?_ ?_ ?_ ?_ ?_ ?_; rfl; rfl; omega; rfl; exact hown1; rfl; exact Rd.blk (cs := #[.int .i64 x]) (f := (0, 0)) ((hg1.block (w.heap.size) (by simp; omega) (by simp [Value.ownBlock])).trans (by first | exact blk_new2 _ _ _ | exact blk_old (blk_new _ _))) rfl (by omega); exact (by simp [Value.oneCell']); omega; go_size; intro v2 w2 hown2 hg2 hat2; have hb2 : Below w.heap.size w w2 := (by first | exact hb1 | exact hb1.alloc (by omega) _ : Below w.heap.size w _).grown hg2 (by go_size) (own_ge hown1); have hs2 := hg2.size; (try simp at hs2))
            | (refine step_append_rd _ ?_ (.tmp 37) (.tmp 39) _ ?_ w.heap.size 3 i0 (.int .i64 0) 1 8 Tryz.underlying22 Hi0.out HI.out.1 HI.out.2.1 HI.out.2.2 rfl ?_ (v1) (0 + j) ([] ++ (ints xs).take (j * 1)) ?_ ?_ (w1.heap.size) (some ⟨w.heap.size + 1, 0, none⟩) (1) (1) ([.int .i64 x]) ?_ ?_ ?_ ?_ ?_ ?_; rfl; rfl; omega; rfl; exact hown1; rfl; exact Rd.blk (cs := #[.int .i64 x]) (f := (0, 0)) ((hg1.block (w.heap.size + 1) (by simp) (by simp [Value.ownBlock])).trans (by first | exact blk_new2 _ _ _ | exact blk_old (blk_new _ _))) rfl (by omega); exact (by simp [Value.oneCell']); omega; go_size; intro v2 w2 hown2 hg2 hat2; have hb2 : Below w.heap.size w w2 := (by first | exact hb1 | exact hb1.alloc (by omega) _ : Below w.heap.size w _).grown hg2 (by go_size) (own_ge hown1); have hs2 := hg2.size; (try simp at hs2))
            | (refine step_append_rd _ ?_ (.tmp 40) (.tmp 43) _ ?_ w.heap.size 3 i0 (.int .i64 0) 1 8 Tryz.underlying22 Hi0.out HI.out.1 HI.out.2.1 HI.out.2.2 rfl ?_ (v2) (0 + j + 1) ([] ++ (ints xs).take (j * 1) ++ [.int .i64 x]) ?_ ?_ (B) (some ⟨g, o, sp⟩) (0) (0) ((ints xs).drop (j * 1)) ?_ ?_ ?_ ?_ ?_ ?_; rfl; rfl; omega; rfl; exact hown2; rfl; exact HD.out.below (C := w.heap.size) hb2 hB; exact (by rw [ints_drop]; exact ints_one _); omega; go_size; intro v3 w3 hown3 hg3 hat3; have hb3 : Below w.heap.size w w3 := hb2.grown hg3 (by go_size) (own_ge hown2))
            )
          all_goals
            go_wp2
            go_ret
            refine ⟨v3, rfl, ?_, hb3⟩
            have e1 : 0 + j + 1 + (0) = (ins x xs).length := by rw [hz.out]; simp [Hn.out]; try omega
            have e2 : [] ++ (ints xs).take (j * 1) ++ [Value.int .i64 x] ++ (ints xs).drop (j * 1) = ints (ins x xs) := by rw [hz.out, ints_take, ints_drop]; simp [ints]
            rw [e1, e2] at hown3
            exact IsInts.own hown3
        · obtain rfl : sp = none := Hspot.out _ rfl (by omega)
          go_wp2
          have HT := Lib.hid (HR.out.take_ hj)
          have HD : Hid (Rd w B 1 ((ints xs).drop (j * 1)) (some ⟨g, o + j, none⟩) (0)) := Lib.hid (hdr.out _)
          go_region_law (first
            | (refine step_append_rd _ ?_ (.tmp 33) (.tmp 36) _ ?_ w.heap.size 3 i0 (.int .i64 0) 1 8 Tryz.underlying22 Hi0.out HI.out.1 HI.out.2.1 HI.out.2.2 rfl ?_ (.slice (some ⟨w.heap.size, 0, none⟩) 0 0) (0) ([]) ?_ ?_ (B) (some ⟨g, o, none⟩) (j) (c) ((ints xs).take (j * 1)) ?_ ?_ ?_ ?_ ?_ ?_; rfl; rfl; omega; rfl; exact own_empty (by first | exact blk_new _ _ | exact blk_old (blk_new _ _) | exact blk_new2 _ _ _) (by go_size); rfl; exact HT.out.below (C := w.heap.size) (by go_grown) hB; exact (by rw [ints_take]; exact ints_one _); omega; go_size; intro v1 w1 hown1 hg1 hat1; have hb1 : Below w.heap.size w w1 := (by go_grown : Below w.heap.size w _).grown hg1 (by go_size) (by simp [Value.ownBlock]); have hs1 := hg1.size; (try simp at hs1))
            | (refine step_append_rd _ ?_ (.tmp 33) (.tmp 36) _ ?_ w.heap.size 3 i0 (.int .i64 0) 1 8 Tryz.underlying22 Hi0.out HI.out.1 HI.out.2.1 HI.out.2.2 rfl ?_ (.slice (some ⟨w.heap.size + 1, 0, none⟩) 0 0) (0) ([]) ?_ ?_ (B) (some ⟨g, o, none⟩) (j) (c) ((ints xs).take (j * 1)) ?_ ?_ ?_ ?_ ?_ ?_; rfl; rfl; omega; rfl; exact own_empty (by first | exact blk_new _ _ | exact blk_old (blk_new _ _) | exact blk_new2 _ _ _) (by go_size); rfl; exact HT.out.below (C := w.heap.size) (by go_grown) hB; exact (by rw [ints_take]; exact ints_one _); omega; go_size; intro v1 w1 hown1 hg1 hat1; have hb1 : Below w.heap.size w w1 := (by go_grown : Below w.heap.size w _).grown hg1 (by go_size) (by simp [Value.ownBlock]); have hs1 := hg1.size; (try simp at hs1))
            | (refine step_append_rd _ ?_ (.tmp 37) (.tmp 39) _ ?_ w.heap.size 3 i0 (.int .i64 0) 1 8 Tryz.underlying22 Hi0.out HI.out.1 HI.out.2.1 HI.out.2.2 rfl ?_ (v1) (0 + j) ([] ++ (ints xs).take (j * 1)) ?_ ?_ (w1.heap.size + 1) (some ⟨w1.heap.size, 0, none⟩) (1) (1) ([.int .i64 x]) ?_ ?_ ?_ ?_ ?_ ?_; rfl; rfl; omega; rfl; exact hown1.alloc _; rfl; exact Rd.blk (cs := #[.int .i64 x]) (blk_new _ _) rfl (by omega); exact (by simp [Value.oneCell']); omega; go_size; intro v2 w2 hown2 hg2 hat2; have hb2 : Below w.heap.size w w2 := (by first | exact hb1 | exact hb1.alloc (by omega) _ : Below w.heap.size w _).grown hg2 (by go_size) (own_ge hown1); have hs2 := hg2.size; (try simp at hs2))
            | (refine step_append_rd _ ?_ (.tmp 37) (.tmp 39) _ ?_ w.heap.size 3 i0 (.int .i64 0) 1 8 Tryz.underlying22 Hi0.out HI.out.1 HI.out.2.1 HI.out.2.2 rfl ?_ (v1) (0 + j) ([] ++ (ints xs).take (j * 1)) ?_ ?_ (w1.heap.size) (some ⟨w.heap.size, 0, none⟩) (1) (1) ([.int .i64 x]) ?_ ?_ ?_ ?_ ?_ ?_; rfl; rfl; omega; rfl; exact hown1; rfl; exact Rd.blk (cs := #[.int .i64 x]) (f := (0, 0)) ((hg1.block (w.heap.size) (by simp; omega) (by simp [Value.ownBlock])).trans (by first | exact blk_new2 _ _ _ | exact blk_old (blk_new _ _))) rfl (by omega); exact (by simp [Value.oneCell']); omega; go_size; intro v2 w2 hown2 hg2 hat2; have hb2 : Below w.heap.size w w2 := (by first | exact hb1 | exact hb1.alloc (by omega) _ : Below w.heap.size w _).grown hg2 (by go_size) (own_ge hown1); have hs2 := hg2.size; (try simp at hs2))
            | (refine step_append_rd _ ?_ (.tmp 37) (.tmp 39) _ ?_ w.heap.size 3 i0 (.int .i64 0) 1 8 Tryz.underlying22 Hi0.out HI.out.1 HI.out.2.1 HI.out.2.2 rfl ?_ (v1) (0 + j) ([] ++ (ints xs).take (j * 1)) ?_ ?_ (w1.heap.size) (some ⟨w.heap.size + 1, 0, none⟩) (1) (1) ([.int .i64 x]) ?_ ?_ ?_ ?_ ?_ ?_; rfl; rfl; omega; rfl; exact hown1; rfl; exact Rd.blk (cs := #[.int .i64 x]) (f := (0, 0)) ((hg1.block (w.heap.size + 1) (by simp) (by simp [Value.ownBlock])).trans (by first | exact blk_new2 _ _ _ | exact blk_old (blk_new _ _))) rfl (by omega); exact (by simp [Value.oneCell']); omega; go_size; intro v2 w2 hown2 hg2 hat2; have hb2 : Below w.heap.size w w2 := (by first | exact hb1 | exact hb1.alloc (by omega) _ : Below w.heap.size w _).grown hg2 (by go_size) (own_ge hown1); have hs2 := hg2.size; (try simp at hs2))
            | (refine step_append_rd _ ?_ (.tmp 40) (.tmp 43) _ ?_ w.heap.size 3 i0 (.int .i64 0) 1 8 Tryz.underlying22 Hi0.out HI.out.1 HI.out.2.1 HI.out.2.2 rfl ?_ (v2) (0 + j + 1) ([] ++ (ints xs).take (j * 1) ++ [.int .i64 x]) ?_ ?_ (B) (some ⟨g, o + j, none⟩) (0) (c - j) ((ints xs).drop (j * 1)) ?_ ?_ ?_ ?_ ?_ ?_; rfl; rfl; omega; rfl; exact hown2; rfl; exact HD.out.below (C := w.heap.size) hb2 hB; exact (by rw [ints_drop]; exact ints_one _); omega; go_size; intro v3 w3 hown3 hg3 hat3; have hb3 : Below w.heap.size w w3 := hb2.grown hg3 (by go_size) (own_ge hown2))
            )
          all_goals
            go_wp2
            go_ret
            refine ⟨v3, rfl, ?_, hb3⟩
            have e1 : 0 + j + 1 + (0) = (ins x xs).length := by rw [hz.out]; simp [Hn.out]; try omega
            have e2 : [] ++ (ints xs).take (j * 1) ++ [Value.int .i64 x] ++ (ints xs).drop (j * 1) = ints (ins x xs) := by rw [hz.out, ints_take, ints_drop]; simp [ints]
            rw [e1, e2] at hown3
            exact IsInts.own hown3
end Go.Proofs.YtdjldmpfginkdaaGreatDoor
namespace Go.Proofs.YtdjldmpfginkdaaGreatDoor
open Go.RowKit
attribute [local go_sem ↓] Go.wp_at_zero Go.wp_at_succ

def strs (xs : List ByteArray) : List Value := xs.map (Value.string)
theorem strs_len (xs : List ByteArray) : (strs xs).length = xs.length := by simp [strs]
theorem strs_get (xs : List ByteArray) (j : Nat) (h : j < (strs xs).length) : (strs xs)[j] = .string (xs[j]'(by simpa [strs] using h)) := by simp [strs]
theorem strs_one (xs : List ByteArray) : ∀ u ∈ strs xs, u.oneCell' = true := by
  intro u hu
  simp only [strs, List.mem_map] at hu
  obtain ⟨a, _, rfl⟩ := hu
  rfl
theorem strs_take (xs : List ByteArray) (k : Nat) : (strs xs).take (k * 1) = strs (xs.take k) := by simp [strs]
theorem strs_drop (xs : List ByteArray) (k : Nat) : (strs xs).drop (k * 1) = strs (xs.drop k) := by simp [strs]
theorem strs_append (xs ys : List ByteArray) : strs xs ++ strs ys = strs (xs ++ ys) := by simp [strs]

/-- A slice that reads as xs, below block B. -/
def IsStrs (w : World) (B : Nat) (xs : List ByteArray) (v : Value) : Prop := ∃ A c, v = .slice A xs.length c ∧ xs.length ≤ c ∧ c ≤ maxLen ∧ (A = none → c = 0) ∧ (∀ a, A = some a → a.spot = none) ∧ Rd w B 1 (strs xs) A xs.length
theorem IsStrs.keep {w w' : World} {B B' : Nat} {xs : List ByteArray} {v : Value} (h : IsStrs w B xs v) (hk : ∀ b, b < B → w'.heap[b]? = w.heap[b]?) (hB : B ≤ B') : IsStrs w' B' xs v := by
  obtain ⟨A, c, hv, hc, hm, h0, hs, hr⟩ := h
  exact ⟨A, c, hv, hc, hm, h0, hs, hr.keep hk hB⟩
theorem IsStrs.below {w w' : World} {B C : Nat} {xs : List ByteArray} {v : Value} (h : IsStrs w B xs v) (hb : Below C w w') (hB : B ≤ C) : IsStrs w' B xs v :=
  h.keep (fun b hb' => hb.block b (by omega)) (Nat.le_refl _)
theorem IsStrs.more {w : World} {B B' : Nat} {xs : List ByteArray} {v : Value} (h : IsStrs w B xs v) (hB : B ≤ B') : IsStrs w B' xs v := h.keep (fun _ _ => rfl) hB
theorem IsStrs.nil (w : World) (B : Nat) : IsStrs w B [] (.slice none 0 0) := ⟨none, 0, rfl, by simp, by simp, fun _ => rfl, by simp, Rd.nil⟩
theorem IsStrs.own {w : World} {base : Nat} {xs : List ByteArray} {v : Value} (h : w.ownsRow base 9 1 v xs.length (strs xs)) : IsStrs w w.heap.size xs v := by
  rcases h.2 with ⟨rfl, h0⟩ | ⟨g, cap, cur, rfl, hb, hh, hnc, hcm, hcs, ht⟩
  · have : xs = [] := List.eq_nil_of_length_eq_zero h0
    subst this
    exact IsStrs.nil _ _
  · exact ⟨_, _, rfl, hnc, hcm, by simp, by simp, Rd.own h⟩
/-- A new slice comes back; nothing old has changed. -/
def RetStrs (xs : List ByteArray) (w : World) (e : Ending) (w' : World) : Prop := ∃ v, e = .returned v ∧ IsStrs w' w'.heap.size xs v ∧ Below w.heap.size w w'
def insS (x : ByteArray) : List ByteArray → List ByteArray
  | [] => [x]
  | y :: ys => if Op.bytesLess y.toList x.toList = true then y :: insS x ys else if y.toList = x.toList then y :: ys else x :: y :: ys
theorem insS_len (x : ByteArray) (l : List ByteArray) : l.length ≤ (insS x l).length ∧ (insS x l).length ≤ l.length + 1 := by
  induction l with
  | nil => simp [insS]
  | cons y ys ih =>
    unfold insS
    split
    · simp; omega
    · split <;> simp
theorem insS_at (x : ByteArray) (xs : List ByteArray) (k : Nat) (hk : k ≤ xs.length) (h1 : ∀ (i : Nat) (hi : i < xs.length), i < k → Op.bytesLess (xs[i]).toList (x).toList = true) (h2 : ∀ (h : k < xs.length), ¬ Op.bytesLess (xs[k]).toList (x).toList = true) :
    (∀ (h : k < xs.length), (xs[k]).toList = (x).toList → insS x xs = xs) ∧ ((∀ (h : k < xs.length), ¬ (xs[k]).toList = (x).toList) → insS x xs = xs.take k ++ x :: xs.drop k) := by
  induction xs generalizing k with
  | nil => simp [insS]
  | cons y ys ih =>
    rcases k with _ | k
    · have h2' : ¬ Op.bytesLess (y).toList (x).toList = true := h2 (by simp)
      refine ⟨fun _ e => ?_, fun e => ?_⟩
      · have e' : (y).toList = (x).toList := e
        simp only [insS]
        rw [if_neg h2', if_pos e']
      · have e' : ¬ (y).toList = (x).toList := e (by simp)
        simp only [insS]
        rw [if_neg h2', if_neg e']
        simp
    · have hy : Op.bytesLess (y).toList (x).toList = true := h1 0 (by simp) (by omega)
      have := ih k (by simpa using hk) (fun i hi hik => h1 (i + 1) (by simpa using hi) (by omega)) (fun h => h2 (by simpa using h))
      refine ⟨fun h e => ?_, fun e => ?_⟩
      · simp only [insS, if_pos hy]
        rw [this.1 (by simpa using h) (by simpa using e)]
      · simp only [insS, if_pos hy]
        rw [this.2 (fun h => e (by simpa using h))]
        simp

end Go.Proofs.YtdjldmpfginkdaaGreatDoor
