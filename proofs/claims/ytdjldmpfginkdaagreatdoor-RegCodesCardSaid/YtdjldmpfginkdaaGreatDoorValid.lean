/- Contracts of slices.Contains at []string, validNode, validNodes, Validate. -/
import Derived.Test.YtdjldmpfginkdaaGreatDoorGPlain
import Derived.Test.YtdjldmpfginkdaaGreatDoorGInts
import Derived.Test.YtdjldmpfginkdaaGreatDoorGBase
namespace Go.Proofs.YtdjldmpfginkdaaGreatDoor
open Go.RowKit

def eqS (x y : ByteArray) : Bool := x.toList == y.toList
set_option maxHeartbeats 1000000 in
theorem c_IndexS (xs : List ByteArray) (x : ByteArray) (v : Value) (w : World) (B : Nat) (hv : IsStrs w B xs v) (hn : xs.length ≤ 2 ^ 40) :
    Calls Tryz.prog 125 #[v, .string x] w fun e w' => e = .returned (.int .i64 (idxP (eqS x) xs)) ∧ w = w' := by
  obtain ⟨A, c, rfl, hc, hm, _, _, hr⟩ := hv
  have HR := Lib.hid hr; clear hr
  generalize hl : xs.length = n at *
  have Hn := Lib.hid hl; clear hl
  clear hm
  go_enter Tryz.func125, Tryz.ntmps125
  go_wp2
  go_loop [8] (fun i => ∃ j : Nat, j ≤ n ∧ i = .int .i64 j ∧ Hid (∀ (i : Nat) (hi : i < xs.length), i < j → eqS x xs[i] = false)) (fun i => n - (intOf i).toNat)
  case atStart => exact ⟨0, by omega, rfl, Lib.hid (fun _ _ h => by omega)⟩
  case round =>
    obtain ⟨j, hj, rfl, hall⟩ := hrel
    by_cases hjn : j < n
    · obtain ⟨g, o, hj1, rfl, hg, hcell⟩ := HR.out.at_ (j := j) (by omega)
      rw [strs_get] at hcell
      have hj' : j < xs.length := by rw [Hn.out]; exact hjn
      have hfalse : Hid (eqS x xs[j] = true → idxP (eqS x) xs = j) := Lib.hid (idxP_some (eqS x) xs j hj' hall.out)
      have htrue : Hid (eqS x xs[j] = false → ∀ (i : Nat) (hi : i < xs.length), i < j + 1 → eqS x xs[i] = false) := Lib.hid (fun h i hi hij => by
        rcases Nat.lt_or_ge i j with h1 | h1
        · exact hall.out i hi h1
        · obtain rfl : i = j := by omega
          exact h)
      generalize xs[j] = y at *
      cases hr : (x.toList == y.toList)
      · have hz := Lib.hid (htrue.out hr)
        go_wp2
        go_round
        case rel => exact ⟨j + 1, by omega, by go_num, hz⟩
        case measure => simp [intOf]; omega
      · have hz := Lib.hid (hfalse.out hr)
        go_wp2
        go_ret
        exact ⟨ret_int (by rw [hz.out]), rfl⟩
    · obtain rfl : j = n := by omega
      have hz : Hid (idxP (eqS x) xs = -1) := Lib.hid (idxP_none (eqS x) xs fun i hi => hall.out i hi (by rw [← Hn.out]; exact hi))
      go_wp2
      go_ret
      exact ⟨ret_int (by rw [hz.out]), rfl⟩
set_option maxHeartbeats 400000 in
theorem c_ContainsS (xs : List ByteArray) (x : ByteArray) (v : Value) (w : World) (B : Nat) (hv : IsStrs w B xs v) (hn : xs.length ≤ 2 ^ 40) :
    Calls Tryz.prog 106 #[v, .string x] w fun e w' => e = .returned (.bool (xs.any (eqS x))) ∧ w = w' := by
  have HC := Lib.hid (c_IndexS xs x v w B hv hn)
  have hi := Lib.hid (idxP_any (eqS x) xs)
  obtain ⟨A, c, rfl, _⟩ := hv
  generalize idxP (eqS x) xs = ix at *
  have hpost : Hid (∀ b : Bool, (b = true ↔ 0 ≤ ix) → b = xs.any (eqS x)) := Lib.hid (fun b hb => by rw [Bool.eq_iff_iff, hb, hi.out])
  generalize xs.any (eqS x) = res at *
  clear hi
  go_enter Tryz.func106, Tryz.ntmps106
  go_wp2_with fail
  refine HC.out.mono ?_
  rintro e w2 ⟨rfl, rfl⟩
  go_wp2
  go_ret
  exact ⟨ret_bool (hpost.out _ (by simp)), rfl⟩

def kwStrs : List ByteArray := kwNames.map fun l => ⟨l.toArray⟩
theorem kw_any (s : ByteArray) : kwStrs.any (eqS s) = isKw s := by
  unfold kwStrs isKw
  rw [List.any_map]
  congr 1
  funext l
  simp only [Function.comp, eqS]
  rw [ByteArray.toList_eq ⟨l.toArray⟩]
/-- The variable reserved holds the words of the type syntax, in blocks below G. -/
def EnvR (w : World) (G : Nat) : Prop := 1 < G ∧ ∃ v, w.cell? ⟨1, 0, none⟩ = some v ∧ IsStrs w G kwStrs v
theorem EnvR.keep {w w' : World} {G : Nat} (h : EnvR w G) (hk : ∀ b, b < G → w'.heap[b]? = w.heap[b]?) : EnvR w' G := by
  obtain ⟨h1, v, hv, hs⟩ := h
  exact ⟨h1, v, (World.cell?_of_block (w := w) (hk _ h1)).trans hv, hs.keep hk (Nat.le_refl _)⟩
theorem EnvR.below {w w' : World} {G C : Nat} (h : EnvR w G) (hb : Below C w w') (hG : G ≤ C) : EnvR w' G := h.keep fun b hb' => hb.block b (by omega)

theorem okNode_bad1 {k : Int} {nm : ByteArray} {ix : Int} {args : List Ty} (h1 : (k != 2) = true) (h2 : ¬ nm.toList = []) : okNode k nm ix args = false := by
  have : (nm.size != 0) = true := by
    rw [bne_iff_ne]; intro e; exact h2 ((toList_nil nm).2 e)
  simp [okNode, h1, this]
theorem okNode_bad2 {k : Int} {nm : ByteArray} {ix : Int} {args : List Ty} (h1 : (k != 5) = true) (h2 : (ix != 0) = true) : okNode k nm ix args = false := by
  simp [okNode, h1, h2]
theorem okNode_good {k : Int} {nm : ByteArray} {ix : Int} {args : List Ty} (h1 : (k != 2) = false ∨ nm.toList = []) (h2 : (k != 5) = false ∨ (ix != 0) = false) :
    okNode k nm ix args = okKind k nm ix args := by
  have e : ((k != 2 && nm.size != 0) || (k != 5 && ix != 0)) = false := by
    rw [Bool.or_eq_false_iff]
    refine ⟨?_, ?_⟩
    · rcases h1 with h | h
      · simp [h]
      · have : nm.size = 0 := (toList_nil nm).1 h
        simp [this]
    · rcases h2 with h | h <;> simp [h]
  simp only [okNode]
  rw [if_neg (by rw [e]; simp)]

/-- What a term's root comes to. -/
theorem okNode_cases (k : Int) (nm : ByteArray) (ix : Int) (args : List Ty) :
    ((k != 2) = true ∧ ¬ nm.toList = [] ∧ okNode k nm ix args = false) ∨ (((k != 2) = false ∨ nm.toList = []) ∧ (k != 5) = true ∧ (ix != 0) = true ∧ okNode k nm ix args = false) ∨
    (((k != 2) = false ∨ nm.toList = []) ∧ ((k != 5) = false ∨ (ix != 0) = false) ∧ okNode k nm ix args = okKind k nm ix args) := by
  by_cases h1 : (k != 2) = true ∧ ¬ nm.toList = []
  · exact .inl ⟨h1.1, h1.2, okNode_bad1 h1.1 h1.2⟩
  · have h1' : (k != 2) = false ∨ nm.toList = [] := by
      by_cases e : nm.toList = []
      · exact .inr e
      · left
        rw [Bool.eq_false_iff]
        exact fun h => h1 ⟨h, e⟩
    by_cases h2 : (k != 5) = true ∧ (ix != 0) = true
    · exact .inr (.inl ⟨h1', h2.1, h2.2, okNode_bad2 h2.1 h2.2⟩)
    · have h2' : (k != 5) = false ∨ (ix != 0) = false := by
        cases e : (ix != 0)
        · exact .inr rfl
        · left
          rw [Bool.eq_false_iff]
          exact fun h => h2 ⟨h, e⟩
      exact .inr (.inr ⟨h1', h2', okNode_good h1' h2'⟩)
theorem okKind_other {k : Int} {nm : ByteArray} {ix : Int} {args : List Ty} (h0 : ¬ k = 0) (h1 : ¬ k = 1) (h2 : ¬ k = 2) (h3 : ¬ k = 3) (h4 : ¬ k = 4) (h5 : ¬ k = 5) (h6 : ¬ k = 6) : okKind k nm ix args = false := by
  simp [okKind, h0, h1, h2, h3, h4, h5, h6]
theorem okKind_6 {nm : ByteArray} {ix : Int} {args : List Ty} (h : args.length = 2) : okKind 6 nm ix args = (args[0]'(by omega)).closed 0 := by
  match args, h with
  | [a, b], _ => simp [okKind]
theorem okKind_6' {nm : ByteArray} {ix : Int} {args : List Ty} (h : ¬ args.length = 2) : okKind 6 nm ix args = false := by
  match args, h with
  | [], _ => simp [okKind]
  | [a], _ => simp [okKind]
  | [a, b], h => simp at h
  | a :: b :: c :: r, _ => simp [okKind]

set_option maxHeartbeats 2000000 in
theorem c_validNode (t : Ty) (w : World) (L B G : Nat) (v : Value) (hv : IsTy w L B t v) (hB : B ≤ w.heap.size) (hok : t.ok) (hM : t.size ≤ 2 ^ 30) (hE : EnvR w G) (hG : G ≤ w.heap.size) :
    Calls Tryz.prog 82 #[v] w fun e w' => e = .returned (.bool (okNode t.kind t.name t.index t.args)) ∧ Below w.heap.size w w' := by
  have HT := Lib.hid hv
  obtain ⟨A, c, rfl, hl⟩ := hv.args_
  clear hv
  have HL := Lib.hid hl; clear hl
  have HE := Lib.hid hE; clear hE
  have HO := Lib.hid hok
  rw [Ty.ok_eq] at hok
  obtain ⟨hok1, hok2, hok3⟩ := hok
  unfold inI at hok1 hok2
  have HO3 := Lib.hid hok3; clear hok3
  have hbA : ∀ o : Obj, Below w.heap.size w (w.alloc o) := fun o => (Below.refl _ _).alloc (Nat.le_refl _) _
  have HBA := Lib.hid hbA; clear hbA
  have hle := Ty.len_le t.args
  have hsz := Ty.size_eq t
  have hle2 : t.args.length ≤ 2 ^ 30 := by omega
  have HSZ := Lib.hid hsz; clear hsz hle
  rcases okNode_cases t.kind t.name t.index t.args with ⟨h1, h2, hf⟩ | ⟨h1, h2, h3, hf⟩ | ⟨h1, h2, hf⟩
  · have HF := Lib.hid hf; clear hf
    generalize okNode t.kind t.name t.index t.args = res at *
    go_enter Tryz.func82, Tryz.ntmps82
    go_wp2
    go_ret
    exact ⟨ret_bool (by rw [HF.out]), HBA.out _⟩
  · have HF := Lib.hid hf; clear hf
    generalize okNode t.kind t.name t.index t.args = res at *
    rcases h1 with h1 | h1
    all_goals
      go_enter Tryz.func82, Tryz.ntmps82
      go_wp2
      all_goals
        go_ret
        exact ⟨ret_bool (by rw [HF.out]), HBA.out _⟩
  · have HF := Lib.hid hf; clear hf
    have HC := Lib.hid (fun (W : World) (hW : Below w.heap.size w W) => c_plainArgs t W L B _ (HT.out.below hW hB) (Nat.le_trans hB hW.size) (by omega) (fun j hj => by
      have hg := Ty.size_get j hj
      have := HSZ.out
      exact c_IsPlain _ _ L B (Nat.le_refl _) (Ty.ok_get HO3.out j hj) (by omega)))
    have hM' : Hid (1 + Ty.sizes t.args ≤ 2 ^ 30) := Lib.hid (by rw [← HSZ.out]; exact hM)
    clear HT HO HSZ hM
    generalize okNode t.kind t.name t.index t.args = res at *
    generalize t.kind = k, t.name = nm, t.index = ix, t.args = args at *
    by_cases k0 : k = 0
    · subst k0
      obtain h1 : nm.toList = [] := h1.resolve_left (by decide)
      obtain rfl : ix = 0 := by rcases h2 with h | h; (exact absurd h (by decide)); simpa using h
      clear h2
      go_enter Tryz.func82, Tryz.ntmps82
      go_wp2
      all_goals
        go_ret
        exact ⟨ret_bool (by rw [HF.out, Bool.eq_iff_iff]; simp [okKind]), HBA.out _⟩
    by_cases k1 : k = 1
    · subst k1
      obtain h1 : nm.toList = [] := h1.resolve_left (by decide)
      obtain rfl : ix = 0 := by rcases h2 with h | h; (exact absurd h (by decide)); simpa using h
      clear h2
      go_enter Tryz.func82, Tryz.ntmps82
      go_wp2
      all_goals
        go_ret
        exact ⟨ret_bool (by rw [HF.out, Bool.eq_iff_iff]; simp [okKind]), HBA.out _⟩
    by_cases k3 : k = 3
    · subst k3
      obtain h1 : nm.toList = [] := h1.resolve_left (by decide)
      obtain rfl : ix = 0 := by rcases h2 with h | h; (exact absurd h (by decide)); simpa using h
      clear h2
      go_enter Tryz.func82, Tryz.ntmps82
      go_wp2
      all_goals
        go_ret
        exact ⟨ret_bool (by rw [HF.out]; simp [okKind]; try omega), HBA.out _⟩
    by_cases k4 : k = 4
    · subst k4
      obtain h1 : nm.toList = [] := h1.resolve_left (by decide)
      obtain rfl : ix = 0 := by rcases h2 with h | h; (exact absurd h (by decide)); simpa using h
      clear h2
      go_enter Tryz.func82, Tryz.ntmps82
      go_wp2
      all_goals
        go_ret
        exact ⟨ret_bool (by rw [HF.out]; simp [okKind]; try omega), HBA.out _⟩
    by_cases k5 : k = 5
    · subst k5
      obtain h1 : nm.toList = [] := h1.resolve_left (by decide)
      clear h2
      have HK : Hid (okKind 5 nm ix args = decide (args.length = 0 ∧ 0 ≤ ix ∧ ix ≤ 200)) := Lib.hid (by rw [Bool.eq_iff_iff]; simp [okKind, and_assoc])
      generalize args.length = n at *
      go_enter Tryz.func82, Tryz.ntmps82
      go_wp2
      all_goals
        go_ret
        refine ⟨ret_bool ?_, HBA.out _⟩
        rw [HF.out, HK.out, Bool.eq_iff_iff]
        simp
        try omega
    by_cases k6 : k = 6
    · subst k6
      obtain h1 : nm.toList = [] := h1.resolve_left (by decide)
      obtain rfl : ix = 0 := by rcases h2 with h | h; (exact absurd h (by decide)); simpa using h
      clear h2
      by_cases h2 : args.length = 2
      · have HK := Lib.hid (okKind_6 (nm := nm) (ix := 0) h2)
        obtain ⟨g, o, A', c', hj', rfl, hg1, hg2, c0, c1, c2, c3, ht⟩ := HL.out.at_ (KeepIn.refl L B w) (j := 0) (by omega)
        have hg := Ty.size_get 0 hj'
        have hoj := Lib.hid (Ty.ok_get HO3.out 0 hj')
        have HT := Lib.hid ht
        clear ht
        have hM2 := hM'.out
        have H2 : ((args.length : Int) == 2) = true := by rw [h2]; rfl
        have H0 : 0 < args.length := hj'
        have hgs : g < w.heap.size := by omega
        have hHK : Hid (okKind 6 nm 0 args = (args[0]'hj').closed 0) := HK
        clear HK
        generalize args[0]'hj' = tj at *
        simp only [Nat.zero_mul, Nat.add_zero] at c0 c1 c2 c3
        have H2' := Lib.hid h2
        clear h2
        generalize args.length = n at *
        go_enter Tryz.func82, Tryz.ntmps82
        go_wp2_with fail
        refine (c_closed tj.size tj 0 _ L B _ (Nat.le_refl _) (HT.out.below (HBA.out _) hB) (by go_size) hoj.out (by omega) (by omega) (by omega)).mono ?_
        rintro e w1 ⟨rfl, hb1⟩
        go_wp2
        go_ret
        exact ⟨ret_bool (by rw [HF.out, hHK.out]), (HBA.out _).trans (hb1.mono (by go_size))⟩
      · have HK := Lib.hid (okKind_6' (nm := nm) (ix := 0) h2)
        have H2 : ((args.length : Int) == 2) = false := by rw [beq_eq_false_iff_ne]; omega
        go_enter Tryz.func82, Tryz.ntmps82
        go_wp2
        go_ret
        exact ⟨ret_bool (by rw [HF.out, HK.out]), HBA.out _⟩
    by_cases k2 : k = 2
    · subst k2
      obtain rfl : ix = 0 := by rcases h2 with h | h; (exact absurd h (by decide)); simpa using h
      clear h2 h1
      have HK : Hid (okKind 2 nm 0 args = (isIdent nm && !isKw nm && decide (args.length ≤ 6) && Ty.plains args)) := Lib.hid (by simp [okKind])
      obtain ⟨hg2, vr, hvr, hsr⟩ := HE.out
      have HSR := Lib.hid hsr
      clear hsr
      have hRw : ∀ o : Obj, (w.alloc o).cell? ⟨1, 0, none⟩ = some vr := fun o => by rw [World.cell?_alloc_lt _ _ _ (by show 1 < _; omega)]; exact hvr
      clear hvr
      obtain ⟨Ar, cr, rfl⟩ : ∃ A c, vr = .slice A kwStrs.length c := by obtain ⟨A, c, h, _⟩ := HSR.out; exact ⟨A, c, h⟩
      generalize hk5 : kwStrs.length = n5 at *
      have Hk5 := Lib.hid hk5
      clear hk5
      cases hid : isIdent nm
      · go_enter Tryz.func82, Tryz.ntmps82
        go_wp2_with fail
        refine (c_xIsIdent nm _).mono ?_
        rintro e w1 ⟨rfl, rfl⟩
        go_wp2
        go_ret
        exact ⟨ret_bool (by rw [HF.out, HK.out, hid]; simp), HBA.out _⟩
      cases hkw : isKw nm
      rotate_left
      · go_enter Tryz.func82, Tryz.ntmps82
        go_wp2_with fail
        refine (c_xIsIdent nm _).mono ?_
        rintro e w1 ⟨rfl, rfl⟩
        go_wp2_with fail
        refine (c_ContainsS kwStrs nm _ _ G (HSR.out.below (HBA.out _) hG) (by decide)).mono ?_
        rintro e w1 ⟨rfl, rfl⟩
        rw [kw_any]
        go_wp2
        go_ret
        exact ⟨ret_bool (by rw [HF.out, HK.out, hkw]; simp), HBA.out _⟩
      by_cases hn6 : args.length ≤ 6
      · have hn6' : (args.length : Int) ≤ 6 := by omega
        have HN6 : Hid (decide (args.length ≤ 6) = true) := Lib.hid (by simpa using hn6)
        generalize args.length = n at *
        go_enter Tryz.func82, Tryz.ntmps82
        go_wp2_with fail
        refine (c_xIsIdent nm _).mono ?_
        rintro e w1 ⟨rfl, rfl⟩
        go_wp2_with fail
        refine (c_ContainsS kwStrs nm _ _ G (HSR.out.below (HBA.out _) hG) (by decide)).mono ?_
        rintro e w1 ⟨rfl, rfl⟩
        rw [kw_any]
        go_wp2_with fail
        refine (HC.out _ (HBA.out _)).mono ?_
        rintro e w1 ⟨rfl, hb1⟩
        have hfin : Hid (res = Ty.plains args) := Lib.hid (by rw [HF.out, HK.out, hid, hkw, HN6.out]; simp)
        go_wp2
        go_ret
        exact ⟨ret_bool (by rw [hfin.out]), (HBA.out _).trans (hb1.mono (by go_size))⟩
      · have hn6' : ¬ (args.length : Int) ≤ 6 := by omega
        have HN6 : Hid (decide (args.length ≤ 6) = false) := Lib.hid (by simpa using hn6)
        generalize args.length = n at *
        go_enter Tryz.func82, Tryz.ntmps82
        go_wp2_with fail
        refine (c_xIsIdent nm _).mono ?_
        rintro e w1 ⟨rfl, rfl⟩
        go_wp2_with fail
        refine (c_ContainsS kwStrs nm _ _ G (HSR.out.below (HBA.out _) hG) (by decide)).mono ?_
        rintro e w1 ⟨rfl, rfl⟩
        rw [kw_any]
        go_wp2
        go_ret
        exact ⟨ret_bool (by rw [HF.out, HK.out, HN6.out]; simp), HBA.out _⟩
    · have HK := Lib.hid (okKind_other (nm := nm) (ix := ix) (args := args) k0 k1 k2 k3 k4 k5 k6)
      have e0 : (k == 0) = false := by rw [beq_eq_false_iff_ne]; exact k0
      have e1 : (k == 1) = false := by rw [beq_eq_false_iff_ne]; exact k1
      have e2 : (k == 2) = false := by rw [beq_eq_false_iff_ne]; exact k2
      have e3 : (k == 3) = false := by rw [beq_eq_false_iff_ne]; exact k3
      have e4 : (k == 4) = false := by rw [beq_eq_false_iff_ne]; exact k4
      have e5 : (k == 5) = false := by rw [beq_eq_false_iff_ne]; exact k5
      have e6 : (k == 6) = false := by rw [beq_eq_false_iff_ne]; exact k6
      have f2 : (k != 2) = true := by rw [bne_iff_ne]; exact k2
      have f5 : (k != 5) = true := by rw [bne_iff_ne]; exact k5
      obtain h1 : nm.toList = [] := h1.resolve_left (by rw [f2]; simp)
      obtain rfl : ix = 0 := by rcases h2 with h | h; (rw [f5] at h; exact absurd h (by simp)); simpa using h
      clear h2
      go_enter Tryz.func82, Tryz.ntmps82
      go_wp2
      all_goals
        go_ret
        exact ⟨ret_bool (by rw [HF.out, HK.out]), HBA.out _⟩

/-- What validNodes is to do on one term. -/
def ValidAt (t : Ty) (L B G : Nat) : Prop := ∀ (W : World) (v : Value), IsTy W L B t v → B ≤ W.heap.size → EnvR W G → G ≤ W.heap.size → Calls Tryz.prog 64 #[v] W fun e w' => e = .returned (.bool t.wf) ∧ Below W.heap.size W w'
set_option maxHeartbeats 400000 in
theorem c_validNodes1 (t : Ty) (L B G : Nat) (h : ValidAt t L B G) (w : World) (v : Value) (hv : IsTy w L B t v) (hB : B ≤ w.heap.size) (hE : EnvR w G) (hG : G ≤ w.heap.size) :
    Calls Tryz.prog 84 #[v] w fun e w' => e = .returned (.bool (!t.wf)) ∧ Below w.heap.size w w' := by
  have HT := Lib.hid hv
  obtain ⟨A, c, rfl, _⟩ := hv.args_
  clear hv
  have HH := Lib.hid h; clear h
  have HE := Lib.hid hE; clear hE
  go_enter Tryz.func84, Tryz.ntmps84
  go_wp2_with fail
  refine (HH.out _ _ (HT.out.below ((Below.refl _ _).alloc (Nat.le_refl _) _) hB) (by go_size) (HE.out.below ((Below.refl _ _).alloc (Nat.le_refl _) _) hG) (by go_size)).mono ?_
  rintro e w1 ⟨rfl, hb1⟩
  go_wp2
  go_ret
  exact ⟨rfl, ((Below.refl _ _).alloc (Nat.le_refl _) _).trans (hb1.mono (by go_size))⟩
theorem wfs_any (ts : List Ty) : (!(ts.any fun t => !t.wf)) = Ty.wfs ts := by
  rw [Bool.eq_iff_iff, Ty.wfs_iff]
  simp only [Bool.not_eq_true', List.any_eq_false]
  constructor
  · intro h j hj
    have := h ts[j] (List.getElem_mem hj)
    simpa using this
  · intro h x hx
    obtain ⟨j, hj, rfl⟩ := List.getElem_of_mem hx
    simpa using h j hj

set_option maxHeartbeats 1000000 in
theorem c_validNodes (N : Nat) : ∀ (t : Ty) (L B G : Nat), t.size ≤ N → t.ok → t.size ≤ 2 ^ 30 → ValidAt t L B G := by
  induction N with
  | zero => intro t L B G h; have := t.size_pos; omega
  | succ N ih =>
  intro t L B G hN hok hM w v ht0 hB hE hG
  have HT0 := Lib.hid ht0
  obtain ⟨A, c, rfl, hl⟩ := ht0.args_
  clear ht0
  have hsz := Ty.size_eq t
  have hle := Ty.len_le t.args
  have HN := Lib.hid (fun (W : World) (hW : Below w.heap.size w W) => c_validNode t W L B G _ (HT0.out.below hW hB) (Nat.le_trans hB hW.size) hok hM (hE.below hW hG) (Nat.le_trans hG hW.size))
  rw [Ty.ok_eq] at hok
  have HC := Lib.hid (fun (W : World) (hW : Below w.heap.size w W) => c_ContainsFunc 84 #[] (fun t => !t.wf) t.args _ W L B (hl.keep (KeepIn.of_below hW hB) (Nat.le_refl _) (Nat.le_refl _)) (Nat.le_trans hB hW.size) (by omega) Tryz.call84
    (fun j hj W' v' hW' hv' => by
      have hg := Ty.size_get j hj
      exact c_validNodes1 _ L B G (ih _ L B G (by omega) (Ty.ok_get hok.2.2 j hj) (by omega)) W' v' hv' (Nat.le_trans hB (Nat.le_trans hW.size hW'.size)) ((hE.below hW hG).below hW' (Nat.le_trans hG hW.size)) (Nat.le_trans hG (Nat.le_trans hW.size hW'.size))))
  have hp := Lib.hid (wfs_any t.args)
  have HW := Lib.hid (Ty.wf_eq t)
  clear hl ih hE hok
  cases h1 : okNode t.kind t.name t.index t.args
  · go_enter Tryz.func64, Tryz.ntmps64
    go_wp2_with fail
    refine (HN.out _ ((Below.refl _ _).alloc (Nat.le_refl _) _)).mono ?_
    rintro e w1 ⟨rfl, hb1⟩
    go_wp2
    go_ret
    exact ⟨ret_bool (by rw [HW.out, h1]; simp), ((Below.refl _ _).alloc (Nat.le_refl _) _).trans (hb1.mono (by go_size))⟩
  · go_enter Tryz.func64, Tryz.ntmps64
    go_wp2_with fail
    refine (HN.out _ ((Below.refl _ _).alloc (Nat.le_refl _) _)).mono ?_
    rintro e w1 ⟨rfl, hb1⟩
    have hs1 := hb1.size
    simp at hs1
    have hbb : Below w.heap.size w w1 := ((Below.refl _ _).alloc (Nat.le_refl _) _).trans (hb1.mono (by go_size))
    have q3 : w1.cell? ⟨w.heap.size, 3, none⟩ = some (.slice A t.args.length c) := by rw [hb1.cell (by simp)]; simp
    clear hb1
    have hfin : Hid (t.wf = !(t.args.any fun t => !t.wf)) := Lib.hid (by rw [HW.out, h1, hp.out]; simp)
    go_wp2_with fail
    refine (HC.out _ hbb).mono ?_
    rintro e w2 ⟨rfl, hb2⟩
    generalize (t.args.any fun t => !t.wf) = r at *
    go_wp2
    go_ret
    exact ⟨ret_bool (by rw [hfin.out]), hbb.trans (hb2.mono (by omega))⟩

theorem Ty.validate_big1 {t : Ty} (h : 200 < t.size) : t.validate = 4 := by simp [Ty.validate, h]
theorem Ty.validate_big2 {t : Ty} (h : 12 < t.depth) : t.validate = 4 := by simp [Ty.validate, h]
theorem Ty.validate_small {t : Ty} (h : ¬ 200 < t.size) (h2 : ¬ 12 < t.depth) : t.validate = if t.wf then 0 else 2 := by simp only [Ty.validate]; rw [if_neg (by omega)]

set_option maxHeartbeats 1000000 in
theorem c_Validate (t : Ty) (w : World) (L B G : Nat) (v : Value) (hv : IsTy w L B t v) (hB : B ≤ w.heap.size) (hok : t.ok) (hM : t.size ≤ 2 ^ 30) (hE : EnvR w G) (hG : G ≤ w.heap.size) :
    Calls Tryz.prog 40 #[v] w fun e w' => e = .returned (.int .i64 t.validate) ∧ Below w.heap.size w w' := by
  have HT := Lib.hid hv
  obtain ⟨A, c, rfl, _⟩ := hv.args_
  clear hv
  have hdp := Ty.depth_le t
  have HS := Lib.hid (fun (W : World) (hW : Below w.heap.size w W) => c_Size t.size t W L B _ (Nat.le_refl _) (HT.out.below hW hB) (Nat.le_trans hB hW.size) (by omega))
  have HD := Lib.hid (fun (W : World) (hW : Below w.heap.size w W) => c_Depth t.size t W L B _ (Nat.le_refl _) (HT.out.below hW hB) (Nat.le_trans hB hW.size) (by omega))
  have HVN := Lib.hid (fun (W : World) (hW : Below w.heap.size w W) => c_validNodes t.size t L B G (Nat.le_refl _) hok hM W _ (HT.out.below hW hB) (Nat.le_trans hB hW.size) (hE.below hW hG) (Nat.le_trans hG hW.size))
  have HB0 : Hid (∀ o : Obj, Below w.heap.size w (w.alloc o)) := Lib.hid (fun o => (Below.refl _ _).alloc (Nat.le_refl _) _)
  clear hok hE
  by_cases hbig : 200 < t.size
  · have HF := Lib.hid (Ty.validate_big1 hbig)
    go_enter Tryz.func40, Tryz.ntmps40
    go_wp2_with fail
    refine (HS.out _ (HB0.out _)).mono ?_
    rintro e w1 ⟨rfl, hb1⟩
    go_wp2
    go_ret
    exact ⟨ret_int (by rw [HF.out]), (HB0.out _).trans (hb1.mono (by go_size))⟩
  have HBOX : Hid (∀ (w1 : World) (o : Obj), Below (w.alloc (.cells #[.int .i64 t.kind, .string t.name, .int .i64 t.index, .slice A t.args.length c] 33)).heap.size (w.alloc (.cells #[.int .i64 t.kind, .string t.name, .int .i64 t.index, .slice A t.args.length c] 33)) w1 →
      w1.cell? ⟨w.heap.size, 0, none⟩ = some (.int .i64 t.kind) ∧ w1.cell? ⟨w.heap.size, 1, none⟩ = some (.string t.name) ∧ w1.cell? ⟨w.heap.size, 2, none⟩ = some (.int .i64 t.index) ∧ w1.cell? ⟨w.heap.size, 3, none⟩ = some (.slice A t.args.length c) ∧ Below w.heap.size w w1 ∧ w.heap.size < w1.heap.size) := Lib.hid (fun w1 o hb => by
    have hs := hb.size
    simp at hs
    exact ⟨by rw [hb.cell (by simp)]; simp, by rw [hb.cell (by simp)]; simp, by rw [hb.cell (by simp)]; simp, by rw [hb.cell (by simp)]; simp, (HB0.out _).trans (hb.mono (by go_size)), by omega⟩)
  by_cases hdeep : 12 < t.depth
  · have HF := Lib.hid (Ty.validate_big2 hdeep)
    go_enter Tryz.func40, Tryz.ntmps40
    go_wp2_with fail
    refine (HS.out _ (HB0.out _)).mono ?_
    rintro e w1 ⟨rfl, hb1⟩
    obtain ⟨q0, q1, q2, q3, hbb, hlt⟩ := HBOX.out w1 default hb1
    clear hb1
    go_wp2_with fail
    refine (HD.out _ hbb).mono ?_
    rintro e w2 ⟨rfl, hb2⟩
    go_wp2
    go_ret
    exact ⟨ret_int (by rw [HF.out]), hbb.trans (hb2.mono (by omega))⟩
  have HF := Lib.hid (Ty.validate_small hbig hdeep)
  cases hwf : t.wf
  all_goals
    go_enter Tryz.func40, Tryz.ntmps40
    go_wp2_with fail
    refine (HS.out _ (HB0.out _)).mono ?_
    rintro e w1 ⟨rfl, hb1⟩
    obtain ⟨q0, q1, q2, q3, hbb, hlt⟩ := HBOX.out w1 default hb1
    clear hb1
    go_wp2_with fail
    refine (HD.out _ hbb).mono ?_
    rintro e w2 ⟨rfl, hb2⟩
    have hbb2 := hbb.trans (hb2.mono (by omega))
    have q0' : w2.cell? ⟨w.heap.size, 0, none⟩ = some (.int .i64 t.kind) := by rw [hb2.cell (by exact hlt)]; exact q0
    have q1' : w2.cell? ⟨w.heap.size, 1, none⟩ = some (.string t.name) := by rw [hb2.cell (by exact hlt)]; exact q1
    have q2' : w2.cell? ⟨w.heap.size, 2, none⟩ = some (.int .i64 t.index) := by rw [hb2.cell (by exact hlt)]; exact q2
    have q3' : w2.cell? ⟨w.heap.size, 3, none⟩ = some (.slice A t.args.length c) := by rw [hb2.cell (by exact hlt)]; exact q3
    have hs2 := hb2.size
    clear q0 q1 q2 q3 hb2 hbb
    go_wp2_with fail
    refine (HVN.out _ hbb2).mono ?_
    rintro e w3 ⟨rfl, hb3⟩
    go_wp2
    go_ret
    exact ⟨ret_int (by rw [HF.out, hwf]; simp), hbb2.trans (hb3.mono (by omega))⟩
end Go.Proofs.YtdjldmpfginkdaaGreatDoor
