/- The abstract machine on trees, part G. No statement of the seat is proved here. -/
import Derived.Test.YtmciehdmmnkdhaaGreatDoorTmF
set_option linter.unusedVariables false
set_option linter.unusedSimpArgs false
set_option linter.constructorNameAsVariable false
set_option linter.unusedSectionVars false
set_option linter.deprecated false
set_option linter.unnecessarySimpa false
/- Regions that draw their order: environments and heaps along the run. No statement of the seat is proved here. -/
namespace Tm
open Go
set_option linter.unusedVariables false
set_option linter.unusedSimpArgs false
theorem free_spec {all : Array Oper} {x y : Oper} (h : freeTmp all x y = true) : (∀ d, x.dst = some d → d ∉ looks all y ∧ y.dst ≠ some d) ∧ (∀ d, y.dst = some d → d ∉ looks all x) := by
  refine ⟨fun d hd => ?_, fun d hd => ?_⟩ <;> simp [freeTmp, hd] at h
  · exact h.1
  · exact h.2
theorem guard_looks {all : Array Oper} {o : Oper} {t : Nat} {b : Bool} (h : gtmp all o.guard = some (some (t, b))) : t ∈ looks all o := by
  unfold looks Oper.looksAt
  cases hg : o.guard with
  | none => rw [hg] at h; simp [gtmp] at h
  | some p =>
    obtain ⟨j, w⟩ := p
    rw [hg] at h
    simp only [gtmp] at h
    split at h
    · rename_i t' ht
      simp only [Option.some.injEq, Prod.mk.injEq] at h
      obtain ⟨rfl, _⟩ := h
      simp [ht]
    · cases h
theorem wants_congr {all : Array Oper} {o : Oper} {g : Option (Nat × Bool)} {e e' : Env} (h : gtmp all o.guard = some g) (he : ∀ t ∈ looks all o, e.get t = e'.get t) : wants e g = wants e' g := by
  cases g with
  | none => rfl
  | some p =>
    obtain ⟨t, b⟩ := p
    simp only [wants]
    rw [he t (guard_looks h)]
theorem pu_rd {c : COp} (h : isPu c = true) : isRd c = true := by cases c <;> simp_all [isRd, isPu]
theorem rd_call {c : COp} (h : isRd c = true) : isCall c = false := by cases c <;> simp_all [isRd, isPu, isCall]
theorem al_call {c : COp} (h : isAl c = true) : isCall c = false := by cases c <;> simp_all [isAl, isCall]
theorem fresh_al {c : COp} {h : Heap} {k : Nat} (hc : isAl c = true) (hf : fresh h k c = true) : h.get k = none := by
  cases c <;> simp_all [isAl, fresh]
def Dn (ix : Nat → Nat) (L : Array Bool) (k : Nat) : Prop := L.getD (ix k) false = true
def isWC : Cl → Bool
  | .w => true
  | .c => true
  | _ => false
open Classical in
noncomputable def envD (ix : Nat → Nat) (op : Nat → Oper) (S : Nat → St) (L : Array Bool) : Nat → Nat → Option AV
  | 0, t => (S 0).e.get t
  | k + 1, t => if Dn ix L k ∧ (op k).dst = some t then (S (k + 1)).e.get t else envD ix op S L k t
section
variable {P : Program} {G : Nat → Option AV} {pu : Nat → Bool} {C : CallF} {n0 N m : Nat} {ops : Array Oper} {ix : Nat → Nat} {op : Nat → Oper} {co : Nat → COper} {cl : Nat → Cl} {an : Nat → Nat → Bool} {S : Nat → St}
namespace Run
theorem dst (hR : Run P G pu C n0 ops N m ix op co cl an S) {k : Nat} (hk : k < m) : (co k).dst = (op k).dst := by
  obtain ⟨c0, e1, _, _, e4⟩ := hR.comp k hk
  rw [← e4, (compOper_spec e1).2.2.1]
theorem gu (hR : Run P G pu C n0 ops N m ix op co cl an S) {k : Nat} (hk : k < m) : gtmp ops (op k).guard = some (co k).guard := by
  obtain ⟨c0, e1, _, e3, _⟩ := hR.comp k hk
  rw [← e3, (compOper_spec e1).2.1]
theorem an_lt (hR : Run P G pu C n0 ops N m ix op co cl an S) : ∀ k, k < m → ∀ k', k' < m → an k k' = true → k' < k := by
  intro k
  induction k using Nat.strongRecOn with
  | ind k ih =>
    intro hk k' hk' ha
    obtain ⟨k2, h1, _, h2 | h2⟩ := hR.anc k k' hk hk' ha
    · omega
    · have := ih k2 h1 (by omega) k' hk' h2
      omega
theorem env_step (hR : Run P G pu C n0 ops N m ix op co cl an S) {k t : Nat} (hk : k < m) (hd : (op k).dst ≠ some t) : (S (k + 1)).e.get t = (S k).e.get t := by
  have hput : ∀ v, (putE (S k).e (co k).dst v).get t = (S k).e.get t := fun v => by
    rw [hR.dst hk]
    cases hdd : (op k).dst with
    | none => rfl
    | some d =>
      simp only [putE, T.get_set]
      rw [if_neg (by rintro rfl; exact hd hdd)]
  rcases hR.step k hk with ⟨_, v, h, n, _, e, _⟩ | ⟨_, e⟩
  · rw [e]; exact hput v
  · rw [e]; exact hput _
theorem env_same (hR : Run P G pu C n0 ops N m ix op co cl an S) {t x : Nat} : ∀ y, x ≤ y → y ≤ m → (∀ z, x ≤ z → z < y → (op z).dst ≠ some t) → (S y).e.get t = (S x).e.get t := by
  intro y
  induction y with
  | zero => intro h1 _ _; rw [show x = 0 by omega]
  | succ y ih =>
    intro h1 h2 h3
    rcases Nat.eq_or_lt_of_le h1 with h | h
    · rw [h]
    · rw [hR.env_step (by omega) (h3 y (by omega) (by omega))]
      exact ih (by omega) (by omega) fun z h4 h5 => h3 z h4 (by omega)
/-- What is listed has all that comes before it listed. -/
def DC (ix : Nat → Nat) (an : Nat → Nat → Bool) (m : Nat) (L : Array Bool) : Prop := ∀ k k', k < m → k' < m → an k k' = true → Dn ix L k → Dn ix L k'
theorem envD_eq (hR : Run P G pu C n0 ops N m ix op co cl an S) {L : Array Bool} {t : Nat} : ∀ k, k ≤ m → (∀ x, x < k → (op x).dst = some t → Dn ix L x) → envD ix op S L k t = (S k).e.get t := by
  intro k
  induction k with
  | zero => intro _ _; rfl
  | succ k ih =>
    intro hk h
    simp only [envD]
    by_cases hd : (op k).dst = some t
    · rw [if_pos ⟨h k (by omega) hd, hd⟩]
    · rw [if_neg (fun hh => hd hh.2), ih (by omega) (fun x hx => h x (by omega)), hR.env_step (by omega) hd]
theorem envD_skip {L : Array Bool} {t k : Nat} : ∀ k2, k ≤ k2 → (∀ x, k ≤ x → x < k2 → (op x).dst = some t → ¬ Dn ix L x) → envD ix op S L k2 t = envD ix op S L k t := by
  intro k2
  induction k2 with
  | zero => intro h1 _; rw [show k = 0 by omega]
  | succ k2 ih =>
    intro h1 h2
    rcases Nat.eq_or_lt_of_le h1 with h | h
    · rw [h]
    · simp only [envD]
      rw [if_neg (fun hh => h2 k2 (by omega) (by omega) hh.2 hh.1)]
      exact ih (by omega) fun x h3 h4 => h2 x h3 (by omega)
theorem env_at (hR : Run P G pu C n0 ops N m ix op co cl an S) {L : Array Bool} (hdc : DC ix an m L) {k t : Nat} (hk : k < m) (nd : ¬ Dn ix L k) (ra : ∀ x, x < m → an k x = true → Dn ix L x) (ht : t ∈ looks ops (op k)) : envD ix op S L m t = (S k).e.get t := by
  rw [envD_skip (k := k) m (by omega), envD_eq hR k (by omega)]
  · intro x hx hd
    rcases hR.pair x k hx hk with h1 | ⟨h1, _⟩
    · exact ra x (by omega) h1
    · exact absurd ht ((free_spec h1).1 t hd).1
  · intro x h1 h2 hd hdn
    rcases Nat.eq_or_lt_of_le h1 with h | h
    · subst h; exact nd hdn
    · rcases hR.pair k x h h2 with h3 | ⟨h3, _⟩
      · exact nd (hdc x k h2 hk h3 hdn)
      · exact (free_spec h3).2 t hd ht
theorem dn_set (hR : Run P G pu C n0 ops N m ix op co cl an S) {L : Array Bool} {k x : Nat} (hk : k < m) (hx : x < m) (hsz : ix k < L.size) : Dn ix (L.setIfInBounds (ix k) true) x ↔ x = k ∨ Dn ix L x := by
  unfold Dn
  by_cases hxk : x = k
  · subst hxk
    simp [hsz]
  · have hne : ix k ≠ ix x := by
      rcases Nat.lt_trichotomy x k with h | h | h
      · exact (hR.inj k x h hk).symm
      · exact absurd h hxk
      · exact hR.inj x k h hx
    rw [getD_set_ne false hne]
    simp [hxk]
theorem env_upd (hR : Run P G pu C n0 ops N m ix op co cl an S) {L : Array Bool} (hdc : DC ix an m L) {k t : Nat} (hk : k < m) (nd : ¬ Dn ix L k) (hsz : ix k < L.size) :
    envD ix op S (L.setIfInBounds (ix k) true) m t = if (op k).dst = some t then (S (k + 1)).e.get t else envD ix op S L m t := by
  have key : ∀ j, j ≤ m → envD ix op S (L.setIfInBounds (ix k) true) j t = if k < j ∧ (op k).dst = some t then (S (k + 1)).e.get t else envD ix op S L j t := by
    intro j
    induction j with
    | zero => intro _; rw [if_neg (by omega)]; rfl
    | succ j ih =>
      intro hj
      simp only [envD]
      rw [ih (by omega)]
      have hdn := dn_set hR hk (show j < m by omega) hsz
      by_cases hjk : j = k
      · subst hjk
        by_cases hd : (op j).dst = some t
        · rw [if_pos ⟨hdn.2 (.inl rfl), hd⟩, if_pos ⟨by omega, hd⟩]
        · rw [if_neg (fun h => hd h.2), if_neg (fun h => hd h.2), if_neg (fun h => hd h.2), if_neg (fun h => hd h.2)]
      · by_cases hdj : Dn ix L j ∧ (op j).dst = some t
        · rw [if_pos ⟨hdn.2 (.inr hdj.1), hdj.2⟩]
          rw [if_pos hdj]
          split
          · rename_i h2
            exfalso
            rcases hR.pair k j (by omega) (by omega) with h3 | ⟨h3, _⟩
            · exact nd (hdc j k (by omega) hk h3 hdj.1)
            · exact ((free_spec h3).1 t h2.2).2 hdj.2
          · rfl
        · rw [if_neg (fun h => hdj ⟨(hdn.1 h.1).resolve_left hjk, h.2⟩), if_neg hdj]
          by_cases h2 : k < j
          · simp only [h2, show k < j + 1 by omega]
          · rw [if_neg (fun h => h2 h.1), if_neg (fun h => by omega)]
  rw [key m (Nat.le_refl _)]
  simp only [hk, true_and]
/-! ### Heaps -/
theorem step_ev (hR : Run P G pu C n0 ops N m ix op co cl an S) {k : Nat} (hk : k < m) (hn : isCall (co k).op = false) :
    (wants (S k).e (co k).guard = some true ∧ ∃ v h, evOp (co k).op (S k).e (S k).h (n0 + ix k) = some (v, h) ∧ S (k + 1) = ⟨putE (S k).e (co k).dst v, h, (S k).n⟩ ∧ fresh (S k).h (n0 + ix k) (co k).op = true) ∨
    (wants (S k).e (co k).guard = some false ∧ S (k + 1) = ⟨putE (S k).e (co k).dst (.tu []), (S k).h, (S k).n⟩) := by
  rcases hR.step k hk with ⟨hw, v, h, n, hd, e, hf, _⟩ | h
  · obtain ⟨h1, rfl⟩ := doOp_ev hd hn
    exact .inl ⟨hw, v, h, h1, e, hf⟩
  · exact .inr h
theorem heap_pr (hR : Run P G pu C n0 ops N m ix op co cl an S) {k : Nat} (hk : k < m) (hc : cl k = .p ∨ cl k = .r) : (S (k + 1)).h = (S k).h ∧ (S (k + 1)).n = (S k).n := by
  have hrd : isRd (co k).op = true := by
    have := hR.cls k hk
    rcases hc with h | h <;> rw [h] at this <;> simp only [clOK] at this
    · exact pu_rd this
    · exact this
  rcases hR.step_ev hk (rd_call hrd) with ⟨_, v, h, h1, e, _⟩ | ⟨_, e⟩
  · rw [e]; exact ⟨(read_grow hrd h1).1, rfl⟩
  · rw [e]; exact ⟨rfl, rfl⟩
theorem heap_a (hR : Run P G pu C n0 ops N m ix op co cl an S) {k : Nat} (hk : k < m) (hc : cl k = .a) : (S (k + 1)).n = (S k).n ∧ ((S (k + 1)).h = (S k).h ∨ ∃ ob, (S (k + 1)).h = (S k).h.set (n0 + ix k) ob ∧ (S k).h.get (n0 + ix k) = none) := by
  have hal : isAl (co k).op = true := by
    have := hR.cls k hk
    rw [hc] at this
    exact this
  rcases hR.step_ev hk (al_call hal) with ⟨_, v, h, h1, e, hf⟩ | ⟨_, e⟩
  · rw [e]
    refine ⟨rfl, ?_⟩
    rcases al_any hal h1 with ⟨h2, _⟩ | ⟨ob, h2, _⟩
    · exact .inl h2
    · exact .inr ⟨ob, h2, fresh_al hal hf⟩
  · rw [e]; exact ⟨rfl, .inl rfl⟩
theorem grow (hR : Run P G pu C n0 ops N m ix op co cl an S) (hpu : ∀ g args h n v h' n', pu g = true → C g args h n = some (v, h', n') → Soft n h h') {k : Nat} (hk : k < m) (hc : cl k ≠ .w) : Grow (S k).h (S (k + 1)).h := by
  cases hcl : cl k with
  | p => rw [(hR.heap_pr hk (.inl hcl)).1]; exact Grow.refl _
  | r => rw [(hR.heap_pr hk (.inr hcl)).1]; exact Grow.refl _
  | a =>
    rcases (hR.heap_a hk hcl).2 with h | ⟨ob, h, hn⟩
    · rw [h]; exact Grow.refl _
    · rw [h]; exact Grow.set hn
  | c =>
    have hso : isSo pu (co k).op = true := by
      have := hR.cls k hk
      rw [hcl] at this
      exact this
    rcases hR.step k hk with ⟨_, v, h, n, hd, e, _⟩ | ⟨_, e⟩
    · rw [e]; exact so_grow hpu hso hd
    · rw [e]; exact Grow.refl _
  | w => exact absurd hcl hc
/-- A later operation that writes has the earlier one looked at again. -/
theorem re (hR : Run P G pu C n0 ops N m ix op co cl an S) {L : Array Bool} (hdc : DC ix an m L) {k y : Nat} (hky : k < y) (hy : y < m) (nd : ¬ Dn ix L k) (hd : Dn ix L y) (hw : wants (S k).e (co k).guard = some true) (hwy : wants (S y).e (co y).guard = some true)
    (hei : ∀ sk, eitherWay (cl k) (cl y) (isMk (op k).op) sk = some true) :
    (∃ d, (op k).dst = some d ∧ (S (y + 1)).e.get d = (S (k + 1)).e.get d) ∧ (∀ t ∈ looks ops (op k), (S (y + 1)).e.get t = (S k).e.get t) ∧ wants (S (y + 1)).e (co k).guard = some true ∧ again n0 (S (y + 1)) (ix k, (op k).dst, (co k).guard, (co k).op) = true := by
  rcases hR.pair k y hky hy with h1 | ⟨h1, sk, _, h2 | ⟨_, hcalm, hmem⟩⟩
  · exact absurd (hdc y k hy (by omega) h1 hd) nd
  · rw [hei sk] at h2; cases h2
  · obtain ⟨⟨d, hdd, hc1⟩, hc2⟩ := hcalm
    have hl : ∀ t ∈ looks ops (op k), (S (y + 1)).e.get t = (S k).e.get t := fun t ht =>
      hR.env_same (y + 1) (by omega) (by omega) fun z h3 h4 => hc2 t ht z h3 (by omega)
    refine ⟨⟨d, hdd, ?_⟩, hl, ?_, ?_⟩
    · refine hR.env_same (y + 1) (by omega) (by omega) fun z h3 h4 => ?_
      rcases Nat.lt_or_ge z y with h5 | h5
      · exact hc1 z (by omega) h5
      · rw [show z = y by omega]
        exact ((free_spec h1).1 d hdd).2
    · rw [wants_congr (hR.gu (by omega)) hl]; exact hw
    · rcases hR.step y hy with ⟨_, v, h, n, _, _, _, hchk, _⟩ | ⟨h3, _⟩
      · rw [← hR.dst (by omega)]
        exact List.all_eq_true.1 hchk _ hmem
      · rw [hwy] at h3; cases h3
theorem get_dst (hR : Run P G pu C n0 ops N m ix op co cl an S) {k d n : Nat} {v : AV} {h : Heap} (hk : k < m) (hd : (op k).dst = some d) (hS : S (k + 1) = ⟨putE (S k).e (co k).dst v, h, n⟩) : (S (k + 1)).e.get d = some v := by
  rw [hS, hR.dst hk, hd]
  simp only [putE, T.get_set, if_pos]
theorem re_r (hR : Run P G pu C n0 ops N m ix op co cl an S) {L : Array Bool} (hdc : DC ix an m L) {k y n : Nat} (hky : k < y) (hy : y < m) (hc : cl k = .r) (hcy : cl y = .w) (nd : ¬ Dn ix L k) (hd : Dn ix L y) {v : AV} {h : Heap} (hw : wants (S k).e (co k).guard = some true) (hS : S (k + 1) = ⟨putE (S k).e (co k).dst v, h, n⟩) (hwy : wants (S y).e (co y).guard = some true) :
    ∀ k2, evOp (co k).op (S k).e (S (y + 1)).h k2 = some (v, (S (y + 1)).h) := by
  have hrd : isRd (co k).op = true := by
    have := hR.cls k (by omega)
    rw [hc] at this
    exact this
  obtain ⟨⟨d, hdd, h1⟩, h2, h3, h4⟩ := hR.re hdc hky hy nd hd hw hwy (fun sk => by rw [hc, hcy]; rfl)
  rw [hdd] at h4
  obtain ⟨v', h', h5, h6⟩ := again_rd hrd h3 h4
  rw [h1, hR.get_dst (by omega) hdd hS] at h6
  simp only [Option.getD_some] at h6
  subst h6
  rw [evOp_congr (fun t ht => h2 t (hR.ts k (by omega) t ht))] at h5
  exact fun k2 => (read_grow hrd h5).2 _ k2 (Grow.refl _)
theorem evo_r (hR : Run P G pu C n0 ops N m ix op co cl an S) (hpu : ∀ g args h n v h' n', pu g = true → C g args h n = some (v, h', n') → Soft n h h') {L : Array Bool} (hdc : DC ix an m L) {k n : Nat} (hk : k < m) (hc : cl k = .r) (nd : ¬ Dn ix L k) {v : AV} {h : Heap} (hw : wants (S k).e (co k).guard = some true) (hev : evOp (co k).op (S k).e (S k).h (n0 + ix k) = some (v, h)) (hS : S (k + 1) = ⟨putE (S k).e (co k).dst v, h, n⟩) :
    ∀ p, k + 1 ≤ p → p ≤ m → (∀ x, k < x → x < p → cl x = .w → Dn ix L x) → ∀ k2, evOp (co k).op (S k).e (S p).h k2 = some (v, (S p).h) := by
  have hrd : isRd (co k).op = true := by
    have := hR.cls k (by omega)
    rw [hc] at this
    exact this
  intro p
  induction p with
  | zero => intro h1; omega
  | succ p ih =>
    intro h1 h2 h3 k2
    rcases Nat.eq_or_lt_of_le h1 with h4 | h4
    · have : k = p := by omega
      subst this
      rw [hS]
      obtain ⟨e1, e2⟩ := read_grow hrd hev
      subst e1
      exact e2 _ k2 (Grow.refl _)
    · have hp := ih (by omega) (by omega) fun x h5 h6 => h3 x h5 (by omega)
      by_cases hcp : cl p = .w
      · rcases hR.step p (by omega) with ⟨hwp, _⟩ | ⟨_, e⟩
        · exact hR.re_r hdc (by omega) (by omega) hc hcp nd (h3 p (by omega) (by omega) hcp) hw hS hwp k2
        · have : (S (p + 1)).h = (S p).h := by rw [e]
          rw [this]; exact hp k2
      · exact (read_grow hrd (hp 0)).2 _ k2 (hR.grow hpu (by omega) hcp)
theorem evo_a (hR : Run P G pu C n0 ops N m ix op co cl an S) (hpu : ∀ g args h n v h' n', pu g = true → C g args h n = some (v, h', n') → Soft n h h') {L : Array Bool} (hdc : DC ix an m L) {k : Nat} (hk : k < m) (hc : cl k = .a) (nd : ¬ Dn ix L k) {v : AV} {ob : Ob} (hw : wants (S k).e (co k).guard = some true)
    (h0 : (S (k + 1)).h.get (n0 + ix k) = some ob)
    (hre : ∀ (n0' i : Nat) (s : St) (d : Option Nat) (g : Option (Nat × Bool)), n0 + ix k = n0' + i → (∀ t ∈ (co k).op.ts, s.e.get t = (S k).e.get t) → wants s.e g = some true → again n0' s (i, d, g, (co k).op) = true → s.h.get (n0 + ix k) = some ob)
    (hmk : (∀ l, ob ≠ .box l) → (∀ a b, ob ≠ .map a b) → ∃ z l c', (co k).op = .mkslice z l c') :
    ∀ p, k + 1 ≤ p → p ≤ m → (∀ x, k < x → x < p → isWC (cl x) = true → Dn ix L x) → (S p).h.get (n0 + ix k) = some ob := by
  intro p
  induction p with
  | zero => intro h1; omega
  | succ p ih =>
    intro h1 h2 h3
    rcases Nat.eq_or_lt_of_le h1 with h4 | h4
    · have : k = p := by omega
      subst this
      exact h0
    · have hp := ih (by omega) (by omega) fun x h5 h6 => h3 x h5 (by omega)
      have look : (∀ sk, eitherWay (cl k) (cl p) (isMk (op k).op) sk = some true) → isWC (cl p) = true → (S (p + 1)).h.get (n0 + ix k) = some ob := by
        intro hei hwc
        rcases hR.step p (by omega) with ⟨hwp, _⟩ | ⟨_, e⟩
        · obtain ⟨_, h5, h6, h7⟩ := hR.re hdc (show k < p by omega) (by omega) nd (h3 p (by omega) (by omega) hwc) hw hwp hei
          exact hre n0 (ix k) _ _ _ rfl (fun t ht => h5 t (hR.ts k hk t ht)) h6 h7
        · have : (S (p + 1)).h = (S p).h := by rw [e]
          rw [this]; exact hp
      cases hcp : cl p with
      | p => rw [(hR.heap_pr (by omega) (.inl hcp)).1]; exact hp
      | r => rw [(hR.heap_pr (by omega) (.inr hcp)).1]; exact hp
      | a =>
        rcases (hR.heap_a (show p < m by omega) hcp).2 with h5 | ⟨ob', h5, h6⟩
        · rw [h5]; exact hp
        · rw [h5, T.get_set, if_neg]
          · exact hp
          · intro e
            rw [← e, hp] at h6
            cases h6
      | w => exact look (fun sk => by rw [hc, hcp]; rfl) (by rw [hcp]; rfl)
      | c =>
        cases hm : isMk (op k).op with
        | true => exact look (fun sk => by rw [hc, hcp, hm]; rfl) (by rw [hcp]; rfl)
        | false =>
          obtain ⟨ob', h5, h6⟩ := hR.grow hpu (show p < m by omega) (by rw [hcp]; simp) _ _ hp
          rw [h5]
          cases ob with
          | box l => rw [same_box h6]
          | map a b => rw [same_map h6]
          | row s l z =>
            obtain ⟨z1, l1, c1, h7⟩ := hmk (by simp) (by simp)
            have h8 := hR.mks k hk
            rw [h7] at h8
            simp only [mkOK] at h8
            rw [hm] at h8
            cases h8
end Run
end
end Tm
/- Regions that draw their order: any order. No statement of the seat is proved here. -/
namespace Tm
open Go
set_option linter.unusedVariables false
set_option linter.unusedSimpArgs false
theorem ei_wc_ra {a b : Cl} {mk sk x : Bool} (ha : isWC a = true) (hb : b = .r ∨ b = .a) (h : eitherWay a b mk sk = some x) : False := by
  rcases hb with rfl | rfl <;> cases a <;> simp_all [eitherWay, isWC]
theorem ei_wc_wc {a b : Cl} {mk sk x : Bool} (ha : isWC a = true) (hb : isWC b = true) (h : eitherWay a b mk sk = some x) : a = .w ∧ b = .w ∧ sk = true := by
  cases a <;> cases b <;> cases sk <;> simp_all [eitherWay, isWC]
theorem storeA_at {sz : Nat} {x v : AV} {h h' : Heap} (hc : storeA sz x v h = some h') : ∃ a o ob ob', x = .p a o ∧ h.get a = some ob ∧ h' = h.set a ob' ∧ ∀ h2, h2.get a = some ob → storeA sz x v h2 = some (h2.set a ob') := by
  unfold storeA at hc
  split at hc
  · rename_i a o
    split at hc
    · rename_i cs ho
      split at hc
      · rename_i vs hvs
        simp only [bif_none, Option.some.injEq] at hc
        obtain ⟨hb, rfl⟩ := hc
        refine ⟨a, o, _, _, rfl, ho, rfl, fun h2 h3 => ?_⟩
        simp only [storeA, h3, hvs, hb, cond_true]
      · cases hc
    · rename_i s l ho
      split at hc
      · rename_i vs hvs
        split at hc
        · rename_i ds hds
          split at hc
          · rename_i y hy
            simp only [bif_none, Option.some.injEq] at hc
            obtain ⟨hb, rfl⟩ := hc
            refine ⟨a, o, _, _, rfl, ho, rfl, fun h2 h3 => ?_⟩
            simp only [storeA, h3, hvs, hds, hy, hb, cond_true]
          · cases hc
        · cases hc
      · cases hc
    · cases hc
  · cases hc
theorem ev_store {sz : Nat} {X V : Opd} {e : Env} {h h1 : Heap} {k : Nat} {v : AV} (hc : evOp (.store sz X V) e h k = some (v, h1)) : v = .u ∧ storeA sz (X.ev e) (V.ev e) h = some h1 := by
  simp only [evOp] at hc
  split at hc
  · rename_i h2 hs
    simp only [Option.some.injEq, Prod.mk.injEq] at hc
    obtain ⟨rfl, rfl⟩ := hc
    exact ⟨rfl, hs⟩
  · cases hc
section
variable {P : Program} {G : Nat → Option AV} {pu : Nat → Bool} {C : CallF} {n0 N m : Nat} {ops : Array Oper} {ix : Nat → Nat} {op : Nat → Oper} {co : Nat → COper} {cl : Nat → Cl} {an : Nat → Nat → Bool} {S : Nat → St}
  {I0 : Inj} {M0 : Mem} {a0 : Act} {Q : Exit → Act → World → Prop}
def Normal (m : Nat) (ix : Nat → Nat) (cl : Nat → Cl) (S : Nat → St) (L : Array Bool) (H : Heap) (n : Nat) : Prop := ∃ p, p ≤ m ∧ (p < m → isWC (cl p) = true) ∧ (∀ x, x < m → isWC (cl x) = true → (Dn ix L x ↔ x < p)) ∧ H = (S p).h ∧ n = (S p).n
def Special (ops : Array Oper) (m : Nat) (ix : Nat → Nat) (op : Nat → Oper) (co : Nat → COper) (cl : Nat → Cl) (an : Nat → Nat → Bool) (S : Nat → St) (L : Array Bool) (H : Heap) (n : Nat) : Prop :=
  ∃ q j, q < j ∧ j < m ∧ Pr ops op co cl an q j ∧ cl q = .w ∧ cl j = .w ∧ (∀ x, x < m → isWC (cl x) = true → (Dn ix L x ↔ x < q ∨ x = j)) ∧ n = (S q).n ∧ (S (j + 1)).n = n ∧
    (∀ y, H.get y = (S q).h.get y ∨ (H.get y = (S (j + 1)).h.get y ∧ wants (S j).e (co j).guard = some true)) ∧
    (wants (S q).e (co q).guard = some true → ∃ H2, (∀ k, evOp (co q).op (S q).e H k = some (.u, H2)) ∧ ∀ y, H2.get y = (S (j + 1)).h.get y) ∧
    (wants (S q).e (co q).guard = some false → ∀ y, H.get y = (S (j + 1)).h.get y)
abbrev Mode (ops : Array Oper) (m : Nat) (ix : Nat → Nat) (op : Nat → Oper) (co : Nat → COper) (cl : Nat → Cl) (an : Nat → Nat → Bool) (S : Nat → St) (L : Array Bool) (H : Heap) (n : Nat) : Prop := Normal m ix cl S L H n ∨ Special ops m ix op co cl an S L H n
def Names (n0 m : Nat) (ops : Array Oper) (ix : Nat → Nat) (I0 : Inj) (L : Array Bool) (I : Inj) (n : Nat) : Prop := ∀ x, I x ≠ none → I0 x ≠ none ∨ (∃ y, y < m ∧ Dn ix L y ∧ x = n0 + ix y) ∨ (n0 + ops.size ≤ x ∧ x < n)
structure Inv (G : Nat → Option AV) (n0 m : Nat) (ops : Array Oper) (ix : Nat → Nat) (op : Nat → Oper) (co : Nat → COper) (cl : Nat → Cl) (an : Nat → Nat → Bool) (S : Nat → St) (I0 : Inj) (M0 : Mem) (a0 : Act) (L : Array Bool) (I : Inj) (M : Mem) (a : Act) : Prop where
  sz : L.size = ops.size
  dc : Run.DC ix an m L
  ext : Ext M0 M
  le : Le I0 I
  asz : a.tmps.size = a0.tmps.size
  df : a.defers = a0.defers
  st : ∃ e H n, (∀ t, e.get t = envD ix op S L m t) ∧ SR G I M ⟨e, H, n⟩ a ∧ Names n0 m ops ix I0 L I n ∧ n0 + ops.size ≤ n ∧ Mode ops m ix op co cl an S L H n
namespace Run
theorem ix_lt (hR : Run P G pu C n0 ops N m ix op co cl an S) {k : Nat} (hk : k < m) : ix k < ops.size := (Array.getElem?_eq_some_iff.1 (hR.at_ k hk)).1
theorem ix_eq (hR : Run P G pu C n0 ops N m ix op co cl an S) {k k' : Nat} (hk : k < m) (hk' : k' < m) (h : ix k = ix k') : k = k' := by
  rcases Nat.lt_trichotomy k k' with h1 | h1 | h1
  · exact absurd h (hR.inj k' k h1 hk')
  · exact h1
  · exact absurd h.symm (hR.inj k k' h1 hk)
theorem free (hR : Run P G pu C n0 ops N m ix op co cl an S) (hf : ∀ x, n0 ≤ x → I0 x = none) {L : Array Bool} {I : Inj} {n k : Nat} (hN : Names n0 m ops ix I0 L I n) (hk : k < m) (nd : ¬ Dn ix L k) : I (n0 + ix k) = none := by
  cases hi : I (n0 + ix k) with
  | none => rfl
  | some q =>
    rcases hN (n0 + ix k) (by rw [hi]; simp) with h | ⟨y, h1, h2, h3⟩ | ⟨h, _⟩
    · exact absurd (hf _ (by omega)) h
    · have := hR.ix_eq hk h1 (by omega)
      subst this
      exact absurd h2 nd
    · have := hR.ix_lt hk
      omega
theorem free_n (hR : Run P G pu C n0 ops N m ix op co cl an S) (hf : ∀ x, n0 ≤ x → I0 x = none) {L : Array Bool} {I : Inj} {n : Nat} (hN : Names n0 m ops ix I0 L I n) (hn : n0 + ops.size ≤ n) : ∀ x, n ≤ x → I x = none := fun x hx => by
  cases hi : I x with
  | none => rfl
  | some q =>
    rcases hN x (by rw [hi]; simp) with h | ⟨y, h1, h2, h3⟩ | ⟨h, h'⟩
    · exact absurd (hf _ (by omega)) h
    · have := hR.ix_lt h1
      omega
    · omega
/-- What is left of memory behind an operation. -/
def Fin (ops : Array Oper) (m : Nat) (ix : Nat → Nat) (op : Nat → Oper) (co : Nat → COper) (cl : Nat → Cl) (an : Nat → Nat → Bool) (S : Nat → St) (L : Array Bool) (I : Inj) (H : Heap) (n : Nat) : Prop :=
  ∃ H2, (∀ x ob, I x ≠ none → H2.get x = some ob → H.get x = some ob) ∧ Mode ops m ix op co cl an S L H2 n
variable {L : Array Bool} {I : Inj} {M : Mem} {a : Act} {k : Nat} {K : Act → World → Prop}
theorem dc_set (hR : Run P G pu C n0 ops N m ix op co cl an S) (hdc : DC ix an m L) (hsz : L.size = ops.size) (hk : k < m) (ra : ∀ x, x < m → an k x = true → Dn ix L x) : DC ix an m (L.setIfInBounds (ix k) true) := by
  have hlt : ix k < L.size := by rw [hsz]; exact hR.ix_lt hk
  intro k1 k2 h1 h2 h3 h4
  rw [dn_set hR hk h1 hlt] at h4
  rw [dn_set hR hk h2 hlt]
  rcases h4 with rfl | h4
  · exact .inr (ra k2 h2 h3)
  · exact .inr (hdc k1 k2 h1 h2 h3 h4)
/-- The new state. -/
theorem inv_next (hR : Run P G pu C n0 ops N m ix op co cl an S) (hN : N ≤ a0.tmps.size) (hI : Inv G n0 m ops ix op co cl an S I0 M0 a0 L I M a) (hk : k < m) (nd : ¬ Dn ix L k) (ra : ∀ x, x < m → an k x = true → Dn ix L x)
    {e : Env} {n n' : Nat} {H' : Heap} {v : AV} {u : Value} {I' : Inj} {M' : Mem} (he : ∀ t, e.get t = envD ix op S L m t) (hE : ER I M e a.tmps) (hG : GOk G M) (hNm : Names n0 m ops ix I0 L I n) (hn : n0 + ops.size ≤ n) (hv : (S (k + 1)).e = putE (S k).e (co k).dst v)
    (x1 : Ext M M') (x2 : Le I I') (x3 : ∀ x, I' x ≠ none → I x ≠ none ∨ x = n0 + ix k ∨ (n ≤ x ∧ x < n')) (x4 : n ≤ n') (x5 : RH I' M' H') (x6 : RV I' M' v u) (hfin : Fin ops m ix op co cl an S (L.setIfInBounds (ix k) true) I' H' n') :
    Inv G n0 m ops ix op co cl an S I0 M0 a0 (L.setIfInBounds (ix k) true) I' M' (a.put (op k).dst u) := by
  have hlt : ix k < L.size := by rw [hI.sz]; exact hR.ix_lt hk
  obtain ⟨H2, hH2, hmode⟩ := hfin
  have hd : ∀ t, (op k).dst = some t → t < a.tmps.size := fun t ht => by
    obtain ⟨c0, e1, _⟩ := hR.comp k hk
    have := (compOper_spec e1).2.2.2.1 t ht
    rw [hI.asz]; exact Nat.lt_of_lt_of_le this hN
  refine ⟨by simp [hI.sz], hR.dc_set hI.dc hI.sz hk ra, hI.ext.trans x1, hI.le.trans x2, by rw [put_size]; exact hI.asz, by rw [put_defers']; exact hI.df, putE e (op k).dst v, H2, n', fun t => ?_, ⟨(hE.ext x1 x2).put (N := N) x6 hd, x5.congr hH2, hG.ext x1⟩, fun x hx => ?_, by omega, hmode⟩
  · rw [hR.env_upd hI.dc hk nd hlt, hv, hR.dst hk]
    cases hdd : (op k).dst with
    | none => simp only [putE]; rw [if_neg (by simp)]; exact he t
    | some d =>
      simp only [putE, T.get_set, Option.some.injEq]
      by_cases htd : t = d
      · subst htd; simp
      · rw [if_neg htd, if_neg (fun h => htd h.symm)]; exact he t
  · have up : ∀ y, y < m → Dn ix L y → Dn ix (L.setIfInBounds (ix k) true) y := fun y h1 h2 => (dn_set hR hk h1 hlt).2 (.inr h2)
    rcases x3 x hx with h | h | h
    · rcases hNm x h with h1 | ⟨y, h1, h2, h3⟩ | ⟨h1, h2⟩
      · exact .inl h1
      · exact .inr (.inl ⟨y, h1, up y h1 h2, h3⟩)
      · exact .inr (.inr ⟨h1, by omega⟩)
    · exact .inr (.inl ⟨k, hk, (dn_set hR hk hk hlt).2 (.inl rfl), h⟩)
    · exact .inr (.inr (by omega))
/-- An operation is carried out. -/
theorem exec (hR : Run P G pu C n0 ops N m ix op co cl an S) (hC : CallOK P G C) (hf : ∀ x, n0 ≤ x → I0 x = none) (hN : N ≤ a0.tmps.size) (hI : Inv G n0 m ops ix op co cl an S I0 M0 a0 L I M a) (hk : k < m) (nd : ¬ Dn ix L k) (ra : ∀ x, x < m → an k x = true → Dn ix L x)
    (hK : ∀ I' M' a', Inv G n0 m ops ix op co cl an S I0 M0 a0 (L.setIfInBounds (ix k) true) I' M' a' → K a' M'.w)
    {e : Env} {n : Nat} {H : Heap} (he : ∀ t, e.get t = envD ix op S L m t) (hS : SR G I M ⟨e, H, n⟩ a) (hNm : Names n0 m ops ix I0 L I n) (hn : n0 + ops.size ≤ n)
    (h : (∃ v H' n', wants (S k).e (co k).guard = some true ∧ doOp C (co k).op ⟨(S k).e, H, n⟩ (n0 + ix k) = some (v, H', n') ∧ (S (k + 1)).e = putE (S k).e (co k).dst v ∧
        ∀ I' : Inj, (∀ x, I' x ≠ none → I x ≠ none ∨ x = n0 + ix k ∨ (n ≤ x ∧ x < n')) → Fin ops m ix op co cl an S (L.setIfInBounds (ix k) true) I' H' n') ∨
      (wants (S k).e (co k).guard = some false ∧ (S (k + 1)).e = putE (S k).e (co k).dst (.tu []) ∧ Fin ops m ix op co cl an S (L.setIfInBounds (ix k) true) I H n)) :
    wpOp P ops Q (ix k) K a M.w := by
  have hl : ∀ t ∈ looks ops (op k), e.get t = (S k).e.get t := fun t ht => by rw [he t, hR.env_at hI.dc hk nd ra ht]
  have hg := hR.gu hk
  obtain ⟨c0, e1, e2, e3, e4⟩ := hR.comp k hk
  obtain ⟨d1, _, _, _, _⟩ := compOper_spec e1
  rw [e2] at d1
  unfold wpOp
  simp only [hR.at_ k hk]
  rcases h with ⟨v, H', n', hw, hd, hv, hfin⟩ | ⟨hw, hv, hfin⟩
  · rw [← wants_congr hg hl] at hw
    rw [wants_rel hS.er hg hw]
    simp only [if_true]
    left
    rw [← doOp_congr (fun t ht => hl t (hR.ts k hk t ht))] at hd
    refine sim_doOp hC hS (hR.free hf hNm hk nd) (hR.free_n hf hNm hn) d1 hd fun u w' hpost => ?_
    obtain ⟨M', I', rfl, x1, x2, x3, x4, x5, x6⟩ := hpost
    exact hK I' M' _ (hR.inv_next hN hI hk nd ra he hS.er hS.g hNm hn hv x1 x2 x3 x4 x5 x6 (hfin I' x3))
  · rw [← wants_congr hg hl] at hw
    rw [wants_rel hS.er hg hw]
    simp only [Bool.false_eq_true, if_false]
    exact hK I M _ (hR.inv_next hN hI hk nd ra he hS.er hS.g hNm hn hv (Ext.refl M) (Le.refl I) (fun x hx => .inl hx) (Nat.le_refl _) hS.rh (.inr ⟨_, _, rfl, rfl, rfl⟩) hfin)
theorem nxt (hR : Run P G pu C n0 ops N m ix op co cl an S) {I' : Inj} : ∀ d y, y + d = m → (∀ x, y ≤ x → x < m → cl x = .a → I' (n0 + ix x) = none) → ∃ p, y ≤ p ∧ p ≤ m ∧ (p < m → isWC (cl p) = true) ∧ (∀ x, y ≤ x → x < p → isWC (cl x) = false) ∧ (S p).n = (S y).n ∧ ∀ nm ob, I' nm ≠ none → (S p).h.get nm = some ob → (S y).h.get nm = some ob
  | 0, y, hy, ha => ⟨y, Nat.le_refl _, by omega, fun h => by omega, fun x h1 h2 => by omega, rfl, fun _ _ _ h => h⟩
  | d + 1, y, hy, ha => by
    cases hwc : isWC (cl y) with
    | true => exact ⟨y, Nat.le_refl _, by omega, fun _ => hwc, fun x h1 h2 => by omega, rfl, fun _ _ _ h => h⟩
    | false =>
      obtain ⟨p, h1, h2, h3, h4, h5, h6⟩ := nxt hR d (y + 1) (by omega) (fun x hx => ha x (by omega))
      have hs : (S (y + 1)).n = (S y).n ∧ ∀ nm ob, I' nm ≠ none → (S (y + 1)).h.get nm = some ob → (S y).h.get nm = some ob := by
        cases hcl : cl y with
        | p => obtain ⟨g1, g2⟩ := hR.heap_pr (show y < m by omega) (.inl hcl); rw [g1, g2]; exact ⟨rfl, fun _ _ _ h => h⟩
        | r => obtain ⟨g1, g2⟩ := hR.heap_pr (show y < m by omega) (.inr hcl); rw [g1, g2]; exact ⟨rfl, fun _ _ _ h => h⟩
        | a =>
          obtain ⟨g1, g2 | ⟨ob0, g2, g3⟩⟩ := hR.heap_a (show y < m by omega) hcl
          · rw [g1, g2]; exact ⟨rfl, fun _ _ _ h => h⟩
          · refine ⟨g1, fun nm ob hnm hg => ?_⟩
            rw [g2, T.get_set] at hg
            by_cases hne : nm = n0 + ix y
            · subst hne
              exact absurd (ha y (Nat.le_refl _) (by omega) hcl) hnm
            · rw [if_neg hne] at hg; exact hg
        | w => rw [hcl] at hwc; cases hwc
        | c => rw [hcl] at hwc; cases hwc
      refine ⟨p, by omega, h2, h3, fun x g1 g2 => ?_, by rw [h5, hs.1], fun nm ob g1 g2 => hs.2 nm ob g1 (h6 nm ob g1 g2)⟩
      rcases Nat.eq_or_lt_of_le g1 with g | g
      · rw [← g]; exact hwc
      · exact h4 x (by omega) g2
theorem before_ra (hR : Run P G pu C n0 ops N m ix op co cl an S) {p k : Nat} (hpk : p < k) (hk : k < m) (hp : isWC (cl p) = true) (hc : cl k = .r ∨ cl k = .a) : an k p = true := by
  rcases hR.pair p k hpk hk with h | ⟨_, sk, _, h | ⟨h, _⟩⟩
  · exact h
  · exact (ei_wc_ra hp hc h).elim
  · exact (ei_wc_ra hp hc h).elim
theorem before_wc (hR : Run P G pu C n0 ops N m ix op co cl an S) {p k : Nat} (hpk : p < k) (hk : k < m) (hp : isWC (cl p) = true) (hc : isWC (cl k) = true) : an k p = true ∨ (cl p = .w ∧ cl k = .w ∧ Pr ops op co cl an p k) := by
  rcases hR.pair p k hpk hk with h | ⟨_, sk, hs, h | ⟨h, _⟩⟩
  · exact .inl h
  · obtain ⟨h1, h2, h3⟩ := ei_wc_wc hp hc h
    exact .inr ⟨h1, h2, hs h3⟩
  · obtain ⟨h1, h2, h3⟩ := ei_wc_wc hp hc h
    exact .inr ⟨h1, h2, hs h3⟩
theorem mode_keep (hR : Run P G pu C n0 ops N m ix op co cl an S) (hsz : L.size = ops.size) (hk : k < m) (hwc : isWC (cl k) = false) {H : Heap} {n : Nat} (h : Mode ops m ix op co cl an S L H n) : Mode ops m ix op co cl an S (L.setIfInBounds (ix k) true) H n := by
  have hlt : ix k < L.size := by rw [hsz]; exact hR.ix_lt hk
  have hdn : ∀ x, x < m → isWC (cl x) = true → (Dn ix (L.setIfInBounds (ix k) true) x ↔ Dn ix L x) := fun x hx hw => by
    rw [dn_set hR hk hx hlt]
    have : x ≠ k := by rintro rfl; rw [hwc] at hw; cases hw
    simp [this]
  rcases h with ⟨p, h1, h2, h3, h4⟩ | ⟨q, j, h1, h2, h3, h4, h5, h6, h7⟩
  · exact .inl ⟨p, h1, h2, fun x hx hw => (hdn x hx hw).trans (h3 x hx hw), h4⟩
  · exact .inr ⟨q, j, h1, h2, h3, h4, h5, fun x hx hw => (hdn x hx hw).trans (h6 x hx hw), h7⟩
/-- Behind the last operation that writes, up to the next. -/
theorem fin_next (hR : Run P G pu C n0 ops N m ix op co cl an S) (hf : ∀ x, n0 ≤ x → I0 x = none) (hdc : DC ix an m L) {n n' : Nat} (hNm : Names n0 m ops ix I0 L I n) (hn : n0 + ops.size ≤ n) {y q : Nat} (hy : y < m) (hqy : q ≤ y) (hq : isWC (cl q) = true) (ndq : ¬ Dn ix L q) (hyw : q = y ∨ isWC (cl y) = true) {L' : Array Bool} (hL : ∀ x, x < m → isWC (cl x) = true → (Dn ix L' x ↔ x ≤ y)) {I' : Inj} (hI' : ∀ x, I' x ≠ none → I x ≠ none ∨ x = n0 + ix q ∨ (n ≤ x ∧ x < n')) {H : Heap} (hH : ∀ nm, H.get nm = (S (y + 1)).h.get nm) (hnn : n' = (S (y + 1)).n) :
    Fin ops m ix op co cl an S L' I' H n' := by
  obtain ⟨p, h1, h2, h3, h4, h5, h6⟩ := hR.nxt (I' := I') (m - (y + 1)) (y + 1) (by omega) (fun x h1 h2 h3 => by
    have ha := hR.before_ra (show q < x by omega) h2 hq (.inr h3)
    have nd : ¬ Dn ix L x := fun hd => ndq (hdc x q h2 (by omega) ha hd)
    cases hi : I' (n0 + ix x) with
    | none => rfl
    | some w =>
      rcases hI' _ (by rw [hi]; simp) with h | h | h
      · exact absurd (hR.free hf hNm h2 nd) h
      · have := hR.ix_eq h2 (show q < m by omega) (by omega)
        omega
      · have := hR.ix_lt h2
        omega)
  refine ⟨(S p).h, fun x ob hx hg => by rw [hH]; exact h6 x ob hx hg, .inl ⟨p, h2, h3, fun x hx hw => ?_, rfl, by rw [hnn, h5]⟩⟩
  rw [hL x hx hw]
  constructor
  · intro h; omega
  · intro h
    rcases Nat.lt_or_ge y x with h7 | h7
    · rw [h4 x (by omega) h] at hw; cases hw
    · exact h7
end Run
end
end Tm
/- Regions that draw their order: each step, and the whole. No statement of the seat is proved here. -/
namespace Tm
open Go
set_option linter.unusedVariables false
set_option linter.unusedSimpArgs false
section
variable {P : Program} {G : Nat → Option AV} {pu : Nat → Bool} {C : CallF} {n0 N m : Nat} {ops : Array Oper} {ix : Nat → Nat} {op : Nat → Oper} {co : Nat → COper} {cl : Nat → Cl} {an : Nat → Nat → Bool} {S : Nat → St}
  {I0 : Inj} {M0 : Mem} {a0 : Act} {Q : Exit → Act → World → Prop}
namespace Run
variable {L : Array Bool} {I : Inj} {M : Mem} {a : Act} {k : Nat} {K : Act → World → Prop}
theorem mid_same (hR : Run P G pu C n0 ops N m ix op co cl an S) {q j : Nat} (hj : j < m) (hP : Pr ops op co cl an q j) : ∀ x, q + 1 ≤ x → x ≤ j → (S x).h = (S (q + 1)).h ∧ (S x).n = (S (q + 1)).n := by
  intro x
  induction x with
  | zero => intro h; omega
  | succ x ih =>
    intro h1 h2
    rcases Nat.eq_or_lt_of_le h1 with h | h
    · rw [h]; exact ⟨rfl, rfl⟩
    · obtain ⟨_, X, _, _, _, hmid, _⟩ := hP
      have hc : cl x = .p ∨ cl x = .r := by
        rcases hmid x (by omega) (by omega) with h3 | h3 | ⟨_, h3⟩
        · exact .inl h3
        · exact .inr h3
        · have := hR.an_lt q (by omega) x (by omega) h3
          omega
      obtain ⟨g1, g2⟩ := hR.heap_pr (show x < m by omega) hc
      obtain ⟨g3, g4⟩ := ih (by omega) (by omega)
      exact ⟨g1.trans g3, g2.trans g4⟩
/-- The later one of two stores comes first. -/
theorem early (hR : Run P G pu C n0 ops N m ix op co cl an S) (hsz : L.size = ops.size) {q : Nat} (hq : q < k) (hk : k < m) (hP : Pr ops op co cl an q k) (cq : cl q = .w) (ck : cl k = .w) (nd : ¬ Dn ix L k) (hw3 : ∀ x, x < m → isWC (cl x) = true → (Dn ix L x ↔ x < q)) :
    (∃ v H' , wants (S k).e (co k).guard = some true ∧ doOp C (co k).op ⟨(S k).e, (S q).h, (S q).n⟩ (n0 + ix k) = some (v, H', (S q).n) ∧ (S (k + 1)).e = putE (S k).e (co k).dst v ∧ Mode ops m ix op co cl an S (L.setIfInBounds (ix k) true) H' (S q).n) ∨
    (wants (S k).e (co k).guard = some false ∧ (S (k + 1)).e = putE (S k).e (co k).dst (.tu []) ∧ Mode ops m ix op co cl an S (L.setIfInBounds (ix k) true) (S q).h (S q).n) := by
  have hlt : ix k < L.size := by rw [hsz]; exact hR.ix_lt hk
  have hP' := hP
  obtain ⟨_, X, hdis, ⟨sz, V, hoq⟩, ⟨sz2, Y, V2, hok⟩, hmid, hlk⟩ := hP
  have ncq : isCall (co q).op = false := by rw [hoq]; rfl
  have nck : isCall (co k).op = false := by rw [hok]; rfl
  obtain ⟨m1, m2⟩ := hR.mid_same hk hP' k (by omega) (Nat.le_refl _)
  have hdn : ∀ x, x < m → isWC (cl x) = true → (Dn ix (L.setIfInBounds (ix k) true) x ↔ x < q ∨ x = k) := fun x hx hw => by
    rw [dn_set hR hk hx hlt, hw3 x hx hw]
    constructor
    · rintro (h | h)
      · exact .inr h
      · exact .inl h
    · rintro (h | h)
      · exact .inr h
      · exact .inl h
  have nq : (S (q + 1)).n = (S q).n := by
    rcases hR.step_ev (show q < m by omega) ncq with ⟨_, _, _, _, e, _⟩ | ⟨_, e⟩ <;> rw [e]
  have nk : (S (k + 1)).n = (S q).n := by
    rcases hR.step_ev hk nck with ⟨_, _, _, _, e, _⟩ | ⟨_, e⟩ <;> rw [e] <;> simp only <;> rw [m2, nq]
  have hX : ∀ t ∈ (co q).op.ts, (S k).e.get t = (S q).e.get t := fun t ht => by
    refine hR.env_same k (by omega) (by omega) fun z h1 h2 => ?_
    rcases hlk z (by omega) with h3 | h3
    · have := hR.an_lt q (by omega) z (by omega) h3
      omega
    · exact h3 t (hR.ts q (by omega) t ht)
  rcases hR.step k hk with ⟨hw, v, h, n1, hd, hS1, _, _, hap⟩ | ⟨hw, hS1⟩
  · left
    obtain ⟨hev, _⟩ := doOp_ev hd nck
    have hev' := hev
    rw [hok] at hev
    obtain ⟨rfl, hst⟩ := ev_store hev
    rw [m1] at hst
    obtain ⟨b, ob, obj, obj', hY, hbg, hh, hst2⟩ := storeA_at hst
    rcases hR.step_ev (show q < m by omega) ncq with ⟨hwq, vq, hq1, hevq, hSq, _⟩ | ⟨hwq, hSq⟩
    · have hevq' := hevq
      rw [hoq] at hevq
      obtain ⟨rfl, hstq⟩ := ev_store hevq
      obtain ⟨aa, oa, obq, obq', hXa, hag, hhq, hstq2⟩ := storeA_at hstq
      have hXk : X.ev (S k).e = .p aa oa := by
        rw [Opd.ev_congr (e' := (S q).e) (fun t ht => hX t (by rw [hoq]; exact List.mem_append_left _ ht)), hXa]
      have hne : b ≠ aa := by
        simp only [apart, hdis, hXk, hok, hY] at hap
        simp only [Bool.not_eq_true', beq_eq_false_iff_ne] at hap
        exact fun e => hap e.symm
      have hSqh : (S (q + 1)).h = (S q).h.set aa obq' := by rw [hSq]; exact hhq
      have hbq : (S q).h.get b = some obj := by
        rw [hSqh, T.get_set, if_neg hne] at hbg; exact hbg
      have hSk : (S (k + 1)).h = ((S q).h.set aa obq').set b obj' := by rw [hS1]; simp only; rw [hh, hSqh]
      refine ⟨.u, (S q).h.set b obj', hw, ?_, by rw [hS1], .inr ⟨q, k, hq, hk, hP', cq, ck, hdn, rfl, nk, fun y => ?_, fun _ => ⟨((S q).h.set b obj').set aa obq', fun k2 => ?_, fun y => ?_⟩, fun h => by rw [hwq] at h; cases h⟩⟩
      · refine doOp_of (s := ⟨(S k).e, (S q).h, (S q).n⟩) nck ?_
        simp only [hok, evOp, hst2 _ hbq]
      · by_cases hyb : y = b
        · subst hyb
          refine .inr ⟨?_, hw⟩
          rw [hSk, T.get_set, T.get_set, if_pos rfl, if_pos rfl]
        · left
          rw [T.get_set, if_neg hyb]
      · have : ((S q).h.set b obj').get aa = some obq := by rw [T.get_set, if_neg (fun e => hne e.symm)]; exact hag
        simp only [hoq, evOp, hstq2 _ this]
      · rw [hSk]
        simp only [T.get_set]
        by_cases h1 : y = aa
        · subst h1
          rw [if_pos rfl, if_neg (fun e => hne e.symm), if_pos rfl]
        · rw [if_neg h1, if_neg h1]
    · have hSqh : (S (q + 1)).h = (S q).h := by rw [hSq]
      rw [hSqh] at hbg hh
      have hSk : (S (k + 1)).h = (S q).h.set b obj' := by rw [hS1]; exact hh
      refine ⟨.u, (S q).h.set b obj', hw, ?_, by rw [hS1], .inr ⟨q, k, hq, hk, hP', cq, ck, hdn, rfl, nk, fun y => .inr ⟨by rw [hSk], hw⟩, (fun h => by rw [hwq] at h; cases h), (fun _ y => by rw [hSk])⟩⟩
      refine doOp_of (s := ⟨(S k).e, (S q).h, (S q).n⟩) nck ?_
      simp only [hok, evOp, hst2 _ hbg]
  · right
    have hSk : (S (k + 1)).h = (S (q + 1)).h := by rw [hS1]; exact m1
    refine ⟨hw, by rw [hS1], .inr ⟨q, k, hq, hk, hP', cq, ck, hdn, rfl, nk, fun y => .inl rfl, fun hwq => ?_, fun hwq y => ?_⟩⟩
    · rcases hR.step_ev (show q < m by omega) ncq with ⟨_, vq, hq1, hevq, hSq, _⟩ | ⟨hwq', _⟩
      · rw [hoq] at hevq
        obtain ⟨rfl, hstq⟩ := ev_store hevq
        refine ⟨hq1, fun k2 => ?_, fun y => by rw [hSk, hSq]⟩
        simp only [hoq, evOp, hstq]
      · rw [hwq] at hwq'; cases hwq'
    · rcases hR.step_ev (show q < m by omega) ncq with ⟨hwq', _⟩ | ⟨_, hSq⟩
      · rw [hwq] at hwq'; cases hwq'
      · rw [hSk, hSq]
theorem step_ok (hR : Run P G pu C n0 ops N m ix op co cl an S) (hC : CallOK P G C) (hpu : ∀ g args h n v h' n', pu g = true → C g args h n = some (v, h', n') → Soft n h h') (hf : ∀ x, n0 ≤ x → I0 x = none) (hN : N ≤ a0.tmps.size) (hI : Inv G n0 m ops ix op co cl an S I0 M0 a0 L I M a) (hk : k < m) (nd : ¬ Dn ix L k) (ra : ∀ x, x < m → an k x = true → Dn ix L x)
    (hK : ∀ I' M' a', Inv G n0 m ops ix op co cl an S I0 M0 a0 (L.setIfInBounds (ix k) true) I' M' a' → K a' M'.w) : wpOp P ops Q (ix k) K a M.w := by
  have hlt : ix k < L.size := by rw [hI.sz]; exact hR.ix_lt hk
  obtain ⟨e, H, n, he, hS, hNm, hn, hmode⟩ := hI.st
  have ex := hR.exec (Q := Q) hC hf hN hI hk nd ra hK he hS hNm hn
  have quiet : isWC (cl k) = false → isCall (co k).op = false → (∀ v h, evOp (co k).op (S k).e (S k).h (n0 + ix k) = some (v, h) → wants (S k).e (co k).guard = some true → S (k + 1) = ⟨putE (S k).e (co k).dst v, h, (S k).n⟩ → ∃ H', evOp (co k).op (S k).e H (n0 + ix k) = some (v, H') ∧ ∀ nm ob, H.get nm = some ob → H'.get nm = some ob) → wpOp P ops Q (ix k) K a M.w := by
    intro hwc hnc hq
    refine ex ?_
    rcases hR.step_ev hk hnc with ⟨hw, v, h, hev, hS1, _⟩ | ⟨hw, hS1⟩
    · obtain ⟨H', h1, h2⟩ := hq v h hev hw hS1
      exact .inl ⟨v, H', n, hw, doOp_of (s := ⟨(S k).e, H, n⟩) hnc h1, by rw [hS1], fun I' _ => ⟨H, fun x ob _ => h2 x ob, hR.mode_keep hI.sz hk hwc hmode⟩⟩
    · exact .inr ⟨hw, by rw [hS1], H, fun _ _ _ h => h, hR.mode_keep hI.sz hk hwc hmode⟩
  have hcls := hR.cls k hk
  cases hcl : cl k with
  | p =>
    rw [hcl] at hcls
    simp only [clOK] at hcls
    exact quiet (by rw [hcl]; rfl) (rd_call (pu_rd hcls)) fun v h hev _ _ => ⟨H, (pu_any hcls hev).2 H _, fun _ _ h => h⟩
  | r =>
    rw [hcl] at hcls
    simp only [clOK] at hcls
    refine quiet (by rw [hcl]; rfl) (rd_call hcls) fun v h hev hw hS1 => ⟨H, ?_, fun _ _ h => h⟩
    rcases hmode with ⟨p, h1, h2, h3, rfl, rfl⟩ | ⟨q, j, h1, h2, h3, h4, h5, h6, h7, h8, h9, h10, h11⟩
    · have hkp : k < p := by
        rcases Nat.lt_or_ge k p with h | h
        · exact h
        · have hpw := h2 (by omega)
          rcases Nat.eq_or_lt_of_le h with h' | h'
          · subst h'; rw [hcl] at hpw; cases hpw
          · have := (h3 p (by omega) hpw).1 (ra p (by omega) (hR.before_ra h' hk hpw (.inl hcl)))
            omega
      exact hR.evo_r hpu hI.dc hk hcl nd hw hev hS1 p hkp h1 (fun x g1 g2 g3 => (h3 x (by omega) (by rw [g3]; rfl)).2 g2) _
    · have ndq : ¬ Dn ix L q := fun hd => by
        rcases (h6 q (by omega) (by rw [h4]; rfl)).1 hd with h | h <;> omega
      have hkq : k < q := by
        rcases Nat.lt_trichotomy k q with h | h | h
        · exact h
        · subst h; rw [hcl] at h4; cases h4
        · exact absurd (ra q (by omega) (hR.before_ra h hk (by rw [h4]; rfl) (.inl hcl))) ndq
      have e1 := hR.evo_r hpu hI.dc hk hcl nd hw hev hS1 q hkq (by omega) (fun x g1 g2 g3 => (h6 x (by omega) (by rw [g3]; rfl)).2 (.inl g2))
      rcases h9 (rdAt (co k).op (S k).e) with h12 | ⟨h12, hwj⟩
      · exact (read_at hcls (e1 0)).2 H _ fun ob ho => ⟨ob, by rw [h12]; exact ho, SameOb.refl ob⟩
      · have e2 := hR.re_r hI.dc (show k < j by omega) h2 hcl h5 nd ((h6 j h2 (by rw [h5]; rfl)).2 (.inr rfl)) hw hS1 hwj
        exact (read_at hcls (e2 0)).2 H _ fun ob ho => ⟨ob, by rw [h12]; exact ho, SameOb.refl ob⟩
  | a =>
    rw [hcl] at hcls
    simp only [clOK] at hcls
    refine quiet (by rw [hcl]; rfl) (al_call hcls) fun v h hev hw hS1 => ?_
    rcases al_any hcls hev with ⟨g1, g2⟩ | ⟨ob, g1, g2, g3, g4⟩
    · exact ⟨H, g2 H, fun _ _ h => h⟩
    · refine ⟨H.set (n0 + ix k) ob, g2 H, fun nm ob' hg => ?_⟩
      rcases hmode with ⟨p, h1, h2, h3, rfl, rfl⟩ | ⟨q, j, h1, h2, h3, h4, h5, h6, h7, h8, h9, h10, h11⟩
      · have hkp : k < p := by
          rcases Nat.lt_or_ge k p with h | h
          · exact h
          · have hpw := h2 (by omega)
            rcases Nat.eq_or_lt_of_le h with h' | h'
            · subst h'; rw [hcl] at hpw; cases hpw
            · have := (h3 p (by omega) hpw).1 (ra p (by omega) (hR.before_ra h' hk hpw (.inr hcl)))
              omega
        have hob := hR.evo_a (v := v) hpu hI.dc hk hcl nd hw (by rw [hS1, g1]; simp only [T.get_set, if_pos]) g3 g4 p hkp h1 (fun x f1 f2 f3 => (h3 x (by omega) f3).2 f2)
        rw [T.get_set]
        by_cases hnm : nm = n0 + ix k
        · subst hnm
          rw [if_pos rfl, ← hob, hg]
        · rw [if_neg hnm]; exact hg
      · exfalso
        have ndq : ¬ Dn ix L q := fun hd => by
          rcases (h6 q (by omega) (by rw [h4]; rfl)).1 hd with h | h <;> omega
        rcases Nat.lt_trichotomy k q with h | h | h
        · obtain ⟨_, X, _, _, _, hmid, _⟩ := h3
          rcases hmid k (by omega) (by omega) with f | f | ⟨f, _⟩
          · rw [hcl] at f; cases f
          · rw [hcl] at f; cases f
          · exact nd (hI.dc j k h2 hk f ((h6 j h2 (by rw [h5]; rfl)).2 (.inr rfl)))
        · subst h; rw [hcl] at h4; cases h4
        · exact absurd (ra q (by omega) (hR.before_ra h hk (by rw [h4]; rfl) (.inr hcl))) ndq
  | _ =>
    have hwk : isWC (cl k) = true := by rw [hcl]; rfl
    rcases hmode with ⟨p, h1, h2, h3, rfl, rfl⟩ | ⟨q, j, h1, h2, h3, h4, h5, h6, h7, h8, h9, h10, h11⟩
    · rcases Nat.lt_trichotomy k p with h | h | h
      · exact absurd ((h3 k hk hwk).2 h) nd
      · subst h
        have hL : ∀ x, x < m → isWC (cl x) = true → (Dn ix (L.setIfInBounds (ix k) true) x ↔ x ≤ k) := fun x hx hw => by
          rw [dn_set hR hk hx hlt, h3 x hx hw]; omega
        refine ex ?_
        rcases hR.step k hk with ⟨hw, v, h, n1, hd, hS1, _⟩ | ⟨hw, hS1⟩
        · exact .inl ⟨v, h, n1, hw, hd, by rw [hS1], fun I' hI' => hR.fin_next hf hI.dc hNm hn hk (Nat.le_refl _) hwk nd (.inl rfl) hL hI' (fun nm => by rw [hS1]) (by rw [hS1])⟩
        · exact .inr ⟨hw, by rw [hS1], hR.fin_next hf hI.dc hNm hn hk (Nat.le_refl _) hwk nd (.inl rfl) hL (fun x hx => .inl hx) (fun nm => by rw [hS1]) (by rw [hS1])⟩
      · have hpw := h2 (by omega)
        rcases hR.before_wc h hk hpw hwk with f | ⟨f1, f2, f3⟩
        · have := (h3 p (by omega) hpw).1 (ra p (by omega) f)
          omega
        · refine ex ?_
          rcases hR.early hI.sz h hk f3 f1 f2 nd h3 with ⟨v, H', g1, g2, g3, g4⟩ | ⟨g1, g3, g4⟩
          · exact .inl ⟨v, H', _, g1, g2, g3, fun I' _ => ⟨H', fun _ _ _ h => h, g4⟩⟩
          · exact .inr ⟨g1, g3, _, fun _ _ _ h => h, g4⟩
    · have ndq : ¬ Dn ix L q := fun hd => by
        rcases (h6 q (by omega) (by rw [h4]; rfl)).1 hd with h | h <;> omega
      obtain ⟨_, X, _, hsq, _, hmid, _⟩ := h3
      obtain ⟨sz, V, hoq⟩ := hsq
      rcases Nat.lt_trichotomy k q with h | h | h
      · exact absurd ((h6 k hk hwk).2 (.inl h)) nd
      · subst h
        have ncq : isCall (co k).op = false := by rw [hoq]; rfl
        have hL : ∀ x, x < m → isWC (cl x) = true → (Dn ix (L.setIfInBounds (ix k) true) x ↔ x ≤ j) := fun x hx hw => by
          rw [dn_set hR hk hx hlt, h6 x hx hw]
          constructor
          · omega
          · intro hxj
            rcases Nat.lt_trichotomy x k with g | g | g
            · exact .inr (.inl g)
            · exact .inl g
            · rcases Nat.eq_or_lt_of_le hxj with g' | g'
              · exact .inr (.inr g')
              · rcases hmid x g' (by omega) with f | f | ⟨_, f⟩
                · rw [f] at hw; cases hw
                · rw [f] at hw; cases hw
                · have := hR.an_lt k hk x hx f
                  omega
        have hjw : isWC (cl j) = true := by rw [h5]; rfl
        refine ex ?_
        rcases hR.step_ev hk ncq with ⟨hw, v, h, hev, hS1, _⟩ | ⟨hw, hS1⟩
        · obtain ⟨H2, g1, g2⟩ := h10 hw
          have hv : v = .u := by rw [hoq] at hev; exact (ev_store hev).1
          subst hv
          exact .inl ⟨.u, H2, n, hw, doOp_of (s := ⟨(S k).e, H, n⟩) ncq (g1 _), by rw [hS1], fun I' hI' => hR.fin_next hf hI.dc hNm hn h2 (by omega) hwk nd (.inr hjw) hL hI' g2 h8.symm⟩
        · exact .inr ⟨hw, by rw [hS1], hR.fin_next hf hI.dc hNm hn h2 (by omega) hwk nd (.inr hjw) hL (fun x hx => .inl hx) (h11 hw) h8.symm⟩
      · exfalso
        rcases Nat.lt_trichotomy k j with g | g | g
        · rcases hmid k g (by omega) with f | f | ⟨_, f⟩
          · rw [f] at hwk; cases hwk
          · rw [f] at hwk; cases hwk
          · have := hR.an_lt q (by omega) k hk f
            omega
        · exact nd ((h6 k hk hwk).2 (.inr g))
        · rcases hR.before_wc h hk (by rw [h4]; rfl) hwk with f | ⟨_, _, f⟩
          · exact ndq (ra q (by omega) f)
          · obtain ⟨_, _, _, _, _, hmid2, _⟩ := f
            rcases hmid2 j g (by omega) with f | f | ⟨_, f⟩
            · rw [h5] at f; cases f
            · rw [h5] at f; cases f
            · have := hR.an_lt q (by omega) j h2 f
              omega
theorem filter_lt {α : Type} {p p' : α → Bool} : ∀ {l : List α} {j : α}, (∀ x, p' x = true → p x = true) → j ∈ l → p j = true → p' j = false → (l.filter p').length < (l.filter p).length
  | [], j, _, h, _, _ => by simp at h
  | x :: l, j, hp, h, h1, h2 => by
    have le : ∀ l : List α, (l.filter p').length ≤ (l.filter p).length := fun l => by
      induction l with
      | nil => simp
      | cons y l ih =>
        simp only [List.filter_cons]
        cases hy : p' y with
        | true => rw [hp y hy]; simpa using ih
        | false =>
          simp only [Bool.false_eq_true, if_false]
          split
          · simp only [List.length_cons]; omega
          · exact ih
    simp only [List.filter_cons]
    rcases List.mem_cons.1 h with rfl | h
    · rw [h1, h2]
      simp only [Bool.false_eq_true, if_false, if_true, List.length_cons]
      have := le l
      omega
    · have ih := filter_lt hp h h1 h2
      cases hx : p' x with
      | true => rw [hp x hx]; simpa using ih
      | false =>
        simp only [Bool.false_eq_true, if_false]
        split
        · simp only [List.length_cons]; omega
        · exact ih
theorem all_done (hR : Run P G pu C n0 ops N m ix op co cl an S) (hsz : L.size = ops.size) (hr : Region.ready .any ops L = []) : ∀ k, k < m → Dn ix L k := by
  intro k
  induction k using Nat.strongRecOn with
  | ind k ih =>
    intro hk
    have hlt : ix k < L.size := by rw [hsz]; exact hR.ix_lt hk
    cases hd : L.getD (ix k) false with
    | true => exact hd
    | false =>
      exfalso
      have : ix k ∈ Region.ready .any ops L := by
        rw [mem_ready]
        refine ⟨?_, op k, hR.at_ k hk, fun e he hb => ?_⟩
        · simpa [hlt] using hd
        · obtain ⟨k', h1, h2⟩ := hR.topo k hk e (by simpa using he) hb
          rw [← h2]
          exact ih k' h1 (by omega)
      rw [hr] at this
      cases this
theorem fin_ok (hR : Run P G pu C n0 ops N m ix op co cl an S) (hI : Inv G n0 m ops ix op co cl an S I0 M0 a0 L I M a) (hr : Region.ready .any ops L = []) :
    SR G I M (S m) a ∧ Names n0 m ops ix I0 L I (S m).n ∧ n0 + ops.size ≤ (S m).n := by
  have hd := hR.all_done hI.sz hr
  obtain ⟨e, H, n, he, hS, hNm, hn, hmode⟩ := hI.st
  rcases hmode with ⟨p, h1, h2, h3, rfl, rfl⟩ | ⟨q, j, h1, h2, h3, h4, h5, h6, _⟩
  · have hp : p = m := by
      rcases Nat.eq_or_lt_of_le h1 with h | h
      · exact h
      · have := (h3 p h (h2 h)).1 (hd p h)
        omega
    subst hp
    refine ⟨⟨fun t => ?_, hS.rh, hS.g⟩, hNm, hn⟩
    have := hS.er t
    simp only at this
    rw [he t, hR.envD_eq p (Nat.le_refl _) (fun x hx _ => hd x hx)] at this
    exact this
  · rcases (h6 q (by omega) (by rw [h4]; rfl)).1 (hd q (by omega)) with h | h <;> omega
theorem any_ok (hR : Run P G pu C n0 ops N m ix op co cl an S) (hC : CallOK P G C) (hpu : ∀ g args h n v h' n', pu g = true → C g args h n = some (v, h', n') → Soft n h h') (hf : ∀ x, n0 ≤ x → I0 x = none) (hN : N ≤ a0.tmps.size)
    (hQ : ∀ L I M a, Inv G n0 m ops ix op co cl an S I0 M0 a0 L I M a → SR G I M (S m) a → Names n0 m ops ix I0 L I (S m).n → n0 + ops.size ≤ (S m).n → Q .normal a M.w) :
    ∀ fuel L I M a, ((List.range ops.size).filter fun i => !L.getD i true).length ≤ fuel → Inv G n0 m ops ix op co cl an S I0 M0 a0 L I M a → wpAny P .any ops Q fuel L a M.w := by
  intro fuel
  induction fuel with
  | zero =>
    intro L I M a hl hI
    have hr : Region.ready .any ops L = [] := by
      rw [List.eq_nil_iff_forall_not_mem]
      intro j hj
      rw [mem_ready] at hj
      obtain ⟨h1, o, h2, _⟩ := hj
      have : j ∈ (List.range ops.size).filter fun i => !L.getD i true := by
        rw [List.mem_filter, List.mem_range]
        exact ⟨(Array.getElem?_eq_some_iff.1 h2).1, by rw [h1]; rfl⟩
      rw [List.length_eq_zero_iff.1 (Nat.le_zero.1 hl)] at this
      cases this
    obtain ⟨g1, g2, g3⟩ := hR.fin_ok hI hr
    exact ⟨hr, hQ L I M a hI g1 g2 g3⟩
  | succ fuel ih =>
    intro L I M a hl hI
    refine ⟨fun hr => ?_, fun i hi => ?_⟩
    · obtain ⟨g1, g2, g3⟩ := hR.fin_ok hI hr
      exact hQ L I M a hI g1 g2 g3
    · rw [mem_ready] at hi
      obtain ⟨h1, o, h2, h3⟩ := hi
      have hlt := (Array.getElem?_eq_some_iff.1 h2).1
      obtain ⟨k, hk, rfl⟩ := hR.cov i hlt
      have ho : o = op k := by rw [hR.at_ k hk] at h2; cases h2; rfl
      subst ho
      have hltL : ix k < L.size := by rw [hI.sz]; exact hlt
      have nd : ¬ Dn ix L k := fun hd => by
        unfold Dn at hd
        simp [hltL] at hd h1
        rw [h1] at hd; cases hd
      have ra : ∀ x, x < m → an k x = true → Dn ix L x := fun x hx ha => by
        obtain ⟨k2, g1, ⟨e, g2, g3, g4⟩, g5⟩ := hR.anc k x hk hx ha
        have hd2 : Dn ix L k2 := by
          unfold Dn
          rw [← g4]
          exact h3 e (by simpa using g2) g3
        rcases g5 with rfl | g5
        · exact hd2
        · exact hI.dc k2 x (by omega) hx g5 hd2
      refine hR.step_ok hC hpu hf hN hI hk nd ra fun I' M' a' hI' => ih _ I' M' a' ?_ hI'
      have := filter_lt (p := fun i => !L.getD i true) (p' := fun i => !(L.setIfInBounds (ix k) true).getD i true) (l := List.range ops.size) (j := ix k) (fun x hx => ?_) (List.mem_range.2 hlt) (by rw [h1]; rfl) (by simp [hltL])
      · omega
      · by_cases hxk : ix k = x
        · subst hxk
          simp [hltL] at hx
        · simpa only [getD_set_ne true hxk] using hx
end Run
theorem names0 (hf : ∀ x, n0 ≤ x → I0 x = none) {L : Array Bool} {n : Nat} : Names n0 m ops ix I0 L I0 n := fun x hx => .inl hx
end
end Tm
/- Regions that draw their order. No statement of the seat is proved here. -/
namespace Tm
open Go
set_option linter.unusedVariables false
set_option linter.unusedSimpArgs false
theorem sim_any {P : Program} {G : Nat → Option AV} {pu : Nat → Bool} {C : CallF} {I : Inj} {M : Mem} {a : Act} {N : Nat} {ops : Array Oper} {cl : List (Nat × COper)} {s s' : St} {Q : Exit → Act → World → Prop} (hC : CallOK P G C)
    (hpu : ∀ g args h n v h' n', pu g = true → C g args h n = some (v, h', n') → Soft n h h')
    (hcl : compReg P G pu N ops true = some cl) (hev : evOps C s.n cl ⟨s.e, s.h, s.n + ops.size⟩ = some s') (hS : SR G I M ⟨s.e, s.h, s.n + ops.size⟩ a) (hN : N ≤ a.tmps.size) (hf : ∀ x, s.n ≤ x → I x = none)
    (hQ : ∀ a' w' I' M', Ext M M' → Le I I' → (∀ x, I' x ≠ none → I x ≠ none ∨ (s.n ≤ x ∧ x < s'.n)) → SR G I' M' s' a' → a'.tmps.size = a.tmps.size → a'.defers = a.defers → s.n + ops.size ≤ s'.n → w' = M'.w → Q .normal a' w') :
    wpAny P .any ops Q ops.size (Array.replicate ops.size false) a { M.w with drawn := M.w.drawn + 1 } := by
  obtain ⟨m, ix, op, co, c, an, S, hR, hS0, hSm⟩ := run_of hcl hev
  refine hR.any_ok (I0 := I) (M0 := M.drew) (a0 := a) hC hpu hf hN (fun L I' M' a' hI hSR hNm hn => ?_) ops.size _ I M.drew a ?_ ?_
  · rw [hSm] at hSR hNm hn
    refine hQ a' M'.w I' M' (drew_ext.trans hI.ext) hI.le (fun x hx => ?_) hSR hI.asz hI.df hn rfl
    rcases hNm x hx with h | ⟨y, h1, h2, h3⟩ | ⟨h1, h2⟩
    · exact .inl h
    · have := hR.ix_lt h1
      exact .inr (by omega)
    · exact .inr (by omega)
  · refine Nat.le_trans (List.length_filter_le _ _) ?_
    simp
  · have nd : ∀ k, ¬ Dn ix (Array.replicate ops.size false) k := fun k h => by
      unfold Dn at h
      simp only [Array.getD_eq_getD_getElem?, Array.getElem?_replicate] at h
      split at h <;> simp at h
    have henv : ∀ j t, envD ix op S (Array.replicate ops.size false) j t = (S 0).e.get t := by
      intro j t
      induction j with
      | zero => rfl
      | succ j ih =>
        simp only [envD]
        rw [if_neg (fun h => nd j h.1)]
        exact ih
    obtain ⟨p, h1, h2, h3, h4, h5, h6⟩ := hR.nxt (I' := I) m 0 (by omega) (fun x _ h _ => hf _ (by omega))
    refine ⟨by simp, fun k k' _ _ _ h => absurd h (nd k), Ext.refl _, Le.refl I, rfl, rfl, s.e, (S p).h, s.n + ops.size, fun t => by rw [henv, hS0], ⟨hS.er.ext drew_ext (Le.refl I), ?_, hS.g.ext drew_ext⟩, fun x hx => .inl hx, Nat.le_refl _, .inl ⟨p, h2, h3, fun x hx hw => ?_, rfl, by rw [h5, hS0]⟩⟩
    · refine (RH.drew hS.rh).congr fun x ob hx hg => ?_
      have := h6 x ob hx hg
      rw [hS0] at this
      exact this
    · constructor
      · intro h; exact absurd h (nd x)
      · intro h
        rw [h4 x (Nat.zero_le _) h] at hw
        cases hw
theorem sim_drawn {P : Program} {G : Nat → Option AV} {pu : Nat → Bool} {C : CallF} {I : Inj} {M : Mem} {a : Act} {N : Nat} {ops : Array Oper} {cl : List (Nat × COper)} {s s' : St} {id : Nat} {Q : Exit → Act → World → Prop} (hm : P.follows .mixedOrders = true) (hC : CallOK P G C)
    (hpu : ∀ g args h n v h' n', pu g = true → C g args h n = some (v, h', n') → Soft n h h')
    (hcl : compReg P G pu N ops true = some cl) (hev : evOps C s.n cl ⟨s.e, s.h, s.n + ops.size⟩ = some s') (hS : SR G I M ⟨s.e, s.h, s.n + ops.size⟩ a) (hN : N ≤ a.tmps.size) (hf : ∀ x, s.n ≤ x → I x = none)
    (hQ : ∀ a' w' I' M', Ext M M' → Le I I' → (∀ x, I' x ≠ none → I x ≠ none ∨ (s.n ≤ x ∧ x < s'.n)) → SR G I' M' s' a' → a'.tmps.size = a.tmps.size → a'.defers = a.defers → s.n + ops.size ≤ s'.n → w' = M'.w → Q .normal a' w') :
    (Code.region id ops true).wp P Q a M.w :=
  wp_region_any hm (sim_any hC hpu hcl hev hS hN hf hQ)
end Tm
/- Code and calls: what the abstract machine answers is what the program does. No statement of the seat is proved here. -/
namespace Tm
open Go
set_option linter.unusedVariables false
set_option linter.unusedSimpArgs false
section
variable {P : Program} {G : Nat → Option AV} {pu : Nat → Bool} {F : Nat → Option CFun} {I : Inj} {M : Mem} {a : Act}
def OutOK (out : Out) (ex : Exit) (K : St → Prop) : Prop := match out, ex with
  | .nor s, .normal => K s
  | .ex i s, .exit j => i = j ∧ K s
  | .rt s, .ret => K s
  | _, _ => False
def Rch (G : Nat → Option AV) (I : Inj) (M : Mem) (m : Nat) (a : Act) (a' : Act) (w' : World) (s' : St) : Prop := ∃ I' M', Reach G I M m a s' a' w' I' M'
def CodeOK (P : Program) (G : Nat → Option AV) (pu : Nat → Bool) (F : Nat → Option CFun) (k : Nat) : Prop := ∀ N cc s, ev F k cc s ≠ .bad → ∀ code, comp P G pu N code = cc → ∀ (I : Inj) (M : Mem) (a : Act), SR G I M s a → N ≤ a.tmps.size → (∀ x, s.n ≤ x → I x = none) →
  code.wp P (fun ex a' w' => OutOK (ev F k cc s) ex (Rch G I M s.n a a' w')) a M.w
theorem Reach.trans {m : Nat} {s1 s2 : St} {a1 a2 : Act} {w1 w2 : World} {I1 I2 : Inj} {M1 M2 : Mem} (h : Reach G I M m a s1 a1 w1 I1 M1) (h' : Reach G I1 M1 s1.n a1 s2 a2 w2 I2 M2) : Reach G I M m a s2 a2 w2 I2 M2 where
  w := h'.w
  ext := h.ext.trans h'.ext
  le := h.le.trans h'.le
  new := fun x hx => by
    have := h.n
    have := h'.n
    rcases h'.new x hx with h1 | h1
    · rcases h.new x h1 with h2 | h2
      · exact .inl h2
      · exact .inr (by omega)
    · exact .inr (by omega)
  sr := h'.sr
  sz := h'.sz.trans h.sz
  df := h'.df.trans h.df
  n := Nat.le_trans h.n h'.n
theorem Reach.fresh {m : Nat} {s1 : St} {a1 : Act} {w1 : World} {I1 : Inj} {M1 : Mem} (h : Reach G I M m a s1 a1 w1 I1 M1) (hf : ∀ x, m ≤ x → I x = none) : ∀ x, s1.n ≤ x → I1 x = none := fun x hx => by
  cases hq : I1 x with
  | none => rfl
  | some q =>
    have := h.n
    rcases h.new x (by rw [hq]; simp) with h1 | h1
    · exact absurd (hf x (by omega)) h1
    · omega
theorem Reach.same {s : St} (hS : SR G I M s a) : Reach G I M s.n a s a M.w I M := ⟨rfl, Ext.refl M, Le.refl I, fun x hx => .inl hx, hS, rfl, rfl, Nat.le_refl _⟩
theorem wp_loop1 {c : Code} {Q : Exit → Act → World → Prop} {w : World} (key : ∀ (b : Frame) (k : List Item) (cs : List Frame), ∃ e a' w', Q e a' w' ∧ Arrives P (lone (b.at a (.code c :: .inLoop c :: k)) cs w) b k cs e a' w') : (Code.loop c).wp P Q a w := by
  intro b k cs
  obtain ⟨e, a', w', hq, harr⟩ := key b k cs
  exact ⟨e, a', w', hq, .of_steps (.one step_loop) harr⟩
theorem sim_loop {N : Nat} {body : Code} : ∀ (k : Nat), (∀ j, j < k → CodeOK P G pu F j) → ∀ (s : St), ev F k (.loop (comp P G pu N body)) s ≠ .bad → ∀ (I : Inj) (M : Mem) (a : Act), SR G I M s a → N ≤ a.tmps.size → (∀ x, s.n ≤ x → I x = none) →
    ∀ (b : Frame) (kk : List Item) (cs : List Frame), ∃ e a' w', OutOK (ev F k (.loop (comp P G pu N body)) s) e (Rch G I M s.n a a' w') ∧ Arrives P (lone (b.at a (.code body :: .inLoop body :: kk)) cs M.w) b kk cs e a' w'
  | 0, _, s, hb, _, _, _, _, _, _ => absurd rfl hb
  | k + 1, hk, s, hb, I, M, a, hS, hN, hf => by
    intro b kk cs
    have hev : ev F (k + 1) (.loop (comp P G pu N body)) s = (match ev F k (comp P G pu N body) s with | .nor s => ev F k (.loop (comp P G pu N body)) s | r => r) := rfl
    rw [hev] at hb ⊢
    cases hr : ev F k (comp P G pu N body) s with
    | bad => rw [hr] at hb; exact absurd rfl hb
    | nor s1 =>
      rw [hr] at hb
      simp only at hb ⊢
      obtain ⟨e, a1, w1, hq, harr⟩ := hk k (by omega) N _ s (by rw [hr]; simp) body rfl I M a hS hN hf b (.inLoop body :: kk) cs
      rw [hr] at hq
      cases e with
      | normal =>
        obtain ⟨I1, M1, hR⟩ := hq
        have hw := hR.w
        subst hw
        obtain ⟨e2, a2, w2, hq2, harr2⟩ := sim_loop k (fun j hj => hk j (by omega)) s1 hb I1 M1 a1 hR.sr (by rw [hR.sz]; exact hN) (hR.fresh hf) b kk cs
        refine ⟨e2, a2, w2, ?_, .of_steps (Steps.trans harr (.one step_inLoop)) harr2⟩
        revert hq2
        cases ev F k (.loop (comp P G pu N body)) s1 <;> cases e2 <;> simp only [OutOK, imp_self, false_imp_iff] <;> first
          | (rintro ⟨I2, M2, h2⟩; exact ⟨I2, M2, hR.trans h2⟩)
          | (rintro ⟨h0, I2, M2, h2⟩; exact ⟨h0, I2, M2, hR.trans h2⟩)
      | _ => exact absurd hq (by simp [OutOK])
    | ex i s1 =>
      obtain ⟨e, a1, w1, hq, harr⟩ := hk k (by omega) N _ s (by rw [hr]; simp) body rfl I M a hS hN hf b (.inLoop body :: kk) cs
      rw [hr] at hq
      cases e with
      | exit id => exact ⟨_, a1, w1, hq, .pass (x := .inLoop body) rfl (fun _ _ => .inl (by simp)) harr⟩
      | _ => exact absurd hq (by simp [OutOK])
    | rt s1 =>
      obtain ⟨e, a1, w1, hq, harr⟩ := hk k (by omega) N _ s (by rw [hr]; simp) body rfl I M a hS hN hf b (.inLoop body :: kk) cs
      rw [hr] at hq
      cases e with
      | ret => exact ⟨_, a1, w1, hq, .pass (x := .inLoop body) rfl (fun _ _ => .inl (by simp)) harr⟩
      | _ => exact absurd hq (by simp [OutOK])
theorem code_ok {k : Nat} (hm : P.follows .mixedOrders = true) (hk : ∀ j, j < k → CodeOK P G pu F j ∧ CallOK P G (callA F (ev F j))) (hpu : ∀ j g args h n v h' n', pu g = true → callA F (ev F j) g args h n = some (v, h', n') → Soft n h h') : CodeOK P G pu F k := by
  intro N cc s hb code hcc I M a hS hN hf
  cases k with
  | zero => exact absurd rfl hb
  | succ k =>
  obtain ⟨hcode, hcall⟩ := hk k (by omega)
  have hev : ev F (k + 1) cc s = step F (ev F k) cc s := rfl
  rw [hev] at hb ⊢
  cases code with
  | skip =>
    simp only [comp] at hcc
    subst hcc
    exact wp_skip ⟨I, M, Reach.same hS⟩
  | exit id =>
    simp only [comp] at hcc
    subst hcc
    exact wp_exit ⟨rfl, I, M, Reach.same hS⟩
  | ret =>
    simp only [comp] at hcc
    subst hcc
    exact wp_ret ⟨I, M, Reach.same hS⟩
  | region id ops d =>
    simp only [comp] at hcc
    split at hcc
    · rename_i cl hcl
      subst hcc
      simp only [step] at hb ⊢
      cases ho : evOps (callA F (ev F k)) s.n cl ⟨s.e, s.h, s.n + ops.size⟩ with
      | none => rw [ho] at hb; exact absurd rfl hb
      | some s' =>
        simp only
        have hS0 : SR G I M ⟨s.e, s.h, s.n + ops.size⟩ a := ⟨hS.er, hS.rh, hS.g⟩
        cases d with
        | false =>
          simp only [compReg] at hcl
          refine wp_region ?_
          have := sim_plainOps (Q := fun ex a' w' => OutOK (.nor s') ex (Rch G I M s.n a a' w')) hcall ops.toList 0 cl _ s' I M a (by simp) rfl hcl ho hS0 hN (Nat.le_refl _) (fun x hx => ?_) (fun a' w' I' M' e1 e2 e3 e4 e5 e6 e7 e8 => ?_)
          · rw [Array.length_toList, ← List.range_eq_range'] at this
            exact this
          · refine .inl ?_
            rcases Nat.lt_or_ge x s.n with h1 | h1
            · exact h1
            · exact absurd (hf x h1) hx
          · have e7' : s.n + ops.size ≤ s'.n := e7
            exact ⟨I', M', e8, e1, e2, e3, e4, e5, e6, by omega⟩
        | true =>
          exact sim_drawn hm hcall (fun g args h n v h' n' => hpu k g args h n v h' n') hcl ho hS0 hN hf (fun a' w' I' M' e1 e2 e3 e4 e5 e6 e7 e8 => ⟨I', M', e8, e1, e2, e3, e4, e5, e6, by omega⟩)
    · subst hcc
      exact absurd rfl hb
  | seq x y =>
    simp only [comp] at hcc
    subst hcc
    simp only [step] at hb ⊢
    refine wp_seq ?_
    cases hr : ev F k (comp P G pu N x) s with
    | bad => rw [hr] at hb; exact absurd rfl hb
    | nor s1 =>
      rw [hr] at hb
      simp only at hb ⊢
      refine wp_mono (hcode N _ s (by rw [hr]; simp) x rfl I M a hS hN hf) fun e a1 w1 hq => ?_
      rw [hr] at hq
      cases e with
      | normal =>
        obtain ⟨I1, M1, hR⟩ := hq
        have hw := hR.w
        subst hw
        refine wp_mono (hcode N _ s1 hb y rfl I1 M1 a1 hR.sr (by rw [hR.sz]; exact hN) (hR.fresh hf)) fun e2 a2 w2 hq2 => ?_
        revert hq2
        cases ev F k (comp P G pu N y) s1 <;> cases e2 <;> simp only [OutOK, imp_self, false_imp_iff] <;> first
          | (rintro ⟨I2, M2, h2⟩; exact ⟨I2, M2, hR.trans h2⟩)
          | (rintro ⟨h0, I2, M2, h2⟩; exact ⟨h0, I2, M2, hR.trans h2⟩)
      | _ => exact absurd hq (by simp [OutOK])
    | ex i s1 =>
      simp only
      refine wp_mono (hcode N _ s (by rw [hr]; simp) x rfl I M a hS hN hf) fun e a1 w1 hq => ?_
      rw [hr] at hq
      cases e with
      | exit id => exact hq
      | _ => exact absurd hq (by simp [OutOK])
    | rt s1 =>
      simp only
      refine wp_mono (hcode N _ s (by rw [hr]; simp) x rfl I M a hS hN hf) fun e a1 w1 hq => ?_
      rw [hr] at hq
      cases e with
      | ret => exact hq
      | _ => exact absurd hq (by simp [OutOK])
  | cond c x y =>
    simp only [comp] at hcc
    split at hcc
    · rename_i o ho
      subst hcc
      simp only [step] at hb ⊢
      have rc := opd_rel hS.g hS.er ho
      split at hb
      · rename_i hc
        rw [hc] at rc
        exact wp_cond_true rc.bool (hcode N _ s hb x rfl I M a hS hN hf)
      · rename_i hc
        rw [hc] at rc
        exact wp_cond_false rc.bool (hcode N _ s hb y rfl I M a hS hN hf)
      · exact absurd rfl hb
    · subst hcc
      exact absurd rfl hb
  | block id x =>
    simp only [comp] at hcc
    subst hcc
    simp only [step] at hb ⊢
    refine wp_block ?_
    cases hr : ev F k (comp P G pu N x) s with
    | bad => rw [hr] at hb; exact absurd rfl hb
    | nor s1 =>
      simp only
      refine wp_mono (hcode N _ s (by rw [hr]; simp) x rfl I M a hS hN hf) fun e a1 w1 hq => ?_
      rw [hr] at hq
      cases e with
      | normal => exact hq
      | _ => exact absurd hq (by simp [OutOK])
    | ex i s1 =>
      simp only
      refine wp_mono (hcode N _ s (by rw [hr]; simp) x rfl I M a hS hN hf) fun e a1 w1 hq => ?_
      rw [hr] at hq
      cases e with
      | exit j =>
        obtain ⟨rfl, hq⟩ := hq
        simp only [Exit.inBlock]
        by_cases hj : i = id
        · subst hj
          simp only [if_true, beq_self_eq_true]
          exact hq
        · have : (i == id) = false := by simpa using hj
          simp only [this, if_neg hj]
          exact ⟨rfl, hq⟩
      | _ => exact absurd hq (by simp [OutOK])
    | rt s1 =>
      simp only
      refine wp_mono (hcode N _ s (by rw [hr]; simp) x rfl I M a hS hN hf) fun e a1 w1 hq => ?_
      rw [hr] at hq
      cases e with
      | ret => exact hq
      | _ => exact absurd hq (by simp [OutOK])
  | loop x =>
    simp only [comp] at hcc
    subst hcc
    exact wp_loop1 (sim_loop (k + 1) (fun j hj => (hk j hj).1) s hb I M a hS hN hf)
  | _ =>
    simp only [comp] at hcc
    subst hcc
    exact absurd rfl hb
end
end Tm
/- Calls. No statement of the seat is proved here. -/
namespace Tm
open Go
set_option linter.unusedVariables false
set_option linter.unusedSimpArgs false
section
variable {P : Program} {G : Nat → Option AV} {pu : Nat → Bool} {F : Nat → Option CFun} {I : Inj} {M : Mem} {a : Act} {h h' : Heap}
/-! ### What a call leaves of the caller's heap -/
theorem argD_soft {n : Nat} {b : Bool} {v v' : AV} (hc : argD b v h = some (v', h')) : Soft n h h' := by
  unfold argD at hc
  split at hc
  · simp only [Option.map_eq_some_iff, Prod.mk.injEq] at hc
    obtain ⟨_, _, _, rfl⟩ := hc
    exact Soft.refl _ _
  · split at hc
    · rename_i h1
      simp only [Option.some.injEq, Prod.mk.injEq] at hc
      rw [← hc.2]; exact toD_soft h1
    · simp only [Option.map_eq_some_iff, Prod.mk.injEq] at hc
      obtain ⟨_, _, _, rfl⟩ := hc
      exact Soft.refl _ _
theorem argsD_soft {n : Nat} {b : Bool} : ∀ {l l' : List AV} {h h' : Heap}, argsD b l h = some (l', h') → Soft n h h'
  | [], l', h, h', hc => by simp only [argsD, Option.some.injEq, Prod.mk.injEq] at hc; rw [hc.2]; exact Soft.refl _ _
  | v :: l, l', h, h', hc => by
    simp only [argsD] at hc
    cases h1 : argD b v h with
    | none => simp [h1] at hc
    | some p =>
      obtain ⟨x, h2⟩ := p
      simp only [h1] at hc
      cases h3 : argsD b l h2 with
      | none => simp [h3] at hc
      | some p =>
        obtain ⟨r2, h4⟩ := p
        simp only [h3, Option.some.injEq, Prod.mk.injEq] at hc
        rw [← hc.2]
        exact (argD_soft h1).trans (argsD_soft h3)
theorem outsO_soft {m : Nat} : ∀ {l l' : List AV} {hc h0 h' : Heap} {n n' : Nat}, m ≤ n → outsO l hc h0 n = some (l', h', n') → Soft m h0 h'
  | [], l', hc, h0, h', n, n', hm, ho => by simp only [outsO, Option.some.injEq, Prod.mk.injEq] at ho; rw [ho.2.1]; exact Soft.refl _ _
  | v :: l, l', hc, h0, h', n, n', hm, ho => by
    cases hv : v with
    | sl a lo k =>
      subst hv
      simp only [outsO] at ho
      split at ho
      · rename_i sz r hob
        split at ho
        · cases ho
        · rename_i hnone
          split at ho
          · rename_i h3
            simp only [Option.some.injEq, Prod.mk.injEq] at ho
            obtain ⟨_, rfl, _⟩ := ho
            refine Soft.trans ⟨fun y ob hy => ?_, fun y hym hy => ?_⟩ (outsO_soft (m := m) (by omega) h3)
            · rw [T.get_set]
              by_cases hyn : y = n
              · subst hyn; rw [hnone] at hy; cases hy
              · rw [if_neg hyn]; exact ⟨ob, hy, SameOb.refl ob⟩
            · rw [T.get_set, if_neg (by omega)]; exact hy
          · cases ho
      · cases ho
    | _ =>
      subst hv
      simp only [outsO] at ho
      split at ho
      · split at ho
        · rename_i h3
          simp only [Option.some.injEq, Prod.mk.injEq] at ho
          obtain ⟨_, rfl, _⟩ := ho
          exact outsO_soft hm h3
        · cases ho
      · cases ho
/-- A call that works on a heap of its own leaves the caller's objects as they are. -/
theorem pure_soft {k g : Nat} {cf : CFun} (hF : F g = some cf) (hp : cf.pure = true) {args : List AV} {n n' : Nat} {v : AV} (hc : callA F (ev F k) g args h n = some (v, h', n')) : Soft n h h' := by
  unfold callA at hc
  simp only [hF, hp] at hc
  cases h1 : argsD cf.bor args h with
  | none => simp [h1] at hc
  | some p =>
    obtain ⟨as, h2⟩ := p
    simp only [h1] at hc
    have hs := argsD_soft (n := n) h1
    have lv : ∀ {s : St}, leaveP cf h2 n s = some (v, h', n') → Soft n h h' := by
      intro s hl
      unfold leaveP at hl
      split at hl
      · split at hl
        · split at hl
          · rename_i h3
            simp only [Option.some.injEq, Prod.mk.injEq] at hl
            obtain ⟨_, rfl, _⟩ := hl
            exact hs.trans (outsO_soft (Nat.le_refl _) h3)
          · cases hl
        · split at hl
          · simp only [Option.some.injEq, Prod.mk.injEq] at hl
            obtain ⟨_, rfl, _⟩ := hl
            exact hs
          · cases hl
      · cases hl
    split at hc
    · exact lv hc
    · exact lv hc
    · cases hc
/-! ### Arguments and results -/
theorem frz_all {fz fz' : Nat → Nat} (h : Ext (M.frz fz) (M.frz fz')) : ExtW (M.frz fz).all (M.frz fz').all := ⟨rfl, fun _ _ => rfl, h.fz, h.cells⟩
theorem frz_frz {fz fz' : Nat → Nat} : (M.frz fz).frz fz' = M.frz fz' := rfl
/-- An argument of a call that works on a heap of its own. -/
theorem argD_rel {b : Bool} {v v' : AV} {u : Value} (hH : RH I M h) (rv : RV I M v u) (hc : argD b v h = some (v', h')) : ∃ fz, Ext M (M.frz fz) ∧ RH I (M.frz fz) h' ∧ ∀ J : Inj, RV1 J (M.frz fz).all v' u := by
  have lent : ∀ {v' : AV}, toB h 8 v = some v' → ∃ fz, Ext M (M.frz fz) ∧ RH I (M.frz fz) h ∧ ∀ J : Inj, RV1 J (M.frz fz).all v' u := by
    intro v' hb
    refine ⟨M.fz, Ext.refl M, hH, (toB_rel hH 8 v v' u hb (rv.one ?_)).1⟩
    rintro l rfl
    simp [toB] at hb
  unfold argD at hc
  split at hc
  · simp only [Option.map_eq_some_iff, Prod.mk.injEq] at hc
    obtain ⟨w, hw, rfl, rfl⟩ := hc
    exact lent hw
  · split at hc
    · rename_i x h1 hx
      simp only [Option.some.injEq, Prod.mk.injEq] at hc
      obtain ⟨rfl, rfl⟩ := hc
      obtain ⟨fz, e1, hH1, d1⟩ := toD_rel hH rv hx
      refine ⟨fz, e1, hH1, fun J => ?_⟩
      have d2 : DV (M.frz fz).all x u := ⟨d1.1, d1.2⟩
      exact (d2.rv (I := J)).one (by simp)
    · simp only [Option.map_eq_some_iff, Prod.mk.injEq] at hc
      obtain ⟨w, hw, rfl, rfl⟩ := hc
      exact lent hw
theorem argsD_rel {b : Bool} : ∀ {l l' : List AV} {vs : List Value} {M : Mem} {h h' : Heap}, RH I M h → Args I M l vs → argsD b l h = some (l', h') → ∃ fz, Ext M (M.frz fz) ∧ RH I (M.frz fz) h' ∧ ∀ J : Inj, Args J (M.frz fz).all l' vs
  | [], l', vs, M, h, h', hH, ha, hc => by
    simp only [argsD, Option.some.injEq, Prod.mk.injEq] at hc
    obtain ⟨rfl, rfl⟩ := hc
    exact ⟨M.fz, Ext.refl M, hH, fun _ => ha⟩
  | v :: l, l', vs, M, h, h', hH, ha, hc => by
    obtain ⟨u, r, rfl, hv, hl⟩ := ha
    simp only [argsD] at hc
    cases h1 : argD b v h with
    | none => simp [h1] at hc
    | some p =>
      obtain ⟨x, h2⟩ := p
      simp only [h1] at hc
      cases h3 : argsD b l h2 with
      | none => simp [h3] at hc
      | some p =>
        obtain ⟨r2, h4⟩ := p
        simp only [h3, Option.some.injEq, Prod.mk.injEq] at hc
        obtain ⟨rfl, rfl⟩ := hc
        obtain ⟨fz1, e1, hH1, d1⟩ := argD_rel hH hv h1
        have hl' : Args I (M.frz fz1) l r := args_ext hl e1
        obtain ⟨fz2, e2, hH2, d2⟩ := argsD_rel (M := M.frz fz1) hH1 hl' h3
        exact ⟨fz2, e1.trans e2, hH2, fun J => ⟨u, r, rfl, ((d1 J).extW (frz_all e2) (Le.refl J)).toRV, d2 J⟩⟩
where
  args_ext {M M' : Mem} : ∀ {l : List AV} {vs : List Value}, Args I M l vs → Ext M M' → Args I M' l vs
    | [], _, h, _ => h
    | x :: l, vs, ⟨v, r, e, hx, hl⟩, he => ⟨v, r, e, hx.ext he (Le.refl I), args_ext hl he⟩
theorem initE_get : ∀ (l : List AV) (i : Nat) (e : Env) (t : Nat), (initE i l e).get t = if i ≤ t then (match l[t - i]? with | some v => some v | none => e.get t) else e.get t
  | [], i, e, t => by simp [initE]
  | v :: l, i, e, t => by
    simp only [initE]
    rw [initE_get l (i + 1) _ t, T.get_set]
    by_cases h1 : i + 1 ≤ t
    · rw [if_pos h1, if_neg (show ¬ t = i by omega), if_pos (show i ≤ t by omega), show t - i = (t - (i + 1)) + 1 by omega, List.getElem?_cons_succ]
    · rw [if_neg h1]
      by_cases h2 : t = i
      · subst h2; simp
      · rw [if_neg h2, if_neg (by omega)]
theorem Args.len : ∀ {l : List AV} {vs : List Value}, Args I M l vs → vs.length = l.length
  | [], vs, h => by simp only [Args] at h; simp [h]
  | x :: l, vs, ⟨v, r, e, _, hl⟩ => by subst e; simp [hl.len]
theorem Args.get : ∀ {l : List AV} {vs : List Value} {i : Nat} {x : AV}, Args I M l vs → l[i]? = some x → ∃ v, vs[i]? = some v ∧ RV I M x v
  | [], _, _, _, _, h => by simp at h
  | y :: l, vs, 0, x, ⟨v, r, e, hx, _⟩, h => by subst e; simp only [List.getElem?_cons_zero, Option.some.injEq] at h; subst h; exact ⟨v, by simp, hx⟩
  | y :: l, vs, i + 1, x, ⟨v, r, e, _, hl⟩, h => by subst e; simpa using hl.get (by simpa using h)
theorem initE_rel {l : List AV} {vs : List Value} {n : Nat} (h : Args I M l vs) : ER I M (initE 0 l .lf) (vs.toArray ++ Array.replicate n undef) := by
  intro t
  rw [initE_get, if_pos (Nat.zero_le _), Nat.sub_zero]
  cases hl : l[t]? with
  | none =>
    simp only [T.get_lf, Option.getD_none]
    exact RV.undef
  | some x =>
    simp only [Option.getD_some]
    obtain ⟨v, hv, hr⟩ := h.get hl
    have ht := (List.getElem?_eq_some_iff.1 hv).1
    have : (vs.toArray ++ Array.replicate n undef).getD t undef = v := by
      rw [Array.getD_eq_getD_getElem?, Array.getElem?_append_left (by simpa using ht)]
      simp [hv]
    rw [this]; exact hr
/-- The results. -/
def resF (tmps : Array Value) : ResultVar → Sem Value
  | .tmp t => pure (tmps.getD t undef)
  | .cell a t => do loadVar t (← asAddr (tmps.getD a undef))
def resTup (us : List Value) : Value := if h : us.toArray.size = 1 then us.toArray[0] else .tuple us.toArray
theorem results_eq {fn : Func} {tmps : Array Value} {w : World} {us : List Value} (h : (fn.results.toList.mapM (resF tmps)).run P w = .ok us w) : (results fn tmps).run P w = .ok (resTup us) w := by
  have h1 : (fn.results.mapM (resF tmps)).run P w = .ok us.toArray w := by
    rw [Array.mapM_eq_mapM_toList]
    simp only [Sem.run_map, h, Result.andThen_ok]
  unfold results
  rw [Sem.run_bind]
  refine (congrArg (fun r => Result.andThen r _) (?_ : _ = Result.ok us.toArray w)).trans ?_
  · refine Eq.trans ?_ h1
    congr 1
  · simp only [Result.andThen_ok, Sem.run_pure]
    rfl
def Outs (I : Inj) (M : Mem) : List AV → List Value → Prop
  | [], vs => vs = []
  | x :: l, vs => ∃ v r, vs = v :: r ∧ RV1 I M x v ∧ Outs I M l r
theorem Outs.tup {l : List AV} {us : List Value} (h : Outs I M l us) : RV I M (tup l) (resTup us) := by
  cases l with
  | nil => simp only [Outs] at h; subst h; exact .inr ⟨_, _, rfl, rfl, rfl⟩
  | cons x l =>
    obtain ⟨v, r, rfl, hx, hl⟩ := h
    cases l with
    | nil => simp only [Outs] at hl; subst hl; exact hx.toRV
    | cons y l =>
      obtain ⟨v2, r2, rfl, hx2, hl2⟩ := hl
      refine .inr ⟨_, (v :: v2 :: r2).toArray, rfl, rfl, v, v2 :: r2, rfl, hx, v2, r2, rfl, hx2, ?_⟩
      clear hx hx2
      induction l generalizing r2 with
      | nil => exact hl2
      | cons z l ih => obtain ⟨v3, r3, rfl, hx3, hl3⟩ := hl2; exact ⟨v3, r3, rfl, hx3, ih r3 hl3⟩
theorem results_rel {e : Env} {tmps : Array Value} (hH : RH I M h) (hE : ER I M e tmps) : ∀ {rs : List ResultVar} {cr : List (Opd × Option (Option Nat))} {l : List AV}, compR P rs = some cr → resVs e cr h = some l → ∃ us, (rs.mapM (resF tmps)).run P M.w = .ok us M.w ∧ Outs I M l us
  | [], cr, l, hc, hl => by
    simp only [compR, Option.some.injEq] at hc
    subst hc
    simp only [resVs, Option.some.injEq] at hl
    subst hl
    exact ⟨[], by simp, rfl⟩
  | r :: rs, cr, l, hc, hl => by
    have one : ∀ {x : Opd × Option (Option Nat)} {cr' : List (Opd × Option (Option Nat))}, compR P rs = some cr' → resVs e (x :: cr') h = some l → (∀ v, resV e x h = some v → ∃ u, (resF tmps r).run P M.w = .ok u M.w ∧ RV I M v u) → ∃ us, ((r :: rs).mapM (resF tmps)).run P M.w = .ok us M.w ∧ Outs I M l us := by
      intro x cr' hc' hl' hr
      simp only [resVs] at hl'
      cases hv : resV e x h with
      | none => simp [hv] at hl'
      | some v =>
        simp only [hv, bif_none] at hl'
        obtain ⟨hok, hl'⟩ := hl'
        cases hrs : resVs e cr' h with
        | none => simp [hrs] at hl'
        | some t =>
          simp only [hrs, Option.some.injEq] at hl'
          subst hl'
          obtain ⟨u, h1, h2⟩ := hr v hv
          obtain ⟨us, h3, h4⟩ := results_rel hH hE hc' hrs
          refine ⟨u :: us, ?_, u, us, rfl, h2.one (by rintro l rfl; simp [okV] at hok), h4⟩
          rw [List.mapM_cons]
          simp only [Sem.run_bind, h1, h3, Result.andThen_ok, Sem.run_pure]
    cases r with
    | tmp t =>
      simp only [compR, Option.map_eq_some_iff] at hc
      obtain ⟨cr', hc', rfl⟩ := hc
      refine one hc' hl fun v hv => ?_
      simp only [resV, Option.some.injEq] at hv
      subst hv
      exact ⟨_, rfl, hE t⟩
    | cell t ty =>
      simp only [compR] at hc
      split at hc
      · rename_i n cr' hn hc'
        simp only [Option.some.injEq] at hc
        subst hc
        refine one hc' hl fun v hv => ?_
        simp only [resV] at hv
        obtain ⟨y, A, e1, e2, hr⟩ := loadA_rel (t := ty) hn hH (hE t) hv
        refine ⟨y, ?_, hr⟩
        simp only [resF, e1, asAddr, Sem.run_bind, Sem.run_pure, Result.andThen_ok, e2]
      · cases hc
theorem outD_rel {v v' : AV} {u : Value} (hH : RH I M h) (rv : RV1 I M v u) (hc : outD v h = some (v', h')) : ∃ fz, Ext M (M.frz fz) ∧ RH I (M.frz fz) h' ∧ ∀ (J : Inj) (lo : Nat), RV1 J ⟨M.w, fz, lo⟩ v' u := by
  have same : ∀ {x : AV}, x = v → h = h' → v' = x → (∀ (J : Inj) (lo : Nat), RV1 J ⟨M.w, M.fz, lo⟩ x u) → ∃ fz, Ext M (M.frz fz) ∧ RH I (M.frz fz) h' ∧ ∀ (J : Inj) (lo : Nat), RV1 J ⟨M.w, fz, lo⟩ v' u := by
    rintro x rfl rfl rfl hx
    exact ⟨M.fz, Ext.refl M, hH, hx⟩
  unfold outD at hc
  split at hc
  · simp only [Option.some.injEq, Prod.mk.injEq] at hc
    refine same rfl hc.2 hc.1.symm fun J lo => RV1.of rfl ?_
    have := rv.cell rfl
    simpa only [RVc] using this
  · simp only [Option.some.injEq, Prod.mk.injEq] at hc
    refine same rfl hc.2 hc.1.symm fun J lo => RV1.of rfl ?_
    have := rv.cell rfl
    simpa only [RVc] using this
  · simp only [Option.some.injEq, Prod.mk.injEq] at hc
    refine same rfl hc.2 hc.1.symm fun J lo => RV1.of rfl ?_
    have := rv.cell rfl
    simpa only [RVc] using this
  · simp only [Option.some.injEq, Prod.mk.injEq] at hc
    exact same rfl hc.2 hc.1.symm fun J lo => .inl rfl
  · split at hc
    · rename_i x h1 hx
      simp only [Option.some.injEq, Prod.mk.injEq] at hc
      obtain ⟨rfl, rfl⟩ := hc
      obtain ⟨fz, e1, hH1, d1⟩ := toD_rel hH rv.toRV hx
      refine ⟨fz, e1, hH1, fun J lo => ?_⟩
      have d2 : DV ⟨M.w, fz, lo⟩ x u := ⟨d1.1, d1.2⟩
      exact (d2.rv (I := J)).one (by simp)
    · cases hc
theorem frzW {fz fz' : Nat → Nat} {lo : Nat} (h : Ext (M.frz fz) (M.frz fz')) : ExtW ⟨M.w, fz, lo⟩ ⟨M.w, fz', lo⟩ := ⟨rfl, fun _ _ => rfl, h.fz, h.cells⟩
theorem outsD_rel : ∀ {l l' : List AV} {us : List Value} {M : Mem} {h h' : Heap}, RH I M h → Outs I M l us → outsD l h = some (l', h') → ∃ fz, Ext M (M.frz fz) ∧ RH I (M.frz fz) h' ∧ ∀ (J : Inj) (lo : Nat), Outs J ⟨M.w, fz, lo⟩ l' us
  | [], l', us, M, h, h', hH, ha, hc => by
    simp only [outsD, Option.some.injEq, Prod.mk.injEq] at hc
    obtain ⟨rfl, rfl⟩ := hc
    exact ⟨M.fz, Ext.refl M, hH, fun _ _ => ha⟩
  | v :: l, l', us, M, h, h', hH, ha, hc => by
    obtain ⟨u, r, rfl, hv, hl⟩ := ha
    simp only [outsD] at hc
    cases h1 : outD v h with
    | none => simp [h1] at hc
    | some p =>
      obtain ⟨x, h2⟩ := p
      simp only [h1] at hc
      cases h3 : outsD l h2 with
      | none => simp [h3] at hc
      | some p =>
        obtain ⟨r2, h4⟩ := p
        simp only [h3, Option.some.injEq, Prod.mk.injEq] at hc
        obtain ⟨rfl, rfl⟩ := hc
        obtain ⟨fz1, e1, hH1, d1⟩ := outD_rel hH hv h1
        have hl' : Outs I (M.frz fz1) l r := outs_ext hl e1
        obtain ⟨fz2, e2, hH2, d2⟩ := outsD_rel (M := M.frz fz1) hH1 hl' h3
        exact ⟨fz2, e1.trans e2, hH2, fun J lo => ⟨u, r, rfl, (d1 J lo).extW (frzW e2) (Le.refl J), d2 J lo⟩⟩
where
  outs_ext {M M' : Mem} : ∀ {l : List AV} {vs : List Value}, Outs I M l vs → Ext M M' → Outs I M' l vs
    | [], _, h, _ => h
    | x :: l, vs, ⟨v, r, e, hx, hl⟩, he => ⟨v, r, e, hx.ext he (Le.refl I), outs_ext hl he⟩
end
end Tm
/- Calls, joined. No statement of the seat is proved here. -/
namespace Tm
open Go
set_option linter.unusedVariables false
set_option linter.unusedSimpArgs false
section
variable {P : Program} {G : Nat → Option AV} {pu : Nat → Bool} {F : Nat → Option CFun} {I : Inj} {M : Mem} {a : Act} {h h' : Heap}
theorem Le.of_none {J : Inj} : Le (fun _ => none) J := fun _ _ h => by cases h
theorem outS_rel {lo : Nat} {J : Inj} {v v' : AV} {u : Value} (hc : outS v = some v') (r : RV1 I M v u) : RV1 J ⟨M.w, M.fz, lo⟩ v' u := by
  unfold outS at hc
  split at hc
  · simp only [Option.some.injEq] at hc
    subst hc
    exact r.imp id fun ⟨x, y⟩ => ⟨x, by simpa only [RVc] using y⟩
  · simp only [Option.some.injEq] at hc
    subst hc
    rename_i l
    have := r.cell rfl
    simp only [RVc] at this
    obtain ⟨p, e1, e2⟩ := this
    refine RV1.of rfl ?_
    simp only [RVc, RDc]
    exact ⟨p, l.length, e1, Nat.le_refl _, by rintro rfl; rfl, e2⟩
  · simp only [Option.some.injEq] at hc
    subst hc
    have := r.cell rfl
    exact RV1.of rfl (by simpa only [RVc] using this)
  · simp only [Option.some.injEq] at hc
    subst hc
    have := r.cell rfl
    exact RV1.of rfl (by simpa only [RVc] using this)
  · simp only [Option.some.injEq] at hc
    subst hc
    have := r.cell rfl
    exact RV1.of rfl (by simpa only [RVc] using this)
  · simp only [Option.some.injEq] at hc
    subst hc
    exact .inl rfl
  · cases hc
theorem outsO_rel {lo : Nat} (hlo : lo ≤ M.lo) : ∀ {l l' : List AV} {us : List Value} {I J : Inj} {hc h0 h' : Heap} {n n' : Nat}, RH J M hc → RH I ⟨M.w, M.fz, lo⟩ h0 → (∀ x ob q x' ob' q', h0.get x = some ob → I x = some q → hc.get x' = some ob' → J x' = some q' → q.b ≠ q'.b) →
    (∀ x, n ≤ x → I x = none) → Outs J M l us → outsO l hc h0 n = some (l', h', n') →
    ∃ I', Le I I' ∧ (∀ x, I' x ≠ none → I x ≠ none ∨ (n ≤ x ∧ x < n')) ∧ n ≤ n' ∧ RH I' ⟨M.w, M.fz, lo⟩ h' ∧ Outs I' ⟨M.w, M.fz, lo⟩ l' us
  | [], l', us, I, J, hc, h0, h', n, n', hJ, hI, hs, hf, ho, he => by
    simp only [outsO, Option.some.injEq, Prod.mk.injEq] at he
    obtain ⟨rfl, rfl, rfl⟩ := he
    exact ⟨I, Le.refl I, fun x hx => .inl hx, Nat.le_refl _, hI, ho⟩
  | v :: l, l', us, I, J, hc, h0, h', n, n', hJ, hI, hs, hf, ho, he => by
    obtain ⟨u, r, rfl, hv, hl⟩ := ho
    have plain : ∀ v', outS v = some v' → (match outsO l hc h0 n with
        | some (l, h0, n) => some (v' :: l, h0, n)
        | none => none) = some (l', h', n') → ∃ I', Le I I' ∧ (∀ x, I' x ≠ none → I x ≠ none ∨ (n ≤ x ∧ x < n')) ∧ n ≤ n' ∧ RH I' ⟨M.w, M.fz, lo⟩ h' ∧ Outs I' ⟨M.w, M.fz, lo⟩ l' (u :: r) := by
      intro v' h1 h2
      cases h3 : outsO l hc h0 n with
      | none => simp [h3] at h2
      | some p =>
        obtain ⟨l2, h4, n2⟩ := p
        simp only [h3, Option.some.injEq, Prod.mk.injEq] at h2
        obtain ⟨rfl, rfl, rfl⟩ := h2
        obtain ⟨I', e1, e2, e3, e4, e5⟩ := outsO_rel hlo hJ hI hs hf hl h3
        exact ⟨I', e1, e2, e3, e4, u, r, rfl, outS_rel h1 hv, e5⟩
    cases hvv : v with
    | sl x lo2 k =>
      subst hvv
      simp only [outsO] at he
      split at he
      · rename_i sz row hob
        split at he
        · cases he
        · rename_i hnone
          split at he
          · rename_i l2 h4 n2 h3
            simp only [Option.some.injEq, Prod.mk.injEq] at he
            obtain ⟨rfl, rfl, rfl⟩ := he
            have hv' := hv.cell rfl
            simp only [RVc] at hv'
            obtain ⟨q, A, hq, e1, e2, e3⟩ := hv'
            obtain ⟨o1, o2, o3⟩ := hJ.ob x _ q hob hq
            have hn : I n = none := hf n (Nat.le_refl _)
            have hRO : RO (I.set n q) ⟨M.w, M.fz, lo⟩ q (.row sz row false) := by simpa only [RO] using o3
            have hI1 : RH (I.set n q) ⟨M.w, M.fz, lo⟩ (h0.set n (.row sz row false)) :=
              hI.add (Ext.refl _) hn (fun _ _ _ _ _ => ⟨rfl, rfl⟩) hI.wf (Nat.le_trans hlo o1) o2 hRO (fun y ob p hy hp => hs y ob p x _ q hy hp hob hq) (hJ.cp x _ q hob hq)
            obtain ⟨I', f1, f2, f3, f4, f5⟩ := outsO_rel hlo (hJ.del (a := x)) hI1 (fun y ob p y' ob' p' hy hp hy' hp' => by
              rw [T.get_del] at hy'
              by_cases hyx : y' = x
              · rw [if_pos hyx] at hy'; cases hy'
              · rw [if_neg hyx] at hy'
                rw [T.get_set] at hy
                by_cases hyn : y = n
                · subst hyn
                  rw [Inj.set_same] at hp
                  cases hp
                  exact hJ.inj x y' _ ob' q p' hob hy' hq hp' (fun e => hyx e.symm)
                · rw [if_neg hyn] at hy
                  simp only [Inj.set, if_neg hyn] at hp
                  exact hs y ob p y' ob' p' hy hp hy' hp') (fun y hy => by
              simp only [Inj.set]
              rw [if_neg (by omega)]
              exact hf y (by omega)) hl h3
            refine ⟨I', (Inj.set_le q hn).trans f1, fun y hy => ?_, by omega, f4, u, r, rfl, ?_, f5⟩
            · rcases f2 y hy with h5 | h5
              · rcases Inj.set_only y h5 with h6 | h6
                · exact .inl h6
                · exact .inr (by omega)
              · exact .inr (by omega)
            · refine RV1.of rfl ?_
              simp only [RVc]
              exact ⟨q, A, f1 n q Inj.set_same, e1, e2, e3⟩
          · cases he
      · cases he
    | _ =>
      subst hvv
      simp only [outsO] at he
      split at he
      · rename_i v' h1
        exact plain v' h1 he
      · cases he
/-! ### What a body answers -/
def BodyPost (I : Inj) (M : Mem) (n : Nat) (s : St) (l : List AV) : Ending → World → Prop
  | .returned u, w' => ∃ us M' I', u = resTup us ∧ w' = M'.w ∧ Ext M M' ∧ Le I I' ∧ (∀ x, I' x ≠ none → I x ≠ none ∨ (n ≤ x ∧ x < s.n)) ∧ n ≤ s.n ∧ RH I' M' s.h ∧ Outs I' M' l us
  | _, _ => False
/-- The function is there, and its body answers what the machine's body answers. -/
def RunOK (P : Program) (G : Nat → Option AV) (F : Nat → Option CFun) (k g : Nat) (cf : CFun) : Prop :=
  (∃ fn, P.funcs[g]? = some fn ∧ (fn.name == "runtime.NumGoroutine") = false ∧ fn.body.isSome = true) ∧
  ∀ (args : List AV) (h : Heap) (n : Nat) (s : St) (l : List AV), (cf.pure = true ∨ arOK cf args = true) → (ev F k cf.body ⟨initE 0 args .lf, h, n⟩ = .nor s ∨ ev F k cf.body ⟨initE 0 args .lf, h, n⟩ = .rt s) → resVs s.e cf.results s.h = some l →
    ∀ (I : Inj) (M : Mem) (vs : List Value), GOk G M → RH I M h → (∀ x, n ≤ x → I x = none) → Args I M args vs → Calls P g vs.toArray M.w (BodyPost I M n s l)
/-- A function that is translated. -/
def FnOK (P : Program) (G : Nat → Option AV) (pu : Nat → Bool) (g : Nat) (cf : CFun) : Prop := ∃ fn code, P.funcs[g]? = some fn ∧ (fn.name == "runtime.NumGoroutine") = false ∧ fn.body = some code ∧ cf.body = comp P G pu fn.ntmps code ∧ compR P fn.results.toList = some cf.results
theorem FnOK.run {k g : Nat} {cf : CFun} (hf : FnOK P G pu g cf) (hk : CodeOK P G pu F k) : RunOK P G F k g cf := by
  obtain ⟨fn, code, h1, h2, h3, h4, h5⟩ := hf
  refine ⟨⟨fn, h1, h2, by rw [h3]; rfl⟩, fun args h n s l _ hev hl I M vs hG hH hfr hA => ?_⟩
  refine calls_of_wp h1 h3 ?_
  have hsz : vs.toArray.size = vs.length := by simp
  refine wp_mono (hk fn.ntmps cf.body ⟨initE 0 args .lf, h, n⟩ (by rcases hev with e | e <;> rw [e] <;> simp) code h4.symm I M _ ⟨initE_rel hA, hH, hG⟩ (by simp; omega) hfr) fun ex a' w' hq => ?_
  have fin : Rch G I M n { tmps := vs.toArray ++ Array.replicate (fn.ntmps - vs.toArray.size) undef, defers := [] } a' w' s → a'.defers = [] ∧ ∃ v, (results fn a'.tmps).run P w' = .ok v w' ∧ BodyPost I M n s l (.returned v) w' := by
    rintro ⟨I', M', hR⟩
    have hw := hR.w
    subst hw
    refine ⟨hR.df, ?_⟩
    obtain ⟨us, e1, e2⟩ := results_rel hR.sr.rh hR.sr.er h5 hl
    exact ⟨_, results_eq e1, us, M', I', rfl, rfl, hR.ext, hR.le, hR.new, hR.n, hR.sr.rh, e2⟩
  rcases hev with e | e
  · rw [e] at hq
    cases ex with
    | normal => exact fin hq
    | _ => exact absurd hq (by simp [OutOK])
  · rw [e] at hq
    cases ex with
    | ret => exact fin hq
    | _ => exact absurd hq (by simp [OutOK])
/-! ### The call -/
theorem GOk.all (hG : GOk G M) (hlo : M.lo ≤ M.w.heap.size) : GOk G M.all := fun g av hg => ⟨(hG g av hg).1, fun J => ((hG g av hg).2 J).imp id fun ⟨x, y⟩ => ⟨x, RVc.lent hlo _ _ (hG g av hg).1 y⟩⟩
theorem all_ext {M' : Mem} (h : Ext M.all M') (hlo : M.lo ≤ M.w.heap.size) : Ext M ⟨M'.w, M'.fz, M.lo⟩ where
  lo := rfl
  os := h.os
  tape := h.tape
  out := h.out
  size := h.size
  low := fun b hb => h.low b (Nat.lt_of_lt_of_le hb hlo)
  fz := h.fz
  fzl := fun b hb => h.fzl b (Nat.lt_of_lt_of_le hb hlo)
  cells := h.cells
  oth := h.oth
theorem frz_lo {fz : Nat → Nat} {lo : Nat} (h : Ext M (M.frz fz)) (hl : lo ≤ M.lo) : Ext ⟨M.w, M.fz, lo⟩ ⟨M.w, fz, lo⟩ where
  lo := rfl
  os := rfl
  tape := rfl
  out := rfl
  size := Nat.le_refl _
  low := fun _ _ => rfl
  fz := h.fz
  fzl := fun b hb => h.fzl b (Nat.lt_of_lt_of_le hb hl)
  cells := h.cells
  oth := fun _ _ h _ => h
theorem call_one {k g : Nat} {cf : CFun} (hF : F g = some cf) (hr : RunOK P G F k g cf) {args : List AV} {n n' : Nat} {v : AV} (hc : callA F (ev F k) g args h n = some (v, h', n')) :
    (∃ fn, P.funcs[g]? = some fn ∧ (fn.name == "runtime.NumGoroutine") = false ∧ fn.body.isSome = true) ∧
    ∀ (I : Inj) (M : Mem) (vs : List Value), GOk G M → RH I M h → (∀ x, n ≤ x → I x = none) → Args I M args vs → Calls P g vs.toArray M.w (CallPost I M n v h' n') := by
  refine ⟨hr.1, fun I M vs hG hH hfr hA => ?_⟩
  unfold callA at hc
  simp only [hF] at hc
  cases hp : cf.pure with
  | true =>
    simp only [hp] at hc
    cases h1 : argsD cf.bor args h with
    | none => simp [h1] at hc
    | some p =>
      obtain ⟨as, h2⟩ := p
      simp only [h1] at hc
      obtain ⟨fz, hx, hH1, hA1⟩ := argsD_rel hH hA h1
      have hG1 : GOk G (M.frz fz).all := (hG.ext hx).all hH1.lo
      have hE : RH (fun _ => none) (M.frz fz).all .lf := ⟨hH1.wf, Nat.le_refl _, fun _ _ _ h => by simp at h, fun _ _ _ _ _ _ h => by simp at h, fun _ _ _ h => by simp at h⟩
      have key : ∀ s, (ev F k cf.body ⟨initE 0 as .lf, .lf, 0⟩ = .nor s ∨ ev F k cf.body ⟨initE 0 as .lf, .lf, 0⟩ = .rt s) → leaveP cf h2 n s = some (v, h', n') → Calls P g vs.toArray M.w (CallPost I M n v h' n') := by
        intro s hev hl
        unfold leaveP at hl
        cases hrv : resVs s.e cf.results s.h with
        | none => simp [hrv] at hl
        | some l =>
          simp only [hrv] at hl
          refine Calls.mono (hr.2 as .lf 0 s l (.inl hp) hev hrv (fun _ => none) (M.frz fz).all vs hG1 hE (fun _ _ => rfl) (hA1 _)) fun e w' he => ?_
          cases e with
          | returned u =>
            obtain ⟨us, M3, I3, rfl, rfl, x3, _, _, _, hH3, ho⟩ := he
            have hlo3 : M.lo ≤ M3.lo := by rw [x3.lo]; exact Nat.le_trans hH1.lo (Nat.le_refl _)
            have x4 : Ext M ⟨M3.w, M3.fz, M.lo⟩ := hx.trans (all_ext x3 hH1.lo)
            have hH4 : RH I ⟨M3.w, M3.fz, M.lo⟩ h2 := hH1.keep (all_ext x3 hH1.lo) (fun y ob q hy hq => ⟨x3.low q.b (hH1.ob y ob q hy hq).2.1, x3.fzl q.b (hH1.ob y ob q hy hq).2.1⟩) hH3.wf
            cases hown : cf.own with
            | true =>
              simp only [hown] at hl
              cases hoo : outsO l s.h h2 n with
              | none => simp [hoo] at hl
              | some p =>
                obtain ⟨l', h5, n5⟩ := p
                simp only [hoo, Option.some.injEq, Prod.mk.injEq] at hl
                obtain ⟨rfl, rfl, rfl⟩ := hl
                obtain ⟨I', f1, f2, f3, f4, f5⟩ := outsO_rel hlo3 hH3 hH4 (fun x ob q x' ob' q' hx' hq hx2 hq2 => by
                  have a1 := (hH1.ob x ob q hx' hq).2.1
                  have a2 := (hH3.ob x' ob' q' hx2 hq2).1
                  rw [x3.lo] at a2
                  have : (M.frz fz).all.lo = (M.frz fz).w.heap.size := rfl
                  omega) hfr ho hoo
                exact ⟨⟨M3.w, M3.fz, M.lo⟩, I', rfl, x4, f1, f2, f3, f4, f5.tup⟩
            | false =>
              simp only [hown] at hl
              cases hoo : outsD l s.h with
              | none => simp [hoo] at hl
              | some p =>
                obtain ⟨l', h5⟩ := p
                simp only [hoo, Option.some.injEq, Prod.mk.injEq] at hl
                obtain ⟨rfl, rfl, rfl⟩ := hl
                obtain ⟨fz5, x5, hH5, ho5⟩ := outsD_rel hH3 ho hoo
                have x6 := frz_lo x5 hlo3
                refine ⟨⟨M3.w, fz5, M.lo⟩, I, rfl, x4.trans x6, Le.refl I, fun x hx => .inl hx, Nat.le_refl _, ?_, (ho5 I M.lo).tup⟩
                refine hH4.keep x6 (fun y ob q hy hq => ⟨rfl, ?_⟩) hH5.wf
                refine x5.fzl q.b ?_
                rw [x3.lo]
                exact (hH1.ob y ob q hy hq).2.1
          | _ => exact he.elim
      split at hc
      · rename_i s hs
        exact key s (.inl hs) hc
      · rename_i s hs
        exact key s (.inr hs) hc
      · cases hc
  | false =>
    simp only [hp] at hc
    have har : arOK cf args = true := by
      cases har : arOK cf args with
      | false => simp [har] at hc
      | true => rfl
    simp only [har] at hc
    have key : ∀ s, (ev F k cf.body ⟨initE 0 args .lf, h, n⟩ = .nor s ∨ ev F k cf.body ⟨initE 0 args .lf, h, n⟩ = .rt s) → leaveI cf s = some (v, h', n') → Calls P g vs.toArray M.w (CallPost I M n v h' n') := by
      intro s hev hl
      unfold leaveI at hl
      cases hrv : resVs s.e cf.results s.h with
      | none => simp [hrv] at hl
      | some l =>
        simp only [hrv] at hl
        refine Calls.mono (hr.2 args h n s l (.inr har) hev hrv I M vs hG hH hfr hA) fun e w' he => ?_
        cases e with
        | returned u =>
          obtain ⟨us, M3, I3, rfl, rfl, x3, le3, new3, n3, hH3, ho⟩ := he
          cases hfz : cf.frz with
          | true =>
            simp only [hfz] at hl
            cases hoo : outsD l s.h with
            | none => simp [hoo] at hl
            | some p =>
              obtain ⟨l', h5⟩ := p
              simp only [hoo, Option.some.injEq, Prod.mk.injEq] at hl
              obtain ⟨rfl, rfl, rfl⟩ := hl
              obtain ⟨fz5, x5, hH5, ho5⟩ := outsD_rel hH3 ho hoo
              exact ⟨M3.frz fz5, I3, rfl, x3.trans x5, le3, new3, n3, hH5, (ho5 I3 M3.lo).tup⟩
          | false =>
            simp only [hfz, Option.some.injEq, Prod.mk.injEq] at hl
            obtain ⟨rfl, rfl, rfl⟩ := hl
            exact ⟨M3, I3, rfl, x3, le3, new3, n3, hH3, ho.tup⟩
        | _ => exact he.elim
    split at hc
    · rename_i s hs
      exact key s (.inl hs) hc
    · rename_i s hs
      exact key s (.inr hs) hc
    · cases hc
/-! ### All levels -/
theorem all_ok (hm : P.follows .mixedOrders = true) (hpu : ∀ g, pu g = true → ∃ cf, F g = some cf ∧ cf.pure = true)
    (hF : ∀ g cf, F g = some cf → FnOK P G pu g cf ∨ ∀ k, (∀ j, j < k → CallOK P G (callA F (ev F j))) → CodeOK P G pu F k → RunOK P G F k g cf) : ∀ k, CodeOK P G pu F k ∧ CallOK P G (callA F (ev F k)) := by
  intro k
  induction k using Nat.strongRecOn with
  | ind k ih =>
    have hcode : CodeOK P G pu F k := code_ok hm ih fun j g args h n v h' n' hp hc => by
      obtain ⟨cf, h1, h2⟩ := hpu g hp
      exact pure_soft h1 h2 hc
    refine ⟨hcode, fun g args h n v h' n' hc => ?_⟩
    cases hFg : F g with
    | none => unfold callA at hc; simp [hFg] at hc
    | some cf =>
      refine call_one hFg ?_ hc
      rcases hF g cf hFg with h1 | h1
      · exact h1.run hcode
      · exact h1 k (fun j hj => (ih j hj).2) hcode
end
end Tm
