/- The generator's end: the last instruction and the result. -/
import Derived.Test.YtdjldmpfginkdaaGreatDoorGGen
namespace Go.Proofs.YtdjldmpfginkdaaGreatDoor
open Go.RowKit
attribute [local go_sem ↓] Go.wp_at_zero Go.wp_at_succ

/-- What follows a statement. -/
def sq2 : Code → Code
  | .seq _ b => b
  | c => c
theorem wp_of_seq {P : Program} {c a b : Code} {Q : Exit → Act → World → Prop} {f : Act} {w : World} (h : c = .seq a b) (hw : (Code.seq a b).wp P Q f w) : c.wp P Q f w := by rw [h]; exact hw
def bodyOf (f : Func) : Code := match f.body with
  | some c => c
  | none => .skip
/-- What Reg returns. -/
def RegR (w : World) (sb : Nat) (e : Ending) (w' : World) : Prop := ∃ (p : Int) (l : List GI) (cb : Nat) (iv : Value), e = .returned (.agg #[.int .i64 p, .slice (some ⟨cb, 0, none⟩) 7 7, iv, .slice none 0 0]) ∧
      RowV w' cb 3 (ints cls7) ∧ IsInsl w' w'.heap.size (l.map GI.ins) iv ∧ (∀ x ∈ l.map GI.ins, InsOk x ∧ x.args.length ≤ 2) ∧ 0 < l.length ∧ l.length ≤ 20 ∧ w.grownBy w' (some sb)
set_option maxRecDepth 100000 in
set_option maxHeartbeats 16000000 in
theorem reg_tail (w wr : World) (sb rb cb K : Nat) (p nn : Int) (l : List GI) (iv : Value) (h : RG w sb rb cb K p l iv wr) (hK2 : K ≤ 400) (hll : l.length ≤ 19) (hq1 : 1 ≤ nn) (hq2 : nn ≤ 2 ^ 62)
    (t1 t5 t6 t7 t8 t9 t10 t11 t12 t13 t14 t15 t16 t17 t18 t19 t20 t21 t22 t23 t24 t25 t26 t27 t28 t29 t30 t31 t32 t33 t34 t35 t36 t37 t38 t39 t40 t41 t42 t43 t44 t45 t46 t47 t48 t49 t50 t51 t52 t53 t54 t55 t56 t57 t58 t59 t60 t61 t62 t63 t64 t65 t66 t67 t68 t69 t70 t71 t72 t73 t74 t75 t76 t77 t78 t79 t80 t81 t82 t83 t84 t85 t86 t87 t88 t89 t90 t91 t92 t93 t94 t95 t96 t97 t98 t99 t100 t101 t102 t103 t104 t105 t106 t107 t108 t109 t110 t111 t112 t113 t114 t115 t116 t117 t118 t119 t120 t121 t122 t123 t124 t125 t126 t127 t128 t129 t130 t131 t132 t133 t134 t135 t136 t137 t138 t139 t140 t141 t142 t143 t144 t145 t146 t147 t148 t149 t150 t151 t152 t153 t154 t155 t156 t157 t158 t159 t160 t161 t162 t163 t164 t165 t166 t167 t168 t169 t170 t171 t172 t173 t174 t175 t176 t177 t178 t179 t180 t181 t182 t183 t184 t185 t186 t187 t188 t189 t190 t191 t192 t193 t194 t195 t196 t197 t198 t199 t200 t201 t202 t203 t204 t205 t206 t207 t208 t209 t210 t211 t212 t213 t214 t215 t216 t217 t218 t219 t220 t221 t222 t223 t224 t225 t226 t227 t228 t229 t230 t231 t232 t233 t234 t235 t236 t237 t238 t239 t240 t241 t242 t243 t244 t245 t246 t247 t248 t249 t250 t251 t252 t253 : Value) :
    Code.wp Tryz.prog (sq2 (sq2 (sq2 (sq2 (bodyOf Tryz.f7))))) (bodyPost Tryz.prog Tryz.f7 (RegR w sb)) ⟨List.toArray (.pointer (some ⟨sb, 0, none⟩) :: t1 :: .pointer (some ⟨w.heap.size, 0, none⟩) :: .pointer (some ⟨rb, 0, none⟩) :: .int .i64 nn :: t5 :: t6 :: t7 :: t8 :: t9 :: t10 :: t11 :: t12 :: t13 :: t14 :: t15 :: t16 :: t17 :: t18 :: t19 :: t20 :: t21 :: t22 :: t23 :: t24 :: t25 :: t26 :: t27 :: t28 :: t29 :: t30 :: t31 :: t32 :: t33 :: t34 :: t35 :: t36 :: t37 :: t38 :: t39 :: t40 :: t41 :: t42 :: t43 :: t44 :: t45 :: t46 :: t47 :: t48 :: t49 :: t50 :: t51 :: t52 :: t53 :: t54 :: t55 :: t56 :: t57 :: t58 :: t59 :: t60 :: t61 :: t62 :: t63 :: t64 :: t65 :: t66 :: t67 :: t68 :: t69 :: t70 :: t71 :: t72 :: t73 :: t74 :: t75 :: t76 :: t77 :: t78 :: t79 :: t80 :: t81 :: t82 :: t83 :: t84 :: t85 :: t86 :: t87 :: t88 :: t89 :: t90 :: t91 :: t92 :: t93 :: t94 :: t95 :: t96 :: t97 :: t98 :: t99 :: t100 :: t101 :: t102 :: t103 :: t104 :: t105 :: t106 :: t107 :: t108 :: t109 :: t110 :: t111 :: t112 :: t113 :: t114 :: t115 :: t116 :: t117 :: t118 :: t119 :: t120 :: t121 :: t122 :: t123 :: t124 :: t125 :: t126 :: t127 :: t128 :: t129 :: t130 :: t131 :: t132 :: t133 :: t134 :: t135 :: t136 :: t137 :: t138 :: t139 :: t140 :: t141 :: t142 :: t143 :: t144 :: t145 :: t146 :: t147 :: t148 :: t149 :: t150 :: t151 :: t152 :: t153 :: t154 :: t155 :: t156 :: t157 :: t158 :: t159 :: t160 :: t161 :: t162 :: t163 :: t164 :: t165 :: t166 :: t167 :: t168 :: t169 :: t170 :: t171 :: t172 :: t173 :: t174 :: t175 :: t176 :: t177 :: t178 :: t179 :: t180 :: t181 :: t182 :: t183 :: t184 :: t185 :: t186 :: t187 :: t188 :: t189 :: t190 :: t191 :: t192 :: t193 :: t194 :: t195 :: t196 :: t197 :: t198 :: t199 :: t200 :: t201 :: t202 :: t203 :: t204 :: t205 :: t206 :: t207 :: t208 :: t209 :: t210 :: t211 :: t212 :: t213 :: t214 :: t215 :: t216 :: t217 :: t218 :: t219 :: t220 :: t221 :: t222 :: t223 :: t224 :: t225 :: t226 :: t227 :: t228 :: t229 :: t230 :: t231 :: t232 :: t233 :: t234 :: t235 :: t236 :: t237 :: t238 :: t239 :: t240 :: t241 :: t242 :: t243 :: t244 :: t245 :: t246 :: t247 :: t248 :: t249 :: t250 :: t251 :: t252 :: t253 :: []), []⟩ wr := by
  obtain ⟨i0, hi0, hz0, hz1, hz2⟩ := info_parts info_instr
  have HI : Hid (i0.zero = some (.agg #[.int .i64 0, .int .i64 0, .int .i64 0, .int .i64 0, .int .i64 0, .string ⟨#[]⟩, .slice none 0 0, .int .i64 0, .string ⟨#[]⟩, .int .i64 0, .slice none 0 0, .int .i64 0, .int .i64 0, .string ⟨#[]⟩, .slice none 0 0]) ∧ i0.size = 15 ∧ i0.bytes = 192) := Lib.hid ⟨hz0, hz1, hz2⟩
  have Hi0 := Lib.hid hi0
  have HR := Lib.hid h
  clear hi0 hz0 hz1 hz2 h
  have hrlt := HR.out.lt
  have hl1 := HR.out.lt1
  have hl2 := HR.out.lt2
  have hl3 := HR.out.lt3
  refine wp_of_seq rfl ?_
  go_wp2_with fail
  refine (c_TReg _ sb K wr HR.out.tape (by omega)).mono ?_
  rintro e w4 ⟨y, rfl, hy0, hy1, ht, hg⟩
  have HG4 := Lib.hid hg
  have HT4 := Lib.hid ht
  have hz4 := hg.size
  clear ht hg
  go_wp2_with fail
  generalize hWx : w4.alloc _ = wx
  have HHx : Hid (GSt wr sb w4.heap.size (K + 1) 24 0 y 0 0 ⟨#[]⟩ [] (.slice none 0 0) 0 0 ⟨#[]⟩ wx) := Lib.hid (by
    subst hWx
    exact ⟨blk_new _ _, .inl ⟨rfl, rfl⟩, HT4.out.grown_new _, grown_trans HG4.out (World.grownBy_alloc w4 _ (some sb)), by omega, hz4⟩)
  clear hWx HG4 HT4
  generalize hxb : w4.heap.size = xb at *
  clear hxb
  refine (c_TNext 10 sb (K + 1) wx HHx.out.tape (by omega) (by omega) (by omega)).mono ?_
  rintro e w7 ⟨z, rfl, hz0, hz1, ht, hg⟩
  have HH7 := Lib.hid (HHx.out.call hg ht)
  clear ht hg HHx
  go_upto_block 3 with fail
  go_cut [] from 235 to 246 (fun wx => GX wr sb xb (K + 3) wx)
  case first =>
    clear HR
    obtain ⟨e0, e1, e2, e3, e4, e5, e6⟩ := HH7.out.x.cells7
    have hf7 := HH7.out.x.free
    have hxl : xb < w7.heap.size := HH7.out.x.lt
    by_cases hz1' : z = 1
    · subst hz1'
      go_wp2
      go_meet
      exact (HH7.out.s0 21).gx (by simp) (by decide) (by omega)
    have k1 := beq_f hz1'
    by_cases hz2' : z = 2
    · subst hz2'
      clear e0 e1 e2 e3 e4 e5 e6
      go_wp2_with fail
      refine (c_TNext nn sb (K + 2) w7 HH7.out.tape (by omega) (by omega) (by omega)).mono ?_
      rintro e w8 ⟨y8, rfl, _, _, ht, hg⟩
      have HH8 := Lib.hid (HH7.out.call hg ht)
      clear ht hg HH7 hf7 hxl
      have hf8 := HH8.out.x.free
      have hxl : xb < w8.heap.size := HH8.out.x.lt
      have hxc := HH8.out.x.cell
      have e0 := hxc 0
      have e1 := hxc 1
      have e2 := hxc 2
      have e3 := hxc 3
      have e4 := hxc 4
      have e5 := hxc 5
      have e6 := hxc 6
      have e7 := hxc 7
      have e8 := hxc 8
      have e9 := hxc 9
      have e10 := hxc 10
      have e11 := hxc 11
      have e12 := hxc 12
      have e13 := hxc 13
      have e14 := hxc 14
      clear hxc
      simp [gcell] at e0 e1 e2 e3 e4 e5 e6 e7 e8 e9 e10 e11 e12 e13 e14
      go_wp2
      go_meet
      exact (HH8.out.all 17 y8).gx (by simp) (by decide) (by omega)
    have k2 := beq_f hz2'
    by_cases hz3' : z = 3
    · subst hz3'
      have hxc := HH7.out.x.cell
      have e7 := hxc 7
      have e8 := hxc 8
      have e9 := hxc 9
      have e10 := hxc 10
      have e11 := hxc 11
      have e12 := hxc 12
      have e13 := hxc 13
      have e14 := hxc 14
      clear hxc
      simp [gcell] at e7 e8 e9 e10 e11 e12 e13 e14
      go_wp2
      go_meet
      exact (HH7.out.all 26 0).gx (by simp) (by decide) (by omega)
    have k3 := beq_f hz3'
    go_wp2
    go_meet
    exact HH7.out.gx (by simp) (by decide) (by omega)
  case rest =>
    obtain ⟨x, av, hx, hag, hok, htp, hgr⟩ := hcut
    have HR5 := Lib.hid (HR.out.step hgr htp)
    have hxl := hx.lt
    have hb2 : wc.cell? ⟨rb, 2, none⟩ = some iv := by rw [cell_of_row _ _ _ _ _ _ HR5.out.box]; rfl
    have hf2 : wc.frozen? ⟨rb, 2, none⟩ = false := by simp [World.frozen?, HR5.out.box]
    have hxc : ∀ i, wc.cell? ⟨xb, i, none⟩ = (gcell x.op x.dst x.a x.b x.imm x.nm av x.ck x.ci x.cs)[i]? := hx.cell
    have e0 := hxc 0
    have e1 := hxc 1
    have e2 := hxc 2
    have e3 := hxc 3
    have e4 := hxc 4
    have e5 := hxc 5
    have e6 := hxc 6
    have e7 := hxc 7
    have e8 := hxc 8
    have e9 := hxc 9
    have e10 := hxc 10
    have e11 := hxc 11
    have e12 := hxc 12
    have e13 := hxc 13
    have e14 := hxc 14
    simp [gcell] at e0 e1 e2 e3 e4 e5 e6 e7 e8 e9 e10 e11 e12 e13 e14
    obtain ⟨xs, ho, hr⟩ := HR5.out.own
    have HO := Lib.hid ho
    have HRR := Lib.hid hr
    have HAG := Lib.hid hag
    have HOK := Lib.hid hok
    have hrl := HR5.out.lt
    clear hxc hx hag hok htp hgr ho hr HR HH7
    go_upto_region 66 with (first
      | (at_builtin; refine wpList_append_rd _ rfl (.tmp 248) (.tmp 250) 23 rfl (rb + 1) 38 i0 (.agg #[.int .i64 0, .int .i64 0, .int .i64 0, .int .i64 0, .int .i64 0, .string ⟨#[]⟩, .slice none 0 0, .int .i64 0, .string ⟨#[]⟩, .int .i64 0, .slice none 0 0, .int .i64 0, .int .i64 0, .string ⟨#[]⟩, .slice none 0 0]) 15 192 Tryz.underlying23 Hi0.out HI.out.1 HI.out.2.1 HI.out.2.2 rfl (by omega) iv l.length xs rfl (HO.out.alloc _) (wc.heap.size + 1) (some ⟨wc.heap.size, 0, none⟩) 1 1 (gcell x.op x.dst x.a x.b x.imm x.nm av x.ck x.ci x.cs).toList rfl (Rd.blk (cs := gcell x.op x.dst x.a x.b x.imm x.nm av x.ck x.ci x.cs) (blk_new _ _) rfl (by omega)) (gcell_one HAG.out) (by omega) (by simp; omega) ?_
         intro v5 w5 hown5 hg5 hat5
         obtain ⟨A5, c5, rfl⟩ := own_formT hown5
         have HR6 := Lib.hid (HR5.out.add HOK.out HAG.out HO.out HRR.out hown5 hg5)
         have hk5 : ∀ b, b ≤ rb → w5.heap[b]? = wc.heap[b]? := fun b hb => (hg5.block b (by simp; omega) (fun e => by have := own_ge HO.out b e.symm; omega)).trans ((below_new wc _).block b (by omega))
         have hb5 : w5.cell? ⟨rb, 2, none⟩ = some iv := cell_of_row _ _ 2 _ _ _ ((hk5 rb (Nat.le_refl _)).trans HR5.out.box)
         have hf5 : w5.frozen? ⟨rb, 2, none⟩ = false := by
           have h1 : w5.heap[rb]? = _ := (hk5 rb (Nat.le_refl _)).trans HR5.out.box
           simp [World.frozen?, h1]
         clear hown5 hg5 hat5 hk5))
    generalize hW6 : w5.setCell _ _ = w6
    rw [hW6] at HR6
    clear hW6 hb5 hf5
    have hbx := HR6.out.box
    have hrs := HR6.out.res
    have b0 : w6.cell? ⟨rb, 0, none⟩ = some (.int .i64 p) := cell_of_row _ _ 0 _ _ _ hbx
    have b1 : w6.cell? ⟨rb, 1, none⟩ = some (.slice (some ⟨cb, 0, none⟩) 7 7) := cell_of_row _ _ 1 _ _ _ hbx
    have b2 : w6.cell? ⟨rb, 2, none⟩ = some (.slice A5 (l.length + 1) c5) := cell_of_row _ _ 2 _ _ _ hbx
    have b3 : w6.cell? ⟨rb, 3, none⟩ = some (.slice none 0 0) := cell_of_row _ _ 3 _ _ _ hbx
    have r0 : w6.cell? ⟨w.heap.size, 0, none⟩ = some (.int .i64 0) := cell_of_row _ _ 0 _ _ _ hrs
    have r1 : w6.cell? ⟨w.heap.size, 1, none⟩ = some (.slice none 0 0) := cell_of_row _ _ 1 _ _ _ hrs
    have r2 : w6.cell? ⟨w.heap.size, 2, none⟩ = some (.slice none 0 0) := cell_of_row _ _ 2 _ _ _ hrs
    have r3 : w6.cell? ⟨w.heap.size, 3, none⟩ = some (.slice none 0 0) := cell_of_row _ _ 3 _ _ _ hrs
    have fr : ∀ i, w6.frozen? ⟨w.heap.size, i, none⟩ = false := fun i => by simp [World.frozen?, hrs]
    clear hbx hrs
    have hl3 : w.heap.size < w6.heap.size := by have := HR6.out.lt; omega
    go_wp2
    generalize hWF : (((w6.setCell _ _).setCell _ _).setCell _ _).setCell _ _ = WF
    obtain ⟨zz0, zz1, zz2, zz3⟩ := box4_set HR6.out.res _ _ _ _ hWF
    have HF := Lib.hid (HR6.out.fin _ _ _ _ hWF)
    clear hWF
    exact bodyPost_ret (v := .agg #[.int .i64 p, .slice (some ⟨cb, 0, none⟩) 7 7, .slice A5 (l.length + 1) c5, .slice none 0 0]) (by simp [results, Tryz.results7, go_sem, zz0, zz1, zz2, zz3]) rfl ⟨p, l ++ [x], cb, _, rfl, HF.out.1, HF.out.2.1, HF.out.2.2.1, by simp, by simp; omega, HF.out.2.2.2⟩
end Go.Proofs.YtdjldmpfginkdaaGreatDoor
