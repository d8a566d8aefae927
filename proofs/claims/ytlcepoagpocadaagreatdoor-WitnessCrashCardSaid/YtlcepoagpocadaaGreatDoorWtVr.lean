import Derived.Test.YtlcepoagpocadaaGreatDoorWtR
import Derived.Test.YtlcepoagpocadaaGreatDoorWtU
import Derived.BigRegion
set_option linter.unusedSimpArgs false
set_option linter.unusedVariables false
set_option maxRecDepth 100000
/- Where the power goes: the three regions that lay an event behind a row of events. -/
namespace Go.Proofs.YtlcepoagpocadaaGreatDoor
open Go Go.RowKit
theorem EvAt.mod {Q : Nat → Prop} {w w' : World} {g : Nat} {qs : List EvV} (h : EvAt w ⟨g, 0, none⟩ qs) (M : Mod Q w w') (hq : ¬ Q g) (hg : g < w.heap.size := by first | assumption | (simp; done) | (simp; omega)) : EvAt w' ⟨g, 0, none⟩ qs := fun j u hj => by
  have e : Addr.add ⟨g, 0, none⟩ j = ⟨g, j, none⟩ := by simp [Addr.add]; intro q; exact q.symm
  have := h j u hj
  rw [e] at this ⊢
  exact (M.cell hg hq _).trans this
theorem EvOwn.empty2 (w : World) (B E : Nat) (hE : w.heap.size = E) (hB : B ≤ w.heap.size) : EvOwn B (w.alloc (.cells #[] 34)) (.slice (some ⟨E, 0, none⟩) 0 0) [] := hE ▸ EvOwn.empty w B hB
theorem ev_new2 (w : World) (p : EvV) (E : Nat) (hE : w.heap.size = E) : EvAt (w.alloc (.cells #[ordW p.1.o, .int .i64 p.1.er, .string ⟨p.1.d.toArray⟩, p.2.1, .int .i64 p.1.gen, p.2.2] 34)) ⟨E, 0, none⟩ [p] := hE ▸ ev_new w p
/-- A region of a code, by its number. -/
def regionAt (n : Nat) : Code → Option Code
  | .region k ops d => if k = n then some (.region k ops d) else none
  | .loop c => regionAt n c
  | .seq a b => match regionAt n a with
    | some c => some c
    | none => regionAt n b
  | .block _ c => regionAt n c
  | .scope c => regionAt n c
  | .cond _ a b => match regionAt n a with
    | some c => some c
    | none => regionAt n b
  | _ => none
set_option maxHeartbeats 8000000 in
theorem reg27_ev {v0 v1 v2 v3 v4 v5 v6 v7 v8 v9 v11 v12 v13 v14 v15 v17 v18 v19 v20 v21 v22 v23 v24 v25 v26 v27 v28 v29 v30 v31 v32 v33 v34 v35 v36 v37 v38 v39 v40 v41 v42 v43 v44 v45 v46 v47 v48 v49 v50 v51 v52 v53 v54 v55 v56 v57 v58 v59 v60 v61 v62 v63 v64 v65 v66 v67 v68 v69 v70 v71 v72 v73 v74 v75 v76 v77 v78 v79 v80 v81 v82 v83 v84 v85 v86 v87 v88 v89 v90 v91 v92 v93 v94 v95 v96 v97 v98 v99 v100 v101 v102 v103 v104 v105 v106 v107 v108 v109 v110 v111 v112 v113 v114 v115 v116 v117 v118 v119 v120 v121 v122 v123 v124 v125 v126 v127 v128 v129 v130 v131 v132 v133 v134 v135 v136 v137 v138 v139 v140 v141 v142 v143 v144 v145 v146 v147 v148 v149 v150 v151 v152 v153 v154 v155 v156 v157 v158 v159 v160 v161 v162 v163 v164 v165 v166 v167 v168 v169 v170 v171 v172 v173 v174 v175 v176 v177 v178 v179 v180 v181 v182 v183 v184 v185 v186 v187 v188 v189 v190 v191 v192 v193 v194 v195 v196 v197 v198 v199 v200 v201 v202 : Value} {K : Act → World → Prop} {R : Ending → World → Prop} {w0 : World} {Lp : List EvV} {gl cl gx gv gd : Nat} {X : List UInt8}
    (BX1 : Hid (Blk w0 gx #[.iface 45 (.agg #[.string ⟨#[]⟩, .string ⟨#[]⟩, .string ⟨#[]⟩]), .int .i64 0, .string ⟨#[]⟩, .slice (some ⟨gv, 0, none⟩) 1 1, .int .i64 2, .slice (some ⟨gd, 0, none⟩) 1 1]))
    (BV1 : Hid (Blk w0 gv #[.int .i64 3, .int .i64 8, .int .i64 0, .bool false, .int .i64 0])) (BD1 : Hid (Blk w0 gd #[strV X])) (HAT1 : Hid (EvAt w0 ⟨gl, 0, none⟩ Lp))
    (HLI : Hid (∀ own W, ∀ p ∈ Lp, EvIn own W p)) (hvx : gv ≠ gx) (hdx1 : gd ≠ gx) (hgl1 : gl < w0.heap.size) (HLP : 0 < Lp.length) (HLB2 : Lp.length ≤ 1000)
    (hK : ∀ (u133 u134 u135 u136 u137 u138 : Value) (g c : Nat) (wx : World), (∀ W', Mod (fun i => i = gx) wx W' → EvRow W' (some ⟨g, 0, none⟩) (Lp.map (·.1) ++ [evK vol3 2 X])) → Same w0 wx → K ⟨(v0 :: v1 :: v2 :: v3 :: v4 :: v5 :: v6 :: v7 :: v8 :: v9 :: .slice (some ⟨gl, 0, none⟩) Lp.length cl :: v11 :: v12 :: v13 :: v14 :: v15 :: .pointer (some ⟨gx, 0, none⟩) :: .slice (some ⟨g, 0, none⟩) (Lp.length + 1) c :: v18 :: v19 :: v20 :: v21 :: v22 :: v23 :: v24 :: v25 :: v26 :: v27 :: v28 :: v29 :: v30 :: v31 :: v32 :: v33 :: v34 :: v35 :: v36 :: v37 :: v38 :: v39 :: v40 :: v41 :: v42 :: v43 :: v44 :: v45 :: v46 :: v47 :: v48 :: v49 :: v50 :: v51 :: v52 :: v53 :: v54 :: v55 :: v56 :: v57 :: v58 :: v59 :: v60 :: v61 :: v62 :: v63 :: v64 :: v65 :: v66 :: v67 :: v68 :: v69 :: v70 :: v71 :: v72 :: v73 :: v74 :: v75 :: v76 :: v77 :: v78 :: v79 :: v80 :: v81 :: v82 :: v83 :: v84 :: v85 :: v86 :: v87 :: v88 :: v89 :: v90 :: v91 :: v92 :: v93 :: v94 :: v95 :: v96 :: v97 :: v98 :: v99 :: v100 :: v101 :: v102 :: v103 :: v104 :: v105 :: v106 :: v107 :: v108 :: v109 :: v110 :: v111 :: v112 :: v113 :: v114 :: v115 :: v116 :: v117 :: v118 :: v119 :: v120 :: v121 :: v122 :: v123 :: v124 :: v125 :: v126 :: v127 :: v128 :: v129 :: v130 :: v131 :: v132 :: u133 :: u134 :: u135 :: u136 :: u137 :: u138 :: v139 :: v140 :: v141 :: v142 :: v143 :: v144 :: v145 :: v146 :: v147 :: v148 :: v149 :: v150 :: v151 :: v152 :: v153 :: v154 :: v155 :: v156 :: v157 :: v158 :: v159 :: v160 :: v161 :: v162 :: v163 :: v164 :: v165 :: v166 :: v167 :: v168 :: v169 :: v170 :: v171 :: v172 :: v173 :: v174 :: v175 :: v176 :: v177 :: v178 :: v179 :: v180 :: v181 :: v182 :: v183 :: v184 :: v185 :: v186 :: v187 :: v188 :: v189 :: v190 :: v191 :: v192 :: v193 :: v194 :: v195 :: v196 :: v197 :: v198 :: v199 :: v200 :: v201 :: v202 :: []).toArray, []⟩ wx) :
    Code.wp Tryz.prog ((Tryz.f3.body.bind (regionAt 27)).getD .skip) (Exit.then K (bodyPost Tryz.prog Tryz.f3 R)) ⟨(v0 :: v1 :: v2 :: v3 :: v4 :: v5 :: v6 :: v7 :: v8 :: v9 :: .slice (some ⟨gl, 0, none⟩) Lp.length cl :: v11 :: v12 :: v13 :: v14 :: v15 :: .pointer (some ⟨gx, 0, none⟩) :: v17 :: v18 :: v19 :: v20 :: v21 :: v22 :: v23 :: v24 :: v25 :: v26 :: v27 :: v28 :: v29 :: v30 :: v31 :: v32 :: v33 :: v34 :: v35 :: v36 :: v37 :: v38 :: v39 :: v40 :: v41 :: v42 :: v43 :: v44 :: v45 :: v46 :: v47 :: v48 :: v49 :: v50 :: v51 :: v52 :: v53 :: v54 :: v55 :: v56 :: v57 :: v58 :: v59 :: v60 :: v61 :: v62 :: v63 :: v64 :: v65 :: v66 :: v67 :: v68 :: v69 :: v70 :: v71 :: v72 :: v73 :: v74 :: v75 :: v76 :: v77 :: v78 :: v79 :: v80 :: v81 :: v82 :: v83 :: v84 :: v85 :: v86 :: v87 :: v88 :: v89 :: v90 :: v91 :: v92 :: v93 :: v94 :: v95 :: v96 :: v97 :: v98 :: v99 :: v100 :: v101 :: v102 :: v103 :: v104 :: v105 :: v106 :: v107 :: v108 :: v109 :: v110 :: v111 :: v112 :: v113 :: v114 :: v115 :: v116 :: v117 :: v118 :: v119 :: v120 :: v121 :: v122 :: v123 :: v124 :: v125 :: v126 :: v127 :: v128 :: v129 :: v130 :: v131 :: v132 :: v133 :: v134 :: v135 :: v136 :: v137 :: v138 :: v139 :: v140 :: v141 :: v142 :: v143 :: v144 :: v145 :: v146 :: v147 :: v148 :: v149 :: v150 :: v151 :: v152 :: v153 :: v154 :: v155 :: v156 :: v157 :: v158 :: v159 :: v160 :: v161 :: v162 :: v163 :: v164 :: v165 :: v166 :: v167 :: v168 :: v169 :: v170 :: v171 :: v172 :: v173 :: v174 :: v175 :: v176 :: v177 :: v178 :: v179 :: v180 :: v181 :: v182 :: v183 :: v184 :: v185 :: v186 :: v187 :: v188 :: v189 :: v190 :: v191 :: v192 :: v193 :: v194 :: v195 :: v196 :: v197 :: v198 :: v199 :: v200 :: v201 :: v202 :: []).toArray, []⟩ w0 := by
  have HLB : ([] : List EvV).length + Lp.length ≤ 100000 := by show 0 + Lp.length ≤ 100000; omega
  have hgv3 := BV1.out.lt
  have hgd3 := BD1.out.lt
  have hgx3 := BX1.out.lt
  conv => arg 2; whnf
  refine wp_region_held_drew (S := fun W => Same w0 W) (by kernel_rfl) (by (try dsimp only); exact (Mod.refl _ _).drew) (fun hHeld => ?_)
  refine wpAnyH_take (i := 1) (v := ?_) rfl (by kernel_rfl) (by kernel_rfl) (by kernel_rfl) (fun _ _ _ h => h) (Or.inl ⟨by rfl, ?_⟩) (by assumption) ?_
  rotate_left
  · intro w hSw
    try dsimp only at hSw
    go_simp
    try with_reducible rfl
  try simp only [List.getElem_toArray, List.getElem_cons_succ, List.getElem_cons_zero, Act.put, List.setIfInBounds_toArray, List.set_cons_zero, List.set_cons_succ]
  refine wpAnyH_take (i := 3) (v := ?_) rfl (by kernel_rfl) (by kernel_rfl) (by kernel_rfl) (fun _ _ _ h => h) (Or.inl ⟨by rfl, ?_⟩) (by assumption) ?_
  rotate_left
  · intro w hSw
    try dsimp only at hSw
    have y0 := (BX1.out.mod hSw (fun q => q)).at_ (i := 0) _ rfl
    have y1 := (BX1.out.mod hSw (fun q => q)).at_ (i := 1) _ rfl
    have y2 := (BX1.out.mod hSw (fun q => q)).at_ (i := 2) _ rfl
    have y3 := (BX1.out.mod hSw (fun q => q)).at_ (i := 3) _ rfl
    have y4 := (BX1.out.mod hSw (fun q => q)).at_ (i := 4) _ rfl
    have y5 := (BX1.out.mod hSw (fun q => q)).at_ (i := 5) _ rfl
    go_simp
    try with_reducible rfl
  try simp only [List.getElem_toArray, List.getElem_cons_succ, List.getElem_cons_zero, Act.put, List.setIfInBounds_toArray, List.set_cons_zero, List.set_cons_succ]
  refine wpAnyH_ready (rs := [0, 4]) (by kernel_rfl) (by simp) ?_
  refine AllReadyH.cons rfl (fun Kc hKc => ?_) (AllReadyH.cons rfl (fun Kc hKc => ?_) (AllReadyH.nil))
  · go_simp
    refine hKc.out _ _ (by (try dsimp only); exact hHeld.alloc _) (fun hHeld => ?_)
    clear hKc Kc
    try simp only [List.getElem_toArray, List.getElem_cons_succ, List.getElem_cons_zero, Act.put, List.setIfInBounds_toArray, List.set_cons_zero, List.set_cons_succ]
    refine wpAnyH_ready (rs := [2, 4]) (by kernel_rfl) (by simp) ?_
    refine AllReadyH.cons rfl (fun Kc hKc => ?_) (AllReadyH.cons rfl (fun Kc hKc => ?_) (AllReadyH.nil))
    · have hWa := hHeld
      refine wp_append_ev (.tmp 133) (.tmp 134) rfl w0.heap.size _ [] rfl (EvOwn.empty w0.drew w0.heap.size (Nat.le_refl _)) ⟨gl, 0, none⟩ _ cl Lp rfl HLP rfl (HAT1.out.mod hWa (fun q => q) hgl1) (HLI.out _ _) HLB (hWa.size) ?_
      intro ge ce we hown hMe hate
      have EOe := Lib.hid hown
      have EOs := Lib.hid (show EvOwn w0.heap.size we (.slice (some ⟨ge, 0, none⟩) Lp.length ce) Lp by
        have h := hown
        rw [List.nil_append, show ([] : List EvV).length + Lp.length = Lp.length by simp] at h
        exact h)
      have KE := Lib.hid (show Same w0 we from (EvOwn.empty w0.drew w0.heap.size (Nat.le_refl _)).kept hMe hWa (Nat.le_refl _))
      have hMee := Lib.hid hMe
      have hge : w0.heap.size ≤ ge := (EOe.out.own.lt ge rfl).1
      clear hown hMe hate
      refine hKc.out _ _ (by (try dsimp only); exact KE.out) (fun hHeld => ?_)
      clear hKc Kc
      try simp only [List.getElem_toArray, List.getElem_cons_succ, List.getElem_cons_zero, Act.put, List.setIfInBounds_toArray, List.set_cons_zero, List.set_cons_succ]
      refine wpAnyH_ready (rs := [4]) (by kernel_rfl) (by simp) ?_
      refine AllReadyH.cons rfl (fun Kc hKc => ?_) AllReadyH.nil
      go_simp
      refine hKc.out _ _ (by (try dsimp only); exact hHeld.alloc _) (fun hHeld => ?_)
      clear hKc Kc
      try simp only [List.getElem_toArray, List.getElem_cons_succ, List.getElem_cons_zero, Act.put, List.setIfInBounds_toArray, List.set_cons_zero, List.set_cons_succ]
      refine wpAnyH_ready (rs := [5]) (by kernel_rfl) (by simp) ?_
      refine AllReadyH.cons rfl (fun Kc hKc => ?_) AllReadyH.nil
      have hWb := hHeld
      refine wp_append_ev (.tmp 135) (.tmp 137) rfl w0.heap.size _ (Lp) rfl (EOs.out.same ((Mod.refl _ _).alloc _)) ⟨we.heap.size, 0, none⟩ 1 1 [(evK vol3 2 X, .slice (some ⟨gv, 0, none⟩) 1 1, .slice (some ⟨gd, 0, none⟩) 1 1)] rfl (by decide) rfl (ev_new we (evK vol3 2 X, .slice (some ⟨gv, 0, none⟩) 1 1, .slice (some ⟨gd, 0, none⟩) 1 1)) (fun p hp => by rw [List.mem_singleton.1 hp]; exact evK_in rfl rfl (BV1.out.mod hWb (fun q => q)) (BD1.out.mod hWb (fun q => q)) (fun q => by injection q with q; have q : ge = _ := q; omega) (fun q => by injection q with q; have q : ge = _ := q; omega)) (by simp; omega) (hWb.size) ?_
      intro gf cf wf hown hMf hatf
      have EOf := Lib.hid hown
      have KF := Lib.hid (show Same w0 wf from (EOs.out.same ((Mod.refl _ _).alloc _)).kept hMf hWb (Nat.le_refl _))
      clear hown hMf hatf
      refine hKc.out _ _ (by (try dsimp only); exact KF.out) (fun hHeld => ?_)
      clear hKc Kc
      try simp only [List.getElem_toArray, List.getElem_cons_succ, List.getElem_cons_zero, Act.put, List.setIfInBounds_toArray, List.set_cons_zero, List.set_cons_succ]
      refine wpAnyH_take (i := 6) (v := ?_) rfl (by kernel_rfl) (by kernel_rfl) (by kernel_rfl) (fun _ _ _ h => h) (Or.inl ⟨by rfl, ?_⟩) (by assumption) ?_
      rotate_left
      · intro w hSw
        try dsimp only at hSw
        go_simp
        try with_reducible rfl
      try simp only [List.getElem_toArray, List.getElem_cons_succ, List.getElem_cons_zero, Act.put, List.setIfInBounds_toArray, List.set_cons_zero, List.set_cons_succ]
      refine wpAnyH_done (by kernel_rfl) ?_ _
      exact hK _ _ _ _ _ _ gf cf _ (fun W' M' => by
        have hgf := (EOf.out.own.lt gf rfl).1
        have hq : EvOwn w0.heap.size W' _ _ := ⟨own_mod2 EOf.out.own M' (fun b hb q => by have e : some gf = some b := hb; injection e with e; omega), fun p hp => by
          rcases List.mem_append.1 hp with hp | hp
          · exact HLI.out _ _ p (by simpa using hp)
          · rw [List.mem_singleton.1 hp]
            exact evK_in rfl rfl ((BV1.out.mod KF.out (fun q => q)).mod M' hvx) ((BD1.out.mod KF.out (fun q => q)).mod M' hdx1) (fun q => by injection q with q; have q : gf = _ := q; omega) (fun q => by injection q with q; have q : gf = _ := q; omega)⟩
        have h := hq.row.2
        first | (rw [List.nil_append, List.map_append] at h; exact h) | (rw [List.map_append] at h; exact h)) KF.out
    · go_simp
      refine hKc.out _ _ (by (try dsimp only); exact hHeld.alloc _) (fun hHeld => ?_)
      clear hKc Kc
      try simp only [List.getElem_toArray, List.getElem_cons_succ, List.getElem_cons_zero, Act.put, List.setIfInBounds_toArray, List.set_cons_zero, List.set_cons_succ]
      refine wpAnyH_ready (rs := [2]) (by kernel_rfl) (by simp) ?_
      refine AllReadyH.cons rfl (fun Kc hKc => ?_) AllReadyH.nil
      have hWa := hHeld
      refine wp_append_ev (.tmp 133) (.tmp 134) rfl w0.heap.size _ [] rfl ((EvOwn.empty w0.drew w0.heap.size (Nat.le_refl _)).same ((Mod.refl _ _).alloc _)) ⟨gl, 0, none⟩ _ cl Lp rfl HLP rfl (HAT1.out.mod hWa (fun q => q) hgl1) (HLI.out _ _) HLB (hWa.size) ?_
      intro ge ce we hown hMe hate
      have EOe := Lib.hid hown
      have EOs := Lib.hid (show EvOwn w0.heap.size we (.slice (some ⟨ge, 0, none⟩) Lp.length ce) Lp by
        have h := hown
        rw [List.nil_append, show ([] : List EvV).length + Lp.length = Lp.length by simp] at h
        exact h)
      have KE := Lib.hid (show Same w0 we from ((EvOwn.empty w0.drew w0.heap.size (Nat.le_refl _)).same ((Mod.refl _ _).alloc _)).kept hMe hWa (Nat.le_refl _))
      have hMee := Lib.hid hMe
      have hge : w0.heap.size ≤ ge := (EOe.out.own.lt ge rfl).1
      clear hown hMe hate
      refine hKc.out _ _ (by (try dsimp only); exact KE.out) (fun hHeld => ?_)
      clear hKc Kc
      try simp only [List.getElem_toArray, List.getElem_cons_succ, List.getElem_cons_zero, Act.put, List.setIfInBounds_toArray, List.set_cons_zero, List.set_cons_succ]
      refine wpAnyH_ready (rs := [5]) (by kernel_rfl) (by simp) ?_
      refine AllReadyH.cons rfl (fun Kc hKc => ?_) AllReadyH.nil
      have hWb := hHeld
      refine wp_append_ev (.tmp 135) (.tmp 137) rfl w0.heap.size _ ([] ++ Lp) rfl (EOe.out) ⟨w0.heap.size + 1, 0, none⟩ 1 1 [(evK vol3 2 X, .slice (some ⟨gv, 0, none⟩) 1 1, .slice (some ⟨gd, 0, none⟩) 1 1)] rfl (by decide) rfl ((ev_new2 (w0.drew.alloc (.cells #[] 34)) (evK vol3 2 X, .slice (some ⟨gv, 0, none⟩) 1 1, .slice (some ⟨gd, 0, none⟩) 1 1) (w0.heap.size + 1) (by simp)).mod hMee.out (fun q => by injection q with q; have := q.symm; simp at this)) (fun p hp => by rw [List.mem_singleton.1 hp]; exact evK_in rfl rfl (BV1.out.mod hWb (fun q => q)) (BD1.out.mod hWb (fun q => q)) (fun q => by injection q with q; have q : ge = _ := q; omega) (fun q => by injection q with q; have q : ge = _ := q; omega)) (by simp; omega) (hWb.size) ?_
      intro gf cf wf hown hMf hatf
      have EOf := Lib.hid hown
      have KF := Lib.hid (show Same w0 wf from (EOe.out).kept hMf hWb (Nat.le_refl _))
      clear hown hMf hatf
      refine hKc.out _ _ (by (try dsimp only); exact KF.out) (fun hHeld => ?_)
      clear hKc Kc
      try simp only [List.getElem_toArray, List.getElem_cons_succ, List.getElem_cons_zero, Act.put, List.setIfInBounds_toArray, List.set_cons_zero, List.set_cons_succ]
      refine wpAnyH_take (i := 6) (v := ?_) rfl (by kernel_rfl) (by kernel_rfl) (by kernel_rfl) (fun _ _ _ h => h) (Or.inl ⟨by rfl, ?_⟩) (by assumption) ?_
      rotate_left
      · intro w hSw
        try dsimp only at hSw
        go_simp
        try with_reducible rfl
      try simp only [List.getElem_toArray, List.getElem_cons_succ, List.getElem_cons_zero, Act.put, List.setIfInBounds_toArray, List.set_cons_zero, List.set_cons_succ]
      refine wpAnyH_done (by kernel_rfl) ?_ _
      exact hK _ _ _ _ _ _ gf cf _ (fun W' M' => by
        have hgf := (EOf.out.own.lt gf rfl).1
        have hq : EvOwn w0.heap.size W' _ _ := ⟨own_mod2 EOf.out.own M' (fun b hb q => by have e : some gf = some b := hb; injection e with e; omega), fun p hp => by
          rcases List.mem_append.1 hp with hp | hp
          · exact HLI.out _ _ p (by simpa using hp)
          · rw [List.mem_singleton.1 hp]
            exact evK_in rfl rfl ((BV1.out.mod KF.out (fun q => q)).mod M' hvx) ((BD1.out.mod KF.out (fun q => q)).mod M' hdx1) (fun q => by injection q with q; have q : gf = _ := q; omega) (fun q => by injection q with q; have q : gf = _ := q; omega)⟩
        have h := hq.row.2
        first | (rw [List.nil_append, List.map_append] at h; exact h) | (rw [List.map_append] at h; exact h)) KF.out
  · go_simp
    refine hKc.out _ _ (by (try dsimp only); exact hHeld.alloc _) (fun hHeld => ?_)
    clear hKc Kc
    try simp only [List.getElem_toArray, List.getElem_cons_succ, List.getElem_cons_zero, Act.put, List.setIfInBounds_toArray, List.set_cons_zero, List.set_cons_succ]
    refine wpAnyH_ready (rs := [0]) (by kernel_rfl) (by simp) ?_
    refine AllReadyH.cons rfl (fun Kc hKc => ?_) AllReadyH.nil
    go_simp
    refine hKc.out _ _ (by (try dsimp only); exact hHeld.alloc _) (fun hHeld => ?_)
    clear hKc Kc
    try simp only [List.getElem_toArray, List.getElem_cons_succ, List.getElem_cons_zero, Act.put, List.setIfInBounds_toArray, List.set_cons_zero, List.set_cons_succ]
    refine wpAnyH_ready (rs := [2]) (by kernel_rfl) (by simp) ?_
    refine AllReadyH.cons rfl (fun Kc hKc => ?_) AllReadyH.nil
    have hWa := hHeld
    refine wp_append_ev (.tmp 133) (.tmp 134) rfl w0.heap.size _ [] rfl (EvOwn.empty2 (w0.drew.alloc (.cells #[ordW ⟨14, [], [[], [], []]⟩, .int .i64 0, .string ⟨#[]⟩, .slice (some ⟨gv, 0, none⟩) 1 1, .int .i64 2, .slice (some ⟨gd, 0, none⟩) 1 1] 34)) w0.heap.size (w0.heap.size + 1) (by simp) ((((Mod.refl (fun _ => False) w0).drew).alloc _).size)) ⟨gl, 0, none⟩ _ cl Lp rfl HLP rfl (HAT1.out.mod hWa (fun q => q) hgl1) (HLI.out _ _) HLB (hWa.size) ?_
    intro ge ce we hown hMe hate
    have EOe := Lib.hid hown
    have EOs := Lib.hid (show EvOwn w0.heap.size we (.slice (some ⟨ge, 0, none⟩) Lp.length ce) Lp by
      have h := hown
      rw [List.nil_append, show ([] : List EvV).length + Lp.length = Lp.length by simp] at h
      exact h)
    have KE := Lib.hid (show Same w0 we from (EvOwn.empty2 (w0.drew.alloc (.cells #[ordW ⟨14, [], [[], [], []]⟩, .int .i64 0, .string ⟨#[]⟩, .slice (some ⟨gv, 0, none⟩) 1 1, .int .i64 2, .slice (some ⟨gd, 0, none⟩) 1 1] 34)) w0.heap.size (w0.heap.size + 1) (by simp) ((((Mod.refl (fun _ => False) w0).drew).alloc _).size)).kept hMe hWa (Nat.le_refl _))
    have hMee := Lib.hid hMe
    have hge : w0.heap.size ≤ ge := (EOe.out.own.lt ge rfl).1
    clear hown hMe hate
    refine hKc.out _ _ (by (try dsimp only); exact KE.out) (fun hHeld => ?_)
    clear hKc Kc
    try simp only [List.getElem_toArray, List.getElem_cons_succ, List.getElem_cons_zero, Act.put, List.setIfInBounds_toArray, List.set_cons_zero, List.set_cons_succ]
    refine wpAnyH_ready (rs := [5]) (by kernel_rfl) (by simp) ?_
    refine AllReadyH.cons rfl (fun Kc hKc => ?_) AllReadyH.nil
    have hWb := hHeld
    refine wp_append_ev (.tmp 135) (.tmp 137) rfl w0.heap.size _ ([] ++ Lp) rfl (EOe.out) ⟨w0.heap.size, 0, none⟩ 1 1 [(evK vol3 2 X, .slice (some ⟨gv, 0, none⟩) 1 1, .slice (some ⟨gd, 0, none⟩) 1 1)] rfl (by decide) rfl (((ev_new2 w0.drew (evK vol3 2 X, .slice (some ⟨gv, 0, none⟩) 1 1, .slice (some ⟨gd, 0, none⟩) 1 1) w0.heap.size rfl).mod ((Mod.refl (fun _ => False) _).alloc (.cells #[] 34)) (fun q => q)).mod hMee.out (fun q => by injection q with q; have := q.symm; simp at this)) (fun p hp => by rw [List.mem_singleton.1 hp]; exact evK_in rfl rfl (BV1.out.mod hWb (fun q => q)) (BD1.out.mod hWb (fun q => q)) (fun q => by injection q with q; have q : ge = _ := q; omega) (fun q => by injection q with q; have q : ge = _ := q; omega)) (by simp; omega) (hWb.size) ?_
    intro gf cf wf hown hMf hatf
    have EOf := Lib.hid hown
    have KF := Lib.hid (show Same w0 wf from (EOe.out).kept hMf hWb (Nat.le_refl _))
    clear hown hMf hatf
    refine hKc.out _ _ (by (try dsimp only); exact KF.out) (fun hHeld => ?_)
    clear hKc Kc
    try simp only [List.getElem_toArray, List.getElem_cons_succ, List.getElem_cons_zero, Act.put, List.setIfInBounds_toArray, List.set_cons_zero, List.set_cons_succ]
    refine wpAnyH_take (i := 6) (v := ?_) rfl (by kernel_rfl) (by kernel_rfl) (by kernel_rfl) (fun _ _ _ h => h) (Or.inl ⟨by rfl, ?_⟩) (by assumption) ?_
    rotate_left
    · intro w hSw
      try dsimp only at hSw
      go_simp
      try with_reducible rfl
    try simp only [List.getElem_toArray, List.getElem_cons_succ, List.getElem_cons_zero, Act.put, List.setIfInBounds_toArray, List.set_cons_zero, List.set_cons_succ]
    refine wpAnyH_done (by kernel_rfl) ?_ _
    exact hK _ _ _ _ _ _ gf cf _ (fun W' M' => by
      have hgf := (EOf.out.own.lt gf rfl).1
      have hq : EvOwn w0.heap.size W' _ _ := ⟨own_mod2 EOf.out.own M' (fun b hb q => by have e : some gf = some b := hb; injection e with e; omega), fun p hp => by
        rcases List.mem_append.1 hp with hp | hp
        · exact HLI.out _ _ p (by simpa using hp)
        · rw [List.mem_singleton.1 hp]
          exact evK_in rfl rfl ((BV1.out.mod KF.out (fun q => q)).mod M' hvx) ((BD1.out.mod KF.out (fun q => q)).mod M' hdx1) (fun q => by injection q with q; have q : gf = _ := q; omega) (fun q => by injection q with q; have q : gf = _ := q; omega)⟩
      have h := hq.row.2
      first | (rw [List.nil_append, List.map_append] at h; exact h) | (rw [List.map_append] at h; exact h)) KF.out
set_option maxHeartbeats 8000000 in
theorem reg33_ev {v0 v1 v2 v3 v4 v5 v6 v7 v8 v9 v11 v12 v13 v14 v15 v17 v18 v19 v20 v21 v22 v23 v24 v25 v26 v27 v28 v29 v30 v31 v32 v33 v34 v35 v36 v37 v38 v39 v40 v41 v42 v43 v44 v45 v46 v47 v48 v49 v50 v51 v52 v53 v54 v55 v56 v57 v58 v59 v60 v61 v62 v63 v64 v65 v66 v67 v68 v69 v70 v71 v72 v73 v74 v75 v76 v77 v78 v79 v80 v81 v82 v83 v84 v85 v86 v87 v88 v89 v90 v91 v92 v93 v94 v95 v96 v97 v98 v99 v100 v101 v102 v103 v104 v105 v106 v107 v108 v109 v110 v111 v112 v113 v114 v115 v116 v117 v118 v119 v120 v121 v122 v123 v124 v125 v126 v127 v128 v129 v130 v131 v132 v133 v134 v135 v136 v137 v138 v139 v140 v141 v142 v143 v144 v145 v146 v147 v148 v149 v150 v151 v152 v153 v154 v155 v156 v157 v158 v159 v160 v161 v162 v163 v164 v165 v166 v167 v168 v169 v170 v171 v172 v173 v174 v175 v176 v177 v178 v179 v180 v181 v182 v183 v184 v185 v186 v187 v188 v189 v190 v191 v192 v193 v194 v195 v196 v197 v198 v199 v200 v201 v202 : Value} {K : Act → World → Prop} {R : Ending → World → Prop} {w0 : World} {Lp : List EvV} {gl cl gx gv gd : Nat} {X : List UInt8}
    (BX1 : Hid (Blk w0 gx #[.iface 45 (.agg #[.string ⟨#[]⟩, .string ⟨#[]⟩, .string ⟨#[]⟩]), .int .i64 0, .string ⟨#[]⟩, .slice (some ⟨gv, 0, none⟩) 1 1, .int .i64 2, .slice (some ⟨gd, 0, none⟩) 1 1]))
    (BV1 : Hid (Blk w0 gv #[.int .i64 3, .int .i64 8, .int .i64 0, .bool false, .int .i64 0])) (BD1 : Hid (Blk w0 gd #[strV X])) (HAT1 : Hid (EvAt w0 ⟨gl, 0, none⟩ Lp))
    (HLI : Hid (∀ own W, ∀ p ∈ Lp, EvIn own W p)) (hvx : gv ≠ gx) (hdx1 : gd ≠ gx) (hgl1 : gl < w0.heap.size) (HLP : 0 < Lp.length) (HLB2 : Lp.length ≤ 1000)
    (hK : ∀ (u175 u176 u177 u178 u179 u180 : Value) (g c : Nat) (wx : World), (∀ W', Mod (fun i => i = gx) wx W' → EvRow W' (some ⟨g, 0, none⟩) (Lp.map (·.1) ++ [evK vol3 2 X])) → Same w0 wx → K ⟨(v0 :: v1 :: v2 :: v3 :: v4 :: v5 :: v6 :: v7 :: v8 :: v9 :: .slice (some ⟨gl, 0, none⟩) Lp.length cl :: v11 :: v12 :: v13 :: v14 :: v15 :: .pointer (some ⟨gx, 0, none⟩) :: v17 :: v18 :: v19 :: v20 :: .slice (some ⟨g, 0, none⟩) (Lp.length + 1) c :: v22 :: v23 :: v24 :: v25 :: v26 :: v27 :: v28 :: v29 :: v30 :: v31 :: v32 :: v33 :: v34 :: v35 :: v36 :: v37 :: v38 :: v39 :: v40 :: v41 :: v42 :: v43 :: v44 :: v45 :: v46 :: v47 :: v48 :: v49 :: v50 :: v51 :: v52 :: v53 :: v54 :: v55 :: v56 :: v57 :: v58 :: v59 :: v60 :: v61 :: v62 :: v63 :: v64 :: v65 :: v66 :: v67 :: v68 :: v69 :: v70 :: v71 :: v72 :: v73 :: v74 :: v75 :: v76 :: v77 :: v78 :: v79 :: v80 :: v81 :: v82 :: v83 :: v84 :: v85 :: v86 :: v87 :: v88 :: v89 :: v90 :: v91 :: v92 :: v93 :: v94 :: v95 :: v96 :: v97 :: v98 :: v99 :: v100 :: v101 :: v102 :: v103 :: v104 :: v105 :: v106 :: v107 :: v108 :: v109 :: v110 :: v111 :: v112 :: v113 :: v114 :: v115 :: v116 :: v117 :: v118 :: v119 :: v120 :: v121 :: v122 :: v123 :: v124 :: v125 :: v126 :: v127 :: v128 :: v129 :: v130 :: v131 :: v132 :: v133 :: v134 :: v135 :: v136 :: v137 :: v138 :: v139 :: v140 :: v141 :: v142 :: v143 :: v144 :: v145 :: v146 :: v147 :: v148 :: v149 :: v150 :: v151 :: v152 :: v153 :: v154 :: v155 :: v156 :: v157 :: v158 :: v159 :: v160 :: v161 :: v162 :: v163 :: v164 :: v165 :: v166 :: v167 :: v168 :: v169 :: v170 :: v171 :: v172 :: v173 :: v174 :: u175 :: u176 :: u177 :: u178 :: u179 :: u180 :: v181 :: v182 :: v183 :: v184 :: v185 :: v186 :: v187 :: v188 :: v189 :: v190 :: v191 :: v192 :: v193 :: v194 :: v195 :: v196 :: v197 :: v198 :: v199 :: v200 :: v201 :: v202 :: []).toArray, []⟩ wx) :
    Code.wp Tryz.prog ((Tryz.f3.body.bind (regionAt 33)).getD .skip) (Exit.then K (bodyPost Tryz.prog Tryz.f3 R)) ⟨(v0 :: v1 :: v2 :: v3 :: v4 :: v5 :: v6 :: v7 :: v8 :: v9 :: .slice (some ⟨gl, 0, none⟩) Lp.length cl :: v11 :: v12 :: v13 :: v14 :: v15 :: .pointer (some ⟨gx, 0, none⟩) :: v17 :: v18 :: v19 :: v20 :: v21 :: v22 :: v23 :: v24 :: v25 :: v26 :: v27 :: v28 :: v29 :: v30 :: v31 :: v32 :: v33 :: v34 :: v35 :: v36 :: v37 :: v38 :: v39 :: v40 :: v41 :: v42 :: v43 :: v44 :: v45 :: v46 :: v47 :: v48 :: v49 :: v50 :: v51 :: v52 :: v53 :: v54 :: v55 :: v56 :: v57 :: v58 :: v59 :: v60 :: v61 :: v62 :: v63 :: v64 :: v65 :: v66 :: v67 :: v68 :: v69 :: v70 :: v71 :: v72 :: v73 :: v74 :: v75 :: v76 :: v77 :: v78 :: v79 :: v80 :: v81 :: v82 :: v83 :: v84 :: v85 :: v86 :: v87 :: v88 :: v89 :: v90 :: v91 :: v92 :: v93 :: v94 :: v95 :: v96 :: v97 :: v98 :: v99 :: v100 :: v101 :: v102 :: v103 :: v104 :: v105 :: v106 :: v107 :: v108 :: v109 :: v110 :: v111 :: v112 :: v113 :: v114 :: v115 :: v116 :: v117 :: v118 :: v119 :: v120 :: v121 :: v122 :: v123 :: v124 :: v125 :: v126 :: v127 :: v128 :: v129 :: v130 :: v131 :: v132 :: v133 :: v134 :: v135 :: v136 :: v137 :: v138 :: v139 :: v140 :: v141 :: v142 :: v143 :: v144 :: v145 :: v146 :: v147 :: v148 :: v149 :: v150 :: v151 :: v152 :: v153 :: v154 :: v155 :: v156 :: v157 :: v158 :: v159 :: v160 :: v161 :: v162 :: v163 :: v164 :: v165 :: v166 :: v167 :: v168 :: v169 :: v170 :: v171 :: v172 :: v173 :: v174 :: v175 :: v176 :: v177 :: v178 :: v179 :: v180 :: v181 :: v182 :: v183 :: v184 :: v185 :: v186 :: v187 :: v188 :: v189 :: v190 :: v191 :: v192 :: v193 :: v194 :: v195 :: v196 :: v197 :: v198 :: v199 :: v200 :: v201 :: v202 :: []).toArray, []⟩ w0 := by
  have HLB : ([] : List EvV).length + Lp.length ≤ 100000 := by show 0 + Lp.length ≤ 100000; omega
  have hgv3 := BV1.out.lt
  have hgd3 := BD1.out.lt
  have hgx3 := BX1.out.lt
  conv => arg 2; whnf
  refine wp_region_held_drew (S := fun W => Same w0 W) (by kernel_rfl) (by (try dsimp only); exact (Mod.refl _ _).drew) (fun hHeld => ?_)
  refine wpAnyH_take (i := 1) (v := ?_) rfl (by kernel_rfl) (by kernel_rfl) (by kernel_rfl) (fun _ _ _ h => h) (Or.inl ⟨by rfl, ?_⟩) (by assumption) ?_
  rotate_left
  · intro w hSw
    try dsimp only at hSw
    go_simp
    try with_reducible rfl
  try simp only [List.getElem_toArray, List.getElem_cons_succ, List.getElem_cons_zero, Act.put, List.setIfInBounds_toArray, List.set_cons_zero, List.set_cons_succ]
  refine wpAnyH_take (i := 3) (v := ?_) rfl (by kernel_rfl) (by kernel_rfl) (by kernel_rfl) (fun _ _ _ h => h) (Or.inl ⟨by rfl, ?_⟩) (by assumption) ?_
  rotate_left
  · intro w hSw
    try dsimp only at hSw
    have y0 := (BX1.out.mod hSw (fun q => q)).at_ (i := 0) _ rfl
    have y1 := (BX1.out.mod hSw (fun q => q)).at_ (i := 1) _ rfl
    have y2 := (BX1.out.mod hSw (fun q => q)).at_ (i := 2) _ rfl
    have y3 := (BX1.out.mod hSw (fun q => q)).at_ (i := 3) _ rfl
    have y4 := (BX1.out.mod hSw (fun q => q)).at_ (i := 4) _ rfl
    have y5 := (BX1.out.mod hSw (fun q => q)).at_ (i := 5) _ rfl
    go_simp
    try with_reducible rfl
  try simp only [List.getElem_toArray, List.getElem_cons_succ, List.getElem_cons_zero, Act.put, List.setIfInBounds_toArray, List.set_cons_zero, List.set_cons_succ]
  refine wpAnyH_ready (rs := [0, 4]) (by kernel_rfl) (by simp) ?_
  refine AllReadyH.cons rfl (fun Kc hKc => ?_) (AllReadyH.cons rfl (fun Kc hKc => ?_) (AllReadyH.nil))
  · go_simp
    refine hKc.out _ _ (by (try dsimp only); exact hHeld.alloc _) (fun hHeld => ?_)
    clear hKc Kc
    try simp only [List.getElem_toArray, List.getElem_cons_succ, List.getElem_cons_zero, Act.put, List.setIfInBounds_toArray, List.set_cons_zero, List.set_cons_succ]
    refine wpAnyH_ready (rs := [2, 4]) (by kernel_rfl) (by simp) ?_
    refine AllReadyH.cons rfl (fun Kc hKc => ?_) (AllReadyH.cons rfl (fun Kc hKc => ?_) (AllReadyH.nil))
    · have hWa := hHeld
      refine wp_append_ev (.tmp 175) (.tmp 176) rfl w0.heap.size _ [] rfl (EvOwn.empty w0.drew w0.heap.size (Nat.le_refl _)) ⟨gl, 0, none⟩ _ cl Lp rfl HLP rfl (HAT1.out.mod hWa (fun q => q) hgl1) (HLI.out _ _) HLB (hWa.size) ?_
      intro ge ce we hown hMe hate
      have EOe := Lib.hid hown
      have EOs := Lib.hid (show EvOwn w0.heap.size we (.slice (some ⟨ge, 0, none⟩) Lp.length ce) Lp by
        have h := hown
        rw [List.nil_append, show ([] : List EvV).length + Lp.length = Lp.length by simp] at h
        exact h)
      have KE := Lib.hid (show Same w0 we from (EvOwn.empty w0.drew w0.heap.size (Nat.le_refl _)).kept hMe hWa (Nat.le_refl _))
      have hMee := Lib.hid hMe
      have hge : w0.heap.size ≤ ge := (EOe.out.own.lt ge rfl).1
      clear hown hMe hate
      refine hKc.out _ _ (by (try dsimp only); exact KE.out) (fun hHeld => ?_)
      clear hKc Kc
      try simp only [List.getElem_toArray, List.getElem_cons_succ, List.getElem_cons_zero, Act.put, List.setIfInBounds_toArray, List.set_cons_zero, List.set_cons_succ]
      refine wpAnyH_ready (rs := [4]) (by kernel_rfl) (by simp) ?_
      refine AllReadyH.cons rfl (fun Kc hKc => ?_) AllReadyH.nil
      go_simp
      refine hKc.out _ _ (by (try dsimp only); exact hHeld.alloc _) (fun hHeld => ?_)
      clear hKc Kc
      try simp only [List.getElem_toArray, List.getElem_cons_succ, List.getElem_cons_zero, Act.put, List.setIfInBounds_toArray, List.set_cons_zero, List.set_cons_succ]
      refine wpAnyH_ready (rs := [5]) (by kernel_rfl) (by simp) ?_
      refine AllReadyH.cons rfl (fun Kc hKc => ?_) AllReadyH.nil
      have hWb := hHeld
      refine wp_append_ev (.tmp 177) (.tmp 179) rfl w0.heap.size _ (Lp) rfl (EOs.out.same ((Mod.refl _ _).alloc _)) ⟨we.heap.size, 0, none⟩ 1 1 [(evK vol3 2 X, .slice (some ⟨gv, 0, none⟩) 1 1, .slice (some ⟨gd, 0, none⟩) 1 1)] rfl (by decide) rfl (ev_new we (evK vol3 2 X, .slice (some ⟨gv, 0, none⟩) 1 1, .slice (some ⟨gd, 0, none⟩) 1 1)) (fun p hp => by rw [List.mem_singleton.1 hp]; exact evK_in rfl rfl (BV1.out.mod hWb (fun q => q)) (BD1.out.mod hWb (fun q => q)) (fun q => by injection q with q; have q : ge = _ := q; omega) (fun q => by injection q with q; have q : ge = _ := q; omega)) (by simp; omega) (hWb.size) ?_
      intro gf cf wf hown hMf hatf
      have EOf := Lib.hid hown
      have KF := Lib.hid (show Same w0 wf from (EOs.out.same ((Mod.refl _ _).alloc _)).kept hMf hWb (Nat.le_refl _))
      clear hown hMf hatf
      refine hKc.out _ _ (by (try dsimp only); exact KF.out) (fun hHeld => ?_)
      clear hKc Kc
      try simp only [List.getElem_toArray, List.getElem_cons_succ, List.getElem_cons_zero, Act.put, List.setIfInBounds_toArray, List.set_cons_zero, List.set_cons_succ]
      refine wpAnyH_take (i := 6) (v := ?_) rfl (by kernel_rfl) (by kernel_rfl) (by kernel_rfl) (fun _ _ _ h => h) (Or.inl ⟨by rfl, ?_⟩) (by assumption) ?_
      rotate_left
      · intro w hSw
        try dsimp only at hSw
        go_simp
        try with_reducible rfl
      try simp only [List.getElem_toArray, List.getElem_cons_succ, List.getElem_cons_zero, Act.put, List.setIfInBounds_toArray, List.set_cons_zero, List.set_cons_succ]
      refine wpAnyH_done (by kernel_rfl) ?_ _
      exact hK _ _ _ _ _ _ gf cf _ (fun W' M' => by
        have hgf := (EOf.out.own.lt gf rfl).1
        have hq : EvOwn w0.heap.size W' _ _ := ⟨own_mod2 EOf.out.own M' (fun b hb q => by have e : some gf = some b := hb; injection e with e; omega), fun p hp => by
          rcases List.mem_append.1 hp with hp | hp
          · exact HLI.out _ _ p (by simpa using hp)
          · rw [List.mem_singleton.1 hp]
            exact evK_in rfl rfl ((BV1.out.mod KF.out (fun q => q)).mod M' hvx) ((BD1.out.mod KF.out (fun q => q)).mod M' hdx1) (fun q => by injection q with q; have q : gf = _ := q; omega) (fun q => by injection q with q; have q : gf = _ := q; omega)⟩
        have h := hq.row.2
        first | (rw [List.nil_append, List.map_append] at h; exact h) | (rw [List.map_append] at h; exact h)) KF.out
    · go_simp
      refine hKc.out _ _ (by (try dsimp only); exact hHeld.alloc _) (fun hHeld => ?_)
      clear hKc Kc
      try simp only [List.getElem_toArray, List.getElem_cons_succ, List.getElem_cons_zero, Act.put, List.setIfInBounds_toArray, List.set_cons_zero, List.set_cons_succ]
      refine wpAnyH_ready (rs := [2]) (by kernel_rfl) (by simp) ?_
      refine AllReadyH.cons rfl (fun Kc hKc => ?_) AllReadyH.nil
      have hWa := hHeld
      refine wp_append_ev (.tmp 175) (.tmp 176) rfl w0.heap.size _ [] rfl ((EvOwn.empty w0.drew w0.heap.size (Nat.le_refl _)).same ((Mod.refl _ _).alloc _)) ⟨gl, 0, none⟩ _ cl Lp rfl HLP rfl (HAT1.out.mod hWa (fun q => q) hgl1) (HLI.out _ _) HLB (hWa.size) ?_
      intro ge ce we hown hMe hate
      have EOe := Lib.hid hown
      have EOs := Lib.hid (show EvOwn w0.heap.size we (.slice (some ⟨ge, 0, none⟩) Lp.length ce) Lp by
        have h := hown
        rw [List.nil_append, show ([] : List EvV).length + Lp.length = Lp.length by simp] at h
        exact h)
      have KE := Lib.hid (show Same w0 we from ((EvOwn.empty w0.drew w0.heap.size (Nat.le_refl _)).same ((Mod.refl _ _).alloc _)).kept hMe hWa (Nat.le_refl _))
      have hMee := Lib.hid hMe
      have hge : w0.heap.size ≤ ge := (EOe.out.own.lt ge rfl).1
      clear hown hMe hate
      refine hKc.out _ _ (by (try dsimp only); exact KE.out) (fun hHeld => ?_)
      clear hKc Kc
      try simp only [List.getElem_toArray, List.getElem_cons_succ, List.getElem_cons_zero, Act.put, List.setIfInBounds_toArray, List.set_cons_zero, List.set_cons_succ]
      refine wpAnyH_ready (rs := [5]) (by kernel_rfl) (by simp) ?_
      refine AllReadyH.cons rfl (fun Kc hKc => ?_) AllReadyH.nil
      have hWb := hHeld
      refine wp_append_ev (.tmp 177) (.tmp 179) rfl w0.heap.size _ ([] ++ Lp) rfl (EOe.out) ⟨w0.heap.size + 1, 0, none⟩ 1 1 [(evK vol3 2 X, .slice (some ⟨gv, 0, none⟩) 1 1, .slice (some ⟨gd, 0, none⟩) 1 1)] rfl (by decide) rfl ((ev_new2 (w0.drew.alloc (.cells #[] 34)) (evK vol3 2 X, .slice (some ⟨gv, 0, none⟩) 1 1, .slice (some ⟨gd, 0, none⟩) 1 1) (w0.heap.size + 1) (by simp)).mod hMee.out (fun q => by injection q with q; have := q.symm; simp at this)) (fun p hp => by rw [List.mem_singleton.1 hp]; exact evK_in rfl rfl (BV1.out.mod hWb (fun q => q)) (BD1.out.mod hWb (fun q => q)) (fun q => by injection q with q; have q : ge = _ := q; omega) (fun q => by injection q with q; have q : ge = _ := q; omega)) (by simp; omega) (hWb.size) ?_
      intro gf cf wf hown hMf hatf
      have EOf := Lib.hid hown
      have KF := Lib.hid (show Same w0 wf from (EOe.out).kept hMf hWb (Nat.le_refl _))
      clear hown hMf hatf
      refine hKc.out _ _ (by (try dsimp only); exact KF.out) (fun hHeld => ?_)
      clear hKc Kc
      try simp only [List.getElem_toArray, List.getElem_cons_succ, List.getElem_cons_zero, Act.put, List.setIfInBounds_toArray, List.set_cons_zero, List.set_cons_succ]
      refine wpAnyH_take (i := 6) (v := ?_) rfl (by kernel_rfl) (by kernel_rfl) (by kernel_rfl) (fun _ _ _ h => h) (Or.inl ⟨by rfl, ?_⟩) (by assumption) ?_
      rotate_left
      · intro w hSw
        try dsimp only at hSw
        go_simp
        try with_reducible rfl
      try simp only [List.getElem_toArray, List.getElem_cons_succ, List.getElem_cons_zero, Act.put, List.setIfInBounds_toArray, List.set_cons_zero, List.set_cons_succ]
      refine wpAnyH_done (by kernel_rfl) ?_ _
      exact hK _ _ _ _ _ _ gf cf _ (fun W' M' => by
        have hgf := (EOf.out.own.lt gf rfl).1
        have hq : EvOwn w0.heap.size W' _ _ := ⟨own_mod2 EOf.out.own M' (fun b hb q => by have e : some gf = some b := hb; injection e with e; omega), fun p hp => by
          rcases List.mem_append.1 hp with hp | hp
          · exact HLI.out _ _ p (by simpa using hp)
          · rw [List.mem_singleton.1 hp]
            exact evK_in rfl rfl ((BV1.out.mod KF.out (fun q => q)).mod M' hvx) ((BD1.out.mod KF.out (fun q => q)).mod M' hdx1) (fun q => by injection q with q; have q : gf = _ := q; omega) (fun q => by injection q with q; have q : gf = _ := q; omega)⟩
        have h := hq.row.2
        first | (rw [List.nil_append, List.map_append] at h; exact h) | (rw [List.map_append] at h; exact h)) KF.out
  · go_simp
    refine hKc.out _ _ (by (try dsimp only); exact hHeld.alloc _) (fun hHeld => ?_)
    clear hKc Kc
    try simp only [List.getElem_toArray, List.getElem_cons_succ, List.getElem_cons_zero, Act.put, List.setIfInBounds_toArray, List.set_cons_zero, List.set_cons_succ]
    refine wpAnyH_ready (rs := [0]) (by kernel_rfl) (by simp) ?_
    refine AllReadyH.cons rfl (fun Kc hKc => ?_) AllReadyH.nil
    go_simp
    refine hKc.out _ _ (by (try dsimp only); exact hHeld.alloc _) (fun hHeld => ?_)
    clear hKc Kc
    try simp only [List.getElem_toArray, List.getElem_cons_succ, List.getElem_cons_zero, Act.put, List.setIfInBounds_toArray, List.set_cons_zero, List.set_cons_succ]
    refine wpAnyH_ready (rs := [2]) (by kernel_rfl) (by simp) ?_
    refine AllReadyH.cons rfl (fun Kc hKc => ?_) AllReadyH.nil
    have hWa := hHeld
    refine wp_append_ev (.tmp 175) (.tmp 176) rfl w0.heap.size _ [] rfl (EvOwn.empty2 (w0.drew.alloc (.cells #[ordW ⟨14, [], [[], [], []]⟩, .int .i64 0, .string ⟨#[]⟩, .slice (some ⟨gv, 0, none⟩) 1 1, .int .i64 2, .slice (some ⟨gd, 0, none⟩) 1 1] 34)) w0.heap.size (w0.heap.size + 1) (by simp) ((((Mod.refl (fun _ => False) w0).drew).alloc _).size)) ⟨gl, 0, none⟩ _ cl Lp rfl HLP rfl (HAT1.out.mod hWa (fun q => q) hgl1) (HLI.out _ _) HLB (hWa.size) ?_
    intro ge ce we hown hMe hate
    have EOe := Lib.hid hown
    have EOs := Lib.hid (show EvOwn w0.heap.size we (.slice (some ⟨ge, 0, none⟩) Lp.length ce) Lp by
      have h := hown
      rw [List.nil_append, show ([] : List EvV).length + Lp.length = Lp.length by simp] at h
      exact h)
    have KE := Lib.hid (show Same w0 we from (EvOwn.empty2 (w0.drew.alloc (.cells #[ordW ⟨14, [], [[], [], []]⟩, .int .i64 0, .string ⟨#[]⟩, .slice (some ⟨gv, 0, none⟩) 1 1, .int .i64 2, .slice (some ⟨gd, 0, none⟩) 1 1] 34)) w0.heap.size (w0.heap.size + 1) (by simp) ((((Mod.refl (fun _ => False) w0).drew).alloc _).size)).kept hMe hWa (Nat.le_refl _))
    have hMee := Lib.hid hMe
    have hge : w0.heap.size ≤ ge := (EOe.out.own.lt ge rfl).1
    clear hown hMe hate
    refine hKc.out _ _ (by (try dsimp only); exact KE.out) (fun hHeld => ?_)
    clear hKc Kc
    try simp only [List.getElem_toArray, List.getElem_cons_succ, List.getElem_cons_zero, Act.put, List.setIfInBounds_toArray, List.set_cons_zero, List.set_cons_succ]
    refine wpAnyH_ready (rs := [5]) (by kernel_rfl) (by simp) ?_
    refine AllReadyH.cons rfl (fun Kc hKc => ?_) AllReadyH.nil
    have hWb := hHeld
    refine wp_append_ev (.tmp 177) (.tmp 179) rfl w0.heap.size _ ([] ++ Lp) rfl (EOe.out) ⟨w0.heap.size, 0, none⟩ 1 1 [(evK vol3 2 X, .slice (some ⟨gv, 0, none⟩) 1 1, .slice (some ⟨gd, 0, none⟩) 1 1)] rfl (by decide) rfl (((ev_new2 w0.drew (evK vol3 2 X, .slice (some ⟨gv, 0, none⟩) 1 1, .slice (some ⟨gd, 0, none⟩) 1 1) w0.heap.size rfl).mod ((Mod.refl (fun _ => False) _).alloc (.cells #[] 34)) (fun q => q)).mod hMee.out (fun q => by injection q with q; have := q.symm; simp at this)) (fun p hp => by rw [List.mem_singleton.1 hp]; exact evK_in rfl rfl (BV1.out.mod hWb (fun q => q)) (BD1.out.mod hWb (fun q => q)) (fun q => by injection q with q; have q : ge = _ := q; omega) (fun q => by injection q with q; have q : ge = _ := q; omega)) (by simp; omega) (hWb.size) ?_
    intro gf cf wf hown hMf hatf
    have EOf := Lib.hid hown
    have KF := Lib.hid (show Same w0 wf from (EOe.out).kept hMf hWb (Nat.le_refl _))
    clear hown hMf hatf
    refine hKc.out _ _ (by (try dsimp only); exact KF.out) (fun hHeld => ?_)
    clear hKc Kc
    try simp only [List.getElem_toArray, List.getElem_cons_succ, List.getElem_cons_zero, Act.put, List.setIfInBounds_toArray, List.set_cons_zero, List.set_cons_succ]
    refine wpAnyH_take (i := 6) (v := ?_) rfl (by kernel_rfl) (by kernel_rfl) (by kernel_rfl) (fun _ _ _ h => h) (Or.inl ⟨by rfl, ?_⟩) (by assumption) ?_
    rotate_left
    · intro w hSw
      try dsimp only at hSw
      go_simp
      try with_reducible rfl
    try simp only [List.getElem_toArray, List.getElem_cons_succ, List.getElem_cons_zero, Act.put, List.setIfInBounds_toArray, List.set_cons_zero, List.set_cons_succ]
    refine wpAnyH_done (by kernel_rfl) ?_ _
    exact hK _ _ _ _ _ _ gf cf _ (fun W' M' => by
      have hgf := (EOf.out.own.lt gf rfl).1
      have hq : EvOwn w0.heap.size W' _ _ := ⟨own_mod2 EOf.out.own M' (fun b hb q => by have e : some gf = some b := hb; injection e with e; omega), fun p hp => by
        rcases List.mem_append.1 hp with hp | hp
        · exact HLI.out _ _ p (by simpa using hp)
        · rw [List.mem_singleton.1 hp]
          exact evK_in rfl rfl ((BV1.out.mod KF.out (fun q => q)).mod M' hvx) ((BD1.out.mod KF.out (fun q => q)).mod M' hdx1) (fun q => by injection q with q; have q : gf = _ := q; omega) (fun q => by injection q with q; have q : gf = _ := q; omega)⟩
      have h := hq.row.2
      first | (rw [List.nil_append, List.map_append] at h; exact h) | (rw [List.map_append] at h; exact h)) KF.out
set_option maxHeartbeats 8000000 in
theorem reg36_ev {v0 v1 v2 v3 v4 v5 v6 v7 v8 v9 v11 v12 v13 v14 v15 v17 v18 v19 v20 v21 v22 v23 v24 v25 v26 v27 v28 v29 v30 v31 v32 v33 v34 v35 v36 v37 v38 v39 v40 v41 v42 v43 v44 v45 v46 v47 v48 v49 v50 v51 v52 v53 v54 v55 v56 v57 v58 v59 v60 v61 v62 v63 v64 v65 v66 v67 v68 v69 v70 v71 v72 v73 v74 v75 v76 v77 v78 v79 v80 v81 v82 v83 v84 v85 v86 v87 v88 v89 v90 v91 v92 v93 v94 v95 v96 v97 v98 v99 v100 v101 v102 v103 v104 v105 v106 v107 v108 v109 v110 v111 v112 v113 v114 v115 v116 v117 v118 v119 v120 v121 v122 v123 v124 v125 v126 v127 v128 v129 v130 v131 v132 v133 v134 v135 v136 v137 v138 v139 v140 v141 v142 v143 v144 v145 v146 v147 v148 v149 v150 v151 v152 v153 v154 v155 v156 v157 v158 v159 v160 v161 v162 v163 v164 v165 v166 v167 v168 v169 v170 v171 v172 v173 v174 v175 v176 v177 v178 v179 v180 v181 v182 v183 v184 v185 v186 v187 v188 v189 v190 v191 v192 v193 v194 v195 v196 v197 v198 v199 v200 v201 v202 : Value} {K : Act → World → Prop} {R : Ending → World → Prop} {w0 : World} {Lp : List EvV} {gl cl gx gv gd : Nat} {X : List UInt8}
    (BX1 : Hid (Blk w0 gx #[.iface 45 (.agg #[.string ⟨#[]⟩, .string ⟨#[]⟩, .string ⟨#[]⟩]), .int .i64 0, .string ⟨#[]⟩, .slice (some ⟨gv, 0, none⟩) 1 1, .int .i64 4, .slice (some ⟨gd, 0, none⟩) 1 1]))
    (BV1 : Hid (Blk w0 gv #[.int .i64 3, .int .i64 8, .int .i64 0, .bool false, .int .i64 0])) (BD1 : Hid (Blk w0 gd #[strV X])) (HAT1 : Hid (EvAt w0 ⟨gl, 0, none⟩ Lp))
    (HLI : Hid (∀ own W, ∀ p ∈ Lp, EvIn own W p)) (hvx : gv ≠ gx) (hdx1 : gd ≠ gx) (hgl1 : gl < w0.heap.size) (HLP : 0 < Lp.length) (HLB2 : Lp.length ≤ 1000)
    (hK : ∀ (u185 u186 u187 u188 u189 u190 : Value) (g c : Nat) (wx : World), (∀ W', Mod (fun i => i = gx) wx W' → EvRow W' (some ⟨g, 0, none⟩) (Lp.map (·.1) ++ [evK vol3 4 X])) → Same w0 wx → K ⟨(v0 :: v1 :: v2 :: v3 :: v4 :: v5 :: v6 :: v7 :: v8 :: v9 :: .slice (some ⟨gl, 0, none⟩) Lp.length cl :: v11 :: v12 :: v13 :: v14 :: v15 :: .pointer (some ⟨gx, 0, none⟩) :: v17 :: v18 :: v19 :: v20 :: v21 :: .slice (some ⟨g, 0, none⟩) (Lp.length + 1) c :: v23 :: v24 :: v25 :: v26 :: v27 :: v28 :: v29 :: v30 :: v31 :: v32 :: v33 :: v34 :: v35 :: v36 :: v37 :: v38 :: v39 :: v40 :: v41 :: v42 :: v43 :: v44 :: v45 :: v46 :: v47 :: v48 :: v49 :: v50 :: v51 :: v52 :: v53 :: v54 :: v55 :: v56 :: v57 :: v58 :: v59 :: v60 :: v61 :: v62 :: v63 :: v64 :: v65 :: v66 :: v67 :: v68 :: v69 :: v70 :: v71 :: v72 :: v73 :: v74 :: v75 :: v76 :: v77 :: v78 :: v79 :: v80 :: v81 :: v82 :: v83 :: v84 :: v85 :: v86 :: v87 :: v88 :: v89 :: v90 :: v91 :: v92 :: v93 :: v94 :: v95 :: v96 :: v97 :: v98 :: v99 :: v100 :: v101 :: v102 :: v103 :: v104 :: v105 :: v106 :: v107 :: v108 :: v109 :: v110 :: v111 :: v112 :: v113 :: v114 :: v115 :: v116 :: v117 :: v118 :: v119 :: v120 :: v121 :: v122 :: v123 :: v124 :: v125 :: v126 :: v127 :: v128 :: v129 :: v130 :: v131 :: v132 :: v133 :: v134 :: v135 :: v136 :: v137 :: v138 :: v139 :: v140 :: v141 :: v142 :: v143 :: v144 :: v145 :: v146 :: v147 :: v148 :: v149 :: v150 :: v151 :: v152 :: v153 :: v154 :: v155 :: v156 :: v157 :: v158 :: v159 :: v160 :: v161 :: v162 :: v163 :: v164 :: v165 :: v166 :: v167 :: v168 :: v169 :: v170 :: v171 :: v172 :: v173 :: v174 :: v175 :: v176 :: v177 :: v178 :: v179 :: v180 :: v181 :: v182 :: v183 :: v184 :: u185 :: u186 :: u187 :: u188 :: u189 :: u190 :: v191 :: v192 :: v193 :: v194 :: v195 :: v196 :: v197 :: v198 :: v199 :: v200 :: v201 :: v202 :: []).toArray, []⟩ wx) :
    Code.wp Tryz.prog ((Tryz.f3.body.bind (regionAt 36)).getD .skip) (Exit.then K (bodyPost Tryz.prog Tryz.f3 R)) ⟨(v0 :: v1 :: v2 :: v3 :: v4 :: v5 :: v6 :: v7 :: v8 :: v9 :: .slice (some ⟨gl, 0, none⟩) Lp.length cl :: v11 :: v12 :: v13 :: v14 :: v15 :: .pointer (some ⟨gx, 0, none⟩) :: v17 :: v18 :: v19 :: v20 :: v21 :: v22 :: v23 :: v24 :: v25 :: v26 :: v27 :: v28 :: v29 :: v30 :: v31 :: v32 :: v33 :: v34 :: v35 :: v36 :: v37 :: v38 :: v39 :: v40 :: v41 :: v42 :: v43 :: v44 :: v45 :: v46 :: v47 :: v48 :: v49 :: v50 :: v51 :: v52 :: v53 :: v54 :: v55 :: v56 :: v57 :: v58 :: v59 :: v60 :: v61 :: v62 :: v63 :: v64 :: v65 :: v66 :: v67 :: v68 :: v69 :: v70 :: v71 :: v72 :: v73 :: v74 :: v75 :: v76 :: v77 :: v78 :: v79 :: v80 :: v81 :: v82 :: v83 :: v84 :: v85 :: v86 :: v87 :: v88 :: v89 :: v90 :: v91 :: v92 :: v93 :: v94 :: v95 :: v96 :: v97 :: v98 :: v99 :: v100 :: v101 :: v102 :: v103 :: v104 :: v105 :: v106 :: v107 :: v108 :: v109 :: v110 :: v111 :: v112 :: v113 :: v114 :: v115 :: v116 :: v117 :: v118 :: v119 :: v120 :: v121 :: v122 :: v123 :: v124 :: v125 :: v126 :: v127 :: v128 :: v129 :: v130 :: v131 :: v132 :: v133 :: v134 :: v135 :: v136 :: v137 :: v138 :: v139 :: v140 :: v141 :: v142 :: v143 :: v144 :: v145 :: v146 :: v147 :: v148 :: v149 :: v150 :: v151 :: v152 :: v153 :: v154 :: v155 :: v156 :: v157 :: v158 :: v159 :: v160 :: v161 :: v162 :: v163 :: v164 :: v165 :: v166 :: v167 :: v168 :: v169 :: v170 :: v171 :: v172 :: v173 :: v174 :: v175 :: v176 :: v177 :: v178 :: v179 :: v180 :: v181 :: v182 :: v183 :: v184 :: v185 :: v186 :: v187 :: v188 :: v189 :: v190 :: v191 :: v192 :: v193 :: v194 :: v195 :: v196 :: v197 :: v198 :: v199 :: v200 :: v201 :: v202 :: []).toArray, []⟩ w0 := by
  have HLB : ([] : List EvV).length + Lp.length ≤ 100000 := by show 0 + Lp.length ≤ 100000; omega
  have hgv3 := BV1.out.lt
  have hgd3 := BD1.out.lt
  have hgx3 := BX1.out.lt
  conv => arg 2; whnf
  refine wp_region_held_drew (S := fun W => Same w0 W) (by kernel_rfl) (by (try dsimp only); exact (Mod.refl _ _).drew) (fun hHeld => ?_)
  refine wpAnyH_take (i := 1) (v := ?_) rfl (by kernel_rfl) (by kernel_rfl) (by kernel_rfl) (fun _ _ _ h => h) (Or.inl ⟨by rfl, ?_⟩) (by assumption) ?_
  rotate_left
  · intro w hSw
    try dsimp only at hSw
    go_simp
    try with_reducible rfl
  try simp only [List.getElem_toArray, List.getElem_cons_succ, List.getElem_cons_zero, Act.put, List.setIfInBounds_toArray, List.set_cons_zero, List.set_cons_succ]
  refine wpAnyH_take (i := 3) (v := ?_) rfl (by kernel_rfl) (by kernel_rfl) (by kernel_rfl) (fun _ _ _ h => h) (Or.inl ⟨by rfl, ?_⟩) (by assumption) ?_
  rotate_left
  · intro w hSw
    try dsimp only at hSw
    have y0 := (BX1.out.mod hSw (fun q => q)).at_ (i := 0) _ rfl
    have y1 := (BX1.out.mod hSw (fun q => q)).at_ (i := 1) _ rfl
    have y2 := (BX1.out.mod hSw (fun q => q)).at_ (i := 2) _ rfl
    have y3 := (BX1.out.mod hSw (fun q => q)).at_ (i := 3) _ rfl
    have y4 := (BX1.out.mod hSw (fun q => q)).at_ (i := 4) _ rfl
    have y5 := (BX1.out.mod hSw (fun q => q)).at_ (i := 5) _ rfl
    go_simp
    try with_reducible rfl
  try simp only [List.getElem_toArray, List.getElem_cons_succ, List.getElem_cons_zero, Act.put, List.setIfInBounds_toArray, List.set_cons_zero, List.set_cons_succ]
  refine wpAnyH_ready (rs := [0, 4]) (by kernel_rfl) (by simp) ?_
  refine AllReadyH.cons rfl (fun Kc hKc => ?_) (AllReadyH.cons rfl (fun Kc hKc => ?_) (AllReadyH.nil))
  · go_simp
    refine hKc.out _ _ (by (try dsimp only); exact hHeld.alloc _) (fun hHeld => ?_)
    clear hKc Kc
    try simp only [List.getElem_toArray, List.getElem_cons_succ, List.getElem_cons_zero, Act.put, List.setIfInBounds_toArray, List.set_cons_zero, List.set_cons_succ]
    refine wpAnyH_ready (rs := [2, 4]) (by kernel_rfl) (by simp) ?_
    refine AllReadyH.cons rfl (fun Kc hKc => ?_) (AllReadyH.cons rfl (fun Kc hKc => ?_) (AllReadyH.nil))
    · have hWa := hHeld
      refine wp_append_ev (.tmp 185) (.tmp 186) rfl w0.heap.size _ [] rfl (EvOwn.empty w0.drew w0.heap.size (Nat.le_refl _)) ⟨gl, 0, none⟩ _ cl Lp rfl HLP rfl (HAT1.out.mod hWa (fun q => q) hgl1) (HLI.out _ _) HLB (hWa.size) ?_
      intro ge ce we hown hMe hate
      have EOe := Lib.hid hown
      have EOs := Lib.hid (show EvOwn w0.heap.size we (.slice (some ⟨ge, 0, none⟩) Lp.length ce) Lp by
        have h := hown
        rw [List.nil_append, show ([] : List EvV).length + Lp.length = Lp.length by simp] at h
        exact h)
      have KE := Lib.hid (show Same w0 we from (EvOwn.empty w0.drew w0.heap.size (Nat.le_refl _)).kept hMe hWa (Nat.le_refl _))
      have hMee := Lib.hid hMe
      have hge : w0.heap.size ≤ ge := (EOe.out.own.lt ge rfl).1
      clear hown hMe hate
      refine hKc.out _ _ (by (try dsimp only); exact KE.out) (fun hHeld => ?_)
      clear hKc Kc
      try simp only [List.getElem_toArray, List.getElem_cons_succ, List.getElem_cons_zero, Act.put, List.setIfInBounds_toArray, List.set_cons_zero, List.set_cons_succ]
      refine wpAnyH_ready (rs := [4]) (by kernel_rfl) (by simp) ?_
      refine AllReadyH.cons rfl (fun Kc hKc => ?_) AllReadyH.nil
      go_simp
      refine hKc.out _ _ (by (try dsimp only); exact hHeld.alloc _) (fun hHeld => ?_)
      clear hKc Kc
      try simp only [List.getElem_toArray, List.getElem_cons_succ, List.getElem_cons_zero, Act.put, List.setIfInBounds_toArray, List.set_cons_zero, List.set_cons_succ]
      refine wpAnyH_ready (rs := [5]) (by kernel_rfl) (by simp) ?_
      refine AllReadyH.cons rfl (fun Kc hKc => ?_) AllReadyH.nil
      have hWb := hHeld
      refine wp_append_ev (.tmp 187) (.tmp 189) rfl w0.heap.size _ (Lp) rfl (EOs.out.same ((Mod.refl _ _).alloc _)) ⟨we.heap.size, 0, none⟩ 1 1 [(evK vol3 4 X, .slice (some ⟨gv, 0, none⟩) 1 1, .slice (some ⟨gd, 0, none⟩) 1 1)] rfl (by decide) rfl (ev_new we (evK vol3 4 X, .slice (some ⟨gv, 0, none⟩) 1 1, .slice (some ⟨gd, 0, none⟩) 1 1)) (fun p hp => by rw [List.mem_singleton.1 hp]; exact evK_in rfl rfl (BV1.out.mod hWb (fun q => q)) (BD1.out.mod hWb (fun q => q)) (fun q => by injection q with q; have q : ge = _ := q; omega) (fun q => by injection q with q; have q : ge = _ := q; omega)) (by simp; omega) (hWb.size) ?_
      intro gf cf wf hown hMf hatf
      have EOf := Lib.hid hown
      have KF := Lib.hid (show Same w0 wf from (EOs.out.same ((Mod.refl _ _).alloc _)).kept hMf hWb (Nat.le_refl _))
      clear hown hMf hatf
      refine hKc.out _ _ (by (try dsimp only); exact KF.out) (fun hHeld => ?_)
      clear hKc Kc
      try simp only [List.getElem_toArray, List.getElem_cons_succ, List.getElem_cons_zero, Act.put, List.setIfInBounds_toArray, List.set_cons_zero, List.set_cons_succ]
      refine wpAnyH_take (i := 6) (v := ?_) rfl (by kernel_rfl) (by kernel_rfl) (by kernel_rfl) (fun _ _ _ h => h) (Or.inl ⟨by rfl, ?_⟩) (by assumption) ?_
      rotate_left
      · intro w hSw
        try dsimp only at hSw
        go_simp
        try with_reducible rfl
      try simp only [List.getElem_toArray, List.getElem_cons_succ, List.getElem_cons_zero, Act.put, List.setIfInBounds_toArray, List.set_cons_zero, List.set_cons_succ]
      refine wpAnyH_done (by kernel_rfl) ?_ _
      exact hK _ _ _ _ _ _ gf cf _ (fun W' M' => by
        have hgf := (EOf.out.own.lt gf rfl).1
        have hq : EvOwn w0.heap.size W' _ _ := ⟨own_mod2 EOf.out.own M' (fun b hb q => by have e : some gf = some b := hb; injection e with e; omega), fun p hp => by
          rcases List.mem_append.1 hp with hp | hp
          · exact HLI.out _ _ p (by simpa using hp)
          · rw [List.mem_singleton.1 hp]
            exact evK_in rfl rfl ((BV1.out.mod KF.out (fun q => q)).mod M' hvx) ((BD1.out.mod KF.out (fun q => q)).mod M' hdx1) (fun q => by injection q with q; have q : gf = _ := q; omega) (fun q => by injection q with q; have q : gf = _ := q; omega)⟩
        have h := hq.row.2
        first | (rw [List.nil_append, List.map_append] at h; exact h) | (rw [List.map_append] at h; exact h)) KF.out
    · go_simp
      refine hKc.out _ _ (by (try dsimp only); exact hHeld.alloc _) (fun hHeld => ?_)
      clear hKc Kc
      try simp only [List.getElem_toArray, List.getElem_cons_succ, List.getElem_cons_zero, Act.put, List.setIfInBounds_toArray, List.set_cons_zero, List.set_cons_succ]
      refine wpAnyH_ready (rs := [2]) (by kernel_rfl) (by simp) ?_
      refine AllReadyH.cons rfl (fun Kc hKc => ?_) AllReadyH.nil
      have hWa := hHeld
      refine wp_append_ev (.tmp 185) (.tmp 186) rfl w0.heap.size _ [] rfl ((EvOwn.empty w0.drew w0.heap.size (Nat.le_refl _)).same ((Mod.refl _ _).alloc _)) ⟨gl, 0, none⟩ _ cl Lp rfl HLP rfl (HAT1.out.mod hWa (fun q => q) hgl1) (HLI.out _ _) HLB (hWa.size) ?_
      intro ge ce we hown hMe hate
      have EOe := Lib.hid hown
      have EOs := Lib.hid (show EvOwn w0.heap.size we (.slice (some ⟨ge, 0, none⟩) Lp.length ce) Lp by
        have h := hown
        rw [List.nil_append, show ([] : List EvV).length + Lp.length = Lp.length by simp] at h
        exact h)
      have KE := Lib.hid (show Same w0 we from ((EvOwn.empty w0.drew w0.heap.size (Nat.le_refl _)).same ((Mod.refl _ _).alloc _)).kept hMe hWa (Nat.le_refl _))
      have hMee := Lib.hid hMe
      have hge : w0.heap.size ≤ ge := (EOe.out.own.lt ge rfl).1
      clear hown hMe hate
      refine hKc.out _ _ (by (try dsimp only); exact KE.out) (fun hHeld => ?_)
      clear hKc Kc
      try simp only [List.getElem_toArray, List.getElem_cons_succ, List.getElem_cons_zero, Act.put, List.setIfInBounds_toArray, List.set_cons_zero, List.set_cons_succ]
      refine wpAnyH_ready (rs := [5]) (by kernel_rfl) (by simp) ?_
      refine AllReadyH.cons rfl (fun Kc hKc => ?_) AllReadyH.nil
      have hWb := hHeld
      refine wp_append_ev (.tmp 187) (.tmp 189) rfl w0.heap.size _ ([] ++ Lp) rfl (EOe.out) ⟨w0.heap.size + 1, 0, none⟩ 1 1 [(evK vol3 4 X, .slice (some ⟨gv, 0, none⟩) 1 1, .slice (some ⟨gd, 0, none⟩) 1 1)] rfl (by decide) rfl ((ev_new2 (w0.drew.alloc (.cells #[] 34)) (evK vol3 4 X, .slice (some ⟨gv, 0, none⟩) 1 1, .slice (some ⟨gd, 0, none⟩) 1 1) (w0.heap.size + 1) (by simp)).mod hMee.out (fun q => by injection q with q; have := q.symm; simp at this)) (fun p hp => by rw [List.mem_singleton.1 hp]; exact evK_in rfl rfl (BV1.out.mod hWb (fun q => q)) (BD1.out.mod hWb (fun q => q)) (fun q => by injection q with q; have q : ge = _ := q; omega) (fun q => by injection q with q; have q : ge = _ := q; omega)) (by simp; omega) (hWb.size) ?_
      intro gf cf wf hown hMf hatf
      have EOf := Lib.hid hown
      have KF := Lib.hid (show Same w0 wf from (EOe.out).kept hMf hWb (Nat.le_refl _))
      clear hown hMf hatf
      refine hKc.out _ _ (by (try dsimp only); exact KF.out) (fun hHeld => ?_)
      clear hKc Kc
      try simp only [List.getElem_toArray, List.getElem_cons_succ, List.getElem_cons_zero, Act.put, List.setIfInBounds_toArray, List.set_cons_zero, List.set_cons_succ]
      refine wpAnyH_take (i := 6) (v := ?_) rfl (by kernel_rfl) (by kernel_rfl) (by kernel_rfl) (fun _ _ _ h => h) (Or.inl ⟨by rfl, ?_⟩) (by assumption) ?_
      rotate_left
      · intro w hSw
        try dsimp only at hSw
        go_simp
        try with_reducible rfl
      try simp only [List.getElem_toArray, List.getElem_cons_succ, List.getElem_cons_zero, Act.put, List.setIfInBounds_toArray, List.set_cons_zero, List.set_cons_succ]
      refine wpAnyH_done (by kernel_rfl) ?_ _
      exact hK _ _ _ _ _ _ gf cf _ (fun W' M' => by
        have hgf := (EOf.out.own.lt gf rfl).1
        have hq : EvOwn w0.heap.size W' _ _ := ⟨own_mod2 EOf.out.own M' (fun b hb q => by have e : some gf = some b := hb; injection e with e; omega), fun p hp => by
          rcases List.mem_append.1 hp with hp | hp
          · exact HLI.out _ _ p (by simpa using hp)
          · rw [List.mem_singleton.1 hp]
            exact evK_in rfl rfl ((BV1.out.mod KF.out (fun q => q)).mod M' hvx) ((BD1.out.mod KF.out (fun q => q)).mod M' hdx1) (fun q => by injection q with q; have q : gf = _ := q; omega) (fun q => by injection q with q; have q : gf = _ := q; omega)⟩
        have h := hq.row.2
        first | (rw [List.nil_append, List.map_append] at h; exact h) | (rw [List.map_append] at h; exact h)) KF.out
  · go_simp
    refine hKc.out _ _ (by (try dsimp only); exact hHeld.alloc _) (fun hHeld => ?_)
    clear hKc Kc
    try simp only [List.getElem_toArray, List.getElem_cons_succ, List.getElem_cons_zero, Act.put, List.setIfInBounds_toArray, List.set_cons_zero, List.set_cons_succ]
    refine wpAnyH_ready (rs := [0]) (by kernel_rfl) (by simp) ?_
    refine AllReadyH.cons rfl (fun Kc hKc => ?_) AllReadyH.nil
    go_simp
    refine hKc.out _ _ (by (try dsimp only); exact hHeld.alloc _) (fun hHeld => ?_)
    clear hKc Kc
    try simp only [List.getElem_toArray, List.getElem_cons_succ, List.getElem_cons_zero, Act.put, List.setIfInBounds_toArray, List.set_cons_zero, List.set_cons_succ]
    refine wpAnyH_ready (rs := [2]) (by kernel_rfl) (by simp) ?_
    refine AllReadyH.cons rfl (fun Kc hKc => ?_) AllReadyH.nil
    have hWa := hHeld
    refine wp_append_ev (.tmp 185) (.tmp 186) rfl w0.heap.size _ [] rfl (EvOwn.empty2 (w0.drew.alloc (.cells #[ordW ⟨14, [], [[], [], []]⟩, .int .i64 0, .string ⟨#[]⟩, .slice (some ⟨gv, 0, none⟩) 1 1, .int .i64 4, .slice (some ⟨gd, 0, none⟩) 1 1] 34)) w0.heap.size (w0.heap.size + 1) (by simp) ((((Mod.refl (fun _ => False) w0).drew).alloc _).size)) ⟨gl, 0, none⟩ _ cl Lp rfl HLP rfl (HAT1.out.mod hWa (fun q => q) hgl1) (HLI.out _ _) HLB (hWa.size) ?_
    intro ge ce we hown hMe hate
    have EOe := Lib.hid hown
    have EOs := Lib.hid (show EvOwn w0.heap.size we (.slice (some ⟨ge, 0, none⟩) Lp.length ce) Lp by
      have h := hown
      rw [List.nil_append, show ([] : List EvV).length + Lp.length = Lp.length by simp] at h
      exact h)
    have KE := Lib.hid (show Same w0 we from (EvOwn.empty2 (w0.drew.alloc (.cells #[ordW ⟨14, [], [[], [], []]⟩, .int .i64 0, .string ⟨#[]⟩, .slice (some ⟨gv, 0, none⟩) 1 1, .int .i64 4, .slice (some ⟨gd, 0, none⟩) 1 1] 34)) w0.heap.size (w0.heap.size + 1) (by simp) ((((Mod.refl (fun _ => False) w0).drew).alloc _).size)).kept hMe hWa (Nat.le_refl _))
    have hMee := Lib.hid hMe
    have hge : w0.heap.size ≤ ge := (EOe.out.own.lt ge rfl).1
    clear hown hMe hate
    refine hKc.out _ _ (by (try dsimp only); exact KE.out) (fun hHeld => ?_)
    clear hKc Kc
    try simp only [List.getElem_toArray, List.getElem_cons_succ, List.getElem_cons_zero, Act.put, List.setIfInBounds_toArray, List.set_cons_zero, List.set_cons_succ]
    refine wpAnyH_ready (rs := [5]) (by kernel_rfl) (by simp) ?_
    refine AllReadyH.cons rfl (fun Kc hKc => ?_) AllReadyH.nil
    have hWb := hHeld
    refine wp_append_ev (.tmp 187) (.tmp 189) rfl w0.heap.size _ ([] ++ Lp) rfl (EOe.out) ⟨w0.heap.size, 0, none⟩ 1 1 [(evK vol3 4 X, .slice (some ⟨gv, 0, none⟩) 1 1, .slice (some ⟨gd, 0, none⟩) 1 1)] rfl (by decide) rfl (((ev_new2 w0.drew (evK vol3 4 X, .slice (some ⟨gv, 0, none⟩) 1 1, .slice (some ⟨gd, 0, none⟩) 1 1) w0.heap.size rfl).mod ((Mod.refl (fun _ => False) _).alloc (.cells #[] 34)) (fun q => q)).mod hMee.out (fun q => by injection q with q; have := q.symm; simp at this)) (fun p hp => by rw [List.mem_singleton.1 hp]; exact evK_in rfl rfl (BV1.out.mod hWb (fun q => q)) (BD1.out.mod hWb (fun q => q)) (fun q => by injection q with q; have q : ge = _ := q; omega) (fun q => by injection q with q; have q : ge = _ := q; omega)) (by simp; omega) (hWb.size) ?_
    intro gf cf wf hown hMf hatf
    have EOf := Lib.hid hown
    have KF := Lib.hid (show Same w0 wf from (EOe.out).kept hMf hWb (Nat.le_refl _))
    clear hown hMf hatf
    refine hKc.out _ _ (by (try dsimp only); exact KF.out) (fun hHeld => ?_)
    clear hKc Kc
    try simp only [List.getElem_toArray, List.getElem_cons_succ, List.getElem_cons_zero, Act.put, List.setIfInBounds_toArray, List.set_cons_zero, List.set_cons_succ]
    refine wpAnyH_take (i := 6) (v := ?_) rfl (by kernel_rfl) (by kernel_rfl) (by kernel_rfl) (fun _ _ _ h => h) (Or.inl ⟨by rfl, ?_⟩) (by assumption) ?_
    rotate_left
    · intro w hSw
      try dsimp only at hSw
      go_simp
      try with_reducible rfl
    try simp only [List.getElem_toArray, List.getElem_cons_succ, List.getElem_cons_zero, Act.put, List.setIfInBounds_toArray, List.set_cons_zero, List.set_cons_succ]
    refine wpAnyH_done (by kernel_rfl) ?_ _
    exact hK _ _ _ _ _ _ gf cf _ (fun W' M' => by
      have hgf := (EOf.out.own.lt gf rfl).1
      have hq : EvOwn w0.heap.size W' _ _ := ⟨own_mod2 EOf.out.own M' (fun b hb q => by have e : some gf = some b := hb; injection e with e; omega), fun p hp => by
        rcases List.mem_append.1 hp with hp | hp
        · exact HLI.out _ _ p (by simpa using hp)
        · rw [List.mem_singleton.1 hp]
          exact evK_in rfl rfl ((BV1.out.mod KF.out (fun q => q)).mod M' hvx) ((BD1.out.mod KF.out (fun q => q)).mod M' hdx1) (fun q => by injection q with q; have q : gf = _ := q; omega) (fun q => by injection q with q; have q : gf = _ := q; omega)⟩
      have h := hq.row.2
      first | (rw [List.nil_append, List.map_append] at h; exact h) | (rw [List.map_append] at h; exact h)) KF.out
end Go.Proofs.YtlcepoagpocadaaGreatDoor
