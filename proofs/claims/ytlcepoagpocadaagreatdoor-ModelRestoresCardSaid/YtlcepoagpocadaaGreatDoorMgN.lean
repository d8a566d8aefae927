import Derived.Test.YtlcepoagpocadaaGreatDoorMgM
set_option linter.unusedSimpArgs false
set_option linter.unusedVariables false
set_option maxRecDepth 100000
/- A chunk gets a row of its own; Restore. -/
namespace Go.Proofs.YtlcepoagpocadaaGreatDoor
open Go Go.RowKit
section
variable {H : Nat → Ob} {m vm : Nat} {S : MS} {ow : Nat → Int}
/-- A chunk's row is another one. -/
theorem Abs.resect (A : Abs H m vm S ow) {c g g2 cap cap2 : Nat} {xs : List (List UInt8)} (h1 : H c = .cl 2 #[.slice (some ⟨g, 0, none⟩) S.k cap, .int .i64 (ow c)]) (hn : H g2 = .no) :
    Abs (upd (upd H c (.cl 2 #[.slice (some ⟨g2, 0, none⟩) S.k cap2, .int .i64 (ow c)])) g2 (.rw c xs)) m vm { S with sec := upd S.sec c xs } ow := by
  have far : ∀ i, H i ≠ H c → H i ≠ .no → upd (upd H c (.cl 2 #[.slice (some ⟨g2, 0, none⟩) S.k cap2, .int .i64 (ow c)])) g2 (.rw c xs) i = H i := fun i q r => by
    rw [upd_ne _ _ (fun e => r (by rw [e]; exact hn)), upd_ne _ _ (ne_H q)]
  have hcg : c ≠ g2 := ne_H (H := H) (by rw [h1, hn]; simp)
  refine ⟨?_, ?_, ?_, ?_, ?_, A.nd⟩
  · rw [far m (by rw [A.hm, h1]; simp) (by rw [A.hm]; simp)]; exact A.hm
  · rw [far vm (by rw [A.hv, h1]; simp) (by rw [A.hv]; simp)]; exact A.hv
  · intro u hu; rw [far u.b (by rw [A.hb u hu, h1]; simp) (by rw [A.hb u hu]; simp)]; exact A.hb u hu
  · intro u hu; rw [far u.pb (by rw [A.hp u hu, h1]; simp) (by rw [A.hp u hu]; simp)]; exact A.hp u hu
  · intro u hu x hx
    obtain ⟨g', cap', q1, q2⟩ := A.hc u hu x hx
    by_cases qc : x.2 = c
    · refine ⟨g2, cap2, ?_, ?_⟩
      · rw [qc, upd_ne _ _ hcg, upd_same]
      · rw [upd_same, qc]
        show _ = Ob.rw c (upd S.sec c xs c)
        rw [upd_same]
    · refine ⟨g', cap', ?_, ?_⟩
      · rw [upd_ne _ _ (ne_H (H := H) (by rw [q1, hn]; simp)), upd_ne _ _ qc]; exact q1
      · rw [far g' (by rw [q2, h1]; simp) (by rw [q2]; simp), q2]
        show _ = Ob.rw x.2 (upd S.sec c xs x.2)
        rw [upd_ne _ _ qc]
end
section
variable {K : Nat → Prop} {w : World} {m : Nat} {S : MS} {v : Vo}
/-- 'c.sectors = s'. -/
theorem Md.resect (h : Md Tryz.prog K w m S) {v : Vo} (hv : v ∈ S.vols) {x : Int × Nat} (hx : x ∈ v.pl) {g2 cap2 : Nat} {xs : List (List UInt8)} (hr : RowV w g2 S.k (txF xs)) (hl : xs.length = S.k) (hK : K g2) :
    Md Tryz.prog (fun i => K i ∧ i ≠ g2) (w.setCell ⟨x.2, 0, none⟩ (.slice (some ⟨g2, 0, none⟩) S.k cap2)) m { S with sec := upd S.sec x.2 xs } ∧ Mod (fun i => ¬ K i) w (w.setCell ⟨x.2, 0, none⟩ (.slice (some ⟨g2, 0, none⟩) S.k cap2)) := by
  obtain ⟨ow, ⟨H, vm, hH, hKn, hlt, A⟩, hcn⟩ := h
  obtain ⟨g, cap, h1, h2⟩ := A.hc v hv x hx
  have hn : H g2 = .no := by
    by_cases q : H g2 = .no
    · exact q
    · exact absurd hK (hKn g2 q)
  have hKc : ¬ K x.2 := hKn x.2 (by rw [h1]; simp)
  have hcg : x.2 ≠ g2 := fun e => hKc (by rw [e]; exact hK)
  have hb : Blk w x.2 #[.slice (some ⟨g, 0, none⟩) S.k cap, .int .i64 (ow x.2)] := by have := hH x.2; rw [h1] at this; exact this
  have M1 : Mod (fun j => j = x.2) w (w.setCell ⟨x.2, 0, none⟩ (.slice (some ⟨g2, 0, none⟩) S.k cap2)) := (Mod.refl (fun j => j = x.2) w).setCell (p := ⟨x.2, 0, none⟩) (fun _ => rfl) _
  have hb' := hb.set 0 (.slice (some ⟨g2, 0, none⟩) S.k cap2)
  have hr' := hr.mod M1 (fun e => hcg e.symm)
  refine ⟨⟨ow, ⟨_, vm, fun b => ?_, fun b hb2 => ?_, fun i hi => Nat.lt_of_lt_of_le (hlt i hi.1) M1.size, A.resect (cap2 := cap2) (xs := xs) h1 hn⟩, hcn⟩, M1.mono (fun i _ e => by rw [e]; exact hKc)⟩
  · by_cases q : b = g2
    · subst q
      rw [upd_same]
      show RowV _ _ xs.length _
      rw [hl]
      exact hr'
    · rw [upd_ne _ _ q]
      exact hH.turn M1 (o := .cl 2 #[.slice (some ⟨g2, 0, none⟩) S.k cap2, .int .i64 (ow x.2)]) hb' b
  · intro hk
    obtain ⟨hk, hne⟩ := hk
    rw [upd_ne _ _ hne] at hb2
    by_cases q : b = x.2
    · exact hKc (q ▸ hk)
    · rw [upd_ne _ _ q] at hb2
      exact hKn b hb2 hk
end
end Go.Proofs.YtlcepoagpocadaaGreatDoor
