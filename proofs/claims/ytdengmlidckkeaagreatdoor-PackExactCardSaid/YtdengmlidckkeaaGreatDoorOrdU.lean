import Derived.Test.YtdengmlidckkeaaGreatDoorOrdT
import Derived.Test.YtdengmlidckkeaaGreatDoorShelfE
set_option linter.unusedSimpArgs false
set_option linter.unusedVariables false
namespace Go.Proofs.YtdengmlidckkeaaGreatDoor
open Go Go.RowKit
theorem splitB_len (l : List UInt8) : (Lib.splitB ⟨#[32]⟩ 0 (Lib.countB ⟨l.toArray⟩ ⟨#[32]⟩) ⟨l.toArray⟩).length = (spl l).length := by
  have := congrArg List.length (splitB_spl ⟨l.toArray⟩)
  rw [List.length_map] at this; exact this
theorem split_any (l : List UInt8) (hl : l.length ≤ 50000) (w : World) (hL : LibOK w) : Calls Tryz.prog 41 #[.string ⟨l.toArray⟩, .string ⟨#[32]⟩] w fun e w' => ∃ g, e = .returned (.slice (some ⟨g, 0, none⟩) (spl l).length (spl l).length) ∧ g < w'.heap.size ∧ (∀ i s, (spl l)[i]? = some s → w'.cell? ⟨g, 0 + i, none⟩ = some (strV s)) ∧ Same w w' := by
  obtain ⟨m, hm⟩ := hL.mx
  refine (Tryz.strings_Split ⟨l.toArray⟩ ⟨#[32]⟩ m w (by rw [bytes_size]; omega) hm (by decide)).mono ?_
  rintro e w' ⟨rfl, rfl⟩
  have hc : Lib.countB ⟨l.toArray⟩ ⟨#[32]⟩ + 1 = (spl l).length := by
    rw [← splitB_len, Lib.splitB_all _ (by decide) 0 _ _ rfl]
  refine ⟨w.heap.size, by rw [hc], by simp, fun i s hi => ?_, (Mod.refl _ _).alloc _⟩
  rw [Nat.zero_add]
  refine ((Blk.new w _ 9).cell i).trans ?_
  have e := splitB_spl ⟨l.toArray⟩
  have e2 : (⟨l.toArray⟩ : ByteArray).data.toList = l := rfl
  rw [e2] at e
  rw [← e, List.getElem?_map] at hi
  obtain ⟨x, hx, rfl⟩ := Option.map_eq_some_iff.1 hi
  rw [List.getElem?_toArray, List.getElem?_map, hx]
  rfl
/-- What Parse hands back. -/
def ansP : Option OW → Value
  | some o => .tuple #[ordW o, .int .i64 0]
  | none => .tuple #[.nilIface, .int .i64 3]
set_option maxRecDepth 10000 in
set_option maxHeartbeats 2000000 in
theorem parse_any (l : List UInt8) (hl : l.length ≤ 50000) (w : World) (hL : LibOK w) : Calls Tryz.prog 17 #[.string ⟨l.toArray⟩] w fun e w' => e = .returned (ansP (parseL l)) ∧ Same w w' := by
  refine opq fun R HR => ?_
  have HL := Lib.hid hL
  have HSp := Lib.hid (split_any l hl w hL)
  have hsh : ∀ s ∈ spl l, s.length ≤ 50000 := fun s hs => Nat.le_trans (spl_len l s hs) hl
  have HSh := Lib.hid hsh
  have hw6 := hL.lt
  unfold parseL parseW at HR
  clear hsh hL
  generalize spl l = ws at *
  obtain ⟨n, hn⟩ : ∃ n, ws.length = n := ⟨_, rfl⟩
  have HN := Lib.hid hn
  rw [hn] at HSp
  clear hn
  go_enter Tryz.func17, Tryz.ntmps17
  go_wp2_with fail
  refine HSp.out.mono ?_
  rintro e w1 ⟨g, rfl, hg, hcg, M1⟩
  have K1 := Lib.hid M1
  have hs1 := M1.size
  have HC := Lib.hid hcg
  clear M1 hcg HSp
  go_wp2_with fail
  have J0 := Lib.hid (show RdS (w1.alloc (.cells #[.slice (some ⟨g, 0, none⟩) n n, .bool false] 104)) w1.heap.size (ws, false) from ⟨⟨some ⟨g, 0, none⟩, by
    have := Blk.new w1 #[.slice (some ⟨g, 0, none⟩) n n, .bool false] 104
    rw [HN.out]; exact this, fun _ => ⟨g, 0, rfl, by omega, by simp; omega, fun i s hi => (((Mod.refl (fun _ => False) w1).alloc (.cells #[.slice (some ⟨g, 0, none⟩) n n, .bool false] 104)).cell hg (fun q => q) _).trans (HC.out i s hi)⟩⟩, HSh.out⟩)
  have K2 := Lib.hid (K1.out.alloc (.cells #[.slice (some ⟨g, 0, none⟩) n n, .bool false] 104))
  have L2 := Lib.hid (HL.out.same K2.out)
  have h6 : 6 ≤ w1.heap.size := by omega
  have hbw : w.heap.size ≤ w1.heap.size := hs1
  clear K1 HC HSh HL HN
  generalize w1.alloc _ = W at *
  generalize w1.heap.size = b at *
  cases hk : kindOf (rdNext (ws, false)).1 with
  | none =>
    rw [hk] at HR
    have HO := Lib.hid (order_none b (ws, false) hk W J0.out)
    clear hk
    go_wp2_with fail
    refine HO.out.mono ?_
    rintro e w2 ⟨rfl, h2, M2⟩
    have K3 := Lib.hid (K2.out.then_ M2 (fun i hi q => by have : i = b := q; omega))
    clear h2 M2 HO
    go_wp2_with fail
    refine (parts_nil w2).mono ?_
    rintro e w3 ⟨rfl, M3⟩
    have K4 := Lib.hid (K3.out.same M3)
    clear M3
    go_wp2
    exact HR.out _ _ ⟨rfl, K4.out⟩
  | some k =>
    rw [hk] at HR
    dsimp only at HR
    have hkl := kind_lt hk
    have HO := Lib.hid (order_some b h6 k hkl.1 (ws, false) hkl.2.symm W L2.out J0.out)
    have HF := Lib.hid (rdKind_form k hkl.1 (rdNext (ws, false)).2)
    clear hk hkl
    generalize rdKind k (rdNext (ws, false)).2 = q at *
    obtain ⟨o, st⟩ := q
    dsimp only at HR HO HF
    go_wp2_with fail
    refine HO.out.mono ?_
    rintro e w2 ⟨rfl, h2, M2⟩
    have J2 := Lib.hid h2
    have K3 := Lib.hid (K2.out.then_ M2 (fun i hi q => by have : i = b := q; omega))
    have HP := Lib.hid (parts_all o HF.out w2)
    clear h2 M2 HO
    obtain ⟨T, x, hv⟩ : ∃ T x, ordW o = .iface T x := ⟨_, _, rfl⟩
    unfold ansP at HR
    rw [hv] at HP ⊢
    have HV := Lib.hid hv
    clear hv
    generalize (o.ns.map (Value.int .i64)).length = n1 at *
    cases hfit : o.fits with
    | false =>
      rw [hfit] at HP HR
      clear hfit
      go_wp2_with fail
      refine HP.out.mono ?_
      rintro e w3 ⟨a1, c1, a2, c2, rfl, _, _, M3⟩
      have K4 := Lib.hid (K3.out.same M3)
      clear M3
      go_wp2
      exact HR.out _ _ ⟨rfl, K4.out⟩
    | true =>
      rw [hfit] at HP HR
      clear hfit
      go_wp2_with fail
      refine HP.out.mono ?_
      rintro e w3 ⟨a1, c1, a2, c2, rfl, _, _, M3⟩
      have K4 := Lib.hid (K3.out.same M3)
      have J3 := Lib.hid (J2.out.same M3)
      clear M3 J2 K3 K2 HP
      have hlt := J3.out.lt
      obtain ⟨a, hb, _⟩ := J3.out.blk
      have hc := hb.cell
      obtain ⟨rest, bad⟩ := st
      dsimp only at *
      clear hb
      cases bad with
      | true =>
        go_wp2
        exact HR.out _ _ ⟨rfl, K4.out⟩
      | false =>
        cases rest with
        | nil =>
          go_wp2
          exact HR.out _ _ ⟨by simp [HV.out], K4.out⟩
        | cons s r =>
          obtain ⟨m, hm⟩ : ∃ m, r.length = m := ⟨_, rfl⟩
          have hl1 : (s :: r).length = m + 1 := by simp [hm]
          rw [hl1] at hc
          have hz : decide (((m : Int) + 1) > 0) = true := decide_eq_true (by omega)
          have hz2 : decide (0 < ((m : Int) + 1)) = true := decide_eq_true (by omega)
          go_wp2
          exact HR.out _ _ ⟨rfl, K4.out⟩
end Go.Proofs.YtdengmlidckkeaaGreatDoor
