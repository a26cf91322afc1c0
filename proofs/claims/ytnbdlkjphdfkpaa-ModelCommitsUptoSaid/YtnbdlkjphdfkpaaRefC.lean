/- The document's Committed: what it computes. No conditions. -/
import Derived.Test.YtnbdlkjphdfkpaaP6
namespace Go.Proofs.Ytnbdlkjphdfkpaa
open Go Go.RowKit H Go.Proofs.YtnbdlkjphdfkpaaW.PrintWords

set_option maxRecDepth 100000 in
set_option maxHeartbeats 4000000 in
theorem refc_walk (A : Option Addr) (c : Nat) (l : List S41) (high : Int) (w0 : World) (hr : Kd.C k41 w0 A l.length l) (hc : l.length ≤ c) (h72 : l.length * 72 ≤ 140737488355328) (hu : (commF l high).length * 32 ≤ 140737488355328) :
    Calls Try.prog 13 #[.slice A l.length c, .int .i64 high] w0 fun e w' => ∃ v : Value, e = .returned v ∧ w'.ownsRow w0.heap.size 49 3 v (commF l high).length ((commF l high).flatMap cells37) ∧ Below w0.heap.size w0 w' := by
  obtain ⟨i49, hi49, hq0, hq1, hq2⟩ := info_parts info49
  have HC := Lib.hid hr
  clear hr
  have hfate := Lib.hid (fun i hi => fate_ev l high h72 i hi)
  have hcm : commF l high = upto l (ends l (pre l high).length) l.length := rfl
  generalize hes : ends l (pre l high).length = es at *
  rw [hcm] at hu ⊢
  clear hes hcm
  go_enter Try.func13, Try.ntmps13
  go_wp2
  go_loopw [5, 6] (fun v i wr => ∃ (k : Nat), k ≤ l.length ∧ i = .int .i64 k ∧ wr.ownsRow w0.heap.size 49 3 v (upto l es k).length ((upto l es k).flatMap cells37) ∧ Below w0.heap.size w0 wr)
    (fun _ i _ => l.length - (intOf i).toNat)
  case atStart => exact ⟨0, Nat.zero_le _, rfl, World.ownsRow_nil _ _ _ _, Below.refl _ _⟩
  case round =>
    obtain ⟨k, hk, rfl, hrr, hB⟩ := hrel
    generalize wr = wk at *
    by_cases hlt : k < l.length
    · obtain ⟨ad, A9, c9, rfl, x0, x1, x2, x3, x4, x5, x6, x7, x8, hl8, hi8⟩ := at_T41 HC.out (k : Int) (by omega) (by omega)
      rw [Int.toNat_natCast] at x0 x1 x2 x3 x4 x5 x6 x7 x8
      have hb : rd_T41 l (k : Int) = l[k] := by simp [rd_T41, List.getD, hlt]
      rw [hb] at x0 x1 x2 x3 x4 x5 x6 x7 x8 hl8 hi8
      have hlk := List.getElem?_eq_getElem hlt
      obtain ⟨kf, hkf⟩ := (hfate.out k hlt).rounds
      have hkf := Lib.hid hkf
      generalize l[k] = b at *
      clear x1 x3 x4 x5 x6 x7
      have hlx := fun {v : Value} (a : Addr) (h : w0.cell? a = some v) => (World.block_lt_of_cell? w0 a h)
      have z0 := hlx _ x0
      have z2 := hlx _ x2
      have z8 := hlx _ x8
      have hi0 := Lib.hid hi8
      have X := Lib.hid (And.intro x0 (And.intro x2 x8))
      clear hi8 hlx hb x0 x2 x8
      cases he : es.getD k false
      · rw [he] at hkf
        go_wp2_with (first | (go_at_call 23; refine (penstockref21_fate.calls kf (some ad) c l high k false _ (Kd.C_below HC.out hB) hc hkf.out).mono ?_; rintro e w2 ⟨rfl, hb2⟩) | go_in)
        exact ⟨⟨k + 1, hlt, rfl, by rw [upto_no hlk he]; exact pw_own_below hrr hb2, hB.trans (hb2.mono hB.size)⟩, by simp [intOf]; omega⟩
      · rw [he] at hkf
        go_wp2_with (first | (go_at_call 23; refine (penstockref21_fate.calls kf (some ad) c l high k true _ (Kd.C_below HC.out hB) hc hkf.out).mono ?_; rintro e w2 ⟨rfl, hb2⟩) | go_in)
        have hB2 := hB.trans (hb2.mono hB.size)
        have hrr2 := pw_own_below hrr hb2
        clear hkf hB hrr hb2
        have hR1 : (upto l es k).length + b.f8.length ≤ (upto l es l.length).length := by
          have h1 := upto_mono l es (show k + 1 ≤ l.length from hlt)
          rw [upto_yes hlk he, List.length_append] at h1
          simpa [recs] using h1
        go_loopw [5, 7] (fun v i wl => ∃ j : Nat, j ≤ b.f8.length ∧ i = .int .i64 j ∧ wl.ownsRow w0.heap.size 49 3 v (upto l es k ++ recs b j).length ((upto l es k ++ recs b j).flatMap cells37) ∧ Below w0.heap.size w0 wl)
          (fun _ i _ => b.f8.length - (intOf i).toNat)
        case atStart => exact ⟨0, Nat.zero_le _, rfl, by simpa [recs] using hrr2, hB2⟩
        case round =>
          obtain ⟨j, hj, rfl, hrr, hB⟩ := hrel
          clear hrr2 hB2
          have hlx := fun {v : Value} (a : Addr) (h : w0.cell? a = some v) => (hB.cell (World.block_lt_of_cell? w0 a h)).trans h
          have x0 := hlx _ X.out.1
          have x2 := hlx _ X.out.2.1
          have x8 := hlx _ X.out.2.2
          clear hlx
          by_cases hjl : j < b.f8.length
          · obtain ⟨ad3, Aj, cj, rfl, xj, hlj, hij⟩ := at_L1 hi0.out (j : Int) (by omega) (by omega)
            have hrd : rd_L1 b.f8 (j : Int) = b.f8.getD j [] := by simp [rd_L1]
            rw [hrd] at xj hlj hij
            rw [Int.toNat_natCast] at xj
            have hrec : recOf b j = ⟨wrap64 (b.f0 + j), b.f2, strOfNums (b.f8.getD j [])⟩ := rfl
            generalize b.f8.getD j [] = vj at *
            have HRE := Lib.hid hrec
            clear hrec hrd
            have HG := Lib.hid (show ∀ w', Below w0.heap.size w0 w' → w'.cell? (ad.add (k * 9)) = some (.int .i64 b.f0) ∧ w'.cell? ⟨(ad.add (k * 9)).block, (ad.add (k * 9)).off + 2, none⟩ = some (.int .u64 b.f2) ∧ w'.cell? ⟨(ad.add (k * 9)).block, (ad.add (k * 9)).off + 8, none⟩ = some (.slice (some ad3) b.f8.length c9) ∧ w'.cell? (ad3.add j) = some (.slice Aj vj.length cj) ∧ (convert 47 9 (.slice Aj vj.length cj)).run Try.prog w' = .ok (.string (strOfNums vj)) w' from
              fun w' hb => ⟨(hb.cell (World.block_lt_of_cell? w0 _ X.out.1)).trans X.out.1, (hb.cell (World.block_lt_of_cell? w0 _ X.out.2.1)).trans X.out.2.1, (hb.cell (World.block_lt_of_cell? w0 _ X.out.2.2)).trans X.out.2.2, (hb.cell (World.block_lt_of_cell? w0 _ xj)).trans xj, Kd.C_string Try.underlying47 Try.underlying5 Try.underlying9 (c := cj) (Kd.C_below hij hb)⟩)
            have hln : (upto l es k ++ recs b j).length = (upto l es k).length + j := by simp [recs]
            have hzr := hB.size
            have hroom : (upto l es k ++ recs b j).length + 1 ≤ (upto l es l.length).length := by omega
            clear xj hij
            go_wp2
            go_region_held3 (fun w' => w'.cell? (ad.add (k * 9)) = some (.int .i64 b.f0) ∧ w'.cell? ⟨(ad.add (k * 9)).block, (ad.add (k * 9)).off + 2, none⟩ = some (.int .u64 b.f2) ∧ w'.cell? ⟨(ad.add (k * 9)).block, (ad.add (k * 9)).off + 8, none⟩ = some (.slice (some ad3) b.f8.length c9) ∧ w'.cell? (ad3.add j) = some (.slice Aj vj.length cj) ∧ (convert 47 9 (.slice Aj vj.length cj)).run Try.prog w' = .ok (.string (strOfNums vj)) w')
              (first | exact HG.out _ hB.drew | exact HG.out _ (hB.drew.alloc (by simp; omega) _) | exact HG.out _ (hB.drew.grown ((World.grownBy_alloc wr.drew _ _).trans hgrow5) hzr (fun q hq => (hrr.lt _ hq).1))) (first | (refine step_append_lies _ (by rfl) (.tmp 29) (.tmp 52) 29 (by rfl) w0.heap.size 49 i49 (.agg #[(.int .i64 0), (.int .u64 0), (.string ⟨#[]⟩)]) 3 32 Try.underlying29 hi49 hq0 hq1 hq2 (by rfl) (by decide) u5 (upto l es k ++ recs b j).length ((upto l es k ++ recs b j).flatMap cells37) (by rfl) (hrr.drew.alloc _) ⟨wr.heap.size, 0, none⟩ 1 1 [.int .i64 (IntKind.i64.wrap (b.f0 + j)), .int .u64 b.f2, .string (strOfNums vj)] (by rfl) (by rfl) (World.news_of_block (heap_alloc_new wr.drew _)) (by simp [Value.oneCell']) (by decide) (by unfold maxLen; omega) (by omega) (by simp; omega) (wr.heap.size + 1) (by simp) ?_; intro g5 c5 w5 hown5 hgrow5 hat5 hlt5))
            go_wp2
            go_roundw
            case rel =>
              have hall := (World.grownBy_alloc wr.drew _ _).trans hgrow5
              rw [i64_wrap] at hown5
              have hlen6 : (upto l es k ++ recs b (j + 1)).length = (upto l es k ++ recs b j).length + 1 := by simp [recs]; omega
              have hcell6 : (upto l es k ++ recs b (j + 1)).flatMap cells37 = (upto l es k ++ recs b j).flatMap cells37 ++ [.int .i64 (wrap64 (b.f0 + j)), .int .u64 b.f2, .string (strOfNums vj)] := by
                rw [recs_succ, HRE.out, ← List.append_assoc, List.flatMap_append (xs := upto l es k ++ recs b j)]
                rfl
              have hown6 := hown5
              rw [← hlen6, ← hcell6] at hown6
              rw [hlen6, hln] at hown6
              exact ⟨j + 1, hjl, by first | rfl | go_num, by rw [hlen6, hln]; exact hown6, hB.drew.grown hall hzr (fun q hq => (hrr.lt _ hq).1)⟩
            case measure => simp [intOf]; omega
          · obtain rfl : j = b.f8.length := by omega
            clear hjl hj
            go_wp2
            refine ⟨⟨k + 1, hlt, by first | rfl | go_num, by rw [upto_yes hlk he]; exact hrr, hB⟩, ?_⟩
            simp [intOf]; omega
    · obtain rfl : k = l.length := by omega
      clear hlt hk
      go_wp2
      go_ret
      exact ⟨_, rfl, hrr, hB⟩

/-- A record, as the document has it. -/
theorem reps49 (w : World) (base : Nat) (ok : Nat → Prop) (xs : List S37) : Reps (k49.M w base ok) 3 (xs.map to49) (xs.flatMap cells37) := by
  refine snoc_rec (P := fun xs => Reps (k49.M w base ok) 3 (xs.map to49) (xs.flatMap cells37)) (Reps.none _ _) ?_ xs
  intro xs x ih
  rw [List.map_append, List.flatMap_append]
  refine Reps.snoc ih ?_ rfl
  simpa [cells37, to49] using k49_mkM w base ok (to49 x)

namespace H
def penstockref21_Committed.f (_k : Nat) (l0 : List S41) (a1 : Int) : Option (List S49) :=
  if l0.length * 72 ≤ 140737488355328 ∧ (commF l0 a1).length * 32 ≤ 140737488355328 then some ((commF l0 a1).map to49) else none
theorem penstockref21_Committed.mono : ∀ a0 a1 k, LeO (penstockref21_Committed.f k a0 a1) (penstockref21_Committed.f (k + 1) a0 a1) := fun _ _ _ => LeO.refl _
theorem penstockref21_Committed.calls (k : Nat) (A0 : Option Addr) (c0 : Nat) (l0 : List (S41)) (a1 : Int) (r : List (S49)) (w : World) (hr0 : Kd.C k41 w A0 l0.length l0) (hc0 : l0.length ≤ c0) (h : penstockref21_Committed.f k l0 a1 = some r) :
    Calls Try.prog 13 #[.slice A0 l0.length c0, .int .i64 a1] w fun e w' => ∃ v0_ : Value, e = .returned (v0_) ∧ Kd.R k49 49 w' w.heap.size (fun _ => True) v0_ r ∧ Below w.heap.size w w' := by
  unfold penstockref21_Committed.f at h
  split at h
  case isFalse => cases h
  case isTrue hc =>
    obtain rfl := Option.some.inj h
    refine (refc_walk A0 c0 l0 a1 w hr0 hc0 hc.1 hc.2).mono ?_
    rintro e w' ⟨v, rfl, ho, hb⟩
    exact ⟨v, rfl, ⟨fun _ _ => trivial, _, by rw [List.length_map]; exact ho, reps49 _ _ _ _⟩, hb⟩
end H
end Go.Proofs.Ytnbdlkjphdfkpaa
