/- EpochsPlays: for every input it returns true, and the input reads as it did. No conditions. -/
import Derived.Test.YthiepdldliiakaaTwo
import Derived.Deep.RegionHeld3
import Derived.Outline
namespace Go.Proofs.Ythiepdldliiakaa
open Go Go.RowKit

set_option maxRecDepth 100000 in
set_option maxHeartbeats 2000000 in
theorem plays_walk (A : Option Addr) (c : Nat) (os : List OpD) (E en : Int) (w0 : World) (hos : IsOps w0 A os) (h24 : os.length * 24 ≤ 140737488351232) :
    Calls Try.prog 3 #[.slice A os.length c, .int .i64 E, .int .i64 en] w0 fun e w' => e = .returned (.bool true) ∧ Below w0.heap.size w0 w' := by
  have hrise := fun k => plays_rise os (fun o ho => by
    obtain ⟨i, hi', rfl⟩ := List.getElem_of_mem ho
    obtain ⟨_, _, hop⟩ := hos i _ (List.getElem?_eq_getElem hi')
    exact hop.b1) k
  have HR := Lib.hid hrise
  have HO := Lib.hid hos
  clear hos hrise
  go_enter Try.func3, Try.ntmps3
  go_wp2_with (first | (go_at_call 9; refine (new_at _).mono ?_; rintro e w1 ⟨g, rfl, hc1, hf1, hg1⟩) | (go_at_call 10; refine (awake_calls _).mono ?_; rintro e w2 ⟨rfl, hf2⟩))
  have h1 : Two w0 (w1.alloc (.cells #[.slice none 0 0, .slice none 0 0] 28)) g (.slice none 0 0) [] w1.heap.size (.slice none 0 0) (.slice none 0 0) [] :=
    ⟨hc1.fr ((Fr.refl (fun _ => False) w1).alloc _) (fun x => x) (fun _ _ x => x), new_ref w1, hf1.alloc _, hg1, fun k hk => (by cases hk), hf1.size, fun k hk => (by rcases hk with hk | hk <;> cases hk)⟩
  have h2 := h1.step hf2
  have hgr := hf1.size
  generalize w1.heap.size = gr at *
  clear h1 hc1 hf1 hg1 hf2
  go_loopw [28] (fun i wr => ∃ (k : Nat) (v va vb : Value), k ≤ os.length ∧ i = .int .i64 k ∧ Two w0 wr g v (plays (os.take k)) gr va vb (plays (os.take k))) (fun i _ => os.length - (intOf i).toNat)
  case atStart => exact ⟨0, _, _, _, Nat.zero_le _, rfl, h2⟩
  case round =>
    obtain ⟨k, v, va, vb, hk, rfl, hr⟩ := hrel
    clear h2
    by_cases hlt : k < os.length
    · obtain ⟨ad, rfl, hop⟩ := HO.out k _ (List.getElem?_eq_getElem hlt)
      obtain ⟨k0, k1, k2, k3⟩ := hop.below hr.fr.box
      have hlen := plays_len os k
      have HT := Lib.hid (plays_take os k _ (List.getElem?_eq_getElem hlt))
      have HRk := Lib.hid (HR.out k)
      generalize os[k] = o at *
      generalize plays (os.take k) = xs at *
      have hxl : xs.length < 8796093022200 := by omega
      have hra := hr.alloc (.cells #[.int .i64 o.kind, .int .i64 o.epoch, .int .i64 o.at_] 31)
      by_cases h0 : o.kind = 0
      · have hb0 : (o.kind == 0) = true := by simpa using h0
        have HY : Hid (plays (os.take (k + 1)) = (assign xs o.epoch o.at_).2) := by rw [HT.out]; unfold playStep; rw [if_pos h0]; exact rfl
        clear h0
        have HR2 := Lib.hid (hra.step ((Fr.refl _ _).drew))
        have ha0 := heap_alloc_new wr (.cells #[.int .i64 o.kind, .int .i64 o.epoch, .int .i64 o.at_] 31)
        have HA := Lib.hid ha0
        clear ha0 hra
        have hx : ∀ w' : World, w'.heap[wr.heap.size]? = some (.cells #[.int .i64 o.kind, .int .i64 o.epoch, .int .i64 o.at_] 31 (0, 0)) → w'.cell? ⟨wr.heap.size, 1, none⟩ = some (.int .i64 o.epoch) ∧ w'.cell? ⟨wr.heap.size, 2, none⟩ = some (.int .i64 o.at_) := by
          intro w' h
          simp [World.cell?, h]
        have HX := Lib.hid hx
        clear hx
        go_wp2_with fail
        go_region_held3 (fun w' => w'.cell? ⟨wr.heap.size, 1, none⟩ = some (.int .i64 o.epoch) ∧ w'.cell? ⟨wr.heap.size, 2, none⟩ = some (.int .i64 o.at_)) (first | exact HX.out _ HA.out | exact HX.out _ (hm3.keep HR2.out.c HA.out (by decide) (by decide)) | exact HX.out _ (hm4.keep (HR2.out.moved hc3 hm3).r (hm3.keep HR2.out.c HA.out (by decide) (by decide)) (by decide) (by decide))) (first | (go_at_call 11; refine (assign_calls g v _ _ _ _ HR2.out.c hxl).mono ?_; rintro e w3 ⟨rfl, v3, hc3, hm3⟩) | (go_at_call 12; refine (rassign_rise gr va vb _ _ _ _ (HR2.out.moved hc3 hm3).r hxl HRk.out).mono ?_; rintro e w4 ⟨rfl, va4, vb4, hr4, hm4⟩))
        have h4 := (HR2.out.moved hc3 hm3).moved2 hr4 hm4
        have hR4 : Rise (assign xs o.epoch o.at_).2 := HY.out ▸ HR.out (k + 1)
        have HY2 := Lib.hid hR4
        clear hR4
        generalize (assign xs o.epoch o.at_).2 = ys at *
        have hR4 := HY2.out
        go_wp2_with (first | (go_at_call 15; refine (end_some g v3 _ E en _ h4.c (endTo ys E en ys.length) rfl).mono ?_; rintro e w5 ⟨rfl, rfl⟩) | (go_at_call 16; refine (rend_calls gr va4 vb4 _ E en _ h4.r (endTo ys E en ys.length) (rendOf_eq hR4 E en)).mono ?_; rintro e w6 ⟨rfl, rfl⟩) | (go_at_call 17; refine (same_calls g gr v3 va4 vb4 _ _ h4.c h4.r).mono ?_; rintro e w7 ⟨rfl, hf7⟩))
        go_roundw
        case rel => exact ⟨k + 1, _, _, _, by omega, by go_num, by rw [HY.out]; exact h4.step hf7⟩
        case measure => simp [intOf]; omega
      · have hb0 : (o.kind == 0) = false := by simpa using h0
        have HY : Hid (plays (os.take (k + 1)) = cut xs o.at_) := by rw [HT.out]; unfold playStep; rw [if_neg h0]; exact rfl
        clear h0
        have HR2 := Lib.hid hra
        have HA := Lib.hid (heap_alloc_new wr (.cells #[.int .i64 o.kind, .int .i64 o.epoch, .int .i64 o.at_] 31))
        have hx : ∀ w' : World, w'.heap[wr.heap.size]? = some (.cells #[.int .i64 o.kind, .int .i64 o.epoch, .int .i64 o.at_] 31 (0, 0)) → w'.cell? ⟨wr.heap.size, 2, none⟩ = some (.int .i64 o.at_) := by
          intro w' h
          simp [World.cell?, h]
        have HX := Lib.hid hx
        have HRc := Lib.hid (rise_cut HRk.out o.at_)
        clear hra hx
        go_wp2_with (first | (go_at_call 13; refine (cut_calls g v _ _ _ HR2.out.c).mono ?_; rintro e w3 ⟨rfl, v3, hc3, hm3⟩; have cx := HX.out _ (hm3.keep HR2.out.c HA.out (by decide) (by decide))) | (go_at_call 14; refine (rcut_rise gr va vb _ _ _ (HR2.out.moved hc3 hm3).r hxl HRk.out).mono ?_; rintro e w4 ⟨rfl, va4, vb4, hr4, hm4⟩; have h4 := (HR2.out.moved hc3 hm3).moved2 hr4 hm4; have hR4 := HRc.out) | (go_at_call 15; refine (end_some g v3 _ E en _ h4.c (endTo (cut xs o.at_) E en (cut xs o.at_).length) rfl).mono ?_; rintro e w5 ⟨rfl, rfl⟩) | (go_at_call 16; refine (rend_calls gr va4 vb4 _ E en _ h4.r (endTo (cut xs o.at_) E en (cut xs o.at_).length) (rendOf_eq hR4 E en)).mono ?_; rintro e w6 ⟨rfl, rfl⟩) | (go_at_call 17; refine (same_calls g gr v3 va4 vb4 _ _ h4.c h4.r).mono ?_; rintro e w7 ⟨rfl, hf7⟩))
        go_roundw
        case rel => exact ⟨k + 1, _, _, _, by omega, by go_num, by rw [HY.out]; exact h4.step hf7⟩
        case measure => simp [intOf]; omega
    · obtain rfl : k = os.length := by omega
      go_wp2
      go_ret
      exact ⟨rfl, hr.fr.box⟩

theorem plays_calls {w0 : World} (A : Option Addr) (c : Nat) (os : List OpD) (_ : os.length ≤ c) (hos : IsOps w0 A os) (h24 : os.length * 24 ≤ 140737488351232) (E : Int) (_ : (Lit.int .i64 E).wf = true) (en : Int) (_ : (Lit.int .i64 en).wf = true) :
    Calls Try.prog 3 #[.slice A os.length c, .int .i64 E, .int .i64 en] w0 fun e w' => e = .returned (.bool true) ∧ Below w0.heap.size w0 w' := plays_walk A c os E en w0 hos h24
end Go.Proofs.Ythiepdldliiakaa
