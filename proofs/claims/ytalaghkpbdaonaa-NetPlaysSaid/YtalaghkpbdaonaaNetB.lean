/- net.New and Send: what they compute. No conditions. -/
import Derived.Test.YtalaghkpbdaonaaNetA
import Derived.Deep.AppendLies
namespace Go.Proofs.Ytalaghkpbdaonaa
open Go Go.RowKit H Go.Proofs.YtalaghkpbdaonaaW.PrintWords

set_option maxRecDepth 100000 in
theorem new_calls (w : World) : Calls Try.prog 9 #[] w fun e w' => ∃ N M, e = .returned (.pointer (some ⟨N, 0, none⟩)) ∧ NetIn w' w.heap.size N M (.slice none 0 0) [] (.map []) 0 ∧ Below w.heap.size w w' := by
  have hmm := @run_makeMap Try.prog
  go_enter Try.func9, Try.ntmps9
  go_wp2
  go_ret
  refine ⟨_, w.heap.size, rfl, ⟨by simp, Nat.le_refl _, (alloc2_at w _ _).1, ⟨[], .inl (World.ownsRow_nil _ _ _ _), Reps.none _ _⟩, (World.ownsMap_made _ _ _ _).alloc _⟩, ((Below.refl _ _).alloc (Nat.le_refl _) _).alloc (by simp) _⟩

/-- A net whose memory is kept. -/
theorem NetIn.keep {w w' : World} {base N M : Nat} {v : Value} {ps : List S28} {D : DataW Unit} {m : Nat} (h : NetIn w base N M v ps D m) (hk : ∀ k, base ≤ k → k < w.heap.size → w'.heap[k]? = w.heap[k]?) : NetIn w' base N M v ps D m := by
  obtain ⟨h1, h2, h3, ⟨cs, hf, hr⟩, es, clock, hm, hm2⟩ := h
  have lt : ∀ {k : Nat} {o : Obj}, w.heap[k]? = some o → k < w.heap.size := fun h => (Array.getElem?_eq_some_iff.1 h).1
  refine ⟨h1, h2, (hk _ h1 (lt h3)).trans h3, ⟨cs, ?_, hr.imp_ (fun p c hp => ?_)⟩, es, clock, (hk _ h2 (lt hm)).trans hm, hm2⟩
  · rcases hf with hf | ⟨g, cur, rfl, hg, hh, rest⟩
    · exact .inl (own_move hf (fun k hko => hk k (own_base hf k hko) (own_lt hf k hko)))
    · exact .inr ⟨g, cur, rfl, hg, (hk g hg (lt hh)).trans hh, rest⟩
  · have hb := k28.M_bound hp
    exact k28.M_mono (fun _ _ => trivial) (k28.M_move (fun k hk2 => hk k hk2.2.1 hk2.2.2.1) hb)

theorem NetIn.below {w w' : World} {base N M : Nat} {v : Value} {ps : List S28} {D : DataW Unit} {m : Nat} (h : NetIn w base N M v ps D m) (hb : Below w.heap.size w w') : NetIn w' base N M v ps D m :=
  h.keep (fun k _ hlt => hb.block k hlt)

/-- The list's value, and how it reads. -/
theorem NetIn.reads {w : World} {base N M : Nat} {v : Value} {ps : List S28} {D : DataW Unit} {m : Nat} (h : NetIn w base N M v ps D m) : ∃ A c, v = .slice A ps.length c ∧ ps.length ≤ c ∧ Kd.C k28 w A ps.length ps := by
  obtain ⟨cs, hf, hr⟩ := h.list
  have hr2 := hr.imp_ (fun p c hp => k28.K_of_M hp)
  rcases hf with hf | ⟨g, cur, rfl, hg, hh, hmax, hsz, hcs⟩
  · obtain ⟨A, c, rfl, hC⟩ := own_reads_row hf hr2 rfl
    refine ⟨A, c, rfl, ?_, hC⟩
    rcases hf.2 with ⟨e, h0⟩ | ⟨g, c', cur, e, _, _, hn, _⟩
    · injection e with _ _ e; omega
    · injection e with _ _ e; omega
  · refine ⟨_, ps.length, rfl, Nat.le_refl _, rfl, by unfold maxLen at hmax; omega, fun _ => ⟨_, rfl, fun j p hj => ?_⟩⟩
    have hjl := (List.getElem?_eq_some_iff.1 hj).1
    refine ⟨(cs.drop (j * 3)).take 3, ?_, hr2.2 j p hj, fun i u hu => ?_⟩
    · exact k28.K_len (hr2.2 j p hj)
    · rw [List.getElem?_take] at hu
      split at hu
      · rename_i hi
        rw [List.getElem?_drop, ← hcs, List.getElem?_take, if_pos (by omega)] at hu
        have hu2 : cur[j * 3 + i]? = some u := by rw [← Array.getElem?_toList]; exact hu
        have hadd : (⟨g, 0, none⟩ : Addr).add (j * 3 + i) = ⟨g, j * 3 + i, none⟩ := by simp [add_plain]
        show w.cell? ((⟨g, 0, none⟩ : Addr).add (j * 3 + i)) = some u
        rw [hadd, blk_cell hh, hu2]
      · cases hu

set_option maxRecDepth 100000 in
theorem send_nil (p : Value) (w : World) (x y : Int) (A : Option Addr) (n c : Nat) : Calls Try.prog 11 #[.pointer none, .agg #[.int .i64 x, .int .i64 y, .slice A n c]] w fun e w' => e = .returned (.bool false) ∧ Below w.heap.size w w' := by
  go_enter Try.func11, Try.ntmps11
  go_wp2
  go_ret
  exact ⟨rfl, (Below.refl _ _).alloc (Nat.le_refl _) _⟩

set_option maxRecDepth 100000 in
theorem send_full {w : World} {base N M : Nat} {v : Value} {ps : List S28} {D : DataW Unit} {m : Nat} (h : NetIn w base N M v ps D m) (hp : 256 ≤ ps.length) (x y : Int) (A : Option Addr) (n c : Nat) :
    Calls Try.prog 11 #[.pointer (some ⟨N, 0, none⟩), .agg #[.int .i64 x, .int .i64 y, .slice A n c]] w fun e w' => e = .returned (.bool false) ∧ Below w.heap.size w w' := by
  obtain ⟨A1, c1, rfl, hc1, hC1⟩ := h.reads
  have hk := blk_alloc h.cell (.cells #[.int .i64 x, .int .i64 y, .slice A n c] 28)
  have q := blk_cell hk
  have hd : (256 : Int) ≤ ps.length := by omega
  clear hC1
  have H := Lib.hid h
  clear h
  go_enter Try.func11, Try.ntmps11
  go_wp2
  go_ret
  exact ⟨rfl, (Below.refl _ _).alloc (Nat.le_refl _) _⟩
end Go.Proofs.Ytalaghkpbdaonaa
