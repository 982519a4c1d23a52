/- Runes and strings: a row of runes as a string; a string's bytes as a string again. Plain theorems about the model, and two about this seat's program, without a condition of their own. -/
import Derived.Laws.Cover4
import Derived.Laws.Runes
import Derived.Lib.ConvBytes
import Derived.Below
import Derived.Test.YtdfklcbcidopfaaWWords
import Derived.Test.YtdfklcbcidopfaaWLast
namespace Go.Proofs.YtdfklcbcidopfaaW.PrintWords
open Go.RowKit
theorem string_of_runes {P : Program} {w : World} {src dst e : TypeId} {A : Option Addr} {n c : Nat} {xs : List Int} (hs : P.underlying src = some (.slice e)) (he : P.underlying e = some (.int .i32)) (hd : P.underlying dst = some .string)
    (h : ReadsInt w .i32 A n xs) : (convert src dst (.slice A n c)).run P w = .ok (.string (runesBytes xs)) w := by
  have hn : xs.length = n := h.1
  rcases A with _ | ad
  · have h0 : n = 0 := by
      rcases Nat.eq_zero_or_pos n with h0 | h0
      · exact h0
      · obtain ⟨ad, h', _⟩ := h.2.2 h0
        cases h'
    subst h0
    obtain rfl : xs = [] := List.eq_nil_of_length_eq_zero hn
    rw [run_convert_runes_nil w src dst e 0 c hs he hd]
    rfl
  · have hc : ∀ j, j < xs.length → w.cell? (ad.add j) = some (.int .i32 (xs.getD j 0)) := by
      intro j hj
      obtain ⟨ad', he', hc⟩ := h.2.2 (by omega)
      injection he' with he'
      subst he'
      exact hc j (by omega)
    rw [run_convert_runes w src dst e ad n c xs (by omega) hs he hd hc, ← hn, List.take_length]
theorem Kd.C_runes {P : Program} {w : World} {src dst e : TypeId} {A : Option Addr} {n c : Nat} {xs : List Int} (hs : P.underlying src = some (.slice e)) (he : P.underlying e = some (.int .i32)) (hd : P.underlying dst = some .string)
    (h : (Kd.int .i32).C w A n xs) : (convert src dst (.slice A n c)).run P w = .ok (.string (runesBytes xs)) w :=
  string_of_runes hs he hd (Kd.reads_of_C (enc := Value.int .i32) (d := (0 : Int)) (h1 := fun _ => rfl) h)
theorem own_runes {P : Program} {w : World} {base n : Nat} {e' src dst e : TypeId} {v : Value} {xs : List Int} (hs : P.underlying src = some (.slice e)) (he : P.underlying e = some (.int .i32)) (hd : P.underlying dst = some .string)
    (h : w.ownsRow base e' 1 v n (nums .i32 xs)) : (convert src dst v).run P w = .ok (.string (runesBytes xs)) w := by
  obtain ⟨A', c', he', hr⟩ := own_reads h
  subst he'
  exact string_of_runes hs he hd hr
theorem below_bytes {w W : World} (h : Below w.heap.size w W) (e : TypeId) (s : ByteArray) : Below w.heap.size w (Lib.bytesWorld W e s) := by
  refine ⟨h.os, h.tape, h.output, ?_, fun k hk => ?_⟩
  · rw [Lib.bytesWorld_size]; exact Nat.le_succ_of_le h.size
  · rw [Lib.bytesWorld_at_old W e s k (Nat.lt_of_lt_of_le hk h.size)]; exact h.block k hk
theorem Kd.R_bytes {α : Type} {d : Kd α} {e : Nat} {w : World} {base : Nat} {ok : Nat → Prop} {v : Value} {xs : List α} (h : d.R e w base ok v xs) (e' : TypeId) (s : ByteArray) : d.R e (Lib.bytesWorld w e' s) base ok v xs := Kd.R_below h (below_bytes (Below.refl _ _) e' s)
theorem blk_bytes {w : World} {g : Nat} {o : Obj} (h : w.heap[g]? = some o) (e : TypeId) (s : ByteArray) : (Lib.bytesWorld w e s).heap[g]? = some o := blk_below h (below_bytes (Below.refl _ _) e s)
theorem run_back {P : Program} (w : World) (src dst e : TypeId) (s : ByteArray) (c : Nat) (hs : P.underlying src = some (.slice e)) (he : P.underlying e = some (.int .u8)) (hd : P.underlying dst = some .string) :
    (convert src dst (.slice (some ⟨w.heap.size, 0, none⟩) s.size c)).run P (Lib.bytesWorld w e s) = .ok (.string s) (Lib.bytesWorld w e s) := by
  have hl : (loadCells ⟨w.heap.size, 0, none⟩ s.size).run P (Lib.bytesWorld w e s) = .ok ((s.data.toList.map fun b => ((b.toNat : Nat) : Int)).map (Value.int .u8)).toArray (Lib.bytesWorld w e s) := by
    have hlen : ((s.data.toList.map fun b => ((b.toNat : Nat) : Int)).map (Value.int .u8)).length = s.size := by rw [List.length_map, List.length_map]; rfl
    have := run_loadCells_list (P := P) (Lib.bytesWorld w e s) ⟨w.heap.size, 0, none⟩ ((s.data.toList.map fun b => ((b.toNat : Nat) : Int)).map (Value.int .u8)) (fun j v hj => by
      have hjl : j < s.size := by
        rcases Nat.lt_or_ge j s.size with h' | h'
        · exact h'
        · rw [List.getElem?_eq_none (by omega)] at hj
          cases hj
      have ha : (⟨w.heap.size, 0, none⟩ : Addr).add j = ⟨w.heap.size, j, none⟩ := by unfold Addr.add; split <;> simp_all
      rw [ha, Lib.bytesWorld_cell w e s j hjl]
      have hjd : j < s.data.toList.length := hjl
      rw [List.getElem?_map, List.getElem?_map, List.getElem?_eq_getElem hjd] at hj
      simp only [Option.map_some, Option.some.injEq] at hj
      subst hj
      rw [List.getD_eq_getElem?_getD, List.getElem?_eq_getElem hjd]
      rfl)
    rw [hlen] at this
    exact this
  rw [run_convert_bytes_string _ src dst e _ s.size c hs he hd, run_bytesToString _ _ s.size c _ hl, foldl_push_bytes]
  congr 2
  have hm : (s.data.toList.map fun b => ((b.toNat : Nat) : Int)).map (fun n => UInt8.ofNat n.toNat) = s.data.toList := by
    rw [List.map_map]
    conv => rhs; rw [← List.map_id s.data.toList]
    congr 1
    funext b
    simp
  rw [hm]
  cases s
  simp
end Go.Proofs.YtdfklcbcidopfaaW.PrintWords
