/-
  slices.Sort and slices.Compact of rows of strings, as the abstract machine asks for them.
-/
import Derived.Test.YtihjfndkgmjanaaAmUse
import Derived.Test.YtihjfndkgmjanaaStd
import Derived.Lib.RowBridge
namespace Go.Proofs.Ytihjfndkgmjanaa
open Go.RowKit Go.Sort

def strF (l : List (List UInt8)) : Nat → List AV := fun i => [.v (encStr (l.getD i []))]
def sortL (l : List (List UInt8)) : List (List UInt8) := l.mergeSort fun x y => decide (x ≤ y)

theorem flat_str : ∀ l : List (List UInt8), flat l.length (strF l) = l.map fun x => AV.v (encStr x)
  | [] => rfl
  | x :: l => by
    show [AV.v (encStr x)] ++ flat l.length (strF l) = _
    rw [flat_str l]
    rfl
theorem pc_v {w : World} {keep : Nat → Prop} {x u : Value} (h : PC w keep (.v x) u) : u = x := by cases h; rfl
theorem pc_str {w : World} {keep : Nat → Prop} {l : List (List UInt8)} {us : List Value} (h : All2 (PC w keep) (flat l.length (strF l)) us) : us = l.map encStr := by
  rw [flat_str] at h
  apply List.ext_getElem?
  intro i
  rcases Nat.lt_or_ge i us.length with hi | hi
  · have hl : i < l.length := by have := h.1; rw [List.length_map] at this; omega
    have h2 := h.2 i (.v (encStr l[i])) us[i] (by rw [List.getElem?_map, List.getElem?_eq_getElem hl]; rfl) (List.getElem?_eq_getElem hi)
    rw [List.getElem?_eq_getElem hi, List.getElem?_map, List.getElem?_eq_getElem hl, pc_v h2]
    rfl
  · have hl : l.length ≤ i := by have := h.1; rw [List.length_map] at this; omega
    rw [List.getElem?_eq_none hi, List.getElem?_eq_none (by rw [List.length_map]; exact hl)]
theorem str_pc {w : World} {keep : Nat → Prop} (l : List (List UInt8)) : All2 (PC w keep) (flat l.length (strF l)) (l.map encStr) := by
  rw [flat_str]
  refine ⟨by simp, fun i x u hx hu => ?_⟩
  rw [List.getElem?_map] at hx hu
  cases hl : l[i]? with
  | none => rw [hl] at hx; cases hx
  | some y =>
    rw [hl] at hx hu
    simp only [Option.map_some, Option.some.injEq] at hx hu
    subst hx hu
    exact .v _ rfl
theorem str_obj {w : World} {keep : Nat → Prop} {ρ : Nat → Value} {id g cap : Nat} {cur : Array Value} (l : List (List UInt8)) (hv : ρ id = .slice (some ⟨g, 0, none⟩) l.length cap) (hg : w.heap[g]? = some (.cells cur 9 (0, 0))) (h1 : l.length ≤ cap) (h2 : cap ≤ maxLen) (h3 : cur.size = cap) (h4 : cur.toList.take l.length = l.map encStr) :
    ObjOk ⟨w, keep, ρ⟩ id (.row 9 1 l.length true (strF l)) := by
  refine ⟨l.map encStr, ⟨by simp, .inr ⟨g, cap, cur, hv, Nat.zero_le _, hg, h1, h2, by omega, by rw [Nat.mul_one]; exact h4⟩⟩, by omega, fun _ _ => rfl, fun _ x hx => ?_, str_pc l⟩
  rw [flat_str] at hx
  obtain ⟨y, _, rfl⟩ := List.mem_map.1 hx
  exact ⟨_, rfl⟩
theorem grow_put {α : Type} [Inhabited α] (enc : α → Value) (w : World) (n g : Nat) (d : Array α) (os : Array Obj) {cur : Array Value} {e : TypeId} (h : w.heap[g]? = some (.cells cur e (0, 0))) :
    w.heap.size ≤ (grow (putRow enc (Go.Sort.ahead w n) g 0 d) os).heap.size ∧ (∀ k, k < w.heap.size → k ≠ g → (grow (putRow enc (Go.Sort.ahead w n) g 0 d) os).heap[k]? = w.heap[k]?) ∧ (grow (putRow enc (Go.Sort.ahead w n) g 0 d) os).heap[g]? = some (.cells (putCells enc 0 d cur) e (0, 0)) := by
  have hlt : g < w.heap.size := by
    rcases Nat.lt_or_ge g w.heap.size with h' | h'
    · exact h'
    · rw [Array.getElem?_eq_none h'] at h; cases h
  refine ⟨by simp [grow, putRow, mapBlock, Go.Sort.ahead], fun k hk hne => ?_, ?_⟩
  · simp only [grow, putRow, mapBlock, Go.Sort.ahead]
    rw [Array.getElem?_append_left (by rw [Array.size_modify]; exact hk), Array.getElem?_modify, if_neg (fun e => hne e.symm)]
  · simp only [grow, putRow, mapBlock, Go.Sort.ahead]
    rw [Array.getElem?_append_left (by rw [Array.size_modify]; exact hlt), Array.getElem?_modify, if_pos rfl, h]
    rfl
theorem take_put (d : List (List UInt8)) (cur : Array Value) (n : Nat) (h : d.length ≤ cur.size) (hn : n ≤ d.length) : (putCells encStr 0 d.toArray cur).toList.take n = (d.take n).map encStr := by
  apply List.ext_getElem?
  intro i
  rw [List.getElem?_take, List.getElem?_map, List.getElem?_take]
  by_cases hi : i < n
  · rw [if_pos hi, if_pos hi]
    have hc : i < cur.size := by omega
    have hd : i < d.length := by omega
    rw [Array.getElem?_toList]
    simp only [putCells, Array.getElem?_mapIdx, Array.getElem?_eq_getElem hc, Option.map_some]
    rw [if_pos (by simp; omega), List.getElem?_eq_getElem hd]
    simp [hd]
  · rw [if_neg hi, if_neg hi]
    rfl
theorem holds_str {w : World} {g : Nat} {cur : Array Value} {e : TypeId} (l : List (List UInt8)) (hg : w.heap[g]? = some (.cells cur e (0, 0))) (h : cur.toList.take l.length = l.map encStr) : Holds encStr w g 0 l.toArray := by
  intro j hj
  have hj : j < l.length := hj
  have hc : cur[j]? = some (encStr l[j]) := by
    have := congrArg (·[j]?) h
    simp only [List.getElem?_take, List.getElem?_map, List.getElem?_eq_getElem hj, if_pos hj, Option.map_some, Array.getElem?_toList] at this
    exact this
  constructor
  · simp [World.cell?, hg, hc, hj]
  · simp [World.frozen?, hg]

theorem sort_mspec (l : List (List UInt8)) (hl : l.length ≤ 1000000000) :
    MSpec Try.prog 35 [(0, .row 9 1 l.length true (strF l))] [.own 0] (.tup []) [(0, .row 9 1 l.length true (strF (sortL l)))] := by
  refine ⟨⟨_, _, Try.func35, rfl, rfl⟩, fun w keep ρ args hk hobj hnd hbl hargs => ?_⟩
  have hso : (sortL l).length = l.length := List.length_mergeSort ..
  obtain ⟨us, hown, _, _, _, ha⟩ := hobj _ (List.mem_singleton.2 rfl)
  have hus := pc_str ha
  subst hus
  obtain ⟨u, rfl, hu⟩ := one_arg hargs
  have hu : u = ρ 0 := hu
  subst hu
  rcases hown.2 with ⟨hv, hn⟩ | ⟨g, cap, cur, hv, _, hg, hncap, hcm, hcs, htk⟩
  · have hnil : l = [] := List.eq_nil_of_length_eq_zero hn
    subst hnil
    have hc := Try.slices_Sort_string_none none 0 w
    rw [show (ρ 0) = .slice none 0 0 from hv]
    refine hc.mono ?_
    rintro e w' ⟨rfl, rfl⟩
    refine ⟨_, ρ, rfl, BelowM.refl _ _ _, fun _ _ _ _ _ => rfl, ⟨[], rfl, All2.nil⟩, fun p hp => ?_, hnd, fun b hb => .inr hb⟩
    obtain rfl := List.mem_singleton.1 hp
    exact ⟨[], ⟨rfl, .inl ⟨hv, rfl⟩⟩, by omega, fun i hi => absurd hi (Nat.not_lt_zero i), fun _ x hx => absurd hx (by simp [flat]), All2.nil⟩
  · have hlt : g < w.heap.size := by
      rcases Nat.lt_or_ge g w.heap.size with h' | h'
      · exact h'
      · rw [Array.getElem?_eq_none h'] at hg; cases hg
    rw [Nat.mul_one] at htk hcs
    have hc := Try.slices_Sort_string g 0 cap l w (holds_str l hg htk) hlt (by omega)
    rw [show (ρ 0) = .slice (some ⟨g, 0, none⟩) l.length cap from hv]
    refine hc.mono ?_
    rintro e w' ⟨rfl, n, os, rfl⟩
    obtain ⟨h1, h2, h3⟩ := grow_put encStr w n g (sortL l).toArray os hg
    have hb : g ∈ blocksOf ρ [(0, AO.row 9 1 l.length true (strF l))] := mem_blocks.2 ⟨_, List.mem_singleton.2 rfl, by rw [show ρ 0 = .slice (some ⟨g, 0, none⟩) l.length cap from hv]; rfl⟩
    refine ⟨_, ρ, rfl, ⟨rfl, rfl, rfl, h1, fun k hk hM => h2 k hk (by rintro rfl; exact hM hb)⟩, fun _ _ _ _ _ => rfl, ⟨[], rfl, All2.nil⟩, fun p hp => ?_, hnd, fun b hb => .inr hb⟩
    obtain rfl := List.mem_singleton.1 hp
    have := str_obj (w := grow (putRow encStr (Go.Sort.ahead w n) g 0 (sortL l).toArray) os) (keep := (cxOf ⟨w, keep, fun b => b ∈ blocksOf ρ [(0, AO.row 9 1 l.length true (strF l))]⟩ (grow (putRow encStr (Go.Sort.ahead w n) g 0 (sortL l).toArray) os) ρ [(0, AO.row 9 1 l.length true (strF (sortL l)))]).keep) (ρ := ρ) (id := 0) (sortL l) (by rw [hso]; exact hv) h3 (by omega) hcm (by simp [putCells]; exact hcs) (by rw [take_put _ _ _ (by omega) (Nat.le_refl _), List.take_length])
    rw [hso] at this
    exact this
theorem compact_le (l : List (List UInt8)) : (Lib.compact l).length ≤ l.length := Lib.compact_length_le l
theorem compact_mspec (l : List (List UInt8)) (hl : l.length ≤ 1000000000) :
    MSpec Try.prog 36 [(0, .row 9 1 l.length true (strF l))] [.own 0] (.own 1) [(1, .row 9 1 (Lib.compact l).length true (strF (Lib.compact l)))] := by
  refine ⟨⟨_, _, Try.func36, rfl, rfl⟩, fun w keep ρ args hk hobj hnd hbl hargs => ?_⟩
  have hle := compact_le l
  obtain ⟨us, hown, _, _, _, ha⟩ := hobj _ (List.mem_singleton.2 rfl)
  have hus := pc_str ha
  subst hus
  obtain ⟨u, rfl, hu⟩ := one_arg hargs
  have hu : u = ρ 0 := hu
  subst hu
  rcases hown.2 with ⟨hv, hn⟩ | ⟨g, cap, cur, hv, _, hg, hncap, hcm, hcs, htk⟩
  · have hnil : l = [] := List.eq_nil_of_length_eq_zero hn
    subst hnil
    have hc := Try.slices_Compact_string_empty none 0 w
    rw [show (ρ 0) = .slice none 0 0 from hv]
    refine hc.mono ?_
    rintro e w' ⟨rfl, rfl⟩
    let ρ' : Nat → Value := fun _ => .slice none 0 0
    refine ⟨_, ρ', rfl, BelowM.refl _ _ _, fun p hp q hq h => ?_, rfl, fun p hp => ?_, ?_, ?_⟩
    · obtain rfl := List.mem_singleton.1 hp
      obtain rfl := List.mem_singleton.1 hq
      cases h
    · obtain rfl := List.mem_singleton.1 hp
      exact ⟨[], ⟨rfl, .inl ⟨rfl, rfl⟩⟩, by omega, fun i hi => absurd hi (Nat.not_lt_zero i), fun _ x hx => absurd hx (by rw [show Lib.compact ([] : List (List UInt8)) = [] from rfl]; simp [flat]), All2.nil⟩
    · simp [blocksOf, ρ', blk]
    · intro b hb
      simp [blocksOf, ρ', blk] at hb
  · have hlt : g < w.heap.size := by
      rcases Nat.lt_or_ge g w.heap.size with h' | h'
      · exact h'
      · rw [Array.getElem?_eq_none h'] at hg; cases hg
    rw [Nat.mul_one] at htk hcs
    have hc := Try.slices_Compact_string g 0 cap l w (holds_str l hg htk) (by omega) hncap
    rw [show (ρ 0) = .slice (some ⟨g, 0, none⟩) l.length cap from hv]
    refine hc.mono ?_
    rintro e w' ⟨rfl, n, rfl⟩
    obtain ⟨d, hd⟩ : ∃ d, d = Lib.compact l ++ List.replicate (l.length - (Lib.compact l).length) [] := ⟨_, rfl⟩
    have hdl : d.length = l.length := by rw [hd, List.length_append, List.length_replicate]; omega
    rw [← hd]
    obtain ⟨h1, h2, h3⟩ := grow_put encStr w n g d.toArray #[] hg
    rw [grow_empty] at h1 h2 h3
    have hb : g ∈ blocksOf ρ [(0, AO.row 9 1 l.length true (strF l))] := mem_blocks.2 ⟨_, List.mem_singleton.2 rfl, by rw [show ρ 0 = .slice (some ⟨g, 0, none⟩) l.length cap from hv]; rfl⟩
    let ρ' : Nat → Value := fun _ => .slice (some ⟨g, 0, none⟩) (Lib.compact l).length cap
    refine ⟨_, ρ', rfl, ⟨rfl, rfl, rfl, h1, fun k hk hM => h2 k hk (by rintro rfl; exact hM hb)⟩, fun p hp q hq h => ?_, rfl, fun p hp => ?_, ?_, ?_⟩
    · obtain rfl := List.mem_singleton.1 hp
      obtain rfl := List.mem_singleton.1 hq
      cases h
    · obtain rfl := List.mem_singleton.1 hp
      exact str_obj (Lib.compact l) rfl h3 (by omega) hcm (by simp [putCells]; exact hcs) (by rw [take_put _ _ _ (by omega) (by omega), hd, List.take_left])
    · simp [blocksOf, ρ', blk]
    · intro b hbm
      have : b = g := by simpa [blocksOf, ρ', blk] using hbm
      subst this
      exact .inr hb
theorem sort_nil : ASpec Try.prog 35 [.v (.slice none 0 0)] (.tup []) [] := by
  refine ⟨⟨_, _, Try.func35, rfl, rfl⟩, fun w keep args hk hargs => ?_⟩
  obtain ⟨u, rfl, hu⟩ := one_arg hargs
  have hu : u = .slice none 0 0 := hu
  subst hu
  refine (Try.slices_Sort_string_none none 0 w).mono ?_
  rintro e w' ⟨rfl, rfl⟩
  exact ⟨_, fun _ => undef, rfl, Below.refl _ _, ⟨[], rfl, All2.nil⟩, (fun p hp => by cases hp), by simp [blocksOf], (fun b hb => by simp [blocksOf] at hb)⟩
theorem compact_nil : ASpec Try.prog 36 [.v (.slice none 0 0)] (.v (.slice none 0 0)) [] := by
  refine ⟨⟨_, _, Try.func36, rfl, rfl⟩, fun w keep args hk hargs => ?_⟩
  obtain ⟨u, rfl, hu⟩ := one_arg hargs
  have hu : u = .slice none 0 0 := hu
  subst hu
  refine (Try.slices_Compact_string_empty none 0 w).mono ?_
  rintro e w' ⟨rfl, rfl⟩
  exact ⟨_, fun _ => undef, rfl, Below.refl _ _, rfl, (fun p hp => by cases hp), by simp [blocksOf], (fun b hb => by simp [blocksOf] at hb)⟩
end Go.Proofs.Ytihjfndkgmjanaa
