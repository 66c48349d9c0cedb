/-
  What a past comes to: book.Of.
-/
import Derived.Test.YtihjfndkgmjanaaBkF
namespace Go.Proofs.Ytihjfndkgmjanaa
open Go.RowKit

instance : Inhabited Cont := ⟨⟨⟨#[]⟩, false, false, ⟨#[]⟩, ⟨#[]⟩, [], []⟩⟩
abbrev coF (l : List Cont) : Nat → List AV := elsF Cont.cs l
def keysB (l : List Ev) : List (List UInt8) := Lib.compact (sortL ((livingB l).map fun e => strL e.key))
def ofB (l : List Ev) : List Cont := (keysB l).map fun k => contactB ⟨k.toArray⟩ (countingB l (livingB l))
theorem OEq.rowF {e : TypeId} {s n n' : Nat} {sc : Bool} {f f' : Nat → List AV} (hn : n = n') (hf : ∀ i, i < n → f i = f' i) : OEq (.row e s n sc f) (.row e s n' false f') := by
  subst hn
  rintro X id ⟨us, hown, hs, hfl, _, ha⟩
  rw [flat_congr hf] at ha
  exact ⟨us, hown, hs, fun i hi => by rw [← hf i hi]; exact hfl i hi, (fun h => by cases h), ha⟩

set_option maxHeartbeats 8000000 in
set_option maxRecDepth 100000 in
theorem of_spec (l : List Ev) (hl : l.length ≤ 1000000000) :
    ASpec Try.prog 15 [.sl 12 l.length true (evF l)] (.sl 7 (ofB l).length false (coF (ofB l))) [] := by
  have hliv := living_spec l hl
  have hcl : (livingB l).length ≤ l.length := List.length_filter_le ..
  have hcou := counting_spec l (livingB l) hl (by omega)
  have hwl : (countingB l (livingB l)).length ≤ l.length := List.length_filter_le ..
  have hof : ofB l = (Lib.compact (sortL ((livingB l).map fun e => strL e.key))).map fun k => contactB ⟨k.toArray⟩ (countingB l (livingB l)) := rfl
  generalize ofB l = O at hof ⊢
  generalize countingB l (livingB l) = ws at hcou hwl hof
  generalize livingB l = C at hliv hcl hcou hof
  have hcon := fun k => contact_spec k ws (by omega)
  dsimp only [Cont.cs] at hcon
  refine aspec_of lay_ok 32213239229 Try.func15 rfl rfl rfl ?_
  repeat' ((conv => whnf); first | refine Spl.yes (by first | assumption | omega) ?_ | refine Spl.no (by first | assumption | omega) ?_ | refine Wr.i64 (by omega) (by omega) ?_ | refine Still.mk rfl rfl ?_ | refine InB.mk (inB_mk (by omega) (by omega)) ?_ | refine Req.mk (by omega) ?_ | refine Req.mk ⟨by first | omega | (dsimp only; omega), by first | omega | (dsimp only; omega)⟩ ?_ | refine ACall.plain _ _ (hliv) (SubL.cons (.eq _) .nil) rfl ?_ | refine ACall.plain _ _ (hcou) (SubL.cons (.eq _) (SubL.cons (.eq _) .nil)) rfl ?_ | refine ARet.hdI ?_ | refine Spl.mk (fun _ => ?_) (fun _ => ?_) | refine InA.mk (inB_mk (by omega) (by omega)) ?_ | refine Wr.b64 ?_ | refine Wr.bu64 ?_ | refine Wr.bu32 ?_ | refine Wr.bu8 ?_ | refine Wr.u8 (by omega) (by omega) ?_ | refine Wr.u64 (by omega) (by omega) ?_ | refine Wr.u32 (by omega) (by omega) ?_ | refine Dv.pos (by omega) (by omega) ?_ | refine Rm.pos (by omega) (by omega) ?_ | refine ADraw.quiet follows_ok (by kernel_rfl) rfl ?_ | refine BSpl.decY (by first | assumption | omega) ?_ | refine BSpl.decN (by first | assumption | omega) ?_ | refine BSpl.dec (fun _ => ?_) (fun _ => ?_) | refine BSpl.yes (by assumption) ?_ | refine BSpl.no (by assumption) ?_ | refine BSpl.mk (fun _ => ?_) (fun _ => ?_))
  conv => whnf
  refine ALoop.nil 5 90 9 1 (strF []) rfl (by omega) ?_
  conv => whnf
  refine ALoop.mk { j : Nat // j ≤ C.length } (fun j => ⟨[(4, .sl 12 ws.length true (evF ws)), (5, .own 90), (16, .sl 12 C.length true (evF C)), (17, .v (.int .i64 (C.length : Int))), (18, .v (.int .i64 (j.1 : Int)))],
      [(90, .row 9 1 ((C.take j.1).map fun e => strL e.key).length true (strF ((C.take j.1).map fun e => strL e.key)))], [], 91⟩) (fun j => C.length - j.1) ⟨0, Nat.zero_le _⟩ _
    (LeR.mk' [] _ _ _ rfl ⟨AEq.refl _, AEq.refl _, AEq.refl _, AEq.refl _, AEq.int rfl, trivial⟩ ⟨⟨_, rfl, OEq.refl _⟩, trivial⟩ rfl) ?_
  rintro ⟨j, hj⟩
  dsimp only
  have lm : ((C.take j).map fun e => strL e.key).length = j := by rw [List.length_map, List.length_take]; omega
  by_cases hjl : j < C.length
  · have hg : (C.take (j + 1)).map (fun e => strL e.key) = (C.take j).map (fun e => strL e.key) ++ [strL (C.getD (j : Int).toNat default).key] := by
      rw [show (C.getD (j : Int).toNat default) = C.getD j default from rfl, List.getD, List.getElem?_eq_getElem hjl, List.take_add_one, List.getElem?_eq_getElem hjl, List.map_append]
      rfl
    repeat' ((conv => whnf); first | refine Spl.yes (by first | assumption | omega) ?_ | refine Spl.no (by first | assumption | omega) ?_ | refine Wr.i64 (by omega) (by omega) ?_ | refine Still.mk rfl rfl ?_ | refine InB.mk (inB_mk (by omega) (by omega)) ?_ | refine Req.mk (by omega) ?_ | refine Req.mk ⟨by first | omega | (dsimp only; omega), by first | omega | (dsimp only; omega)⟩ ?_ | refine ARet.hdI ?_ | refine Spl.mk (fun _ => ?_) (fun _ => ?_) | refine InA.mk (inB_mk (by omega) (by omega)) ?_ | refine Wr.b64 ?_ | refine Wr.bu64 ?_ | refine Wr.bu32 ?_ | refine Wr.bu8 ?_ | refine Wr.u8 (by omega) (by omega) ?_ | refine Wr.u64 (by omega) (by omega) ?_ | refine Wr.u32 (by omega) (by omega) ?_ | refine Dv.pos (by omega) (by omega) ?_ | refine Rm.pos (by omega) (by omega) ?_ | refine ADraw.quiet follows_ok (by kernel_rfl) rfl ?_ | refine BSpl.decY (by first | assumption | omega) ?_ | refine BSpl.decN (by first | assumption | omega) ?_ | refine BSpl.dec (fun _ => ?_) (fun _ => ?_) | refine BSpl.yes (by assumption) ?_ | refine BSpl.no (by assumption) ?_ | refine BSpl.mk (fun _ => ?_) (fun _ => ?_))
    conv => whnf
    refine ⟨⟨j + 1, hjl⟩, _, LeR.mk' [(93, 90)] _ _ _ rfl ⟨AEq.refl _, AEq.refl _, AEq.refl _, AEq.refl _, AEq.int rfl, trivial⟩ ⟨⟨_, rfl, OEq.row ?_ (fun m hm => ?_)⟩, trivial⟩ rfl, by show C.length - (j + 1) < C.length - j; omega⟩
    · show _ = ((C.take (j + 1)).map fun e => strL e.key).length
      rw [hg, List.length_append]
      rfl
    · show _ = strF ((C.take (j + 1)).map fun e => strL e.key) m
      rw [hg]
      exact str_app1 (x := strL (C.getD (j : Int).toNat default).key) rfl (by rw [enc_strL]; rfl) m hm
  · rw [List.take_of_length_le (show C.length ≤ j by omega)] at lm ⊢
    generalize (C.map fun e => strL e.key) = K at lm hof ⊢
    have hso := sort_mspec K (by omega)
    have hsl : (sortL K).length = K.length := List.length_mergeSort ..
    have hco := compact_mspec (sortL K) (by omega)
    have hle := compact_le (sortL K)
    rw [hsl] at hco hle
    generalize Lib.compact (sortL K) = M at hco hle hof
    repeat' ((conv => whnf); first | refine Spl.yes (by first | assumption | omega) ?_ | refine Spl.no (by first | assumption | omega) ?_ | refine Wr.i64 (by omega) (by omega) ?_ | refine Still.mk rfl rfl ?_ | refine InB.mk (inB_mk (by omega) (by omega)) ?_ | refine Req.mk (by omega) ?_ | refine Req.mk ⟨by first | omega | (dsimp only; omega), by first | omega | (dsimp only; omega)⟩ ?_ | refine ACall.chgR 1 [(0, _)] (hso) rfl ⟨rfl, trivial⟩ rfl rfl ?_ | refine ACall.chgR 1 [(0, _)] (hco) rfl ⟨rfl, trivial⟩ rfl rfl ?_ | refine ARet.hdI ?_ | refine Spl.mk (fun _ => ?_) (fun _ => ?_) | refine InA.mk (inB_mk (by omega) (by omega)) ?_ | refine Wr.b64 ?_ | refine Wr.bu64 ?_ | refine Wr.bu32 ?_ | refine Wr.bu8 ?_ | refine Wr.u8 (by omega) (by omega) ?_ | refine Wr.u64 (by omega) (by omega) ?_ | refine Wr.u32 (by omega) (by omega) ?_ | refine Dv.pos (by omega) (by omega) ?_ | refine Rm.pos (by omega) (by omega) ?_ | refine ADraw.quiet follows_ok (by kernel_rfl) rfl ?_ | refine BSpl.decY (by first | assumption | omega) ?_ | refine BSpl.decN (by first | assumption | omega) ?_ | refine BSpl.dec (fun _ => ?_) (fun _ => ?_) | refine BSpl.yes (by assumption) ?_ | refine BSpl.no (by assumption) ?_ | refine BSpl.mk (fun _ => ?_) (fun _ => ?_))
    conv => whnf
    refine ALoop.nil 8 190 40 7 (coF []) rfl (by omega) ?_
    conv => whnf
    refine ALoop.mk { j : Nat // j ≤ M.length } (fun j => ⟨[(4, .sl 12 ws.length true (evF ws)), (8, .own 190), (31, .own 92), (32, .v (.int .i64 (M.length : Int))), (33, .v (.int .i64 (j.1 : Int)))],
      [(92, .row 9 1 M.length true (strF M)), (190, .row 40 7 ((M.take j.1).map fun k => contactB ⟨k.toArray⟩ ws).length false (coF ((M.take j.1).map fun k => contactB ⟨k.toArray⟩ ws)))], [], 191⟩) (fun j => M.length - j.1) ⟨0, Nat.zero_le _⟩ _
      (LeR.mk' [] _ _ _ rfl ⟨AEq.refl _, AEq.refl _, AEq.refl _, AEq.int rfl, AEq.int rfl, trivial⟩ ⟨⟨_, rfl, OEq.refl _⟩, ⟨_, rfl, OEq.rowF rfl (fun i hi => absurd hi (Nat.not_lt_zero i))⟩, trivial⟩ rfl) ?_
    rintro ⟨j, hj⟩
    dsimp only
    have lo : ((M.take j).map fun k => contactB ⟨k.toArray⟩ ws).length = j := by rw [List.length_map, List.length_take]; omega
    by_cases hjl : j < M.length
    · have hg : (M.take (j + 1)).map (fun k => contactB ⟨k.toArray⟩ ws) = (M.take j).map (fun k => contactB ⟨k.toArray⟩ ws) ++ [contactB ⟨(M.getD (j : Int).toNat []).toArray⟩ ws] := by
        rw [show M.getD (j : Int).toNat [] = M.getD j [] from rfl, List.getD, List.getElem?_eq_getElem hjl, List.take_add_one, List.getElem?_eq_getElem hjl, List.map_append]
        rfl
      repeat' ((conv => whnf); first | refine Spl.yes (by first | assumption | omega) ?_ | refine Spl.no (by first | assumption | omega) ?_ | refine Wr.i64 (by omega) (by omega) ?_ | refine Still.mk rfl rfl ?_ | refine InB.mk (inB_mk (by omega) (by omega)) ?_ | refine Req.mk (by omega) ?_ | refine Req.mk ⟨by first | omega | (dsimp only; omega), by first | omega | (dsimp only; omega)⟩ ?_ | refine ACall.plain _ _ (hcon _) (SubL.cons (.eq _) (SubL.cons (.eq _) .nil)) rfl ?_ | refine ARet.hdI ?_ | refine Spl.mk (fun _ => ?_) (fun _ => ?_) | refine InA.mk (inB_mk (by omega) (by omega)) ?_ | refine Wr.b64 ?_ | refine Wr.bu64 ?_ | refine Wr.bu32 ?_ | refine Wr.bu8 ?_ | refine Wr.u8 (by omega) (by omega) ?_ | refine Wr.u64 (by omega) (by omega) ?_ | refine Wr.u32 (by omega) (by omega) ?_ | refine Dv.pos (by omega) (by omega) ?_ | refine Rm.pos (by omega) (by omega) ?_ | refine ADraw.quiet follows_ok (by kernel_rfl) rfl ?_ | refine BSpl.decY (by first | assumption | omega) ?_ | refine BSpl.decN (by first | assumption | omega) ?_ | refine BSpl.dec (fun _ => ?_) (fun _ => ?_) | refine BSpl.yes (by assumption) ?_ | refine BSpl.no (by assumption) ?_ | refine BSpl.mk (fun _ => ?_) (fun _ => ?_))
      rotate_left
      · exact absurd (show Nat.ble _ _ = false by assumption) (by rw [Bool.not_eq_false, Nat.ble_eq]; omega)
      conv => whnf
      refine ⟨⟨j + 1, hjl⟩, _, LeR.mk' [(192, 190)] _ _ _ rfl ⟨AEq.refl _, AEq.refl _, AEq.refl _, AEq.int rfl, AEq.int rfl, trivial⟩ ⟨⟨_, rfl, OEq.refl _⟩, ⟨_, rfl, OEq.row ?_ (fun m hm => ?_)⟩, trivial⟩ rfl, by show M.length - (j + 1) < M.length - j; omega⟩
      · show _ = ((M.take (j + 1)).map fun k => contactB ⟨k.toArray⟩ ws).length
        rw [hg, List.length_append]
        rfl
      · show _ = coF ((M.take (j + 1)).map fun k => contactB ⟨k.toArray⟩ ws) m
        rw [hg]
        exact els_app1 (c := Cont.cs) rfl rfl m hm
    · rw [List.take_of_length_le (show M.length ≤ j by omega)] at lo ⊢
      rw [hof]
      repeat' ((conv => whnf); first | refine Spl.yes (by first | assumption | omega) ?_ | refine Spl.no (by first | assumption | omega) ?_ | refine Wr.i64 (by omega) (by omega) ?_ | refine Still.mk rfl rfl ?_ | refine InB.mk (inB_mk (by omega) (by omega)) ?_ | refine Req.mk (by omega) ?_ | refine Req.mk ⟨by first | omega | (dsimp only; omega), by first | omega | (dsimp only; omega)⟩ ?_ | refine ARet.hdI ?_ | refine Spl.mk (fun _ => ?_) (fun _ => ?_) | refine InA.mk (inB_mk (by omega) (by omega)) ?_ | refine Wr.b64 ?_ | refine Wr.bu64 ?_ | refine Wr.bu32 ?_ | refine Wr.bu8 ?_ | refine Wr.u8 (by omega) (by omega) ?_ | refine Wr.u64 (by omega) (by omega) ?_ | refine Wr.u32 (by omega) (by omega) ?_ | refine Dv.pos (by omega) (by omega) ?_ | refine Rm.pos (by omega) (by omega) ?_ | refine ADraw.quiet follows_ok (by kernel_rfl) rfl ?_ | refine BSpl.decY (by first | assumption | omega) ?_ | refine BSpl.decN (by first | assumption | omega) ?_ | refine BSpl.dec (fun _ => ?_) (fun _ => ?_) | refine BSpl.yes (by assumption) ?_ | refine BSpl.no (by assumption) ?_ | refine BSpl.mk (fun _ => ?_) (fun _ => ?_))
      conv => whnf
      exact AEqI.mk (AEq.refl _)
end Go.Proofs.Ytihjfndkgmjanaa
