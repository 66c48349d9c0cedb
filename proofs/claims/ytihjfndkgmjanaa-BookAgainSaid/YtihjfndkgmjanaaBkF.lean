/-
  The contact of a key.
-/
import Derived.Test.YtihjfndkgmjanaaBkD
import Derived.Test.YtihjfndkgmjanaaBkS
import Derived.Test.YtihjfndkgmjanaaBkL
namespace Go.Proofs.Ytihjfndkgmjanaa
open Go.RowKit

def ofK (key : ByteArray) (n : Int) (e : Ev) : Bool := decide (e.key = key) && decide (e.l = n)
def setsB (key : ByteArray) (n : Int) (ws : List Ev) : List Ev := ws.filter fun e => ofK key n e && decide (e.k = 3)
def addsB (key : ByteArray) (n : Int) (ws : List Ev) : List Ev := ws.filter fun e => ofK key n e && !decide (e.k = 3)
def strL (b : ByteArray) : List UInt8 := b.data.toList
def stampE (e : Ev) : St := (e.h, e.r)
theorem enc_strL (b : ByteArray) : encStr (strL b) = .string b := by
  obtain ⟨a⟩ := b
  simp [strL]
theorem str_app1 {l : List (List UInt8)} {x : List UInt8} {g : Nat → List AV} {n : Nat} (hn : n = l.length) (hg : g 0 = [.v (encStr x)]) : ∀ i, i < n + 1 → appF n (strF l) g i = strF (l ++ [x]) i :=
  els_app1 (c := fun x => [.v (encStr x)]) hn hg

/-- A contact. -/
structure Cont where
  (key : ByteArray) (h0 h1 : Bool) (f0 f1 : ByteArray) (s0 s1 : List (List UInt8))
def Cont.cs (c : Cont) : List AV := [.v (.string c.key), .v (.bool c.h0), .v (.bool c.h1), .v (.string c.f0), .v (.string c.f1), .sl 1 c.s0.length true (strF c.s0), .sl 1 c.s1.length true (strF c.s1)]
def hasF (A : List Ev) : Bool := !decide (A.length = 0)
def fieldF (A : List Ev) : ByteArray := if A.length = 0 then ⟨#[]⟩ else ⟨((A.map fun e => strL e.v).getD (lastN (A.map stampE)) []).toArray⟩
def valsF (B : List Ev) : List (List UInt8) := Lib.compact (sortL (B.map fun e => strL e.v))
def contactB (key : ByteArray) (ws : List Ev) : Cont := ⟨key, hasF (setsB key 0 ws), hasF (setsB key 1 ws), fieldF (setsB key 0 ws), fieldF (setsB key 1 ws), valsF (addsB key 0 ws), valsF (addsB key 1 ws)⟩

set_option maxHeartbeats 8000000 in
set_option maxRecDepth 100000 in
theorem contact_spec (key : ByteArray) (ws : List Ev) (hl : ws.length ≤ 1000000000) :
    ASpec Try.prog 37 [.v (.string key), .sl 12 ws.length true (evF ws)] (.agg (contactB key ws).cs) [] := by
  dsimp only [contactB, Cont.cs]
  refine aspec_of lay_ok 144115226732579827 Try.func37 rfl rfl rfl ?_
  repeat' ((conv => whnf); first | refine Spl.yes (by first | assumption | omega) ?_ | refine Spl.no (by first | assumption | omega) ?_ | refine Wr.i64 (by omega) (by omega) ?_ | refine Still.mk rfl rfl ?_ | refine InB.mk (inB_mk (by omega) (by omega)) ?_ | refine Req.mk (by omega) ?_ | refine Req.mk ⟨by first | omega | (dsimp only; omega), by first | omega | (dsimp only; omega)⟩ ?_ | refine ARet.hdI ?_ | refine Spl.mk (fun _ => ?_) (fun _ => ?_) | refine InA.mk (inB_mk (by omega) (by omega)) ?_ | refine Wr.b64 ?_ | refine Wr.bu64 ?_ | refine Wr.bu32 ?_ | refine Wr.bu8 ?_ | refine Wr.u8 (by omega) (by omega) ?_ | refine Wr.u64 (by omega) (by omega) ?_ | refine Wr.u32 (by omega) (by omega) ?_ | refine Dv.pos (by omega) (by omega) ?_ | refine Rm.pos (by omega) (by omega) ?_ | refine ADraw.quiet follows_ok (by kernel_rfl) rfl ?_ | refine BSpl.decY (by first | assumption | omega) ?_ | refine BSpl.decN (by first | assumption | omega) ?_ | refine BSpl.dec (fun _ => ?_) (fun _ => ?_) | refine BSpl.yes (by assumption) ?_ | refine BSpl.no (by assumption) ?_ | refine BSpl.mk (fun _ => ?_) (fun _ => ?_))
  conv => whnf
  refine ALoop.unr 14 3 rfl ?_
  repeat' ((conv => whnf); first | refine Spl.yes (by first | assumption | omega) ?_ | refine Spl.no (by first | assumption | omega) ?_ | refine Wr.i64 (by omega) (by omega) ?_ | refine Still.mk rfl rfl ?_ | refine InB.mk (inB_mk (by omega) (by omega)) ?_ | refine Req.mk (by omega) ?_ | refine Req.mk ⟨by first | omega | (dsimp only; omega), by first | omega | (dsimp only; omega)⟩ ?_ | refine ARet.hdI ?_ | refine Spl.mk (fun _ => ?_) (fun _ => ?_) | refine InA.mk (inB_mk (by omega) (by omega)) ?_ | refine Wr.b64 ?_ | refine Wr.bu64 ?_ | refine Wr.bu32 ?_ | refine Wr.bu8 ?_ | refine Wr.u8 (by omega) (by omega) ?_ | refine Wr.u64 (by omega) (by omega) ?_ | refine Wr.u32 (by omega) (by omega) ?_ | refine Dv.pos (by omega) (by omega) ?_ | refine Rm.pos (by omega) (by omega) ?_ | refine ADraw.quiet follows_ok (by kernel_rfl) rfl ?_ | refine BSpl.decY (by first | assumption | omega) ?_ | refine BSpl.decN (by first | assumption | omega) ?_ | refine BSpl.dec (fun _ => ?_) (fun _ => ?_) | refine BSpl.yes (by assumption) ?_ | refine BSpl.no (by assumption) ?_ | refine BSpl.mk (fun _ => ?_) (fun _ => ?_))
  conv => whnf
  refine ALoop.nil 7 90 77 2 (stF []) rfl (by omega) ?_
  refine ALoop.nil 8 91 9 1 (strF []) rfl (by omega) ?_
  refine ALoop.nil 9 92 9 1 (strF []) rfl (by omega) ?_
  conv => whnf
  refine ALoop.mk { j : Nat // j ≤ ws.length } (fun j => ⟨[(0, .v (.string key)), (1, .sl 12 ws.length true (evF ws)), (4, .box 0 0), (5, .box 1 0), (6, .v (.int .i64 0)), (14, .v (.int .i64 0)), (7, .own 90), (8, .own 91), (9, .own 92), (17, .sl 12 ws.length true (evF ws)), (18, .v (.int .i64 (ws.length : Int))), (19, .v (.int .i64 (j.1 : Int)))],
      [(0, _), (1, _), (90, .row 77 2 ((setsB key 0 (ws.take j.1)).map stampE).length true (stF ((setsB key 0 (ws.take j.1)).map stampE))),
       (91, .row 9 1 ((setsB key 0 (ws.take j.1)).map fun e => strL e.v).length true (strF ((setsB key 0 (ws.take j.1)).map fun e => strL e.v))),
       (92, .row 9 1 ((addsB key 0 (ws.take j.1)).map fun e => strL e.v).length true (strF ((addsB key 0 (ws.take j.1)).map fun e => strL e.v)))], [], 93⟩) (fun j => ws.length - j.1) ⟨0, Nat.zero_le _⟩ _
    (LeR.mk' [] _ _ _ rfl ⟨AEq.refl _, AEq.refl _, AEq.refl _, AEq.refl _, AEq.refl _, AEq.refl _, AEq.refl _, AEq.refl _, AEq.refl _, AEq.refl _, AEq.refl _, AEq.int rfl, trivial⟩ ⟨⟨_, rfl, OEq.refl _⟩, ⟨_, rfl, OEq.refl _⟩, ⟨_, rfl, OEq.refl _⟩, ⟨_, rfl, OEq.refl _⟩, ⟨_, rfl, OEq.refl _⟩, trivial⟩ rfl) ?_
  rintro ⟨j, hj⟩
  dsimp only
  by_cases hjl : j < ws.length
  · have hA : (setsB key 0 (ws.take j)).length ≤ j := by
      have := List.length_filter_le (fun e => ofK key 0 e && decide (e.k = 3)) (ws.take j)
      rw [List.length_take] at this
      unfold setsB
      omega
    have hB : (addsB key 0 (ws.take j)).length ≤ j := by
      have := List.length_filter_le (fun e => ofK key 0 e && !decide (e.k = 3)) (ws.take j)
      rw [List.length_take] at this
      unfold addsB
      omega
    have sA : setsB key 0 (ws.take (j + 1)) = setsB key 0 (ws.take j) ++ (if (ofK key 0 (ws.getD (j : Int).toNat default) && decide ((ws.getD (j : Int).toNat default).k = 3)) = true then [ws.getD (j : Int).toNat default] else []) := filter_take hjl
    have sB : addsB key 0 (ws.take (j + 1)) = addsB key 0 (ws.take j) ++ (if (ofK key 0 (ws.getD (j : Int).toNat default) && !decide ((ws.getD (j : Int).toNat default).k = 3)) = true then [ws.getD (j : Int).toNat default] else []) := filter_take hjl
    generalize setsB key 0 (ws.take j) = A at hA sA ⊢
    generalize addsB key 0 (ws.take j) = B at hB sB ⊢
    have lA : (A.map stampE).length = A.length := List.length_map ..
    have lA2 : (A.map fun e => strL e.v).length = A.length := List.length_map ..
    have lB : (B.map fun e => strL e.v).length = B.length := List.length_map ..
    have eqS {X Y : List St} (h : X = Y) : OEq (.row 77 2 X.length true (stF X)) (.row 77 2 Y.length true (stF Y)) := by rw [h]; exact OEq.refl _
    have eqL {X Y : List (List UInt8)} (h : X = Y) : OEq (.row 9 1 X.length true (strF X)) (.row 9 1 Y.length true (strF Y)) := by rw [h]; exact OEq.refl _
    have mea : ws.length - (j + 1) < ws.length - j := by omega
    repeat' ((conv => whnf); first | refine Spl.yes (by first | assumption | omega) ?_ | refine Spl.no (by first | assumption | omega) ?_ | refine Wr.i64 (by omega) (by omega) ?_ | refine Still.mk rfl rfl ?_ | refine InB.mk (inB_mk (by omega) (by omega)) ?_ | refine Req.mk (by omega) ?_ | refine Req.mk ⟨by first | omega | (dsimp only; omega), by first | omega | (dsimp only; omega)⟩ ?_ | refine ARet.hdI ?_ | refine Spl.mk (fun _ => ?_) (fun _ => ?_) | refine InA.mk (inB_mk (by omega) (by omega)) ?_ | refine Wr.b64 ?_ | refine Wr.bu64 ?_ | refine Wr.bu32 ?_ | refine Wr.bu8 ?_ | refine Wr.u8 (by omega) (by omega) ?_ | refine Wr.u64 (by omega) (by omega) ?_ | refine Wr.u32 (by omega) (by omega) ?_ | refine Dv.pos (by omega) (by omega) ?_ | refine Rm.pos (by omega) (by omega) ?_ | refine ADraw.quiet follows_ok (by kernel_rfl) rfl ?_ | refine BSpl.decY (by first | assumption | omega) ?_ | refine BSpl.decN (by first | assumption | omega) ?_ | refine BSpl.dec (fun _ => ?_) (fun _ => ?_) | refine BSpl.yes (by assumption) ?_ | refine BSpl.no (by assumption) ?_ | refine BSpl.mk (fun _ => ?_) (fun _ => ?_))
    all_goals (conv => whnf)
    · have kA : setsB key 0 (ws.take (j + 1)) = A ++ [ws.getD (j : Int).toNat default] := by rw [sA, if_pos (by simp only [ofK]; rw [decide_eq_true (by assumption), decide_eq_true (by assumption), decide_eq_true (by assumption)]; rfl)]
      have kB : addsB key 0 (ws.take (j + 1)) = B := by rw [sB, if_neg (by rw [decide_eq_true (show (ws.getD (j : Int).toNat default).k = 3 by assumption)]; simp), List.append_nil]
      refine ⟨⟨j + 1, hjl⟩, _, LeR.mk' [(95, 90), (97, 91)] _ _ _ rfl ⟨AEq.refl _, AEq.refl _, AEq.refl _, AEq.refl _, AEq.refl _, AEq.refl _, AEq.refl _, AEq.refl _, AEq.refl _, AEq.refl _, AEq.refl _, AEq.int rfl, trivial⟩ ⟨⟨_, rfl, OEq.refl _⟩, ⟨_, rfl, OEq.refl _⟩, ⟨_, rfl, OEq.row ?_ (fun m hm => ?_)⟩, ⟨_, rfl, OEq.row ?_ (fun m hm => ?_)⟩, ⟨_, rfl, eqL (by rw [kB])⟩, trivial⟩ rfl, mea⟩
      · show _ = ((setsB key 0 (ws.take (j + 1))).map stampE).length
        rw [kA, List.map_append, List.length_append]
        rfl
      · show _ = stF ((setsB key 0 (ws.take (j + 1))).map stampE) m
        rw [kA, List.map_append]
        exact els_app1 (c := stC) (x := stampE (ws.getD (j : Int).toNat default)) rfl rfl m hm
      · show _ = ((setsB key 0 (ws.take (j + 1))).map fun e => strL e.v).length
        rw [kA, List.map_append, List.length_append]
        rfl
      · show _ = strF ((setsB key 0 (ws.take (j + 1))).map fun e => strL e.v) m
        rw [kA, List.map_append]
        exact str_app1 (x := strL (ws.getD (j : Int).toNat default).v) rfl (by rw [enc_strL]; rfl) m hm
    · have kA : setsB key 0 (ws.take (j + 1)) = A := by rw [sA, if_neg (by rw [decide_eq_false (show ¬ (ws.getD (j : Int).toNat default).k = 3 by assumption)]; simp), List.append_nil]
      have kB : addsB key 0 (ws.take (j + 1)) = B ++ [ws.getD (j : Int).toNat default] := by rw [sB, if_pos (by simp only [ofK]; rw [decide_eq_true (by assumption), decide_eq_true (by assumption), decide_eq_false (by assumption)]; rfl)]
      refine ⟨⟨j + 1, hjl⟩, _, LeR.mk' [(95, 92)] _ _ _ rfl ⟨AEq.refl _, AEq.refl _, AEq.refl _, AEq.refl _, AEq.refl _, AEq.refl _, AEq.refl _, AEq.refl _, AEq.refl _, AEq.refl _, AEq.refl _, AEq.int rfl, trivial⟩ ⟨⟨_, rfl, OEq.refl _⟩, ⟨_, rfl, OEq.refl _⟩, ⟨_, rfl, eqS (by rw [kA])⟩, ⟨_, rfl, eqL (by rw [kA])⟩, ⟨_, rfl, OEq.row ?_ (fun m hm => ?_)⟩, trivial⟩ rfl, mea⟩
      · show _ = ((addsB key 0 (ws.take (j + 1))).map fun e => strL e.v).length
        rw [kB, List.map_append, List.length_append]
        rfl
      · show _ = strF ((addsB key 0 (ws.take (j + 1))).map fun e => strL e.v) m
        rw [kB, List.map_append]
        exact str_app1 (x := strL (ws.getD (j : Int).toNat default).v) rfl (by rw [enc_strL]; rfl) m hm
    all_goals
      have hof : ofK key 0 (ws.getD (j : Int).toNat default) = false := by
        unfold ofK
        first
          | (rw [decide_eq_false (show ¬ (ws.getD (j : Int).toNat default).key = key by assumption)]; rfl)
          | (rw [decide_eq_false (show ¬ (ws.getD (j : Int).toNat default).l = 0 by assumption)]; simp)
      have kA : setsB key 0 (ws.take (j + 1)) = A := by rw [sA, hof]; simp
      have kB : addsB key 0 (ws.take (j + 1)) = B := by rw [sB, hof]; simp
      exact ⟨⟨j + 1, hjl⟩, _, LeR.mk' [] _ _ _ rfl ⟨AEq.refl _, AEq.refl _, AEq.refl _, AEq.refl _, AEq.refl _, AEq.refl _, AEq.refl _, AEq.refl _, AEq.refl _, AEq.refl _, AEq.refl _, AEq.int rfl, trivial⟩ ⟨⟨_, rfl, OEq.refl _⟩, ⟨_, rfl, OEq.refl _⟩, ⟨_, rfl, eqS (by rw [kA])⟩, ⟨_, rfl, eqL (by rw [kA])⟩, ⟨_, rfl, eqL (by rw [kB])⟩, trivial⟩ rfl, mea⟩
  · rw [List.take_of_length_le (show ws.length ≤ j by omega)]
    have hA : (setsB key 0 ws).length ≤ ws.length := List.length_filter_le ..
    have hB : (addsB key 0 ws).length ≤ ws.length := List.length_filter_le ..
    generalize setsB key 0 ws = A at hA ⊢
    generalize addsB key 0 ws = B at hB ⊢
    have lA : (A.map stampE).length = A.length := List.length_map ..
    have lA2 : (A.map fun e => strL e.v).length = A.length := List.length_map ..
    have lB : (B.map fun e => strL e.v).length = B.length := List.length_map ..
    have hso := sort_mspec (B.map fun e => strL e.v) (by omega)
    have hsl : (sortL (B.map fun e => strL e.v)).length = (B.map fun e => strL e.v).length := List.length_mergeSort ..
    have hco := compact_mspec (sortL (B.map fun e => strL e.v)) (by omega)
    rw [hsl] at hco
    by_cases hz : A.length = 0
    · repeat' ((conv => whnf); first | refine Spl.yes (by first | assumption | omega) ?_ | refine Spl.no (by first | assumption | omega) ?_ | refine Wr.i64 (by omega) (by omega) ?_ | refine Still.mk rfl rfl ?_ | refine InB.mk (inB_mk (by omega) (by omega)) ?_ | refine Req.mk (by omega) ?_ | refine Req.mk ⟨by first | omega | (dsimp only; omega), by first | omega | (dsimp only; omega)⟩ ?_ | refine ACall.chgR 1 [(0, _)] (hso) rfl ⟨rfl, trivial⟩ rfl rfl ?_ | refine ACall.chgR 1 [(0, _)] (hco) rfl ⟨rfl, trivial⟩ rfl rfl ?_ | refine ARet.hdI ?_ | refine Spl.mk (fun _ => ?_) (fun _ => ?_) | refine InA.mk (inB_mk (by omega) (by omega)) ?_ | refine Wr.b64 ?_ | refine Wr.bu64 ?_ | refine Wr.bu32 ?_ | refine Wr.bu8 ?_ | refine Wr.u8 (by omega) (by omega) ?_ | refine Wr.u64 (by omega) (by omega) ?_ | refine Wr.u32 (by omega) (by omega) ?_ | refine Dv.pos (by omega) (by omega) ?_ | refine Rm.pos (by omega) (by omega) ?_ | refine ADraw.quiet follows_ok (by kernel_rfl) rfl ?_ | refine BSpl.decY (by first | assumption | omega) ?_ | refine BSpl.decN (by first | assumption | omega) ?_ | refine BSpl.dec (fun _ => ?_) (fun _ => ?_) | refine BSpl.yes (by assumption) ?_ | refine BSpl.no (by assumption) ?_ | refine BSpl.mk (fun _ => ?_) (fun _ => ?_))
      conv => whnf
      refine ALoop.nil 7 190 77 2 (stF []) rfl (by omega) ?_
      refine ALoop.nil 8 191 9 1 (strF []) rfl (by omega) ?_
      refine ALoop.nil 9 192 9 1 (strF []) rfl (by omega) ?_
      conv => whnf
      refine ALoop.mk { j : Nat // j ≤ ws.length } (fun j => ⟨[(0, .v (.string key)), (1, .sl 12 ws.length true (evF ws)), (4, .box 0 0), (5, .box 1 0), (6, .v (.int .i64 1)), (14, .v (.int .i64 1)), (7, .own 190), (8, .own 191), (9, .own 192), (17, .sl 12 ws.length true (evF ws)), (18, .v (.int .i64 (ws.length : Int))), (19, .v (.int .i64 (j.1 : Int)))],
          [(0, _), (1, _), (94, _), (190, .row 77 2 ((setsB key 1 (ws.take j.1)).map stampE).length true (stF ((setsB key 1 (ws.take j.1)).map stampE))),
           (191, .row 9 1 ((setsB key 1 (ws.take j.1)).map fun e => strL e.v).length true (strF ((setsB key 1 (ws.take j.1)).map fun e => strL e.v))),
           (192, .row 9 1 ((addsB key 1 (ws.take j.1)).map fun e => strL e.v).length true (strF ((addsB key 1 (ws.take j.1)).map fun e => strL e.v)))], [], 193⟩) (fun j => ws.length - j.1) ⟨0, Nat.zero_le _⟩ _
        (LeR.mk' [] _ _ _ rfl ⟨AEq.refl _, AEq.refl _, AEq.refl _, AEq.refl _, AEq.refl _, AEq.refl _, AEq.refl _, AEq.refl _, AEq.refl _, AEq.refl _, AEq.refl _, AEq.int rfl, trivial⟩ ⟨⟨_, rfl, OEq.refl _⟩, ⟨_, rfl, OEq.refl _⟩, ⟨_, rfl, OEq.refl _⟩, ⟨_, rfl, OEq.refl _⟩, ⟨_, rfl, OEq.refl _⟩, ⟨_, rfl, OEq.refl _⟩, trivial⟩ rfl) ?_
      rintro ⟨j, hj⟩
      dsimp only
      by_cases hjl : j < ws.length
      · have hA : (setsB key 1 (ws.take j)).length ≤ j := by
          have := List.length_filter_le (fun e => ofK key 1 e && decide (e.k = 3)) (ws.take j)
          rw [List.length_take] at this
          unfold setsB
          omega
        have hB : (addsB key 1 (ws.take j)).length ≤ j := by
          have := List.length_filter_le (fun e => ofK key 1 e && !decide (e.k = 3)) (ws.take j)
          rw [List.length_take] at this
          unfold addsB
          omega
        have sA : setsB key 1 (ws.take (j + 1)) = setsB key 1 (ws.take j) ++ (if (ofK key 1 (ws.getD (j : Int).toNat default) && decide ((ws.getD (j : Int).toNat default).k = 3)) = true then [ws.getD (j : Int).toNat default] else []) := filter_take hjl
        have sB : addsB key 1 (ws.take (j + 1)) = addsB key 1 (ws.take j) ++ (if (ofK key 1 (ws.getD (j : Int).toNat default) && !decide ((ws.getD (j : Int).toNat default).k = 3)) = true then [ws.getD (j : Int).toNat default] else []) := filter_take hjl
        generalize setsB key 1 (ws.take j) = A at hA sA ⊢
        generalize addsB key 1 (ws.take j) = B at hB sB ⊢
        have lA : (A.map stampE).length = A.length := List.length_map ..
        have lA2 : (A.map fun e => strL e.v).length = A.length := List.length_map ..
        have lB : (B.map fun e => strL e.v).length = B.length := List.length_map ..
        have eqS {X Y : List St} (h : X = Y) : OEq (.row 77 2 X.length true (stF X)) (.row 77 2 Y.length true (stF Y)) := by rw [h]; exact OEq.refl _
        have eqL {X Y : List (List UInt8)} (h : X = Y) : OEq (.row 9 1 X.length true (strF X)) (.row 9 1 Y.length true (strF Y)) := by rw [h]; exact OEq.refl _
        have mea : ws.length - (j + 1) < ws.length - j := by omega
        repeat' ((conv => whnf); first | refine Spl.yes (by first | assumption | omega) ?_ | refine Spl.no (by first | assumption | omega) ?_ | refine Wr.i64 (by omega) (by omega) ?_ | refine Still.mk rfl rfl ?_ | refine InB.mk (inB_mk (by omega) (by omega)) ?_ | refine Req.mk (by omega) ?_ | refine Req.mk ⟨by first | omega | (dsimp only; omega), by first | omega | (dsimp only; omega)⟩ ?_ | refine ARet.hdI ?_ | refine Spl.mk (fun _ => ?_) (fun _ => ?_) | refine InA.mk (inB_mk (by omega) (by omega)) ?_ | refine Wr.b64 ?_ | refine Wr.bu64 ?_ | refine Wr.bu32 ?_ | refine Wr.bu8 ?_ | refine Wr.u8 (by omega) (by omega) ?_ | refine Wr.u64 (by omega) (by omega) ?_ | refine Wr.u32 (by omega) (by omega) ?_ | refine Dv.pos (by omega) (by omega) ?_ | refine Rm.pos (by omega) (by omega) ?_ | refine ADraw.quiet follows_ok (by kernel_rfl) rfl ?_ | refine BSpl.decY (by first | assumption | omega) ?_ | refine BSpl.decN (by first | assumption | omega) ?_ | refine BSpl.dec (fun _ => ?_) (fun _ => ?_) | refine BSpl.yes (by assumption) ?_ | refine BSpl.no (by assumption) ?_ | refine BSpl.mk (fun _ => ?_) (fun _ => ?_))
        all_goals (conv => whnf)
        · have kA : setsB key 1 (ws.take (j + 1)) = A ++ [ws.getD (j : Int).toNat default] := by rw [sA, if_pos (by simp only [ofK]; rw [decide_eq_true (by assumption), decide_eq_true (by assumption), decide_eq_true (by assumption)]; rfl)]
          have kB : addsB key 1 (ws.take (j + 1)) = B := by rw [sB, if_neg (by rw [decide_eq_true (show (ws.getD (j : Int).toNat default).k = 3 by assumption)]; simp), List.append_nil]
          refine ⟨⟨j + 1, hjl⟩, _, LeR.mk' [(195, 190), (197, 191)] _ _ _ rfl ⟨AEq.refl _, AEq.refl _, AEq.refl _, AEq.refl _, AEq.refl _, AEq.refl _, AEq.refl _, AEq.refl _, AEq.refl _, AEq.refl _, AEq.refl _, AEq.int rfl, trivial⟩ ⟨⟨_, rfl, OEq.refl _⟩, ⟨_, rfl, OEq.refl _⟩, ⟨_, rfl, OEq.refl _⟩, ⟨_, rfl, OEq.row ?_ (fun m hm => ?_)⟩, ⟨_, rfl, OEq.row ?_ (fun m hm => ?_)⟩, ⟨_, rfl, eqL (by rw [kB])⟩, trivial⟩ rfl, mea⟩
          · show _ = ((setsB key 1 (ws.take (j + 1))).map stampE).length
            rw [kA, List.map_append, List.length_append]
            rfl
          · show _ = stF ((setsB key 1 (ws.take (j + 1))).map stampE) m
            rw [kA, List.map_append]
            exact els_app1 (c := stC) (x := stampE (ws.getD (j : Int).toNat default)) rfl rfl m hm
          · show _ = ((setsB key 1 (ws.take (j + 1))).map fun e => strL e.v).length
            rw [kA, List.map_append, List.length_append]
            rfl
          · show _ = strF ((setsB key 1 (ws.take (j + 1))).map fun e => strL e.v) m
            rw [kA, List.map_append]
            exact str_app1 (x := strL (ws.getD (j : Int).toNat default).v) rfl (by rw [enc_strL]; rfl) m hm
        · have kA : setsB key 1 (ws.take (j + 1)) = A := by rw [sA, if_neg (by rw [decide_eq_false (show ¬ (ws.getD (j : Int).toNat default).k = 3 by assumption)]; simp), List.append_nil]
          have kB : addsB key 1 (ws.take (j + 1)) = B ++ [ws.getD (j : Int).toNat default] := by rw [sB, if_pos (by simp only [ofK]; rw [decide_eq_true (by assumption), decide_eq_true (by assumption), decide_eq_false (by assumption)]; rfl)]
          refine ⟨⟨j + 1, hjl⟩, _, LeR.mk' [(195, 192)] _ _ _ rfl ⟨AEq.refl _, AEq.refl _, AEq.refl _, AEq.refl _, AEq.refl _, AEq.refl _, AEq.refl _, AEq.refl _, AEq.refl _, AEq.refl _, AEq.refl _, AEq.int rfl, trivial⟩ ⟨⟨_, rfl, OEq.refl _⟩, ⟨_, rfl, OEq.refl _⟩, ⟨_, rfl, OEq.refl _⟩, ⟨_, rfl, eqS (by rw [kA])⟩, ⟨_, rfl, eqL (by rw [kA])⟩, ⟨_, rfl, OEq.row ?_ (fun m hm => ?_)⟩, trivial⟩ rfl, mea⟩
          · show _ = ((addsB key 1 (ws.take (j + 1))).map fun e => strL e.v).length
            rw [kB, List.map_append, List.length_append]
            rfl
          · show _ = strF ((addsB key 1 (ws.take (j + 1))).map fun e => strL e.v) m
            rw [kB, List.map_append]
            exact str_app1 (x := strL (ws.getD (j : Int).toNat default).v) rfl (by rw [enc_strL]; rfl) m hm
        all_goals
          have hof : ofK key 1 (ws.getD (j : Int).toNat default) = false := by
            unfold ofK
            first
              | (rw [decide_eq_false (show ¬ (ws.getD (j : Int).toNat default).key = key by assumption)]; rfl)
              | (rw [decide_eq_false (show ¬ (ws.getD (j : Int).toNat default).l = 1 by assumption)]; simp)
          have kA : setsB key 1 (ws.take (j + 1)) = A := by rw [sA, hof]; simp
          have kB : addsB key 1 (ws.take (j + 1)) = B := by rw [sB, hof]; simp
          exact ⟨⟨j + 1, hjl⟩, _, LeR.mk' [] _ _ _ rfl ⟨AEq.refl _, AEq.refl _, AEq.refl _, AEq.refl _, AEq.refl _, AEq.refl _, AEq.refl _, AEq.refl _, AEq.refl _, AEq.refl _, AEq.refl _, AEq.int rfl, trivial⟩ ⟨⟨_, rfl, OEq.refl _⟩, ⟨_, rfl, OEq.refl _⟩, ⟨_, rfl, OEq.refl _⟩, ⟨_, rfl, eqS (by rw [kA])⟩, ⟨_, rfl, eqL (by rw [kA])⟩, ⟨_, rfl, eqL (by rw [kB])⟩, trivial⟩ rfl, mea⟩
      · rw [List.take_of_length_le (show ws.length ≤ j by omega)]
        have hA1 : (setsB key 1 ws).length ≤ ws.length := List.length_filter_le ..
        have hB1 : (addsB key 1 ws).length ≤ ws.length := List.length_filter_le ..
        generalize setsB key 1 ws = A1 at hA1 ⊢
        generalize addsB key 1 ws = B1 at hB1 ⊢
        have lA1 : (A1.map stampE).length = A1.length := List.length_map ..
        have lA21 : (A1.map fun e => strL e.v).length = A1.length := List.length_map ..
        have lB1 : (B1.map fun e => strL e.v).length = B1.length := List.length_map ..
        have hso1 := sort_mspec (B1.map fun e => strL e.v) (by omega)
        have hsl1 : (sortL (B1.map fun e => strL e.v)).length = (B1.map fun e => strL e.v).length := List.length_mergeSort ..
        have hco1 := compact_mspec (sortL (B1.map fun e => strL e.v)) (by omega)
        rw [hsl1] at hco1
        by_cases hz1 : A1.length = 0
        · repeat' ((conv => whnf); first | refine Spl.yes (by first | assumption | omega) ?_ | refine Spl.no (by first | assumption | omega) ?_ | refine Wr.i64 (by omega) (by omega) ?_ | refine Still.mk rfl rfl ?_ | refine InB.mk (inB_mk (by omega) (by omega)) ?_ | refine Req.mk (by omega) ?_ | refine Req.mk ⟨by first | omega | (dsimp only; omega), by first | omega | (dsimp only; omega)⟩ ?_ | refine ACall.chgR 1 [(0, _)] (hso1) rfl ⟨rfl, trivial⟩ rfl rfl ?_ | refine ACall.chgR 1 [(0, _)] (hco1) rfl ⟨rfl, trivial⟩ rfl rfl ?_ | refine ARet.hdI ?_ | refine Spl.mk (fun _ => ?_) (fun _ => ?_) | refine InA.mk (inB_mk (by omega) (by omega)) ?_ | refine Wr.b64 ?_ | refine Wr.bu64 ?_ | refine Wr.bu32 ?_ | refine Wr.bu8 ?_ | refine Wr.u8 (by omega) (by omega) ?_ | refine Wr.u64 (by omega) (by omega) ?_ | refine Wr.u32 (by omega) (by omega) ?_ | refine Dv.pos (by omega) (by omega) ?_ | refine Rm.pos (by omega) (by omega) ?_ | refine ADraw.quiet follows_ok (by kernel_rfl) rfl ?_ | refine BSpl.decY (by first | assumption | omega) ?_ | refine BSpl.decN (by first | assumption | omega) ?_ | refine BSpl.dec (fun _ => ?_) (fun _ => ?_) | refine BSpl.yes (by assumption) ?_ | refine BSpl.no (by assumption) ?_ | refine BSpl.mk (fun _ => ?_) (fun _ => ?_))
          conv => whnf
          simp only [hasF, fieldF, valsF, if_pos hz, decide_eq_true hz, Bool.not_true, if_pos hz1, decide_eq_true hz1, Bool.not_true]
          exact AEqI.mk (AEq.refl _)
        · have hla1 := last_spec (A1.map stampE) (fun h => hz1 (by rw [← lA1, h]; rfl)) (by omega)
          have hlt1 := last_lt (l := A1.map stampE) (fun h => hz1 (by rw [← lA1, h]; rfl))
          repeat' ((conv => whnf); first | refine Spl.yes (by first | assumption | omega) ?_ | refine Spl.no (by first | assumption | omega) ?_ | refine Wr.i64 (by omega) (by omega) ?_ | refine Still.mk rfl rfl ?_ | refine InB.mk (inB_mk (by omega) (by omega)) ?_ | refine Req.mk (by omega) ?_ | refine Req.mk ⟨by first | omega | (dsimp only; omega), by first | omega | (dsimp only; omega)⟩ ?_ | refine ACall.chgR 1 [(0, _)] (hso1) rfl ⟨rfl, trivial⟩ rfl rfl ?_ | refine ACall.chgR 1 [(0, _)] (hco1) rfl ⟨rfl, trivial⟩ rfl rfl ?_ | refine ACall.plain _ _ (hla1) (SubL.cons (.eq _) .nil) rfl ?_ | refine ARet.hdI ?_ | refine Spl.mk (fun _ => ?_) (fun _ => ?_) | refine InA.mk (inB_mk (by omega) (by omega)) ?_ | refine Wr.b64 ?_ | refine Wr.bu64 ?_ | refine Wr.bu32 ?_ | refine Wr.bu8 ?_ | refine Wr.u8 (by omega) (by omega) ?_ | refine Wr.u64 (by omega) (by omega) ?_ | refine Wr.u32 (by omega) (by omega) ?_ | refine Dv.pos (by omega) (by omega) ?_ | refine Rm.pos (by omega) (by omega) ?_ | refine ADraw.quiet follows_ok (by kernel_rfl) rfl ?_ | refine BSpl.decY (by first | assumption | omega) ?_ | refine BSpl.decN (by first | assumption | omega) ?_ | refine BSpl.dec (fun _ => ?_) (fun _ => ?_) | refine BSpl.yes (by assumption) ?_ | refine BSpl.no (by assumption) ?_ | refine BSpl.mk (fun _ => ?_) (fun _ => ?_))
          rotate_left
          · exact absurd (show Nat.ble _ _ = false by assumption) (by rw [Bool.not_eq_false, Nat.ble_eq]; omega)
          conv => whnf
          simp only [hasF, fieldF, valsF, if_pos hz, decide_eq_true hz, Bool.not_true, if_neg hz1, decide_eq_false hz1, Bool.not_false]
          exact AEqI.mk (AEq.refl _)
    · have hla := last_spec (A.map stampE) (fun h => hz (by rw [← lA, h]; rfl)) (by omega)
      have hlt := last_lt (l := A.map stampE) (fun h => hz (by rw [← lA, h]; rfl))
      repeat' ((conv => whnf); first | refine Spl.yes (by first | assumption | omega) ?_ | refine Spl.no (by first | assumption | omega) ?_ | refine Wr.i64 (by omega) (by omega) ?_ | refine Still.mk rfl rfl ?_ | refine InB.mk (inB_mk (by omega) (by omega)) ?_ | refine Req.mk (by omega) ?_ | refine Req.mk ⟨by first | omega | (dsimp only; omega), by first | omega | (dsimp only; omega)⟩ ?_ | refine ACall.chgR 1 [(0, _)] (hso) rfl ⟨rfl, trivial⟩ rfl rfl ?_ | refine ACall.chgR 1 [(0, _)] (hco) rfl ⟨rfl, trivial⟩ rfl rfl ?_ | refine ACall.plain _ _ (hla) (SubL.cons (.eq _) .nil) rfl ?_ | refine ARet.hdI ?_ | refine Spl.mk (fun _ => ?_) (fun _ => ?_) | refine InA.mk (inB_mk (by omega) (by omega)) ?_ | refine Wr.b64 ?_ | refine Wr.bu64 ?_ | refine Wr.bu32 ?_ | refine Wr.bu8 ?_ | refine Wr.u8 (by omega) (by omega) ?_ | refine Wr.u64 (by omega) (by omega) ?_ | refine Wr.u32 (by omega) (by omega) ?_ | refine Dv.pos (by omega) (by omega) ?_ | refine Rm.pos (by omega) (by omega) ?_ | refine ADraw.quiet follows_ok (by kernel_rfl) rfl ?_ | refine BSpl.decY (by first | assumption | omega) ?_ | refine BSpl.decN (by first | assumption | omega) ?_ | refine BSpl.dec (fun _ => ?_) (fun _ => ?_) | refine BSpl.yes (by assumption) ?_ | refine BSpl.no (by assumption) ?_ | refine BSpl.mk (fun _ => ?_) (fun _ => ?_))
      rotate_left
      · exact absurd (show Nat.ble _ _ = false by assumption) (by rw [Bool.not_eq_false, Nat.ble_eq]; omega)
      conv => whnf
      refine ALoop.nil 7 190 77 2 (stF []) rfl (by omega) ?_
      refine ALoop.nil 8 191 9 1 (strF []) rfl (by omega) ?_
      refine ALoop.nil 9 192 9 1 (strF []) rfl (by omega) ?_
      conv => whnf
      refine ALoop.mk { j : Nat // j ≤ ws.length } (fun j => ⟨[(0, .v (.string key)), (1, .sl 12 ws.length true (evF ws)), (4, .box 0 0), (5, .box 1 0), (6, .v (.int .i64 1)), (14, .v (.int .i64 1)), (7, .own 190), (8, .own 191), (9, .own 192), (17, .sl 12 ws.length true (evF ws)), (18, .v (.int .i64 (ws.length : Int))), (19, .v (.int .i64 (j.1 : Int)))],
          [(0, _), (1, _), (94, _), (190, .row 77 2 ((setsB key 1 (ws.take j.1)).map stampE).length true (stF ((setsB key 1 (ws.take j.1)).map stampE))),
           (191, .row 9 1 ((setsB key 1 (ws.take j.1)).map fun e => strL e.v).length true (strF ((setsB key 1 (ws.take j.1)).map fun e => strL e.v))),
           (192, .row 9 1 ((addsB key 1 (ws.take j.1)).map fun e => strL e.v).length true (strF ((addsB key 1 (ws.take j.1)).map fun e => strL e.v)))], [], 193⟩) (fun j => ws.length - j.1) ⟨0, Nat.zero_le _⟩ _
        (LeR.mk' [] _ _ _ rfl ⟨AEq.refl _, AEq.refl _, AEq.refl _, AEq.refl _, AEq.refl _, AEq.refl _, AEq.refl _, AEq.refl _, AEq.refl _, AEq.refl _, AEq.refl _, AEq.int rfl, trivial⟩ ⟨⟨_, rfl, OEq.refl _⟩, ⟨_, rfl, OEq.refl _⟩, ⟨_, rfl, OEq.refl _⟩, ⟨_, rfl, OEq.refl _⟩, ⟨_, rfl, OEq.refl _⟩, ⟨_, rfl, OEq.refl _⟩, trivial⟩ rfl) ?_
      rintro ⟨j, hj⟩
      dsimp only
      by_cases hjl : j < ws.length
      · have hA : (setsB key 1 (ws.take j)).length ≤ j := by
          have := List.length_filter_le (fun e => ofK key 1 e && decide (e.k = 3)) (ws.take j)
          rw [List.length_take] at this
          unfold setsB
          omega
        have hB : (addsB key 1 (ws.take j)).length ≤ j := by
          have := List.length_filter_le (fun e => ofK key 1 e && !decide (e.k = 3)) (ws.take j)
          rw [List.length_take] at this
          unfold addsB
          omega
        have sA : setsB key 1 (ws.take (j + 1)) = setsB key 1 (ws.take j) ++ (if (ofK key 1 (ws.getD (j : Int).toNat default) && decide ((ws.getD (j : Int).toNat default).k = 3)) = true then [ws.getD (j : Int).toNat default] else []) := filter_take hjl
        have sB : addsB key 1 (ws.take (j + 1)) = addsB key 1 (ws.take j) ++ (if (ofK key 1 (ws.getD (j : Int).toNat default) && !decide ((ws.getD (j : Int).toNat default).k = 3)) = true then [ws.getD (j : Int).toNat default] else []) := filter_take hjl
        generalize setsB key 1 (ws.take j) = A at hA sA ⊢
        generalize addsB key 1 (ws.take j) = B at hB sB ⊢
        have lA : (A.map stampE).length = A.length := List.length_map ..
        have lA2 : (A.map fun e => strL e.v).length = A.length := List.length_map ..
        have lB : (B.map fun e => strL e.v).length = B.length := List.length_map ..
        have eqS {X Y : List St} (h : X = Y) : OEq (.row 77 2 X.length true (stF X)) (.row 77 2 Y.length true (stF Y)) := by rw [h]; exact OEq.refl _
        have eqL {X Y : List (List UInt8)} (h : X = Y) : OEq (.row 9 1 X.length true (strF X)) (.row 9 1 Y.length true (strF Y)) := by rw [h]; exact OEq.refl _
        have mea : ws.length - (j + 1) < ws.length - j := by omega
        repeat' ((conv => whnf); first | refine Spl.yes (by first | assumption | omega) ?_ | refine Spl.no (by first | assumption | omega) ?_ | refine Wr.i64 (by omega) (by omega) ?_ | refine Still.mk rfl rfl ?_ | refine InB.mk (inB_mk (by omega) (by omega)) ?_ | refine Req.mk (by omega) ?_ | refine Req.mk ⟨by first | omega | (dsimp only; omega), by first | omega | (dsimp only; omega)⟩ ?_ | refine ARet.hdI ?_ | refine Spl.mk (fun _ => ?_) (fun _ => ?_) | refine InA.mk (inB_mk (by omega) (by omega)) ?_ | refine Wr.b64 ?_ | refine Wr.bu64 ?_ | refine Wr.bu32 ?_ | refine Wr.bu8 ?_ | refine Wr.u8 (by omega) (by omega) ?_ | refine Wr.u64 (by omega) (by omega) ?_ | refine Wr.u32 (by omega) (by omega) ?_ | refine Dv.pos (by omega) (by omega) ?_ | refine Rm.pos (by omega) (by omega) ?_ | refine ADraw.quiet follows_ok (by kernel_rfl) rfl ?_ | refine BSpl.decY (by first | assumption | omega) ?_ | refine BSpl.decN (by first | assumption | omega) ?_ | refine BSpl.dec (fun _ => ?_) (fun _ => ?_) | refine BSpl.yes (by assumption) ?_ | refine BSpl.no (by assumption) ?_ | refine BSpl.mk (fun _ => ?_) (fun _ => ?_))
        all_goals (conv => whnf)
        · have kA : setsB key 1 (ws.take (j + 1)) = A ++ [ws.getD (j : Int).toNat default] := by rw [sA, if_pos (by simp only [ofK]; rw [decide_eq_true (by assumption), decide_eq_true (by assumption), decide_eq_true (by assumption)]; rfl)]
          have kB : addsB key 1 (ws.take (j + 1)) = B := by rw [sB, if_neg (by rw [decide_eq_true (show (ws.getD (j : Int).toNat default).k = 3 by assumption)]; simp), List.append_nil]
          refine ⟨⟨j + 1, hjl⟩, _, LeR.mk' [(195, 190), (197, 191)] _ _ _ rfl ⟨AEq.refl _, AEq.refl _, AEq.refl _, AEq.refl _, AEq.refl _, AEq.refl _, AEq.refl _, AEq.refl _, AEq.refl _, AEq.refl _, AEq.refl _, AEq.int rfl, trivial⟩ ⟨⟨_, rfl, OEq.refl _⟩, ⟨_, rfl, OEq.refl _⟩, ⟨_, rfl, OEq.refl _⟩, ⟨_, rfl, OEq.row ?_ (fun m hm => ?_)⟩, ⟨_, rfl, OEq.row ?_ (fun m hm => ?_)⟩, ⟨_, rfl, eqL (by rw [kB])⟩, trivial⟩ rfl, mea⟩
          · show _ = ((setsB key 1 (ws.take (j + 1))).map stampE).length
            rw [kA, List.map_append, List.length_append]
            rfl
          · show _ = stF ((setsB key 1 (ws.take (j + 1))).map stampE) m
            rw [kA, List.map_append]
            exact els_app1 (c := stC) (x := stampE (ws.getD (j : Int).toNat default)) rfl rfl m hm
          · show _ = ((setsB key 1 (ws.take (j + 1))).map fun e => strL e.v).length
            rw [kA, List.map_append, List.length_append]
            rfl
          · show _ = strF ((setsB key 1 (ws.take (j + 1))).map fun e => strL e.v) m
            rw [kA, List.map_append]
            exact str_app1 (x := strL (ws.getD (j : Int).toNat default).v) rfl (by rw [enc_strL]; rfl) m hm
        · have kA : setsB key 1 (ws.take (j + 1)) = A := by rw [sA, if_neg (by rw [decide_eq_false (show ¬ (ws.getD (j : Int).toNat default).k = 3 by assumption)]; simp), List.append_nil]
          have kB : addsB key 1 (ws.take (j + 1)) = B ++ [ws.getD (j : Int).toNat default] := by rw [sB, if_pos (by simp only [ofK]; rw [decide_eq_true (by assumption), decide_eq_true (by assumption), decide_eq_false (by assumption)]; rfl)]
          refine ⟨⟨j + 1, hjl⟩, _, LeR.mk' [(195, 192)] _ _ _ rfl ⟨AEq.refl _, AEq.refl _, AEq.refl _, AEq.refl _, AEq.refl _, AEq.refl _, AEq.refl _, AEq.refl _, AEq.refl _, AEq.refl _, AEq.refl _, AEq.int rfl, trivial⟩ ⟨⟨_, rfl, OEq.refl _⟩, ⟨_, rfl, OEq.refl _⟩, ⟨_, rfl, OEq.refl _⟩, ⟨_, rfl, eqS (by rw [kA])⟩, ⟨_, rfl, eqL (by rw [kA])⟩, ⟨_, rfl, OEq.row ?_ (fun m hm => ?_)⟩, trivial⟩ rfl, mea⟩
          · show _ = ((addsB key 1 (ws.take (j + 1))).map fun e => strL e.v).length
            rw [kB, List.map_append, List.length_append]
            rfl
          · show _ = strF ((addsB key 1 (ws.take (j + 1))).map fun e => strL e.v) m
            rw [kB, List.map_append]
            exact str_app1 (x := strL (ws.getD (j : Int).toNat default).v) rfl (by rw [enc_strL]; rfl) m hm
        all_goals
          have hof : ofK key 1 (ws.getD (j : Int).toNat default) = false := by
            unfold ofK
            first
              | (rw [decide_eq_false (show ¬ (ws.getD (j : Int).toNat default).key = key by assumption)]; rfl)
              | (rw [decide_eq_false (show ¬ (ws.getD (j : Int).toNat default).l = 1 by assumption)]; simp)
          have kA : setsB key 1 (ws.take (j + 1)) = A := by rw [sA, hof]; simp
          have kB : addsB key 1 (ws.take (j + 1)) = B := by rw [sB, hof]; simp
          exact ⟨⟨j + 1, hjl⟩, _, LeR.mk' [] _ _ _ rfl ⟨AEq.refl _, AEq.refl _, AEq.refl _, AEq.refl _, AEq.refl _, AEq.refl _, AEq.refl _, AEq.refl _, AEq.refl _, AEq.refl _, AEq.refl _, AEq.int rfl, trivial⟩ ⟨⟨_, rfl, OEq.refl _⟩, ⟨_, rfl, OEq.refl _⟩, ⟨_, rfl, OEq.refl _⟩, ⟨_, rfl, eqS (by rw [kA])⟩, ⟨_, rfl, eqL (by rw [kA])⟩, ⟨_, rfl, eqL (by rw [kB])⟩, trivial⟩ rfl, mea⟩
      · rw [List.take_of_length_le (show ws.length ≤ j by omega)]
        have hA1 : (setsB key 1 ws).length ≤ ws.length := List.length_filter_le ..
        have hB1 : (addsB key 1 ws).length ≤ ws.length := List.length_filter_le ..
        generalize setsB key 1 ws = A1 at hA1 ⊢
        generalize addsB key 1 ws = B1 at hB1 ⊢
        have lA1 : (A1.map stampE).length = A1.length := List.length_map ..
        have lA21 : (A1.map fun e => strL e.v).length = A1.length := List.length_map ..
        have lB1 : (B1.map fun e => strL e.v).length = B1.length := List.length_map ..
        have hso1 := sort_mspec (B1.map fun e => strL e.v) (by omega)
        have hsl1 : (sortL (B1.map fun e => strL e.v)).length = (B1.map fun e => strL e.v).length := List.length_mergeSort ..
        have hco1 := compact_mspec (sortL (B1.map fun e => strL e.v)) (by omega)
        rw [hsl1] at hco1
        by_cases hz1 : A1.length = 0
        · repeat' ((conv => whnf); first | refine Spl.yes (by first | assumption | omega) ?_ | refine Spl.no (by first | assumption | omega) ?_ | refine Wr.i64 (by omega) (by omega) ?_ | refine Still.mk rfl rfl ?_ | refine InB.mk (inB_mk (by omega) (by omega)) ?_ | refine Req.mk (by omega) ?_ | refine Req.mk ⟨by first | omega | (dsimp only; omega), by first | omega | (dsimp only; omega)⟩ ?_ | refine ACall.chgR 1 [(0, _)] (hso1) rfl ⟨rfl, trivial⟩ rfl rfl ?_ | refine ACall.chgR 1 [(0, _)] (hco1) rfl ⟨rfl, trivial⟩ rfl rfl ?_ | refine ARet.hdI ?_ | refine Spl.mk (fun _ => ?_) (fun _ => ?_) | refine InA.mk (inB_mk (by omega) (by omega)) ?_ | refine Wr.b64 ?_ | refine Wr.bu64 ?_ | refine Wr.bu32 ?_ | refine Wr.bu8 ?_ | refine Wr.u8 (by omega) (by omega) ?_ | refine Wr.u64 (by omega) (by omega) ?_ | refine Wr.u32 (by omega) (by omega) ?_ | refine Dv.pos (by omega) (by omega) ?_ | refine Rm.pos (by omega) (by omega) ?_ | refine ADraw.quiet follows_ok (by kernel_rfl) rfl ?_ | refine BSpl.decY (by first | assumption | omega) ?_ | refine BSpl.decN (by first | assumption | omega) ?_ | refine BSpl.dec (fun _ => ?_) (fun _ => ?_) | refine BSpl.yes (by assumption) ?_ | refine BSpl.no (by assumption) ?_ | refine BSpl.mk (fun _ => ?_) (fun _ => ?_))
          conv => whnf
          simp only [hasF, fieldF, valsF, if_neg hz, decide_eq_false hz, Bool.not_false, if_pos hz1, decide_eq_true hz1, Bool.not_true]
          exact AEqI.mk (AEq.refl _)
        · have hla1 := last_spec (A1.map stampE) (fun h => hz1 (by rw [← lA1, h]; rfl)) (by omega)
          have hlt1 := last_lt (l := A1.map stampE) (fun h => hz1 (by rw [← lA1, h]; rfl))
          repeat' ((conv => whnf); first | refine Spl.yes (by first | assumption | omega) ?_ | refine Spl.no (by first | assumption | omega) ?_ | refine Wr.i64 (by omega) (by omega) ?_ | refine Still.mk rfl rfl ?_ | refine InB.mk (inB_mk (by omega) (by omega)) ?_ | refine Req.mk (by omega) ?_ | refine Req.mk ⟨by first | omega | (dsimp only; omega), by first | omega | (dsimp only; omega)⟩ ?_ | refine ACall.chgR 1 [(0, _)] (hso1) rfl ⟨rfl, trivial⟩ rfl rfl ?_ | refine ACall.chgR 1 [(0, _)] (hco1) rfl ⟨rfl, trivial⟩ rfl rfl ?_ | refine ACall.plain _ _ (hla1) (SubL.cons (.eq _) .nil) rfl ?_ | refine ARet.hdI ?_ | refine Spl.mk (fun _ => ?_) (fun _ => ?_) | refine InA.mk (inB_mk (by omega) (by omega)) ?_ | refine Wr.b64 ?_ | refine Wr.bu64 ?_ | refine Wr.bu32 ?_ | refine Wr.bu8 ?_ | refine Wr.u8 (by omega) (by omega) ?_ | refine Wr.u64 (by omega) (by omega) ?_ | refine Wr.u32 (by omega) (by omega) ?_ | refine Dv.pos (by omega) (by omega) ?_ | refine Rm.pos (by omega) (by omega) ?_ | refine ADraw.quiet follows_ok (by kernel_rfl) rfl ?_ | refine BSpl.decY (by first | assumption | omega) ?_ | refine BSpl.decN (by first | assumption | omega) ?_ | refine BSpl.dec (fun _ => ?_) (fun _ => ?_) | refine BSpl.yes (by assumption) ?_ | refine BSpl.no (by assumption) ?_ | refine BSpl.mk (fun _ => ?_) (fun _ => ?_))
          rotate_left
          · exact absurd (show Nat.ble _ _ = false by assumption) (by rw [Bool.not_eq_false, Nat.ble_eq]; omega)
          conv => whnf
          simp only [hasF, fieldF, valsF, if_neg hz, decide_eq_false hz, Bool.not_false, if_neg hz1, decide_eq_false hz1, Bool.not_false]
          exact AEqI.mk (AEq.refl _)
end Go.Proofs.Ytihjfndkgmjanaa
