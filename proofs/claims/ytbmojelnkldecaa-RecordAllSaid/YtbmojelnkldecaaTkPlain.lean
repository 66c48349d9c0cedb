/-
  Plain Lean: how an event is read from bytes, field by field; behind a field that is wrong none is read any more.
-/
import Derived.Test.YtbmojelnkldecaaVTake
namespace Go.Proofs.Ytbmojelnkldecaa

abbrev St := Nat × Int

def octS (bs : List UInt8) (lo hi : Int) (s : St) : Int × St :=
  if s.2 ≠ 0 then (0, s)
  else if bs.length ≤ s.1 then (0, (s.1, 2))
  else if lo ≤ ((bs.getD s.1 0).toNat : Int) ∧ ((bs.getD s.1 0).toNat : Int) ≤ hi then (((bs.getD s.1 0).toNat : Int), (s.1 + 1, 0))
  else (0, (s.1 + 1, 3))

def numS (bs : List UInt8) (lo hi : Int) (s : St) : Int × St :=
  if s.2 ≠ 0 then (0, s)
  else if (vtake (bs.drop s.1)).2.2 ≠ 0 then (0, (s.1, (vtake (bs.drop s.1)).2.2))
  else if lo ≤ ((vtake (bs.drop s.1)).1 : Int) ∧ ((vtake (bs.drop s.1)).1 : Int) ≤ hi then (((vtake (bs.drop s.1)).1 : Int), (s.1 + (vtake (bs.drop s.1)).2.1, 0))
  else (0, (s.1, 3))

def cutB (bs : List UInt8) (u n : Nat) : ByteArray := ⟨((bs.drop u).take n).toArray⟩

def wordS (bs : List UInt8) (size : Int) (may : ByteArray → Int) (s : St) : ByteArray × St :=
  if s.2 ≠ 0 then (⟨#[]⟩, s)
  else if ((bs.length : Int) - s.1 < size) then (⟨#[]⟩, (s.1, 2))
  else (cutB bs s.1 size.toNat, (s.1 + size.toNat, if may (cutB bs s.1 size.toNat) = 0 then 0 else 3))

def skipS (bs : List UInt8) (r : Int) (j : Nat) (s : St) : Int × St := if (j : Int) = r then (0, s) else numS bs 0 1048576 s

def Clk.put (c : Clk) (r v : Int) : Clk :=
  if r = 0 then { c with c0 := v } else if r = 1 then { c with c1 := v } else if r = 2 then { c with c2 := v } else if r = 3 then { c with c3 := v } else { c with c4 := v }

def Clk.setN (c : Clk) : Nat → Int → Clk
  | 0, v => { c with c0 := v }
  | 1, v => { c with c1 := v }
  | 2, v => { c with c2 := v }
  | 3, v => { c with c3 := v }
  | _, v => { c with c4 := v }

def clkAt (bs : List UInt8) (r : Int) (s : St) : Nat → Clk × St
  | 0 => (⟨0, 0, 0, 0, 0⟩, s)
  | j + 1 => ((clkAt bs r s j).1.setN j (skipS bs r j (clkAt bs r s j).2).1, (skipS bs r j (clkAt bs r s j).2).2)

def clockS (bs : List UInt8) (r : Int) (s : St) : Clk × St := clkAt bs r s 5

def fieldS (bs : List UInt8) (s : St) : Ev × St :=
  let k := octS bs 1 5 s
  let r := octS bs 0 4 k.2
  let n := numS bs 1 1048576 r.2
  let c := clockS bs r.1 n.2
  let h := numS bs 1 16777216 c.2
  let ks := octS bs 1 8 h.2
  let key := wordS bs ks.1 keyE ks.2
  if isLong k.1 then
    let l := octS bs 0 1 key.2
    let vs := octS bs 1 12 l.2
    let v := wordS bs vs.1 valueE vs.2
    (⟨r.1, n.1, c.1.put r.1 (n.1 - 1), h.1, k.1, key.1, l.1, v.1⟩, v.2)
  else (⟨r.1, n.1, c.1.put r.1 (n.1 - 1), h.1, k.1, key.1, 0, ⟨#[]⟩⟩, key.2)

theorem octS_le {bs : List UInt8} {lo hi : Int} {s : St} (h : s.1 ≤ bs.length) : (octS bs lo hi s).2.1 ≤ bs.length := by
  unfold octS; split; exact h; split; exact h; split <;> dsimp only <;> omega

theorem octS_range {bs : List UInt8} {lo hi : Int} {s : St} : (octS bs lo hi s).1 = 0 ∨ (lo ≤ (octS bs lo hi s).1 ∧ (octS bs lo hi s).1 ≤ hi) := by
  unfold octS
  split
  · exact Or.inl rfl
  · split
    · exact Or.inl rfl
    · split
      · rename_i h
        exact Or.inr h
      · exact Or.inl rfl
end Go.Proofs.Ytbmojelnkldecaa
