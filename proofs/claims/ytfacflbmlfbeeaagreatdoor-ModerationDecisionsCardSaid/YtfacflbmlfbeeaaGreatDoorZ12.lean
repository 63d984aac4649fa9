/- Chapter 39: the contract of the law's do: what the queue and the model answer is the same. Printed by mkdo39.py. Bytes are bytes; lists are not too long; the library's variable MaxLen holds a number. -/
import Derived.Test.YtfacflbmlfbeeaaGreatDoorZ11
import Derived.Test.YtfacflbmlfbeeaaGreatDoorProg
import Derived.Test.YtfacflbmlfbeeaaGreatDoorZ02
import Derived.Test.YtfacflbmlfbeeaaGreatDoorZ04
import Derived.Test.YtfacflbmlfbeeaaGreatDoorZ03
import Derived.KernelRfl
namespace Go.Proofs.YtfacflbmlfbeeaaGreatDoor
open Go.RowKit Go.Sort Go.Maps

theorem cmd_of (E : Int) {f : Nat → Int} (hf : BY f) (g : ByteArray) : ∃ (kk : Int) (ff : Nat → Int) (gg : ByteArray), BY ff ∧ cmdL E f g = apC kk ff gg := by
  unfold cmdL
  split
  · exact ⟨_, _, _, hf, rfl⟩
  · exact ⟨_, _, _, by0, rfl⟩
set_option maxRecDepth 100000 in
set_option maxHeartbeats 32000000 in
theorem ldo_any {w0 w : World} {b mb eb m n0 : Nat} {q : Qu} {M : Mo} {P : Pl} (h : SW w0 w b mb eb m q M P) (r : Rq n0 q M) (hn0 : n0 ≤ 5000) (hG : GW w0) (k i g a now : Int) (t : ByteArray) (hk0 : 0 ≤ k) (hi0 : 0 ≤ i ∧ i ≤ 255) (hg0 : 0 ≤ g ∧ g ≤ 255) (ha0 : 0 ≤ a ∧ a ≤ 255) :
    Calls Tryz.prog 31 #[.pointer (some ⟨b, 0, none⟩), .pointer (some ⟨m, 0, none⟩), .agg (([.int .u8 k, .int .u8 i, .int .u8 g, .int .u8 a, .int .i64 now, .string t] : List Value)).toArray] w fun e w' => e = .returned (.bool true) ∧ ∃ (q' : Qu) (M' : Mo) (P' : Pl), SW w0 w' b mb eb m q' M' P' ∧ Rq (n0 + 1) q' M' ∧ stpM k i g a now t M M' ∧ KD w w' := by
  refine vc_ldo b m k i g a now t w _ (fun n W hW => ?_)
  have kW : K0 w W := hW.kk rfl
  refine ⟨fun vs wx => ∃ n1 n2 : Nat, vs = [.string (nmG g), .pointer (some ⟨n1, 0, none⟩), .pointer (some ⟨n2, 0, none⟩)] ∧ wx.heap[n1]? = some (.cells (arrI .u8 (idN i) 32 0).toArray 32 (0, 0)) ∧ wx.heap[n2]? = some (.cells (arrI .u8 (auN a) 16 0).toArray 45 (0, 0)) ∧ K0 w wx, fun W1 hW1 => ?_, ?_⟩
  · have kW1' : K0 W W1 := hW1.kk rfl
    have hkW := kW.trans kW1'
    have hc := hW1.cells 0 rfl
    have hnW := block_lt hc
    simp only at hnW
    clear hW hW1
    have kW1 : K0 W1 W1 := .refl _ _
    refine ⟨fun wx => K0 W1 wx, kW1, i, fun wx k => cell_at (k.blk hc (fun h => h)) rfl, g, fun wx k => cell_at (k.blk hc (fun h => h)) rfl, a, fun wx k => cell_at (k.blk hc (fun h => h)) rfl, ?_⟩
    refine ⟨?_, ?_, ?_⟩
    · refine ⟨(lid_any i W1).mono fun e v0 ⟨he, kk0⟩ => ⟨_, he, kW1.trans kk0, ?_⟩⟩
      have kc0 := kW1.trans kk0
      refine ⟨?_, ?_, ?_⟩
      · refine ⟨(lname_any g hg0.1 v0).mono fun e v1 ⟨he, kk1⟩ => ⟨_, he, kc0.trans kk1, ?_⟩⟩
        have kc1 := kc0.trans kk1
        refine ⟨?_, ?_, ?_⟩
        · refine ⟨(lauthor_any a v1).mono fun e v2 ⟨he, kk2⟩ => ⟨_, he, ?_⟩⟩
          have kc2 := kc1.trans kk2
          refine ⟨?_, ?_⟩
          · intro n1 v3 hb3
            have kc3 := kc2.trans (hb3.kp (fun _ => False))
            have gX := Nat.le_trans kc2.size hb3.ge
            refine ⟨kc3, ?_⟩
            have cX3 := hb3.block
            intro n2 v4 hb4
            have kc4 := kc3.trans (hb4.kp (fun _ => False))
            have gY := Nat.le_trans kc3.size hb4.ge
            refine ⟨kc4, ?_⟩
            have cY4 := hb4.block
            have cX4 := (hb4.kp (fun _ => False)).blk cX3 (fun h => h)
            exact dofin kc4 gX gY cX4 rfl cY4 rfl (fun w2 kk a1 a2 => ⟨n1, n2, rfl, a1, a2, hkW.trans kk⟩)
          · intro n2 v3 hb3
            have kc3 := kc2.trans (hb3.kp (fun _ => False))
            have gY := Nat.le_trans kc2.size hb3.ge
            refine ⟨kc3, ?_⟩
            have cY3 := hb3.block
            intro n1 v4 hb4
            have kc4 := kc3.trans (hb4.kp (fun _ => False))
            have gX := Nat.le_trans kc3.size hb4.ge
            refine ⟨kc4, ?_⟩
            have cX4 := hb4.block
            have cY4 := (hb4.kp (fun _ => False)).blk cY3 (fun h => h)
            exact dofin kc4 gX gY cX4 rfl cY4 rfl (fun w2 kk a1 a2 => ⟨n1, n2, rfl, a1, a2, hkW.trans kk⟩)
        · intro n1 v2 hb2
          have kc2 := kc1.trans (hb2.kp (fun _ => False))
          have gX := Nat.le_trans kc1.size hb2.ge
          refine ⟨kc2, ?_⟩
          have cX2 := hb2.block
          refine ⟨?_, ?_⟩
          · refine ⟨(lauthor_any a v2).mono fun e v3 ⟨he, kk3⟩ => ⟨_, he, ?_⟩⟩
            have kc3 := kc2.trans kk3
            have cX3 := kk3.blk cX2 (fun h => h)
            intro n2 v4 hb4
            have kc4 := kc3.trans (hb4.kp (fun _ => False))
            have gY := Nat.le_trans kc3.size hb4.ge
            refine ⟨kc4, ?_⟩
            have cY4 := hb4.block
            have cX4 := (hb4.kp (fun _ => False)).blk cX3 (fun h => h)
            exact dofin kc4 gX gY cX4 rfl cY4 rfl (fun w2 kk a1 a2 => ⟨n1, n2, rfl, a1, a2, hkW.trans kk⟩)
          · intro n2 v3 hb3
            have kc3 := kc2.trans (hb3.kp (fun _ => False))
            have gY := Nat.le_trans kc2.size hb3.ge
            refine ⟨kc3, ?_⟩
            have cY3 := hb3.block
            have cX3 := (hb3.kp (fun _ => False)).blk cX2 (fun h => h)
            refine ⟨(lauthor_any a v3).mono fun e v4 ⟨he, kk4⟩ => ⟨_, he, ?_⟩⟩
            have kc4 := kc3.trans kk4
            have cX4 := kk4.blk cX3 (fun h => h)
            have cY4 := kk4.blk cY3 (fun h => h)
            exact dofin kc4 gX gY cX4 rfl cY4 rfl (fun w2 kk a1 a2 => ⟨n1, n2, rfl, a1, a2, hkW.trans kk⟩)
        · intro n2 v2 hb2
          have kc2 := kc1.trans (hb2.kp (fun _ => False))
          have gY := Nat.le_trans kc1.size hb2.ge
          refine ⟨kc2, ?_⟩
          have cY2 := hb2.block
          refine ⟨?_, ?_⟩
          · refine ⟨(lauthor_any a v2).mono fun e v3 ⟨he, kk3⟩ => ⟨_, he, ?_⟩⟩
            have kc3 := kc2.trans kk3
            have cY3 := kk3.blk cY2 (fun h => h)
            intro n1 v4 hb4
            have kc4 := kc3.trans (hb4.kp (fun _ => False))
            have gX := Nat.le_trans kc3.size hb4.ge
            refine ⟨kc4, ?_⟩
            have cX4 := hb4.block
            have cY4 := (hb4.kp (fun _ => False)).blk cY3 (fun h => h)
            exact dofin kc4 gX gY cX4 rfl cY4 rfl (fun w2 kk a1 a2 => ⟨n1, n2, rfl, a1, a2, hkW.trans kk⟩)
          · intro n1 v3 hb3
            have kc3 := kc2.trans (hb3.kp (fun _ => False))
            have gX := Nat.le_trans kc2.size hb3.ge
            refine ⟨kc3, ?_⟩
            have cX3 := hb3.block
            have cY3 := (hb3.kp (fun _ => False)).blk cY2 (fun h => h)
            refine ⟨(lauthor_any a v3).mono fun e v4 ⟨he, kk4⟩ => ⟨_, he, ?_⟩⟩
            have kc4 := kc3.trans kk4
            have cX4 := kk4.blk cX3 (fun h => h)
            have cY4 := kk4.blk cY3 (fun h => h)
            exact dofin kc4 gX gY cX4 rfl cY4 rfl (fun w2 kk a1 a2 => ⟨n1, n2, rfl, a1, a2, hkW.trans kk⟩)
      · intro n1 v1 hb1
        have kc1 := kc0.trans (hb1.kp (fun _ => False))
        have gX := Nat.le_trans kc0.size hb1.ge
        refine ⟨kc1, ?_⟩
        have cX1 := hb1.block
        refine ⟨?_, ?_⟩
        · refine ⟨(lname_any g hg0.1 v1).mono fun e v2 ⟨he, kk2⟩ => ⟨_, he, kc1.trans kk2, ?_⟩⟩
          have kc2 := kc1.trans kk2
          have cX2 := kk2.blk cX1 (fun h => h)
          refine ⟨?_, ?_⟩
          · refine ⟨(lauthor_any a v2).mono fun e v3 ⟨he, kk3⟩ => ⟨_, he, ?_⟩⟩
            have kc3 := kc2.trans kk3
            have cX3 := kk3.blk cX2 (fun h => h)
            intro n2 v4 hb4
            have kc4 := kc3.trans (hb4.kp (fun _ => False))
            have gY := Nat.le_trans kc3.size hb4.ge
            refine ⟨kc4, ?_⟩
            have cY4 := hb4.block
            have cX4 := (hb4.kp (fun _ => False)).blk cX3 (fun h => h)
            exact dofin kc4 gX gY cX4 rfl cY4 rfl (fun w2 kk a1 a2 => ⟨n1, n2, rfl, a1, a2, hkW.trans kk⟩)
          · intro n2 v3 hb3
            have kc3 := kc2.trans (hb3.kp (fun _ => False))
            have gY := Nat.le_trans kc2.size hb3.ge
            refine ⟨kc3, ?_⟩
            have cY3 := hb3.block
            have cX3 := (hb3.kp (fun _ => False)).blk cX2 (fun h => h)
            refine ⟨(lauthor_any a v3).mono fun e v4 ⟨he, kk4⟩ => ⟨_, he, ?_⟩⟩
            have kc4 := kc3.trans kk4
            have cX4 := kk4.blk cX3 (fun h => h)
            have cY4 := kk4.blk cY3 (fun h => h)
            exact dofin kc4 gX gY cX4 rfl cY4 rfl (fun w2 kk a1 a2 => ⟨n1, n2, rfl, a1, a2, hkW.trans kk⟩)
        · intro n2 v2 hb2
          have kc2 := kc1.trans (hb2.kp (fun _ => False))
          have gY := Nat.le_trans kc1.size hb2.ge
          refine ⟨kc2, ?_⟩
          have cY2 := hb2.block
          have cX2 := (hb2.kp (fun _ => False)).blk cX1 (fun h => h)
          refine ⟨(lname_any g hg0.1 v2).mono fun e v3 ⟨he, kk3⟩ => ⟨_, he, kc2.trans kk3, ?_⟩⟩
          have kc3 := kc2.trans kk3
          have cX3 := kk3.blk cX2 (fun h => h)
          have cY3 := kk3.blk cY2 (fun h => h)
          refine ⟨(lauthor_any a v3).mono fun e v4 ⟨he, kk4⟩ => ⟨_, he, ?_⟩⟩
          have kc4 := kc3.trans kk4
          have cX4 := kk4.blk cX3 (fun h => h)
          have cY4 := kk4.blk cY3 (fun h => h)
          exact dofin kc4 gX gY cX4 rfl cY4 rfl (fun w2 kk a1 a2 => ⟨n1, n2, rfl, a1, a2, hkW.trans kk⟩)
      · intro n2 v1 hb1
        have kc1 := kc0.trans (hb1.kp (fun _ => False))
        have gY := Nat.le_trans kc0.size hb1.ge
        refine ⟨kc1, ?_⟩
        have cY1 := hb1.block
        refine ⟨?_, ?_⟩
        · refine ⟨(lname_any g hg0.1 v1).mono fun e v2 ⟨he, kk2⟩ => ⟨_, he, kc1.trans kk2, ?_⟩⟩
          have kc2 := kc1.trans kk2
          have cY2 := kk2.blk cY1 (fun h => h)
          refine ⟨?_, ?_⟩
          · refine ⟨(lauthor_any a v2).mono fun e v3 ⟨he, kk3⟩ => ⟨_, he, ?_⟩⟩
            have kc3 := kc2.trans kk3
            have cY3 := kk3.blk cY2 (fun h => h)
            intro n1 v4 hb4
            have kc4 := kc3.trans (hb4.kp (fun _ => False))
            have gX := Nat.le_trans kc3.size hb4.ge
            refine ⟨kc4, ?_⟩
            have cX4 := hb4.block
            have cY4 := (hb4.kp (fun _ => False)).blk cY3 (fun h => h)
            exact dofin kc4 gX gY cX4 rfl cY4 rfl (fun w2 kk a1 a2 => ⟨n1, n2, rfl, a1, a2, hkW.trans kk⟩)
          · intro n1 v3 hb3
            have kc3 := kc2.trans (hb3.kp (fun _ => False))
            have gX := Nat.le_trans kc2.size hb3.ge
            refine ⟨kc3, ?_⟩
            have cX3 := hb3.block
            have cY3 := (hb3.kp (fun _ => False)).blk cY2 (fun h => h)
            refine ⟨(lauthor_any a v3).mono fun e v4 ⟨he, kk4⟩ => ⟨_, he, ?_⟩⟩
            have kc4 := kc3.trans kk4
            have cX4 := kk4.blk cX3 (fun h => h)
            have cY4 := kk4.blk cY3 (fun h => h)
            exact dofin kc4 gX gY cX4 rfl cY4 rfl (fun w2 kk a1 a2 => ⟨n1, n2, rfl, a1, a2, hkW.trans kk⟩)
        · intro n1 v2 hb2
          have kc2 := kc1.trans (hb2.kp (fun _ => False))
          have gX := Nat.le_trans kc1.size hb2.ge
          refine ⟨kc2, ?_⟩
          have cX2 := hb2.block
          have cY2 := (hb2.kp (fun _ => False)).blk cY1 (fun h => h)
          refine ⟨(lname_any g hg0.1 v2).mono fun e v3 ⟨he, kk3⟩ => ⟨_, he, kc2.trans kk3, ?_⟩⟩
          have kc3 := kc2.trans kk3
          have cX3 := kk3.blk cX2 (fun h => h)
          have cY3 := kk3.blk cY2 (fun h => h)
          refine ⟨(lauthor_any a v3).mono fun e v4 ⟨he, kk4⟩ => ⟨_, he, ?_⟩⟩
          have kc4 := kc3.trans kk4
          have cX4 := kk4.blk cX3 (fun h => h)
          have cY4 := kk4.blk cY3 (fun h => h)
          exact dofin kc4 gX gY cX4 rfl cY4 rfl (fun w2 kk a1 a2 => ⟨n1, n2, rfl, a1, a2, hkW.trans kk⟩)
    · intro n1 v0 hb0
      have kc0 := kW1.trans (hb0.kp (fun _ => False))
      have gX := Nat.le_trans kW1.size hb0.ge
      refine ⟨kc0, ?_⟩
      have cX0 := hb0.block
      refine ⟨?_, ?_⟩
      · refine ⟨(lid_any i v0).mono fun e v1 ⟨he, kk1⟩ => ⟨_, he, kc0.trans kk1, ?_⟩⟩
        have kc1 := kc0.trans kk1
        have cX1 := kk1.blk cX0 (fun h => h)
        refine ⟨?_, ?_⟩
        · refine ⟨(lname_any g hg0.1 v1).mono fun e v2 ⟨he, kk2⟩ => ⟨_, he, kc1.trans kk2, ?_⟩⟩
          have kc2 := kc1.trans kk2
          have cX2 := kk2.blk cX1 (fun h => h)
          refine ⟨?_, ?_⟩
          · refine ⟨(lauthor_any a v2).mono fun e v3 ⟨he, kk3⟩ => ⟨_, he, ?_⟩⟩
            have kc3 := kc2.trans kk3
            have cX3 := kk3.blk cX2 (fun h => h)
            intro n2 v4 hb4
            have kc4 := kc3.trans (hb4.kp (fun _ => False))
            have gY := Nat.le_trans kc3.size hb4.ge
            refine ⟨kc4, ?_⟩
            have cY4 := hb4.block
            have cX4 := (hb4.kp (fun _ => False)).blk cX3 (fun h => h)
            exact dofin kc4 gX gY cX4 rfl cY4 rfl (fun w2 kk a1 a2 => ⟨n1, n2, rfl, a1, a2, hkW.trans kk⟩)
          · intro n2 v3 hb3
            have kc3 := kc2.trans (hb3.kp (fun _ => False))
            have gY := Nat.le_trans kc2.size hb3.ge
            refine ⟨kc3, ?_⟩
            have cY3 := hb3.block
            have cX3 := (hb3.kp (fun _ => False)).blk cX2 (fun h => h)
            refine ⟨(lauthor_any a v3).mono fun e v4 ⟨he, kk4⟩ => ⟨_, he, ?_⟩⟩
            have kc4 := kc3.trans kk4
            have cX4 := kk4.blk cX3 (fun h => h)
            have cY4 := kk4.blk cY3 (fun h => h)
            exact dofin kc4 gX gY cX4 rfl cY4 rfl (fun w2 kk a1 a2 => ⟨n1, n2, rfl, a1, a2, hkW.trans kk⟩)
        · intro n2 v2 hb2
          have kc2 := kc1.trans (hb2.kp (fun _ => False))
          have gY := Nat.le_trans kc1.size hb2.ge
          refine ⟨kc2, ?_⟩
          have cY2 := hb2.block
          have cX2 := (hb2.kp (fun _ => False)).blk cX1 (fun h => h)
          refine ⟨(lname_any g hg0.1 v2).mono fun e v3 ⟨he, kk3⟩ => ⟨_, he, kc2.trans kk3, ?_⟩⟩
          have kc3 := kc2.trans kk3
          have cX3 := kk3.blk cX2 (fun h => h)
          have cY3 := kk3.blk cY2 (fun h => h)
          refine ⟨(lauthor_any a v3).mono fun e v4 ⟨he, kk4⟩ => ⟨_, he, ?_⟩⟩
          have kc4 := kc3.trans kk4
          have cX4 := kk4.blk cX3 (fun h => h)
          have cY4 := kk4.blk cY3 (fun h => h)
          exact dofin kc4 gX gY cX4 rfl cY4 rfl (fun w2 kk a1 a2 => ⟨n1, n2, rfl, a1, a2, hkW.trans kk⟩)
      · intro n2 v1 hb1
        have kc1 := kc0.trans (hb1.kp (fun _ => False))
        have gY := Nat.le_trans kc0.size hb1.ge
        refine ⟨kc1, ?_⟩
        have cY1 := hb1.block
        have cX1 := (hb1.kp (fun _ => False)).blk cX0 (fun h => h)
        refine ⟨(lid_any i v1).mono fun e v2 ⟨he, kk2⟩ => ⟨_, he, kc1.trans kk2, ?_⟩⟩
        have kc2 := kc1.trans kk2
        have cX2 := kk2.blk cX1 (fun h => h)
        have cY2 := kk2.blk cY1 (fun h => h)
        refine ⟨(lname_any g hg0.1 v2).mono fun e v3 ⟨he, kk3⟩ => ⟨_, he, kc2.trans kk3, ?_⟩⟩
        have kc3 := kc2.trans kk3
        have cX3 := kk3.blk cX2 (fun h => h)
        have cY3 := kk3.blk cY2 (fun h => h)
        refine ⟨(lauthor_any a v3).mono fun e v4 ⟨he, kk4⟩ => ⟨_, he, ?_⟩⟩
        have kc4 := kc3.trans kk4
        have cX4 := kk4.blk cX3 (fun h => h)
        have cY4 := kk4.blk cY3 (fun h => h)
        exact dofin kc4 gX gY cX4 rfl cY4 rfl (fun w2 kk a1 a2 => ⟨n1, n2, rfl, a1, a2, hkW.trans kk⟩)
    · intro n2 v0 hb0
      have kc0 := kW1.trans (hb0.kp (fun _ => False))
      have gY := Nat.le_trans kW1.size hb0.ge
      refine ⟨kc0, ?_⟩
      have cY0 := hb0.block
      refine ⟨?_, ?_⟩
      · refine ⟨(lid_any i v0).mono fun e v1 ⟨he, kk1⟩ => ⟨_, he, kc0.trans kk1, ?_⟩⟩
        have kc1 := kc0.trans kk1
        have cY1 := kk1.blk cY0 (fun h => h)
        refine ⟨?_, ?_⟩
        · refine ⟨(lname_any g hg0.1 v1).mono fun e v2 ⟨he, kk2⟩ => ⟨_, he, kc1.trans kk2, ?_⟩⟩
          have kc2 := kc1.trans kk2
          have cY2 := kk2.blk cY1 (fun h => h)
          refine ⟨?_, ?_⟩
          · refine ⟨(lauthor_any a v2).mono fun e v3 ⟨he, kk3⟩ => ⟨_, he, ?_⟩⟩
            have kc3 := kc2.trans kk3
            have cY3 := kk3.blk cY2 (fun h => h)
            intro n1 v4 hb4
            have kc4 := kc3.trans (hb4.kp (fun _ => False))
            have gX := Nat.le_trans kc3.size hb4.ge
            refine ⟨kc4, ?_⟩
            have cX4 := hb4.block
            have cY4 := (hb4.kp (fun _ => False)).blk cY3 (fun h => h)
            exact dofin kc4 gX gY cX4 rfl cY4 rfl (fun w2 kk a1 a2 => ⟨n1, n2, rfl, a1, a2, hkW.trans kk⟩)
          · intro n1 v3 hb3
            have kc3 := kc2.trans (hb3.kp (fun _ => False))
            have gX := Nat.le_trans kc2.size hb3.ge
            refine ⟨kc3, ?_⟩
            have cX3 := hb3.block
            have cY3 := (hb3.kp (fun _ => False)).blk cY2 (fun h => h)
            refine ⟨(lauthor_any a v3).mono fun e v4 ⟨he, kk4⟩ => ⟨_, he, ?_⟩⟩
            have kc4 := kc3.trans kk4
            have cX4 := kk4.blk cX3 (fun h => h)
            have cY4 := kk4.blk cY3 (fun h => h)
            exact dofin kc4 gX gY cX4 rfl cY4 rfl (fun w2 kk a1 a2 => ⟨n1, n2, rfl, a1, a2, hkW.trans kk⟩)
        · intro n1 v2 hb2
          have kc2 := kc1.trans (hb2.kp (fun _ => False))
          have gX := Nat.le_trans kc1.size hb2.ge
          refine ⟨kc2, ?_⟩
          have cX2 := hb2.block
          have cY2 := (hb2.kp (fun _ => False)).blk cY1 (fun h => h)
          refine ⟨(lname_any g hg0.1 v2).mono fun e v3 ⟨he, kk3⟩ => ⟨_, he, kc2.trans kk3, ?_⟩⟩
          have kc3 := kc2.trans kk3
          have cX3 := kk3.blk cX2 (fun h => h)
          have cY3 := kk3.blk cY2 (fun h => h)
          refine ⟨(lauthor_any a v3).mono fun e v4 ⟨he, kk4⟩ => ⟨_, he, ?_⟩⟩
          have kc4 := kc3.trans kk4
          have cX4 := kk4.blk cX3 (fun h => h)
          have cY4 := kk4.blk cY3 (fun h => h)
          exact dofin kc4 gX gY cX4 rfl cY4 rfl (fun w2 kk a1 a2 => ⟨n1, n2, rfl, a1, a2, hkW.trans kk⟩)
      · intro n1 v1 hb1
        have kc1 := kc0.trans (hb1.kp (fun _ => False))
        have gX := Nat.le_trans kc0.size hb1.ge
        refine ⟨kc1, ?_⟩
        have cX1 := hb1.block
        have cY1 := (hb1.kp (fun _ => False)).blk cY0 (fun h => h)
        refine ⟨(lid_any i v1).mono fun e v2 ⟨he, kk2⟩ => ⟨_, he, kc1.trans kk2, ?_⟩⟩
        have kc2 := kc1.trans kk2
        have cX2 := kk2.blk cX1 (fun h => h)
        have cY2 := kk2.blk cY1 (fun h => h)
        refine ⟨(lname_any g hg0.1 v2).mono fun e v3 ⟨he, kk3⟩ => ⟨_, he, kc2.trans kk3, ?_⟩⟩
        have kc3 := kc2.trans kk3
        have cX3 := kk3.blk cX2 (fun h => h)
        have cY3 := kk3.blk cY2 (fun h => h)
        refine ⟨(lauthor_any a v3).mono fun e v4 ⟨he, kk4⟩ => ⟨_, he, ?_⟩⟩
        have kc4 := kc3.trans kk4
        have cX4 := kk4.blk cX3 (fun h => h)
        have cY4 := kk4.blk cY3 (fun h => h)
        exact dofin kc4 gX gY cX4 rfl cY4 rfl (fun w2 kk a1 a2 => ⟨n1, n2, rfl, a1, a2, hkW.trans kk⟩)
  rintro xs x1 x2 w3 ⟨n1, n2, hv, c1, c2, k3⟩ hL
  simp only [List.cons.injEq, Value.string.injEq, Value.pointer.injEq, and_true] at hv
  obtain ⟨rfl, rfl, rfl⟩ := hv
  have ds : DS39 n n1 n2 [.int .u8 k, .int .u8 i, .int .u8 g, .int .u8 a, .int .i64 now, .string t] i a w3 := ⟨hL.cells 0 rfl, c1, c2⟩
  clear hW hL c1 c2
  have h3 := h.k0 k3
  have kd3 : KD w w3 := .k0 k3
  have hid := idN_ok hi0.1
  have hau := auN_ok ha0.1
  have hgs := nmG_sz g
  have ql : q.es.length ≤ 10000 := by have := r.ql; omega
  have om := r.mo (by omega)
  have htx := txO_sz t
  rw [txO_eq]
  have hm8 : 0 ≤ k.tmod 8 ∧ k.tmod 8 < 8 := by rw [Int.tmod_eq_emod_of_nonneg hk0]; omega
  have kp : ∀ {wa wb : World}, DS39 n n1 n2 [.int .u8 k, .int .u8 i, .int .u8 g, .int .u8 a, .int .i64 now, .string t] i a wa → KD wa wb → KeptL [n] wa wb := fun d kk => kk.kept (fun z hz => by
    rcases List.mem_singleton.1 hz with rfl
    exact ⟨_, _, _, d.1, rfl⟩)
  refine ⟨⟨by split <;> omega, by split <;> omega⟩, ?_⟩
  refine bsp_intro (fun hk => ?_) (fun hk0' => bsp_intro (fun hk => ?_) (fun hk1 => bsp_intro (fun hk => ?_) (fun hk2 => bsp_intro (fun hk => ?_) (fun hk3 => bsp_intro (fun hk => ?_) (fun hk4 => bsp_intro (fun hk => ?_) (fun hk5 => bsp_intro (fun hk => ?_) (fun hk6 => ?_)))))))
  · -- submit
    have hk : k.tmod 8 = 0 := by simpa using hk
    intro W4 hW4
    have k4 : K0 w3 W4 := hW4.kk rfl
    have d4 := ds.kd (.k0 k4)
    have h4 := h3.k0 k4
    clear hW4
    refine ⟨DS39 n n1 n2 _ i a, d4, nn_is rfl ⟨idN i, fun wx hx => AtL_block hx.2.1 rfl, now, fun wx hx => cell_at hx.1 rfl, nn_is rfl ⟨idN i, fun wx hx => AtL_block hx.2.1 rfl, now, fun wx hx => cell_at hx.1 rfl, ?_⟩⟩⟩
    refine ⟨(submit_any h4.mq r.qo (idN i) hid.1 (nmG g) (txO t) now (h4.gw hG)).mono fun e w5 ⟨he, hq5, k5⟩ => ?_⟩
    have kd5 := h4.mq.kd k5
    have h5 := h4.qop hq5 k5 (subQ_ms ..)
    refine ⟨_, he, d4.kd kd5, ⟨(xsubmit_any h5.mr om r.srt (idN i) hid.1 (nmG g) (txO t) now).mono fun e w6 ⟨he, hx, k6⟩ => ⟨_, he, kp d4 (kd5.trans (.mf k6)), ?_⟩⟩⟩
    have kd6 : KD w w6 := ((kd3.trans (.k0 k4)).trans kd5).trans (.mf k6)
    refine ⟨by rw [r.subE]; simp, ?_⟩
    rcases hx with ⟨hne, hM6⟩ | ⟨h0, L, P6, hp, hs, hM6⟩
    · exact ⟨_, M, P, h5.mop hM6 k6, r.sub_no hne, by unfold stpM; rw [hk]; exact .inr ⟨hne, rfl⟩, kd6⟩
    · exact ⟨_, _, P6, h5.mop hM6 k6, r.ins hid h0 hp hs, by unfold stpM; rw [hk]; exact .inl ⟨h0, L, hp, rfl⟩, kd6⟩
  · -- claim
    have hk : k.tmod 8 = 1 := by simpa using hk
    refine ⟨fun vs wx => ∃ (nq : Nat) (q' : Qu), vs = [.int .i64 (xclE M (nmG g) (auN a) now), .pointer (some ⟨nq, 0, none⟩)] ∧ wx.heap[nq]? = some (.cells (sbC (xclS M (nmG g) (auN a) now)).toArray 48 (0, 0)) ∧ SW w0 wx b mb eb m q' M P ∧ Rq n0 q' (xclM M (nmG g) (auN a) now) ∧ DS39 n n1 n2 [.int .u8 k, .int .u8 i, .int .u8 g, .int .u8 a, .int .i64 now, .string t] i a wx ∧ KD w wx, nn_is rfl ⟨auN a, AtL_block ds.2.2 rfl, ⟨(claim_any h3.mq r.qo (by omega) (nmG g) hgs (auN a) hau.1 now (h3.gw hG)).mono fun e w4 hcl => ?_⟩⟩, ?_⟩
    · rw [r.clE] at hcl
      rcases hcl with ⟨hne, he, k4⟩ | ⟨h0, x, hx, hmin, he, hq4, k4⟩
      · obtain ⟨eM, eS⟩ := xclM_no hne
        rw [eM, eS]
        refine ⟨sbz.id, sbz.g, sbz.tx, sbz.r, sbz.st, sbz.mo, sbz.de, sbz.rs, _, he, .of_k0 k4, fun nq W5 hW5 => ?_⟩
        have k5 := k4.trans (hW5.kk rfl : K0 w4 W5)
        exact ⟨nq, q, rfl, hW5.cells 1 rfl, h3.k0 k5, r, ds.kd (.k0 k5), kd3.trans (.k0 k5)⟩
      · obtain ⟨ex, rx⟩ := r.clm hau h0 hx hmin
        rw [← ex, h0]
        have kd4 := h3.mq.kd k4
        have h4 := h3.qop hq4 k4 rfl
        refine ⟨x.id, x.g, x.tx, x.r, x.st, x.mo, x.de, x.rs, _, he, kp ds kd4, fun nq W5 hW5 => ?_⟩
        have k5 : K0 w4 W5 := hW5.kk rfl
        exact ⟨nq, _, rfl, hW5.cells 1 rfl, h4.k0 k5, rx, (ds.kd kd4).kd (.k0 k5), (kd3.trans kd4).trans (.k0 k5)⟩
    rintro x3 x4 w5 ⟨nq, q', hv, cq, h5, r5, d5, kd5⟩ _
    simp only [List.cons.injEq, Value.int.injEq, Value.pointer.injEq, true_and, and_true] at hv
    obtain ⟨rfl, rfl⟩ := hv
    refine ⟨fun vs wx => ∃ (nm : Nat), vs = [.int .i64 (xclE M (nmG g) (auN a) now), .pointer (some ⟨nm, 0, none⟩)] ∧ wx.heap[nm]? = some (.cells (sbC (xclS M (nmG g) (auN a) now)).toArray 48 (0, 0)) ∧ wx.heap[nq]? = some (.cells (sbC (xclS M (nmG g) (auN a) now)).toArray 48 (0, 0)) ∧ SW w0 wx b mb eb m q' (xclM M (nmG g) (auN a) now) P ∧ KD w wx, nn_is rfl ⟨auN a, AtL_block d5.2.2 rfl, ⟨(xclaim_any h5.mr om (nmG g) (auN a) hau.1 now).mono fun e w6 ⟨he, hM6, k6⟩ => ?_⟩⟩, ?_⟩
    · have kd6 : KD w5 w6 := .mf k6
      refine ⟨(xclS M (nmG g) (auN a) now).id, (xclS M (nmG g) (auN a) now).g, (xclS M (nmG g) (auN a) now).tx, (xclS M (nmG g) (auN a) now).r, (xclS M (nmG g) (auN a) now).st, (xclS M (nmG g) (auN a) now).mo, (xclS M (nmG g) (auN a) now).de, (xclS M (nmG g) (auN a) now).rs, _, he, kp d5 kd6, fun nm W7 hW7 => ?_⟩
      have k7 : K0 w6 W7 := hW7.kk rfl
      exact ⟨nm, rfl, hW7.cells 1 rfl, k7.blk (kd6.2 _ _ _ _ cq rfl) (fun h => h), (h5.mop hM6 k6).k0 k7, (kd5.trans kd6).trans (.k0 k7)⟩
    rintro x6 x7 w8 ⟨nm, hv, cm, cq8, h8, kd8⟩ _
    simp only [List.cons.injEq, Value.int.injEq, Value.pointer.injEq, true_and, and_true] at hv
    obtain ⟨rfl, rfl⟩ := hv
    have oS := xclS_ok om (nmG g) (auN a) now
    have hstp : stpM k i g a now t M (xclM M (nmG g) (auN a) now) := by unfold stpM; rw [hk]; rfl
    generalize xclS M (nmG g) (auN a) now = S at cm cq8 oS
    refine nn_is rfl ⟨S.id, S.g, S.tx, S.r, S.st, S.mo, S.de, S.rs, AtL_block cq8 rfl, nn_is rfl ⟨S.id, S.g, S.tx, S.r, S.st, S.mo, S.de, S.rs, AtL_block cm rfl, _, sbEq oS oS, by simp, q', _, P, h8, r5.mono (by omega), hstp, kd8⟩⟩
  · -- release
    have hk : k.tmod 8 = 2 := by simpa using hk
    intro W4 hW4
    have k4 : K0 w3 W4 := hW4.kk rfl
    have d4 := ds.kd (.k0 k4)
    have h4 := h3.k0 k4
    clear hW4
    refine ⟨DS39 n n1 n2 _ i a, d4, nn_is rfl ⟨idN i, fun wx hx => AtL_block hx.2.1 rfl, nn_is rfl ⟨auN a, fun wx hx => AtL_block hx.2.2 rfl, now, fun wx hx => cell_at hx.1 rfl, nn_is rfl ⟨idN i, fun wx hx => AtL_block hx.2.1 rfl, nn_is rfl ⟨auN a, fun wx hx => AtL_block hx.2.2 rfl, now, fun wx hx => cell_at hx.1 rfl, ?_⟩⟩⟩⟩⟩
    refine ⟨(release_any h4.mq r.qo (idN i) hid.1 (nmG g) hgs (auN a) hau.1 now).mono fun e w5 ⟨he, hq5, k5⟩ => ?_⟩
    have kd5 := h4.mq.kd k5
    have h5 := h4.qop hq5 k5 (relQ_ms ..)
    refine ⟨_, he, d4.kd kd5, ⟨(xrelease_any h5.mr om (idN i) hid.1 (nmG g) (auN a) hau.1 now).mono fun e w6 ⟨he, hM6, k6⟩ => ⟨_, he, kp d4 (kd5.trans (.mf k6)), ?_⟩⟩⟩
    have kd6 : KD w w6 := ((kd3.trans (.k0 k4)).trans kd5).trans (.mf k6)
    exact ⟨by rw [r.rlE]; simp, _, _, P, h5.mop hM6 k6, (r.rel (idN i) (nmG g) (auN a) now).mono (by omega), by unfold stpM; rw [hk]; rfl, kd6⟩
  · -- approve
    have hk : k.tmod 8 = 3 := by simpa using hk
    obtain ⟨kk, ff, gg, hff, hcm⟩ := cmd_of (apE q (idN i) (nmG g) (auN a) now) hid.1 (nmG g)
    refine ⟨fun vs wx => ∃ (nc : Nat), vs = [.int .i64 (apE q (idN i) (nmG g) (auN a) now), .pointer (some ⟨nc, 0, none⟩)] ∧ wx.heap[nc]? = some (.cells (apC kk ff gg).toArray 42 (0, 0)) ∧ SW w0 wx b mb eb m (apQ q (idN i) (nmG g) (auN a) now 1 ⟨#[]⟩) M P ∧ DS39 n n1 n2 [.int .u8 k, .int .u8 i, .int .u8 g, .int .u8 a, .int .i64 now, .string t] i a wx ∧ KD w wx, nn_is rfl ⟨idN i, AtL_block ds.2.1 rfl, nn_is rfl ⟨auN a, AtL_block ds.2.2 rfl, ⟨(approve_any h3.mq r.qo ql (idN i) hid.1 (nmG g) hgs (auN a) hau.1 now).mono fun e w4 ⟨he, hq4, k4⟩ => ?_⟩⟩⟩, ?_⟩
    · rw [hcm] at he
      have kd4 := h3.mq.kd k4
      have h4 := h3.qop hq4 k4 (apQ_ms ..)
      refine ⟨kk, ff, gg, 0, false, none, 0, 0, ⟨#[]⟩, 0, 0, (fun _ => 0), _, he, kp ds kd4, fun nc W5 hW5 => ?_⟩
      have k5 : K0 w4 W5 := hW5.kk rfl
      exact ⟨nc, rfl, hW5.cells 1 rfl, h4.k0 k5, (ds.kd kd4).kd (.k0 k5), (kd3.trans kd4).trans (.k0 k5)⟩
    rintro x3 x4 w5 ⟨nc, hv, cc, h5, d5, kd5⟩ _
    simp only [List.cons.injEq, Value.int.injEq, Value.pointer.injEq, true_and, and_true] at hv
    obtain ⟨rfl, rfl⟩ := hv
    refine ⟨fun vs wx => vs = [.int .i64 (xdcE M (idN i) (nmG g) (auN a) 1 ⟨#[]⟩ now)] ∧ wx.heap[nc]? = some (.cells (apC kk ff gg).toArray 42 (0, 0)) ∧ SW w0 wx b mb eb m (apQ q (idN i) (nmG g) (auN a) now 1 ⟨#[]⟩) (xdcM M (idN i) (nmG g) (auN a) 1 ⟨#[]⟩ now) P ∧ DS39 n n1 n2 [.int .u8 k, .int .u8 i, .int .u8 g, .int .u8 a, .int .i64 now, .string t] i a wx ∧ KD w wx, nn_is rfl ⟨idN i, AtL_block d5.2.1 rfl, nn_is rfl ⟨auN a, AtL_block d5.2.2 rfl, ⟨(xdecide_any h5.mr om (idN i) hid.1 (nmG g) (auN a) hau.1 1 ⟨#[]⟩ (by decide) now).mono fun e w6 ⟨he, hM6, k6⟩ => ?_⟩⟩⟩, ?_⟩
    · have kd6 : KD w5 w6 := .mf k6
      exact ⟨_, he, kp d5 kd6, rfl, kd6.2 _ _ _ _ cc rfl, h5.mop hM6 k6, d5.kd kd6, kd5.trans kd6⟩
    rintro x6 w7 ⟨hv, cc7, h7, d7, kd7⟩ _ W8 hW8
    simp only [List.cons.injEq, Value.int.injEq, true_and, and_true] at hv
    subst hv
    have k8 : K0 w7 W8 := hW8.kk rfl
    have cc8 := k8.blk cc7 (fun h => h)
    have d8 := d7.kd (.k0 k8)
    have h8 := h7.k0 k8
    have kd8 := kd7.trans (.k0 k8)
    clear hW8
    rw [r.apE] at hcm ⊢
    have hbb : (xdcE M (idN i) (nmG g) (auN a) 1 ⟨#[]⟩ now == xdcE M (idN i) (nmG g) (auN a) 1 ⟨#[]⟩ now) = true := by simp
    simp only [hbb]
    refine ⟨fun wx => wx.heap[nc]? = some (.cells (apC kk ff gg).toArray 42 (0, 0)) ∧ DS39 n n1 n2 [.int .u8 k, .int .u8 i, .int .u8 g, .int .u8 a, .int .i64 now, .string t] i a wx, ⟨cc8, d8⟩, nn_is rfl ⟨kk, ff, gg, 0, false, none, 0, 0, ⟨#[]⟩, 0, 0, (fun _ => 0), gimp_intro fun _ wx hx => AtL_block hx.1 rfl, nn_is rfl ⟨idN i, gimp_intro fun _ wx hx => AtL_block hx.2.2.1 rfl, bsp_intro (fun _ => ?_) (fun h => by cases h)⟩⟩⟩
    refine ⟨(xcomm_any (idN i) (nmG g) (xdcE M (idN i) (nmG g) (auN a) 1 ⟨#[]⟩ now) W8).mono fun e w9 ⟨he, k9⟩ => ?_⟩
    rw [hcm] at he
    refine ⟨kk, ff, gg, 0, false, none, 0, 0, ⟨#[]⟩, 0, 0, (fun _ => 0), he, ⟨k9.blk cc8 (fun h => h), d8.kd (.k0 k9)⟩, ⟨(ceq_any kk ff hff gg w9).mono fun e w10 ⟨he, k10⟩ => ⟨_, he, .of_k0 (k9.trans k10), rfl, _, _, P, h8.k0 (k9.trans k10), r.ap hau |>.mono (by omega), by unfold stpM; rw [hk]; rfl, kd8.trans (.k0 (k9.trans k10))⟩⟩⟩
  · -- reject
    have hk : k.tmod 8 = 4 := by simpa using hk
    intro W4 hW4
    have k4 : K0 w3 W4 := hW4.kk rfl
    have d4 := ds.kd (.k0 k4)
    have h4 := h3.k0 k4
    clear hW4
    refine ⟨DS39 n n1 n2 _ i a, d4, nn_is rfl ⟨idN i, fun wx hx => AtL_block hx.2.1 rfl, nn_is rfl ⟨auN a, fun wx hx => AtL_block hx.2.2 rfl, now, fun wx hx => cell_at hx.1 rfl, nn_is rfl ⟨idN i, fun wx hx => AtL_block hx.2.1 rfl, nn_is rfl ⟨auN a, fun wx hx => AtL_block hx.2.2 rfl, now, fun wx hx => cell_at hx.1 rfl, ?_⟩⟩⟩⟩⟩
    refine ⟨(reject_any h4.mq r.qo ql (idN i) hid.1 (nmG g) hgs (auN a) hau.1 (txO t) now).mono fun e w5 ⟨he, hq5, k5⟩ => ?_⟩
    have kd5 := h4.mq.kd k5
    have h5 := h4.qop hq5 k5 (rejQ_ms ..)
    refine ⟨_, he, d4.kd kd5, ⟨(xdecide_any h5.mr om (idN i) hid.1 (nmG g) (auN a) hau.1 2 (txO t) (by omega) now).mono fun e w6 ⟨he, hM6, k6⟩ => ⟨_, he, kp d4 (kd5.trans (.mf k6)), ?_⟩⟩⟩
    have kd6 : KD w w6 := ((kd3.trans (.k0 k4)).trans kd5).trans (.mf k6)
    exact ⟨by rw [r.rjE]; simp, _, _, P, h5.mop hM6 k6, r.rj hau |>.mono (by omega), by unfold stpM; rw [hk]; rfl, kd6⟩
  · -- lapse
    have hk : k.tmod 8 = 5 := by simpa using hk
    intro W4 hW4
    have k4 : K0 w3 W4 := hW4.kk rfl
    have d4 := ds.kd (.k0 k4)
    have h4 := h3.k0 k4
    clear hW4
    have oL := xlpL_ok om now
    have hlL : (xlpL M now).length ≤ 1000000 := by
      have := r.el
      unfold xlpL
      split
      · rw [List.length_map]
        have := List.length_filter_le (lapP (now - M.days * 1440)) M.es
        omega
      · show 0 ≤ _; omega
    refine ⟨DS39 n n1 n2 _ i a, d4, now, fun wx hx => cell_at hx.1 rfl, now, fun wx hx => cell_at hx.1 rfl, ⟨(lapse_any h4.mq r.qo ql now (h4.gw hG)).mono fun e w5 hla => ?_⟩⟩
    have key : ∃ (p : Option Addr) (c : Nat) (q5 : Qu), e = .returned (.slice p (xlpL M now).length c) ∧ RowA sbC 54 w5 p (xlpL M now) ∧ (∀ g' o, p = some ⟨g', o, none⟩ → ∃ cc ff, w5.heap[g']? = some (.cells cc 48 ff)) ∧ SW w0 w5 b mb eb m q5 M P ∧ Rq n0 q5 (xlpM M now) ∧ KD W4 w5 := by
      rcases hla with ⟨hm, he, _, k5⟩ | ⟨hm, p, c, L, he, hp, hs, ho, hq5, k5⟩
      · have e1 : xlpL M now = [] := by unfold xlpL; rw [if_neg (by rw [hm]; decide)]
        have e2 : xlpM M now = M := by unfold xlpM; rw [if_neg (by rw [hm]; decide)]
        rw [e1, e2]
        exact ⟨none, 0, q, he, RowA.nil, (fun g' o e => by cases e), h4.k0 k5, r, .k0 k5⟩
      · obtain ⟨e1, r5⟩ := r.lap hm hp hs
        have hl : L.length = (xlpL M now).length := by rw [← e1, List.length_map]
        rw [e1, hl] at ho
        rw [hl] at he
        refine ⟨p, c, _, he, RowA.own ho sbC_length (by decide), fun g' o e => ?_, h4.qop hq5 k5 (finA_ms ..), r5, h4.mq.kd k5⟩
        subst e
        obtain ⟨cc, hcc⟩ := own_type ho (k := g') rfl
        exact ⟨cc, _, hcc⟩
    obtain ⟨p, c, q5, he, hR5, hT5, h5, r5, kd5⟩ := key
    refine ⟨_, _, _, he, d4.kd kd5, ⟨(xlapse_any h5.mr om now).mono fun e w6 ⟨⟨p6, c6, he, ho6⟩, hM6, k6⟩ => ?_⟩⟩
    have kd6 : KD w5 w6 := .mf k6
    have hR6 : RowA sbC 54 w6 p (xlpL M now) := fun jj y hy => by
      obtain ⟨bb, oo, h1, h2⟩ := hR5 jj y hy
      obtain ⟨cc, ff, hcc⟩ := hT5 bb oo h1
      exact ⟨bb, oo, h1, ⟨At_of _ _ fun jx u hu => k6.cell' (h2.cell hu) (mf_no hcc (by decide))⟩⟩
    refine ⟨_, _, _, he, ⟨(xsame_any (xlpL M now) p p6 c c6 w6 hR6 (RowA.own ho6 sbC_length (by decide)) hlL oL).mono fun e w7 ⟨he, k7⟩ => ⟨_, he, kp d4 ((kd5.trans kd6).trans (.k0 k7)), rfl, q5, _, P, (h5.mop hM6 k6).k0 k7, r5.mono (by omega), by unfold stpM; rw [hk]; rfl, (((kd3.trans (.k0 k4)).trans kd5).trans kd6).trans (.k0 k7)⟩⟩⟩
  · -- forget
    have hk : k.tmod 8 = 6 := by simpa using hk
    intro W4 hW4
    have k4 : K0 w3 W4 := hW4.kk rfl
    have d4 := ds.kd (.k0 k4)
    have h4 := h3.k0 k4
    clear hW4
    refine ⟨DS39 n n1 n2 _ i a, d4, now, fun wx hx => cell_at hx.1 rfl, now, fun wx hx => cell_at hx.1 rfl, ⟨(forget_any h4.mq r.qo ql now).mono fun e w5 ⟨⟨L, he, hp, hq5⟩, k5⟩ => ?_⟩⟩
    obtain ⟨hl, r5⟩ := r.fgt hp
    have kd5 := h4.mq.kd k5
    have h5 := h4.qop hq5 k5 (delA_ms ..)
    refine ⟨_, he, d4.kd kd5, ⟨(xforget_any h5.mr (by have := r.el; omega) now).mono fun e w6 ⟨he, ⟨P6, hM6⟩, k6⟩ => ⟨_, he, kp d4 (kd5.trans (.mf k6)), ?_⟩⟩⟩
    have kd6 : KD w w6 := ((kd3.trans (.k0 k4)).trans kd5).trans (.mf k6)
    exact ⟨by rw [hl]; simp, _, _, P6, h5.mop hM6 k6, r5.mono (by omega), by unfold stpM; rw [hk]; rfl, kd6⟩
  · -- the moderators
    have hk : k.tmod 8 = 7 := by
      simp only [beq_eq_false_iff_ne, ne_eq] at hk0' hk1 hk2 hk3 hk4 hk5 hk6
      omega
    have ha12 : (IntKind.i64.wrap a).tmod 12 = ((a.tmod 12).toNat : Int) := by
      rw [wr64 (by omega) (by omega), Int.tmod_eq_emod_of_nonneg ha0.1]
      omega
    rw [ha12]
    have hT : (a.tmod 12).toNat ≤ 11 := by rw [Int.tmod_eq_emod_of_nonneg ha0.1]; omega
    generalize hN : (a.tmod 12).toNat = N at hT
    refine ⟨fun vs wx => ∃ (j : Nat) (p : Option Addr) (c : Nat), vs = [.int .i64 (j : Int), .slice p j c] ∧ j ≤ N ∧ wx.ownsRow w3.heap.size 45 16 (.slice p j c) j ((moT i a j).flatMap auC) ∧ K0 w3 wx, fun vs _ => (match vs with | .int _ a :: _ => N - a.toNat | _ => 0), ⟨0, none, 0, rfl, by omega, World.ownsRow_nil _ _ _ _, .refl _ _⟩, ?_⟩
    rintro x3 p j c w4 ⟨j', p', c', hv, hj, ho, k4⟩ _
    simp only [List.cons.injEq, Value.int.injEq, Value.slice.injEq, true_and, and_true] at hv
    obtain ⟨rfl, rfl, rfl, rfl⟩ := hv
    refine bsp_intro (fun hlt n4 W5 hW5 => ?_) (fun hge => ?_)
    · have hlt : j < N := by simp at hlt; omega
      have k5 : K0 w4 W5 := hW5.kk rfl
      have hn5 : KeptL [n] W5 W5 := .refl _ _
      have cw := hW5.cells 0 rfl
      have hcell : ∀ ys : List Value, (ys = auC (auK i a (j : Int))) → (moT i a j).flatMap auC ++ ys = (moT i a (j + 1)).flatMap auC := fun ys e => by
        rw [e, moT_succ, List.flatMap_append, List.flatMap_cons, List.flatMap_nil, List.append_nil]
      have hwr : IntKind.i64.wrap (IntKind.i64.wrap (IntKind.i64.wrap i * (j : Int)) + IntKind.i64.wrap a) = i * (j : Int) + a := by
        have hij : 0 ≤ i * (j : Int) ∧ i * (j : Int) ≤ 255 * 11 := ⟨Int.mul_nonneg hi0.1 (by omega), Int.mul_le_mul hi0.2 (by omega) (by omega) (by decide)⟩
        rw [wr64 (x := i) (by omega) (by omega), wr64 (x := a) (by omega) (by omega), wr64 (x := i * (j : Int)) (by omega) (by omega), wr64 (by omega) (by omega)]
      rw [hwr]
      refine ⟨w3.heap.size, _, owns_kp ho k5 (fun _ _ h => h), by omega, by omega, Nat.le_trans k4.size k5.size, fun p6 c6 w6 ho6 hg6 _ => ?_⟩
      have kg := kp_grown hg6
      have k6 : K0 w3 w6 := (k4.trans k5).fresh kg (fun jj hjj e => by have := own_ge ho e; omega)
      rw [inc64 (by omega)]
      have ho6 : w6.ownsRow w3.heap.size 45 16 (.slice p6 (j + 1) c6) (j + 1) ((moT i a j).flatMap auC ++ auC (auK i a (j : Int))) := ho6
      rw [hcell _ rfl] at ho6
      refine ⟨.of_kp kg (fun z hz e => ?_), ⟨j + 1, p6, c6, rfl, hlt, ho6, k6⟩, by simp only [Int.toNat_natCast]; omega⟩
      rcases List.mem_singleton.1 hz with rfl
      have h1 := own_ge ho e
      have h2 := block_lt ds.1
      omega
    · have hjN : j = N := by simp at hge; omega
      subst hjN
      have hml : moT i a j = moL i a := by unfold moT moL; rw [hN]
      have hlen : (moL i a).length = j := by rw [moL_len, hN]
      rw [hml] at ho
      have h4 := h3.k0 k4
      have d4 := ds.kd (.k0 k4)
      have ho' : w4.ownsRow w3.heap.size 45 16 (.slice p (moL i a).length c) (moL i a).length ((moL i a).flatMap auC) := by rw [hlen]; exact ho
      have hR4 : RowA auC 16 w4 p (moL i a) := RowA.own ho' auC_length (by decide)
      have hlt4 : ∀ g' o, p = some ⟨g', o, none⟩ → g' < w4.heap.size := fun g' o e => by subst e; exact own_lt ho rfl
      have hb := fun z hz => (moL_ok (i := i) (a := a) z hz).1
      have hset := setModsQ_any h4.mq h4.qs (nmG g) (moL i a) p c hR4 hlt4 hb (h4.gw hG)
      rw [hlen] at hset
      refine ⟨hset.mono fun e w5 ⟨he, ⟨q5, hs5, hq5, hQ5⟩, k5⟩ => ?_⟩
      have kd5 := h4.mq.kd k5
      have h5 := h4.qopS hq5 hQ5 k5
      refine ⟨_, he, kp d4 kd5, ?_⟩
      have hR5 : RowA auC 16 w5 p (moL i a) := RowA.own (kd5.own ho' rfl) auC_length (by decide)
      have hxs := xset_any h5.mr (by have := r.gl; omega) (nmG g) (moL i a) p c hR5 hb
      rw [hlen] at hxs
      refine ⟨hxs.mono fun e w6 ⟨he, hx, k6⟩ => ⟨_, he, kp (d4.kd kd5) (.mf k6), by simp, ?_⟩⟩
      have kd6 : KD w w6 := ((kd3.trans (.k0 k4)).trans kd5).trans (.mf k6)
      rcases hx with ⟨hne, hM6⟩ | ⟨h0, X, P6, hp6, hs6, hM6⟩
      · have e5 : q5 = q := by
          rcases hs5 with ⟨_, e⟩ | ⟨e, _⟩ | ⟨e, _⟩
          · exact e
          · exact absurd e hne
          · exact absurd e hne
        subst e5
        exact ⟨_, M, P, h5.mop hM6 k6, r.mono (by omega), by unfold stpM; rw [hk]; exact .inr ⟨hne, rfl⟩, kd6⟩
      · exact ⟨_, _, P6, h5.mop hM6 k6, r.setr moL_ok hs5 h0 hp6 hs6, by unfold stpM; rw [hk]; exact .inl ⟨h0, X, hp6, hs6, rfl⟩, kd6⟩

end Go.Proofs.YtfacflbmlfbeeaaGreatDoor

/- The formulas of functions by the symbolic evaluator, and that each gives the call's contract. Written by a program (gen.py). No condition. -/
namespace Go.Proofs.YtfacflbmlfbeeaaGreatDoor
set_option maxRecDepth 100000
set_option linter.unusedVariables false

end Go.Proofs.YtfacflbmlfbeeaaGreatDoor

/- The formulas of functions by the symbolic evaluator, and that each gives the call's contract. Written by a program (gen.py). No condition. -/
namespace Go.Proofs.YtfacflbmlfbeeaaGreatDoor
set_option maxRecDepth 100000
set_option linter.unusedVariables false

end Go.Proofs.YtfacflbmlfbeeaaGreatDoor

/- The formulas of functions by the symbolic evaluator, and that each gives the call's contract. Written by a program (gen.py). No condition. -/
namespace Go.Proofs.YtfacflbmlfbeeaaGreatDoor
set_option maxRecDepth 100000
set_option linter.unusedVariables false

end Go.Proofs.YtfacflbmlfbeeaaGreatDoor

/- Chapter 39: the contracts of the law's play, of ModerationOperations and of ModerationLapses. Bytes are bytes; numbers can be written; the library's variable MaxLen holds a number. -/
namespace Go.Proofs.YtfacflbmlfbeeaaGreatDoor
open Go.RowKit Go.Sort Go.Maps

/-- What the first j operations make of the model. -/
def Chn (r d : Int) (L : List OpZ) : Nat → Mo → Prop
  | 0, M => M0 r d M
  | j + 1, M' => ∃ (M : Mo) (x : OpZ), Chn r d L j M ∧ L[j]? = some x ∧ stpM x.k x.i x.g x.a x.now x.t M M' ∧ M'.es.Pairwise fun x y => cfM x.s y.s < 0
theorem Chn.det {r d : Int} {L : List OpZ} : ∀ {j : Nat} {M N : Mo}, Chn r d L j M → Chn r d L j N → MoE M N
  | 0, _, _, h1, h2 => M0.moe h1 h2
  | j + 1, _, _, ⟨_, x, h1, hx, s1, p1⟩, ⟨_, y, h2, hy, s2, p2⟩ => by
    rw [hx] at hy
    cases hy
    exact (Chn.det h1 h2).step s1 s2 p1 p2
/-- What stands after some operations. -/
structure Pd (r d : Int) (L : List OpZ) (w w' : World) (b mb eb m j : Nat) (q : Qu) (M : Mo) (P : Pl) : Prop where
  sw : SW w w' b mb eb m q M P
  rq : Rq (2 + j) q M
  ch : Chn r d L j M
  st : St r d M
  nm : NmD M
theorem Pd.k0 {r d : Int} {L : List OpZ} {w w' w2 : World} {b mb eb m j : Nat} {q : Qu} {M : Mo} {P : Pl} (h : Pd r d L w w' b mb eb m j q M P) (k : K0 w' w2) : Pd r d L w w2 b mb eb m j q M P := ⟨h.sw.k0 k, h.rq, h.ch, h.st, h.nm⟩
set_option maxRecDepth 100000 in
set_option maxHeartbeats 4000000 in
/-- One operation more. -/
theorem Pd.do {r d : Int} {L : List OpZ} {w w' : World} {b mb eb m j : Nat} {q : Qu} {M : Mo} {P : Pl} (h : Pd r d L w w' b mb eb m j q M P) (hj : j ≤ 40) (hG : GW w) {x : OpZ} (hx : L[j]? = some x) (ho : x.R) :
    Calls Tryz.prog 31 #[.pointer (some ⟨b, 0, none⟩), .pointer (some ⟨m, 0, none⟩), .agg (([.int .u8 x.k, .int .u8 x.i, .int .u8 x.g, .int .u8 x.a, .int .i64 x.now, .string x.t] : List Value)).toArray] w' fun e w2 => e = .returned (.bool true) ∧ ∃ (q' : Qu) (M' : Mo) (P' : Pl), Pd r d L w w2 b mb eb m (j + 1) q' M' P' ∧ stpM x.k x.i x.g x.a x.now x.t M M' ∧ KD w' w2 :=
  (ldo_any h.sw h.rq (by omega) hG x.k x.i x.g x.a x.now x.t ho.k.1 ho.i ho.g ho.a).mono fun e w2 ⟨he, q', M', P', h2, r2, hs, kd⟩ => ⟨he, q', M', P', ⟨h2, r2, ⟨M, x, h.ch, hx, hs, r2.srt⟩, h.st.step h.rq.dis hs, h.nm.step hs⟩, hs, kd⟩
/-! ### Lapses -/
theorem SW.lapse {w0 w : World} {b mb eb m n : Nat} {q : Qu} {M : Mo} {P : Pl} (h : SW w0 w b mb eb m q M P) (r : Rq n q M) (hn : n ≤ 10000) (hG : GW w0) (now : Int) :
    Calls Tryz.prog 33 #[.pointer (some ⟨b, 0, none⟩), .int .i64 now] w fun e w' => ∃ (p : Option Addr) (c : Nat) (q5 : Qu), e = .returned (.slice p (xlpL M now).length c) ∧ RowA sbC 54 w' p (xlpL M now) ∧ (∀ g' o, p = some ⟨g', o, none⟩ → ∃ cc ff, w'.heap[g']? = some (.cells cc 48 ff)) ∧ SW w0 w' b mb eb m q5 M P ∧ Rq n q5 (xlpM M now) ∧ KD w w' :=
  (lapse_any h.mq r.qo (by have := r.ql; omega) now (h.gw hG)).mono fun e w5 hla => by
    rcases hla with ⟨hm, he, _, k5⟩ | ⟨hm, p, c, L, he, hp, hs, ho, hq5, k5⟩
    · have e1 : xlpL M now = [] := by unfold xlpL; rw [if_neg (by rw [hm]; decide)]
      have e2 : xlpM M now = M := by unfold xlpM; rw [if_neg (by rw [hm]; decide)]
      rw [e1, e2]
      exact ⟨none, 0, q, he, RowA.nil, (fun g' o e => by cases e), h.k0 k5, r, .k0 k5⟩
    · obtain ⟨e1, r5⟩ := r.lap hm hp hs
      have hl : L.length = (xlpL M now).length := by rw [← e1, List.length_map]
      rw [e1, hl] at ho
      rw [hl] at he
      refine ⟨p, c, _, he, RowA.own ho sbC_length (by decide), fun g' o e => ?_, h.qop hq5 k5 (finA_ms ..), r5, h.mq.kd k5⟩
      subst e
      obtain ⟨cc, hcc⟩ := own_type ho (k := g') rfl
      exact ⟨cc, _, hcc⟩
end Go.Proofs.YtfacflbmlfbeeaaGreatDoor

/- The formulas of functions by the symbolic evaluator, and that each gives the call's contract. Written by a program (gen.py). No condition. -/
namespace Go.Proofs.YtfacflbmlfbeeaaGreatDoor
set_option maxRecDepth 100000
set_option linter.unusedVariables false

def VC_ldecs (p : Option Addr) (n : Nat) (c : Nat) (w : World) (R : Ending -> World -> Prop) : Prop := CallsS Tryz.prog 14 #[] w fun (e : Ending) (w' : World) => ∃ (x : Bool), e = .returned (.bool x) /\ KeptL [] w w' /\ bsp (!x) (R (.returned (.bool false)) w') (CallsS Tryz.prog 17 #[.int .i64 4, .int .i64 2] w' fun (e : Ending) (w'_1 : World) => ∃ (x : Option Addr) (x_1 : Option Addr), e = .returned (.tuple #[.pointer x, .pointer x_1]) /\ KeptL [] w' w'_1 /\ ∃ (I : List Value -> World -> Prop) (m : List Value -> World -> Nat), I [Value.int .i64 0] w'_1 /\ ∀ (x_2 : Int) (w' : World), I [Value.int .i64 x_2] w' -> bsp (decide (x_2 < (↑n : Int)) && decide (x_2 < 40)) (∃ (I_1 : List Value -> World -> Prop) (m_1 : List Value -> World -> Nat), I_1 [Value.int .i64 1, .slice none 0 0] w' /\ ∀ (x_3 : Int) (p_1 : Option Addr) (n_1 c : Nat) (w'_2 : World),
 I_1 [Value.int .i64 x_3, .slice p_1 n_1 c] w'_2 -> bsp (decide (x_3 <= 3)) (CallsS Tryz.prog 32 #[.pointer x, .string (ByteArray.mk #[]), .int .i64 x_3] w'_2 fun (e : Ending) (w' : World) => ∃ (p : Option Addr) (n : Nat) (c_1 : Nat), e = .returned (.slice p n c_1) /\ KeptL [] w'_2 w' /\ ∃ (base : Nat) (xs : List Value) (news : List Value), w'.ownsRow base 48 54 (.slice p_1 n_1 c) n_1 xs /\ news.length = n * 54 /\ SrcP w' p news /\ n_1 + n <= 9223372036854775807 /\ (n_1 + n) * 120 <= 140737488355328 /\ base <= w'.heap.size /\ ∀ (p' : Option Addr) (c' : Nat) (w'_3 : World), w'_3.ownsRow base 48 54 (.slice p' (n_1 + n) c') (n_1 + n) (xs ++ news) -> w'.grownBy w'_3 (Value.slice p_1 n_1 c).ownBlock -> AppL w' p_1 n_1 c n p' c' -> KeptL [] w' w'_3 /\ I_1 [Value.int .i64 (IntKind.i64.wrap (x_3 + 1)), .slice p' (n_1 + n) c'] w'_3 /\ m_1 [Value.int .i64 (IntKind.i64.wrap (x_3 + 1)),
 .slice p' (n_1 + n) c'] w'_3 < m_1 [Value.int .i64 x_3, .slice p_1 n_1 c] w'_2) (nn true p fun (b o : Nat) => (0 <= x_2 /\ x_2 < (↑n : Int)) /\ ∃ (x_4 : Int) (x_5 : Int), ∃ (x_6 : Int) (x_7 : Int), ∃ (x_8 : Int) (x_9 : ByteArray), AtL w'_2 b (o + x_2.toNat * 6) [Value.int .u8 x_4, .int .u8 x_5, .int .u8 x_6, .int .u8 x_7, .int .i64 x_8, .string x_9] /\ CallsS Tryz.prog 31 #[.pointer x, .pointer x_1, .agg #[.int .u8 x_4, .int .u8 x_5, .int .u8 x_6, .int .u8 x_7, .int .i64 x_8, .string x_9]] w'_2 fun (e : Ending) (w'_3 : World) => ∃ (x_10 : Bool), e = .returned (.bool x_10) /\ KeptL [] w'_2 w'_3 /\ ∃ (I_2 : List Value -> World -> Prop) (m_2 : List Value -> World -> Nat), I_2 [Value.int .i64 0] w'_3 /\ ∀ (x_11 : Int) (w'_4 : World), I_2 [Value.int .i64 x_11] w'_4 -> bsp (decide (x_11 < (↑n_1 : Int))) (∀ (W : World), Loc w.heap.size [] w'_4 W -> ∃ (S : World -> Prop), S W /\
 nn true p_1 fun (b o : Nat) => (0 <= x_11 /\ x_11 < (↑n_1 : Int)) /\ ∃ (f : Nat -> Int), (∀ (w' : World), S w' -> AtL w' b (o + x_11.toNat * 54) (arrI .u8 f 32 0)) /\ nn true p_1 fun (b o : Nat) => (0 <= x_11 /\ x_11 < (↑n_1 : Int)) /\ ∃ (x_12 : ByteArray), (∀ (w' : World), S w' -> w'.cell? (Addr.mk b (o + x_11.toNat * 54 + 32) none) = some (.string x_12)) /\ (CallsS Tryz.prog 21 #[.pointer x, .agg (arrI .u8 f 32 0).toArray, .string x_12] W fun (e : Ending) (w' : World) => ∃ (f : Nat -> Int) (x : ByteArray), ∃ (x_13 : ByteArray) (x_14 : Int), ∃ (x_15 : Int) (f_1 : Nat -> Int), ∃ (x_16 : Int) (x_17 : ByteArray) (x_18 : Bool), e = .returned (.tuple #[.agg (arrI .u8 f 32 0 ++ ([Value.string x, .string x_13, .int .i64 x_14, .int .i64 x_15] ++ arrI .u8 f_1 16 0 ++ [Value.int .i64 x_16, .string x_17])).toArray, .bool x_18]) /\ ∀ (n_2 : Nat) (w1 : World), NewB w' (Obj.cells
 #[.int .u8 0, .int .u8 0, .int .u8 0, .int .u8 0, .int .u8 0, .int .u8 0, .int .u8 0, .int .u8 0, .int .u8 0, .int .u8 0, .int .u8 0, .int .u8 0, .int .u8 0, .int .u8 0, .int .u8 0, .int .u8 0, .int .u8 0, .int .u8 0, .int .u8 0, .int .u8 0, .int .u8 0, .int .u8 0, .int .u8 0, .int .u8 0, .int .u8 0, .int .u8 0, .int .u8 0, .int .u8 0, .int .u8 0, .int .u8 0, .int .u8 0, .int .u8 0, .string (ByteArray.mk #[]), .string (ByteArray.mk #[]), .int .i64 0, .int .i64 0, .int .u8 0, .int .u8 0, .int .u8 0, .int .u8 0, .int .u8 0, .int .u8 0, .int .u8 0, .int .u8 0, .int .u8 0, .int .u8 0, .int .u8 0, .int .u8 0, .int .u8 0, .int .u8 0, .int .u8 0, .int .u8 0, .int .i64 0, .string (ByteArray.mk #[])] 48) n_2 w1 -> S w1 /\ WrL w1 n_2 0 54 /\ ∀ (w1_1 : World), PutB w1 n_2 0 (arrI .u8 f 32 0 ++ ([Value.string x, .string x_13, .int .i64 x_14,
 .int .i64 x_15] ++ arrI .u8 f_1 16 0 ++ [Value.int .i64 x_16, .string x_17])) w1_1 -> KeptL [] W w1_1 /\ ∃ (f : Nat -> Int) (x : ByteArray), ∃ (x_19 : ByteArray) (x_20 : Int), ∃ (x_21 : Int) (f_2 : Nat -> Int), ∃ (x_22 : Int) (x_23 : ByteArray), gimp x_18 (∀ (W : World), Loc w.heap.size [] w1_1 W -> AtL W n_2 0 (arrI .u8 f 32 0 ++ ([Value.string x, .string x_19, .int .i64 x_20, .int .i64 x_21] ++ arrI .u8 f_2 16 0 ++ [Value.int .i64 x_22, .string x_23]))) /\ nn x_18 p_1 fun (b o : Nat) => gimp x_18 (0 <= x_11 /\ x_11 < (↑n_1 : Int)) /\ ∃ (f_3 : Nat -> Int) (x_24 : ByteArray), ∃ (x_25 : ByteArray) (x_26 : Int), ∃ (x_27 : Int) (f_4 : Nat -> Int), ∃ (x_28 : Int) (x_29 : ByteArray), gimp x_18 (∀ (W : World), Loc w.heap.size [] w1_1 W -> AtL W b (o + x_11.toNat * 54) (arrI .u8 f_3 32 0 ++ ([Value.string x_24, .string x_25, .int .i64 x_26, .int .i64
 x_27] ++ arrI .u8 f_4 16 0 ++ [Value.int .i64 x_28, .string x_29]))) /\ ∃ (r : Bool), gimp x_18 (EqP Tryz.prog 48 (.agg (arrI .u8 f 32 0 ++ ([Value.string x, .string x_19, .int .i64 x_20, .int .i64 x_21] ++ arrI .u8 f_2 16 0 ++ [Value.int .i64 x_22, .string x_23])).toArray) (.agg (arrI .u8 f_3 32 0 ++ ([Value.string x_24, .string x_25, .int .i64 x_26, .int .i64 x_27] ++ arrI .u8 f_4 16 0 ++ [Value.int .i64 x_28, .string x_29])).toArray) r) /\ nn (!(x_18 && !r) && !x_18) p fun (b o : Nat) => gimp (!(x_18 && !r) && !x_18) (0 <= x_2 /\ x_2 < (↑n : Int)) /\ ∃ (x : Int), gimp (!(x_18 && !r) && !x_18) (∀ (W : World), Loc w.heap.size [] w1_1 W -> W.cell? (Addr.mk b (o + x_2.toNat * 6) none) = some (.int .u8 x)) /\ bsp (x_18 && !r || !x_18 && x.tmod 8 != 6) (∀ (W : World), Loc w.heap.size [] w1_1 W -> R (.returned (.bool false)) W) (∀ (W : World), Loc w.heap.size [] w1_1 W -> I_2 [Value.int
 .i64 (IntKind.i64.wrap (x_11 + 1))] W /\ m_2 [Value.int .i64 (IntKind.i64.wrap (x_11 + 1))] W < m_2 [Value.int .i64 x_11] w'_4)) /\ ∀ (n_2 : Nat) (w1 : World), NewB W (Obj.cells #[.int .u8 0, .int .u8 0, .int .u8 0, .int .u8 0, .int .u8 0, .int .u8 0, .int .u8 0, .int .u8 0, .int .u8 0, .int .u8 0, .int .u8 0, .int .u8 0, .int .u8 0, .int .u8 0, .int .u8 0, .int .u8 0, .int .u8 0, .int .u8 0, .int .u8 0, .int .u8 0, .int .u8 0, .int .u8 0, .int .u8 0, .int .u8 0, .int .u8 0, .int .u8 0, .int .u8 0, .int .u8 0, .int .u8 0, .int .u8 0, .int .u8 0, .int .u8 0, .string (ByteArray.mk #[]), .string (ByteArray.mk #[]), .int .i64 0, .int .i64 0, .int .u8 0, .int .u8 0, .int .u8 0, .int .u8 0, .int .u8 0, .int .u8 0, .int .u8 0, .int .u8 0, .int .u8 0, .int .u8 0, .int .u8 0, .int .u8 0, .int .u8 0, .int .u8 0, .int .u8 0, .int .u8 0, .int .i64 0, .string (ByteArray.mk #[])] 48) n_2 w1 ->
 S w1 /\ CallsS Tryz.prog 21 #[.pointer x, .agg (arrI .u8 f 32 0).toArray, .string x_12] w1 fun (e : Ending) (w' : World) => ∃ (f : Nat -> Int) (x : ByteArray), ∃ (x_13 : ByteArray) (x_14 : Int), ∃ (x_15 : Int) (f_1 : Nat -> Int), ∃ (x_16 : Int) (x_17 : ByteArray) (x_18 : Bool), e = .returned (.tuple #[.agg (arrI .u8 f 32 0 ++ ([Value.string x, .string x_13, .int .i64 x_14, .int .i64 x_15] ++ arrI .u8 f_1 16 0 ++ [Value.int .i64 x_16, .string x_17])).toArray, .bool x_18]) /\ WrL w' n_2 0 54 /\ ∀ (w1 : World), PutB w' n_2 0 (arrI .u8 f 32 0 ++ ([Value.string x, .string x_13, .int .i64 x_14, .int .i64 x_15] ++ arrI .u8 f_1 16 0 ++ [Value.int .i64 x_16, .string x_17])) w1 -> KeptL [] W w1 /\ ∃ (f : Nat -> Int) (x : ByteArray), ∃ (x_19 : ByteArray) (x_20 : Int), ∃ (x_21 : Int) (f_2 : Nat -> Int), ∃ (x_22 : Int) (x_23 : ByteArray), gimp x_18 (∀ (W : World),
 Loc w.heap.size [] w1 W -> AtL W n_2 0 (arrI .u8 f 32 0 ++ ([Value.string x, .string x_19, .int .i64 x_20, .int .i64 x_21] ++ arrI .u8 f_2 16 0 ++ [Value.int .i64 x_22, .string x_23]))) /\ nn x_18 p_1 fun (b o : Nat) => gimp x_18 (0 <= x_11 /\ x_11 < (↑n_1 : Int)) /\ ∃ (f_3 : Nat -> Int) (x_24 : ByteArray), ∃ (x_25 : ByteArray) (x_26 : Int), ∃ (x_27 : Int) (f_4 : Nat -> Int), ∃ (x_28 : Int) (x_29 : ByteArray), gimp x_18 (∀ (W : World), Loc w.heap.size [] w1 W -> AtL W b (o + x_11.toNat * 54) (arrI .u8 f_3 32 0 ++ ([Value.string x_24, .string x_25, .int .i64 x_26, .int .i64 x_27] ++ arrI .u8 f_4 16 0 ++ [Value.int .i64 x_28, .string x_29]))) /\ ∃ (r : Bool), gimp x_18 (EqP Tryz.prog 48 (.agg (arrI .u8 f 32 0 ++ ([Value.string x, .string x_19, .int .i64 x_20, .int .i64 x_21] ++ arrI .u8 f_2 16 0 ++ [Value.int .i64 x_22, .string x_23])).toArray) (.agg
 (arrI .u8 f_3 32 0 ++ ([Value.string x_24, .string x_25, .int .i64 x_26, .int .i64 x_27] ++ arrI .u8 f_4 16 0 ++ [Value.int .i64 x_28, .string x_29])).toArray) r) /\ nn (!(x_18 && !r) && !x_18) p fun (b o : Nat) => gimp (!(x_18 && !r) && !x_18) (0 <= x_2 /\ x_2 < (↑n : Int)) /\ ∃ (x : Int), gimp (!(x_18 && !r) && !x_18) (∀ (W : World), Loc w.heap.size [] w1 W -> W.cell? (Addr.mk b (o + x_2.toNat * 6) none) = some (.int .u8 x)) /\ bsp (x_18 && !r || !x_18 && x.tmod 8 != 6) (∀ (W : World), Loc w.heap.size [] w1 W -> R (.returned (.bool false)) W) (∀ (W : World), Loc w.heap.size [] w1 W -> I_2 [Value.int .i64 (IntKind.i64.wrap (x_11 + 1))] W /\ m_2 [Value.int .i64 (IntKind.i64.wrap (x_11 + 1))] W < m_2 [Value.int .i64 x_11] w'_4)) (∃ (I_3 : List Value -> World -> Prop) (m_3 : List Value -> World -> Nat), I_3 [Value.int .i64 1] w'_4 /\ ∀ (x_12 : Int) (w'_5 : World),
 I_3 [Value.int .i64 x_12] w'_5 -> bsp (decide (x_12 <= 3)) (CallsS Tryz.prog 32 #[.pointer x, .string (ByteArray.mk #[]), .int .i64 x_12] w'_5 fun (e : Ending) (w' : World) => ∃ (p_2 : Option Addr) (n_2 : Nat) (c : Nat), e = .returned (.slice p_2 n_2 c) /\ KeptL [] w'_5 w' /\ ∃ (I : List Value -> World -> Prop) (m : List Value -> World -> Nat), I [Value.int .i64 0] w' /\ ∀ (x : Int) (w' : World), I [Value.int .i64 x] w' -> bsp (decide (x < (↑n_2 : Int))) (∃ (I_4 : List Value -> World -> Prop) (m_4 : List Value -> World -> Nat), I_4 [Value.int .i64 0, .bool false] w' /\ ∀ (x_13 : Int) (x_14 : Bool) (w'_6 : World), I_4 [Value.int .i64 x_13, .bool x_14] w'_6 -> bsp (decide (x_13 < (↑n_1 : Int))) (nn (!x_14) p_1 fun (b o : Nat) => gimp (!x_14) (0 <= x_13 /\ x_13 < (↑n_1 : Int)) /\ ∃ (f : Nat -> Int) (x_15 : ByteArray), ∃ (x_16 : ByteArray) (x_17 : Int) (x_18 : Int),
 ∃ (f_1 : Nat -> Int) (x_19 : Int) (x_20 : ByteArray), gimp (!x_14) (∀ (W : World), Loc w.heap.size [] w'_6 W -> AtL W b (o + x_13.toNat * 54) (arrI .u8 f 32 0 ++ ([Value.string x_15, .string x_16, .int .i64 x_17, .int .i64 x_18] ++ arrI .u8 f_1 16 0 ++ [Value.int .i64 x_19, .string x_20]))) /\ nn (!x_14) p_2 fun (b o : Nat) => gimp (!x_14) (0 <= x /\ x < (↑n_2 : Int)) /\ ∃ (f_2 : Nat -> Int) (x_21 : ByteArray), ∃ (x_22 : ByteArray) (x_23 : Int), ∃ (x_24 : Int) (f_3 : Nat -> Int), ∃ (x_25 : Int) (x_26 : ByteArray), gimp (!x_14) (∀ (W : World), Loc w.heap.size [] w'_6 W -> AtL W b (o + x.toNat * 54) (arrI .u8 f_2 32 0 ++ ([Value.string x_21, .string x_22, .int .i64 x_23, .int .i64 x_24] ++ arrI .u8 f_3 16 0 ++ [Value.int .i64 x_25, .string x_26]))) /\ ∃ (r : Bool), gimp (!x_14) (EqP Tryz.prog 48 (.agg (arrI .u8 f 32 0 ++ ([Value.string x_15, .string x_16,
 .int .i64 x_17, .int .i64 x_18] ++ arrI .u8 f_1 16 0 ++ [Value.int .i64 x_19, .string x_20])).toArray) (.agg (arrI .u8 f_2 32 0 ++ ([Value.string x_21, .string x_22, .int .i64 x_23, .int .i64 x_24] ++ arrI .u8 f_3 16 0 ++ [Value.int .i64 x_25, .string x_26])).toArray) r) /\ ∀ (W : World), Loc w.heap.size [] w'_6 W -> I_4 [Value.int .i64 (IntKind.i64.wrap (x_13 + 1)), .bool (x_14 || r)] W /\ m_4 [Value.int .i64 (IntKind.i64.wrap (x_13 + 1)), .bool (x_14 || r)] W < m_4 [Value.int .i64 x_13, .bool x_14] w'_6) (bsp x_14 (I [Value.int .i64 (IntKind.i64.wrap (x + 1))] w'_6 /\ m [Value.int .i64 (IntKind.i64.wrap (x + 1))] w'_6 < m [Value.int .i64 x] w') (nn (x_12 == 3) p fun (b o : Nat) => gimp (x_12 == 3) (0 <= x_2 /\ x_2 < (↑n : Int)) /\ ∃ (x_15 : Int), gimp (x_12 == 3) (∀ (W : World), Loc w.heap.size [] w'_6 W -> W.cell? (Addr.mk b (o + x_2.toNat * 6) none) = some (.int .u8 x_15)) /\
 nn (x_12 == 3 && !x_15.tmod 8 != 5) p_2 fun (b o : Nat) => gimp (x_12 == 3 && !x_15.tmod 8 != 5) (0 <= x /\ x < (↑n_2 : Int)) /\ ∃ (f : Nat -> Int), gimp (x_12 == 3 && !x_15.tmod 8 != 5) (∀ (W : World), Loc w.heap.size [] w'_6 W -> AtL W b (o + x.toNat * 54 + 36) (arrI .u8 f 16 0)) /\ ∃ (r : Bool), gimp (x_12 == 3 && !x_15.tmod 8 != 5) (EqP Tryz.prog 45 (.agg (arrI .u8 f 16 0).toArray) (.agg #[.int .u8 0, .int .u8 0, .int .u8 0, .int .u8 0, .int .u8 0, .int .u8 0, .int .u8 0, .int .u8 0, .int .u8 0, .int .u8 0, .int .u8 0, .int .u8 0, .int .u8 0, .int .u8 0, .int .u8 0, .int .u8 0]) r) /\ nn (!(x_12 == 3 && (x_15.tmod 8 != 5 || !r)) && x_12 != 3) p_2 fun (b o : Nat) => gimp (!(x_12 == 3 && (x_15.tmod 8 != 5 || !r)) && x_12 != 3) (0 <= x /\ x < (↑n_2 : Int)) /\ ∃ (x_16 : ByteArray), gimp (!(x_12 == 3 && (x_15.tmod 8 != 5 || !r)) && x_12 != 3) (∀ (W : World), Loc w.heap.size [] w'_6 W ->
 W.cell? (Addr.mk b (o + x.toNat * 54 + 32) none) = some (.string x_16)) /\ nn (!(x_12 == 3 && (x_15.tmod 8 != 5 || !r)) && x_12 != 3) p_2 fun (b o : Nat) => gimp (!(x_12 == 3 && (x_15.tmod 8 != 5 || !r)) && x_12 != 3) (0 <= x /\ x < (↑n_2 : Int)) /\ ∃ (f : Nat -> Int), gimp (!(x_12 == 3 && (x_15.tmod 8 != 5 || !r)) && x_12 != 3) (∀ (W : World), Loc w.heap.size [] w'_6 W -> AtL W b (o + x.toNat * 54 + 36) (arrI .u8 f 16 0)) /\ ∀ (W : World), Loc w.heap.size [] w'_6 W -> bsp (!(x_12 == 3 && (x_15.tmod 8 != 5 || !r))) (bsp (x_12 != 3) (CallsS Tryz.prog 37 #[.pointer x_1, .string x_16, .agg (arrI .u8 f 16 0).toArray] W fun (e : Ending) (w'_7 : World) => ∃ (x_17 : Bool), e = .returned (.bool x_17) /\ KeptL [] W w'_7 /\ bsp (false || true && !x_17) (R (.returned (.bool false)) w'_7) (I [Value.int .i64 (IntKind.i64.wrap (x + 1))] w'_7 /\ m [Value.int .i64 (IntKind.i64.wrap (x + 1))] w'_7 < m
 [Value.int .i64 x] w')) (KeptL [] W W /\ I [Value.int .i64 (IntKind.i64.wrap (x + 1))] W /\ m [Value.int .i64 (IntKind.i64.wrap (x + 1))] W < m [Value.int .i64 x] w')) (KeptL [] W W /\ R (.returned (.bool false)) W)))) (I_3 [Value.int .i64 (IntKind.i64.wrap (x_12 + 1))] w' /\ m_3 [Value.int .i64 (IntKind.i64.wrap (x_12 + 1))] w' < m_3 [Value.int .i64 x_12] w'_5)) (I [Value.int .i64 (IntKind.i64.wrap (x_2 + 1))] w'_5 /\ m [Value.int .i64 (IntKind.i64.wrap (x_2 + 1))] w'_5 < m [Value.int .i64 x_2] w')))) (R (.returned (.bool true)) w'))
theorem vc_ldecs (p : Option Addr) (n : Nat) (c : Nat) (w : World) (R : Ending -> World -> Prop) (h : VC_ldecs p n c w R) : Calls Tryz.prog 8 ([Value.slice p n c] : List Value).toArray w R :=
 calls_of_exec2' (loops := [(5, [(5, Ck.int .i64)]), (9, [(7, Ck.int .i64), (6, Ck.slice)]), (14, [(8, Ck.int .i64)]), (20, [(11, Ck.int .i64)]), (24, [(13, Ck.int .i64)]), (28, [(15, Ck.int .i64), (14, Ck.bool)])]) (tails := [(16, 11), (32, 35)]) (joins := []) (boxes := []) (rngs := []) (c := Tryz.f8.body.getD .skip) pur1_ok Tryz.func8 (by kernel_rfl) (by kernel_rfl) h

end Go.Proofs.YtfacflbmlfbeeaaGreatDoor

/- Chapter 39: the contract of ModerationDecisions. Bytes are bytes; numbers can be written; the library's variable MaxLen holds a number. -/
namespace Go.Proofs.YtfacflbmlfbeeaaGreatDoor
open Go.RowKit Go.Sort Go.Maps

/-- The submissions in the first s states that are decided. -/
def OL (M : Mo) : Nat → List Sb
  | 0 => []
  | s + 1 => OL M s ++ M.ls ⟨#[]⟩ ((s : Int) + 1)
theorem ls_mem {M : Mo} {st : Int} {z : Sb} : z ∈ M.ls ⟨#[]⟩ st ↔ ∃ y ∈ M.es, y.s = z ∧ z.st = st := by
  unfold Mo.ls
  rw [List.mem_map]
  constructor
  · rintro ⟨y, hy, rfl⟩
    obtain ⟨h1, h2⟩ := List.mem_filter.1 hy
    rw [lsP_e] at h2
    exact ⟨y, h1, rfl, by simpa using h2⟩
  · rintro ⟨y, hy, rfl, h⟩
    exact ⟨y, List.mem_filter.2 ⟨hy, by rw [lsP_e, h]; simp⟩, rfl⟩
theorem OL_mem {M : Mo} {z : Sb} : ∀ {s : Nat}, z ∈ OL M s → ∃ y ∈ M.es, y.s = z ∧ 1 ≤ z.st
  | 0, h => by cases h
  | s + 1, h => by
    rcases List.mem_append.1 h with h | h
    · exact OL_mem h
    · obtain ⟨y, hy, e, hs⟩ := ls_mem.1 h
      exact ⟨y, hy, e, by omega⟩
theorem OL_in {M : Mo} {y : En} (hy : y ∈ M.es) : ∀ {s t : Nat}, t < s → y.s.st = (t : Int) + 1 → y.s ∈ OL M s
  | 0, _, h, _ => by omega
  | s + 1, t, h, e => by
    rcases Nat.lt_or_ge t s with h1 | h1
    · exact List.mem_append_left _ (OL_in hy h1 e)
    · obtain rfl : t = s := by omega
      exact List.mem_append_right _ (ls_mem.2 ⟨y, hy, rfl, e⟩)
theorem ls_len (M : Mo) (st : Int) : (M.ls ⟨#[]⟩ st).length ≤ M.es.length := by
  unfold Mo.ls
  rw [List.length_map]; exact List.length_filter_le _ _
theorem OL_len (M : Mo) : ∀ s : Nat, (OL M s).length ≤ s * M.es.length
  | 0 => by simp [OL]
  | s + 1 => by
    have h1 := OL_len M s
    have h2 := ls_len M ((s : Int) + 1)
    show (OL M s ++ _).length ≤ _
    rw [List.length_append, Nat.succ_mul]; omega
theorem AtL.mo {w : World} {b o : Nat} {s : Sb} (h : AtL w b o (sbC s)) : AtL w b (o + 36) (arrI .u8 s.mo 16 0) := ⟨At_of _ _ fun j v hj => by
  have hj16 : j < 16 := by
    have := (List.getElem?_eq_some_iff.1 hj).1
    exact this
  have e : (sbC s)[36 + j]? = some v := by
    rw [← hj]
    have : (sbC s).drop 36 = arrI .u8 s.mo 16 0 ++ ([.int .i64 s.de, .string s.rs] : List Value) := rfl
    rw [← List.getElem?_drop, this, List.getElem?_append_left (by exact hj16)]
  have := h.cell e
  rw [← Nat.add_assoc] at this
  exact this⟩
noncomputable def hasPl (l : List Sb) (z : Sb) : Bool := l.any fun y => decide (y.pl = z.pl)
theorem hasPl_succ {l : List Sb} {z y : Sb} {u : Nat} (h : l[u]? = some y) : hasPl (l.take (u + 1)) z = (hasPl (l.take u) z || decide (y.pl = z.pl)) := by
  unfold hasPl
  rw [take_snoc h, List.any_append]
  simp
set_option maxRecDepth 100000 in
set_option maxHeartbeats 16000000 in
theorem ldecs_any (p : Option Addr) (L : List OpZ) (c : Nat) (w : World) (hR : RowA opC39 6 w p L) (hL : ∀ x ∈ L, x.R) (hl : L.length ≤ 4611686018427387904) (hG : GW w) :
    Calls Tryz.prog 8 #[.slice p L.length c] w fun e w' => e = .returned (.bool true) ∧ K0 w w' := by
  refine vc_ldecs p L.length c w _ ⟨(known_any w hG).mono fun e w1 ⟨he, k1⟩ => ⟨_, he, .of_k0 k1, bsp_intro (fun h => by cases h) (fun _ => ?_)⟩⟩
  have hG1 : GW w1 := hG.kp k1 (fun h => h)
  refine ⟨(lstart_any 4 2 (by decide) w1 hG1).mono fun e w2 ⟨b, mb, eb, m, q, M, P, he, h, r, h0, _⟩ => ⟨_, _, he, .of_k0 h.k, ?_⟩⟩
  refine ⟨fun vs w' => ∃ (j : Nat) (q : Qu) (M : Mo) (P : Pl), vs = [.int .i64 (j : Int)] ∧ j ≤ L.length ∧ j ≤ 40 ∧ Pd 4 2 L w1 w' b mb eb m j q M P, fun vs _ => (match vs with | .int _ a :: _ => L.length - a.toNat | _ => 0), ⟨0, q, M, P, rfl, by omega, by omega, h, r, h0, h0.st (by decide), h0.nm⟩, ?_⟩
  rintro x2 w3 ⟨j, q3, M3, P3, hv, hj, hj40, h3⟩
  simp only [List.cons.injEq, Value.int.injEq, true_and, and_true] at hv
  subst hv
  refine bsp_intro (fun hlt => ?_) (fun _ => ⟨rfl, k1.trans h3.sw.k⟩)
  have hlt : j < L.length ∧ j < 40 := by simp at hlt; omega
  obtain ⟨x, bb, o, hx, hp, hat0⟩ := hR.get hlt.1
  have ho := hL x (List.mem_of_getElem? hx)
  have om3 := h3.rq.mo (by omega)
  have hel3 := h3.rq.el
  have hOl : ∀ s, s ≤ 3 → (OL M3 s).length ≤ 200 := fun s hs => by
    have h1 := OL_len M3 s
    have h2 : s * M3.es.length ≤ 3 * M3.es.length := Nat.mul_le_mul_right _ hs
    omega
  refine ⟨fun vs wx => ∃ (s : Nat) (p1 : Option Addr) (c1 : Nat), vs = [.int .i64 ((s : Int) + 1), .slice p1 (OL M3 s).length c1] ∧ s ≤ 3 ∧ wx.ownsRow w3.heap.size 48 54 (.slice p1 (OL M3 s).length c1) (OL M3 s).length ((OL M3 s).flatMap sbC) ∧ K0 w3 wx, fun vs _ => (match vs with | .int _ a :: _ => 4 - a.toNat | _ => 0), ⟨0, none, 0, rfl, by omega, World.ownsRow_nil _ _ _ _, .refl _ _⟩, ?_⟩
  rintro x3 p1 n1 c1 w4 ⟨s, p1', c1', hv, hs3, ho4, k4⟩
  simp only [List.cons.injEq, Value.int.injEq, Value.slice.injEq, true_and, and_true] at hv
  obtain ⟨rfl, rfl, rfl, rfl⟩ := hv
  have h4 := h3.k0 k4
  refine bsp_intro (fun hlts => ?_) (fun hges => ?_)
  · have hlts : s < 3 := by simp at hlts; omega
    refine ⟨(h4.sw.list h4.rq (by omega) hG1 ⟨#[]⟩ ((s : Int) + 1)).mono fun e w5 ⟨⟨p5, c5, he, ho5⟩, k5⟩ => ⟨_, _, _, he, .of_k0 k5, ?_⟩⟩
    have hsl := hOl s (by omega)
    have hsl2 := hOl (s + 1) (by omega)
    have e1 : (OL M3 (s + 1)).length = (OL M3 s).length + (M3.ls ⟨#[]⟩ ((s : Int) + 1)).length := List.length_append
    have e2 : (OL M3 (s + 1)).flatMap sbC = (OL M3 s).flatMap sbC ++ (M3.ls ⟨#[]⟩ ((s : Int) + 1)).flatMap sbC := List.flatMap_append
    refine app_own (w0 := w3) (E := 120) (m := (M3.ls ⟨#[]⟩ ((s : Int) + 1)).length) (owns_kp ho4 k5 (fun _ _ h => h)) (k4.trans k5) (by omega) (by omega) (by rw [len_flat sbC 54 _ (fun _ _ => rfl)]) (src_rowA (RowA.own ho5 sbC_length (by decide)) sbC_length sbC_one (by decide)) (fun p' c' w6 ho6 k6 kg => ⟨.of_kp kg (fun z hz => by cases hz), ⟨s + 1, p', c', ?_, hlts, ?_, k6⟩, ?_⟩)
    · rw [wr64 (by omega) (by omega), e1]
      have : ((s + 1 : Nat) : Int) = (s : Int) + 1 := by omega
      rw [this]
    · rw [e1, e2]; exact ho6
    · rw [wr64 (by omega) (by omega)]
      show 4 - ((s : Int) + 1 + 1).toNat < 4 - ((s : Int) + 1).toNat
      omega
  obtain rfl : s = 3 := by simp at hges; omega
  have hOl3 := hOl 3 (by omega)
  rw [Int.toNat_natCast]
  refine nn_is hp ⟨⟨by omega, by omega⟩, x.k, x.i, x.g, x.a, x.now, x.t, hat0.k0 (k1.trans h4.sw.k), ⟨(h4.do (by omega) hG1 hx ho).mono fun e w5 ⟨he, q5, M5, P5, h5, hstp, kd5⟩ => ⟨_, he, kd5.kept (fun z hz => by cases hz), ?_⟩⟩⟩
  have ho5 := kd5.own ho4 rfl
  have hR5 : RowA sbC 54 w5 p1 (OL M3 3) := RowA.own ho5 sbC_length (by decide)
  have om5 := h5.rq.mo (by omega)
  have hel5 := h5.rq.el
  have hgl5 := h5.rq.gl
  have KW : K0 w w5 := k1.trans h5.sw.k
  have oZ : ∀ z ∈ OL M3 3, z.OK ∧ z.g.size ≤ 1000 := fun z hz => by
    obtain ⟨y, hy, rfl, _⟩ := OL_mem hz
    have := om3.es y hy
    exact ⟨this.1.s, this.2⟩
  refine ⟨fun vs wx => ∃ k : Nat, vs = [.int .i64 (k : Int)] ∧ k ≤ (OL M3 3).length ∧ K0 w5 wx, fun vs _ => (match vs with | .int _ a :: _ => (OL M3 3).length - a.toNat | _ => 0), ⟨0, rfl, by omega, .refl _ _⟩, ?_⟩
  rintro x11 w6 ⟨k, hv, hk, k6⟩
  simp only [List.cons.injEq, Value.int.injEq, true_and, and_true] at hv
  subst hv
  refine bsp_intro (fun hltk W7 hW7 => ?_) (fun _ => ?_)
  · have hltk : k < (OL M3 3).length := by simp at hltk; omega
    have k7 : K0 w5 W7 := k6.trans (hW7.kk rfl)
    clear hW7
    obtain ⟨z, bz, oz, hz, hpz, hatz⟩ := (hR5.k0 k7).get hltk
    have hzm := List.mem_of_getElem? hz
    have oz' := oZ z hzm
    have hatz0 : AtL W7 bz (oz + k * 54) (arrI .u8 z.id 32 0) := AtL.left (l2 := (([.string z.g, .string z.tx, .int .i64 z.r, .int .i64 z.st] : List Value) ++ (arrI .u8 z.mo 16 0 ++ ([.int .i64 z.de, .string z.rs] : List Value)))) hatz
    rw [Int.toNat_natCast]
    have hfact : ((fdL M5.es (idI z.id, z.g)).isSome = true ∧ ((fdL M5.es (idI z.id, z.g)).getD enz).s = z) ∨ ((fdL M5.es (idI z.id, z.g)).isSome = false ∧ ((fdL M5.es (idI z.id, z.g)).getD enz).s = sbz ∧ x.k.tmod 8 = 6) := by
      obtain ⟨y, hy, rfl, hst⟩ := OL_mem hzm
      rcases dec_old h3.rq.dis h5.rq.dis hstp hy (by omega) with ⟨zz, hf, e⟩ | ⟨hf, e⟩
      · have hf : fdL M5.es (idI y.s.id, y.s.g) = some zz := hf
        rw [hf]
        exact .inl ⟨rfl, e⟩
      · have hf : fdL M5.es (idI y.s.id, y.s.g) = none := hf
        rw [hf]
        exact .inr ⟨rfl, rfl, e⟩
    have get : ∀ wx, K0 w5 wx → Calls Tryz.prog 21 #[.pointer (some ⟨b, 0, none⟩), .agg (arrI .u8 z.id 32 0).toArray, .string z.g] wx fun e w' => e = .returned (.tuple #[sbV ((fdL M5.es (idI z.id, z.g)).getD enz).s, .bool (fdL M5.es (idI z.id, z.g)).isSome]) ∧ K0 wx w' := fun wx kx => (h5.sw.k0 kx).get h5.rq z.id oz'.1.id z.g (by omega)
    have oY : ((fdL M5.es (idI z.id, z.g)).getD enz).s.OK := by
      rcases hfact with ⟨_, e⟩ | ⟨_, e, _⟩
      · rw [e]; exact oz'.1
      · rw [e]; exact sbz_ok
    generalize ((fdL M5.es (idI z.id, z.g)).getD enz).s = Y at hfact get oY
    generalize (fdL M5.es (idI z.id, z.g)).isSome = B at hfact get
    refine ⟨fun wx => K0 W7 wx, .refl _ _, nn_is hpz ⟨⟨by omega, by omega⟩, z.id, fun wx kx => hatz0.k0 kx, nn_is hpz ⟨⟨by omega, by omega⟩, z.g, fun wx kx => (hatz.k0 kx).cell (j := 32) rfl, ⟨(get W7 k7).mono fun e w8 ⟨he, k8⟩ => ⟨Y.id, Y.g, Y.tx, Y.r, Y.st, Y.mo, Y.de, Y.rs, B, he, fun n2 w9 hn => ⟨k8.trans (hn.kp _), WrL_block hn.block (by decide), fun wt hp2 => ?ta⟩⟩⟩, fun n2 w8 hn => ⟨hn.kp _, ⟨(get w8 (k7.trans (hn.kp _))).mono fun e w9 ⟨he, k9⟩ => ⟨Y.id, Y.g, Y.tx, Y.r, Y.st, Y.mo, Y.de, Y.rs, B, he, WrL_block (k9.blk hn.block (fun h => h)) (by decide), fun wt hp2 => ?tb⟩⟩⟩⟩⟩⟩
    case' ta =>
      have kt : K0 W7 wt := (k8.trans (hn.kp _)).fresh hp2.kp (fun i hi e => by have e : i = n2 := e; have := hn.ge; have := k8.size; omega)
      have ct := putN hn.block rfl (sbC_length Y) hp2
      clear hn hp2 k8 he
    case' tb =>
      have kt : K0 W7 wt := ((hn.kp (fun _ => False)).trans k9).fresh hp2.kp (fun i hi e => by have e : i = n2 := e; have := hn.ge; omega)
      have ct := putN (k9.blk hn.block (fun h => h)) rfl (sbC_length Y) hp2
      clear hn hp2 k9 he
    all_goals
      refine ⟨.of_k0 kt, Y.id, Y.g, Y.tx, Y.r, Y.st, Y.mo, Y.de, Y.rs, gimp_intro fun _ W hW => AtL_block ((hW.kk rfl : K0 wt W).blk ct (fun h => h)) rfl, nn_is hpz ⟨gimp_intro fun _ => ⟨by omega, by omega⟩, z.id, z.g, z.tx, z.r, z.st, z.mo, z.de, z.rs, gimp_intro fun _ W hW => hatz.k0 (kt.trans (hW.kk rfl)), _, gimp_intro fun _ => sbEq oY oz'.1, nn_is hp ⟨gimp_intro fun _ => ⟨by omega, by omega⟩, x.k, gimp_intro fun _ W hW => (hat0.k0 ((KW.trans k7).trans (kt.trans (hW.kk rfl)))).cell (j := 0) rfl, bsp_intro (fun hbad => ?_) (fun _ W hW => ?_)⟩⟩⟩
      · exfalso
        rcases hfact with ⟨e1, e2⟩ | ⟨e1, _, e3⟩
        · rw [e1, e2] at hbad
          simp at hbad
        · rw [e1, e3] at hbad
          simp at hbad
      · rw [inc64 (by omega)]
        exact ⟨⟨k + 1, rfl, hltk, k7.trans (kt.trans (hW.kk rfl))⟩, by simp only [Int.toNat_natCast]; omega⟩
  refine ⟨fun vs wx => ∃ s : Nat, vs = [.int .i64 ((s : Int) + 1)] ∧ s ≤ 3 ∧ K0 w5 wx, fun vs _ => (match vs with | .int _ a :: _ => 4 - a.toNat | _ => 0), ⟨0, rfl, by omega, k6⟩, ?_⟩
  rintro x12 w7 ⟨s, hv, hs, k7⟩
  simp only [List.cons.injEq, Value.int.injEq, true_and, and_true] at hv
  subst hv
  refine bsp_intro (fun hlts => ?_) (fun _ => ?_)
  rotate_left
  · rw [inc64 (by omega)]
    exact ⟨⟨j + 1, q5, M5, P5, rfl, hlt.1, by omega, h5.k0 k7⟩, by simp only [Int.toNat_natCast]; omega⟩
  have hlts : s < 3 := by simp at hlts; omega
  have h7 := h5.k0 k7
  refine ⟨(h7.sw.list h7.rq (by omega) hG1 ⟨#[]⟩ ((s : Int) + 1)).mono fun e w8 ⟨⟨p8, c8, he, ho8⟩, k8⟩ => ⟨_, _, _, he, .of_k0 k8, ?_⟩⟩
  have hR8 : RowA sbC 54 w8 p8 (M5.ls ⟨#[]⟩ ((s : Int) + 1)) := RowA.own ho8 sbC_length (by decide)
  have hll := ls_len M5 ((s : Int) + 1)
  have K8 : K0 w5 w8 := k7.trans k8
  refine ⟨fun vs wx => ∃ t : Nat, vs = [.int .i64 (t : Int)] ∧ t ≤ (M5.ls ⟨#[]⟩ ((s : Int) + 1)).length ∧ K0 w8 wx, fun vs _ => (match vs with | .int _ a :: _ => (M5.ls ⟨#[]⟩ ((s : Int) + 1)).length - a.toNat | _ => 0), ⟨0, rfl, by omega, .refl _ _⟩, ?_⟩
  rintro x13 w9 ⟨t, hv, ht, k9⟩
  simp only [List.cons.injEq, Value.int.injEq, true_and, and_true] at hv
  subst hv
  refine bsp_intro (fun hltt => ?_) (fun _ => ?_)
  rotate_left
  · rw [wr64 (by omega) (by omega)]
    exact ⟨⟨s + 1, by simp, hlts, K8.trans k9⟩, by show 4 - ((s : Int) + 1 + 1).toNat < 4 - ((s : Int) + 1).toNat; omega⟩
  have hltt : t < (M5.ls ⟨#[]⟩ ((s : Int) + 1)).length := by simp at hltt; omega
  obtain ⟨z, bz, oz, hz, hpz, hatz⟩ := (hR8.k0 k9).get hltt
  obtain ⟨yz, hyz, hyze, hzst⟩ := ls_mem.1 (List.mem_of_getElem? hz)
  have oz1 : z.OK ∧ z.g.size ≤ 1000 := by
    rw [← hyze]
    have := om5.es yz hyz
    exact ⟨this.1.s, this.2⟩
  refine ⟨fun vs wx => ∃ u : Nat, vs = [.int .i64 (u : Int), .bool (hasPl ((OL M3 3).take u) z)] ∧ u ≤ (OL M3 3).length ∧ K0 w9 wx, fun vs _ => (match vs with | .int _ a :: _ => (OL M3 3).length - a.toNat | _ => 0), ⟨0, by rw [List.take_zero]; rfl, by omega, .refl _ _⟩, ?_⟩
  rintro x14 x15 w10 ⟨u, hv, hu, k10⟩
  simp only [List.cons.injEq, Value.int.injEq, Value.bool.injEq, true_and, and_true] at hv
  obtain ⟨rfl, rfl⟩ := hv
  rw [Int.toNat_natCast, Int.toNat_natCast]
  refine bsp_intro (fun hltu => ?_) (fun hgeu => ?_)
  · have hltu : u < (OL M3 3).length := by simp at hltu; omega
    obtain ⟨y, by_, oy, hy, hpy, haty⟩ := (hR5.k0 ((K8.trans k9).trans k10)).get hltu
    have oy1 := (oZ y (List.mem_of_getElem? hy)).1
    refine nn_is hpy ⟨gimp_intro fun _ => ⟨by omega, by omega⟩, y.id, y.g, y.tx, y.r, y.st, y.mo, y.de, y.rs, gimp_intro fun _ W hW => haty.k0 (hW.kk rfl), nn_is hpz ⟨gimp_intro fun _ => ⟨by omega, by omega⟩, z.id, z.g, z.tx, z.r, z.st, z.mo, z.de, z.rs, gimp_intro fun _ W hW => hatz.k0 (k10.trans (hW.kk rfl)), _, gimp_intro fun _ => sbEq oy1 oz1.1, fun W hW => ?_⟩⟩
    rw [inc64 (by omega), ← hasPl_succ hy]
    exact ⟨⟨u + 1, rfl, hltu, k10.trans (hW.kk rfl)⟩, by simp only [Int.toNat_natCast]; omega⟩
  have huN : u = (OL M3 3).length := by simp at hgeu; omega
  subst huN
  rw [List.take_length]
  refine bsp_intro (fun _ => ?_) (fun hno => ?_)
  · rw [inc64 (by omega)]
    exact ⟨⟨t + 1, rfl, hltt, k9.trans k10⟩, by simp only [Int.toNat_natCast]; omega⟩
  have hdn : (z.st = 3 ∧ x.k.tmod 8 = 5 ∧ z.mo = fun _ => 0) ∨ (z.st ≠ 3 ∧ isMB (M5.md z.g) z.mo = true) := by
    have hst0 : yz.s.st ≠ 0 := by rw [hyze]; omega
    rcases dec_new h3.rq.dis hstp hyz hst0 with ⟨y, hy, e⟩ | h1 | h1
    · exfalso
      have hin : y.s ∈ OL M3 3 := OL_in hy hlts (by rw [e, hyze]; exact hzst)
      unfold hasPl at hno
      rw [List.any_eq_false] at hno
      have := hno y.s hin
      rw [e, hyze] at this
      simp at this
    · rw [hyze] at h1; exact .inl h1
    · rw [hyze] at h1; exact .inr h1
  have K10 := (KW.trans (K8.trans k9)).trans k10
  refine nn_is hp ⟨gimp_intro fun _ => ⟨by omega, by omega⟩, x.k, gimp_intro fun _ W hW => (hat0.k0 (K10.trans (hW.kk rfl))).cell (j := 0) rfl, nn_is hpz ⟨gimp_intro fun _ => ⟨by omega, by omega⟩, z.mo, gimp_intro fun _ W hW => (hatz.k0 (k10.trans (hW.kk rfl))).mo, _, gimp_intro fun _ => auEq oz1.1.mo by0, nn_is hpz ⟨gimp_intro fun _ => ⟨by omega, by omega⟩, z.g, gimp_intro fun _ W hW => (hatz.k0 (k10.trans (hW.kk rfl))).cell (j := 32) rfl, nn_is hpz ⟨gimp_intro fun _ => ⟨by omega, by omega⟩, z.mo, gimp_intro fun _ W hW => (hatz.k0 (k10.trans (hW.kk rfl))).mo, fun W hW => ?_⟩⟩⟩⟩
  have kW : K0 w10 W := hW.kk rfl
  clear hW
  have kz := (k9.trans k10).trans kW
  rw [hzst] at hdn
  rcases hdn with ⟨e1, e2, e3⟩ | ⟨e1, e2⟩
  · refine bsp_intro (fun _ => bsp_intro (fun h => ?_) (fun _ => ⟨.refl _ _, ?_⟩)) (fun hbad => ?_)
    · exfalso; simp at h; omega
    · rw [inc64 (by omega)]
      exact ⟨⟨t + 1, rfl, hltt, kz⟩, by simp only [Int.toNat_natCast]; omega⟩
    · exfalso
      rw [e3, e2] at hbad
      simp at hbad
  · refine bsp_intro (fun _ => bsp_intro (fun _ => ?_) (fun h => ?_)) (fun hbad => ?_)
    · have hW5 := h5.sw.k0 ((K8.trans (k9.trans k10)).trans kW)
      refine ⟨(xis_any hW5.mr (by omega) z.g z.mo oz1.1.mo (om5.md z.g)).mono fun e w12 ⟨he, k12⟩ => ⟨_, he, .of_k0 k12, bsp_intro (fun h => ?_) (fun _ => ?_)⟩⟩
      · exfalso; rw [e2] at h; cases h
      · rw [inc64 (by omega)]
        exact ⟨⟨t + 1, rfl, hltt, kz.trans k12⟩, by simp only [Int.toNat_natCast]; omega⟩
    · exfalso; simp at h; omega
    · exfalso
      have : ((s : Int) + 1 == 3) = false := by simpa using e1
      rw [this] at hbad
      cases hbad

end Go.Proofs.YtfacflbmlfbeeaaGreatDoor
