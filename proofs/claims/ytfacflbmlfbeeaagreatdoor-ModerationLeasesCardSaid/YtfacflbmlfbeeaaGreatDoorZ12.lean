/- Chapter 39: the contract of the law's do: what the queue and the model answer is the same. Printed by mkdo39.py. Bytes are bytes; lists are not too long; the library's variable MaxLen holds a number. -/
import Derived.Test.YtfacflbmlfbeeaaGreatDoorZ11
import Derived.Test.YtfacflbmlfbeeaaGreatDoorProg
import Derived.Test.YtfacflbmlfbeeaaGreatDoorZ02
import Derived.Test.YtfacflbmlfbeeaaGreatDoorZ04
import Derived.Test.YtfacflbmlfbeeaaGreatDoorZ03
import Derived.KernelRfl
namespace Go.Proofs.YtfacflbmlfbeeaaGreatDoor
open Go.RowKit Go.Sort Go.Maps

theorem cmd_of (E : Int) {f : Nat → Int} (hf : BY f) (g : ByteArray) : ∃ (kk : Int) (ff : Nat → Int) (gg : ByteArray), BY ff ∧ cmdL E f g = apC kk ff gg := by
  unfold cmdL
  split
  · exact ⟨_, _, _, hf, rfl⟩
  · exact ⟨_, _, _, by0, rfl⟩
set_option maxRecDepth 100000 in
set_option maxHeartbeats 32000000 in
theorem ldo_any {w0 w : World} {b mb eb m n0 : Nat} {q : Qu} {M : Mo} {P : Pl} (h : SW w0 w b mb eb m q M P) (r : Rq n0 q M) (hn0 : n0 ≤ 5000) (hG : GW w0) (k i g a now : Int) (t : ByteArray) (hk0 : 0 ≤ k) (hi0 : 0 ≤ i ∧ i ≤ 255) (hg0 : 0 ≤ g ∧ g ≤ 255) (ha0 : 0 ≤ a ∧ a ≤ 255) :
    Calls Tryz.prog 31 #[.pointer (some ⟨b, 0, none⟩), .pointer (some ⟨m, 0, none⟩), .agg (([.int .u8 k, .int .u8 i, .int .u8 g, .int .u8 a, .int .i64 now, .string t] : List Value)).toArray] w fun e w' => e = .returned (.bool true) ∧ ∃ (q' : Qu) (M' : Mo) (P' : Pl), SW w0 w' b mb eb m q' M' P' ∧ Rq (n0 + 1) q' M' ∧ stpM k i g a now t M M' ∧ KD w w' := by
  refine vc_ldo b m k i g a now t w _ (fun n W hW => ?_)
  have kW : K0 w W := hW.kk rfl
  refine ⟨fun vs wx => ∃ n1 n2 : Nat, vs = [.string (nmG g), .pointer (some ⟨n1, 0, none⟩), .pointer (some ⟨n2, 0, none⟩)] ∧ wx.heap[n1]? = some (.cells (arrI .u8 (idN i) 32 0).toArray 32 (0, 0)) ∧ wx.heap[n2]? = some (.cells (arrI .u8 (auN a) 16 0).toArray 45 (0, 0)) ∧ K0 w wx, fun W1 hW1 => ?_, ?_⟩
  · have kW1' : K0 W W1 := hW1.kk rfl
    have hkW := kW.trans kW1'
    have hc := hW1.cells 0 rfl
    have hnW := block_lt hc
    simp only at hnW
    clear hW hW1
    have kW1 : K0 W1 W1 := .refl _ _
    refine ⟨fun wx => K0 W1 wx, kW1, i, fun wx k => cell_at (k.blk hc (fun h => h)) rfl, g, fun wx k => cell_at (k.blk hc (fun h => h)) rfl, a, fun wx k => cell_at (k.blk hc (fun h => h)) rfl, ?_⟩
    refine ⟨?_, ?_, ?_⟩
    · refine ⟨(lid_any i W1).mono fun e v0 ⟨he, kk0⟩ => ⟨_, he, kW1.trans kk0, ?_⟩⟩
      have kc0 := kW1.trans kk0
      refine ⟨?_, ?_, ?_⟩
      · refine ⟨(lname_any g hg0.1 v0).mono fun e v1 ⟨he, kk1⟩ => ⟨_, he, kc0.trans kk1, ?_⟩⟩
        have kc1 := kc0.trans kk1
        refine ⟨?_, ?_, ?_⟩
        · refine ⟨(lauthor_any a v1).mono fun e v2 ⟨he, kk2⟩ => ⟨_, he, ?_⟩⟩
          have kc2 := kc1.trans kk2
          refine ⟨?_, ?_⟩
          · intro n1 v3 hb3
            have kc3 := kc2.trans (hb3.kp (fun _ => False))
            have gX := Nat.le_trans kc2.size hb3.ge
            refine ⟨kc3, ?_⟩
            have cX3 := hb3.block
            intro n2 v4 hb4
            have kc4 := kc3.trans (hb4.kp (fun _ => False))
            have gY := Nat.le_trans kc3.size hb4.ge
            refine ⟨kc4, ?_⟩
            have cY4 := hb4.block
            have cX4 := (hb4.kp (fun _ => False)).blk cX3 (fun h => h)
            exact dofin kc4 gX gY cX4 rfl cY4 rfl (fun w2 kk a1 a2 => ⟨n1, n2, rfl, a1, a2, hkW.trans kk⟩)
          · intro n2 v3 hb3
            have kc3 := kc2.trans (hb3.kp (fun _ => False))
            have gY := Nat.le_trans kc2.size hb3.ge
            refine ⟨kc3, ?_⟩
            have cY3 := hb3.block
            intro n1 v4 hb4
            have kc4 := kc3.trans (hb4.kp (fun _ => False))
            have gX := Nat.le_trans kc3.size hb4.ge
            refine ⟨kc4, ?_⟩
            have cX4 := hb4.block
            have cY4 := (hb4.kp (fun _ => False)).blk cY3 (fun h => h)
            exact dofin kc4 gX gY cX4 rfl cY4 rfl (fun w2 kk a1 a2 => ⟨n1, n2, rfl, a1, a2, hkW.trans kk⟩)
        · intro n1 v2 hb2
          have kc2 := kc1.trans (hb2.kp (fun _ => False))
          have gX := Nat.le_trans kc1.size hb2.ge
          refine ⟨kc2, ?_⟩
          have cX2 := hb2.block
          refine ⟨?_, ?_⟩
          · refine ⟨(lauthor_any a v2).mono fun e v3 ⟨he, kk3⟩ => ⟨_, he, ?_⟩⟩
            have kc3 := kc2.trans kk3
            have cX3 := kk3.blk cX2 (fun h => h)
            intro n2 v4 hb4
            have kc4 := kc3.trans (hb4.kp (fun _ => False))
            have gY := Nat.le_trans kc3.size hb4.ge
            refine ⟨kc4, ?_⟩
            have cY4 := hb4.block
            have cX4 := (hb4.kp (fun _ => False)).blk cX3 (fun h => h)
            exact dofin kc4 gX gY cX4 rfl cY4 rfl (fun w2 kk a1 a2 => ⟨n1, n2, rfl, a1, a2, hkW.trans kk⟩)
          · intro n2 v3 hb3
            have kc3 := kc2.trans (hb3.kp (fun _ => False))
            have gY := Nat.le_trans kc2.size hb3.ge
            refine ⟨kc3, ?_⟩
            have cY3 := hb3.block
            have cX3 := (hb3.kp (fun _ => False)).blk cX2 (fun h => h)
            refine ⟨(lauthor_any a v3).mono fun e v4 ⟨he, kk4⟩ => ⟨_, he, ?_⟩⟩
            have kc4 := kc3.trans kk4
            have cX4 := kk4.blk cX3 (fun h => h)
            have cY4 := kk4.blk cY3 (fun h => h)
            exact dofin kc4 gX gY cX4 rfl cY4 rfl (fun w2 kk a1 a2 => ⟨n1, n2, rfl, a1, a2, hkW.trans kk⟩)
        · intro n2 v2 hb2
          have kc2 := kc1.trans (hb2.kp (fun _ => False))
          have gY := Nat.le_trans kc1.size hb2.ge
          refine ⟨kc2, ?_⟩
          have cY2 := hb2.block
          refine ⟨?_, ?_⟩
          · refine ⟨(lauthor_any a v2).mono fun e v3 ⟨he, kk3⟩ => ⟨_, he, ?_⟩⟩
            have kc3 := kc2.trans kk3
            have cY3 := kk3.blk cY2 (fun h => h)
            intro n1 v4 hb4
            have kc4 := kc3.trans (hb4.kp (fun _ => False))
            have gX := Nat.le_trans kc3.size hb4.ge
            refine ⟨kc4, ?_⟩
            have cX4 := hb4.block
            have cY4 := (hb4.kp (fun _ => False)).blk cY3 (fun h => h)
            exact dofin kc4 gX gY cX4 rfl cY4 rfl (fun w2 kk a1 a2 => ⟨n1, n2, rfl, a1, a2, hkW.trans kk⟩)
          · intro n1 v3 hb3
            have kc3 := kc2.trans (hb3.kp (fun _ => False))
            have gX := Nat.le_trans kc2.size hb3.ge
            refine ⟨kc3, ?_⟩
            have cX3 := hb3.block
            have cY3 := (hb3.kp (fun _ => False)).blk cY2 (fun h => h)
            refine ⟨(lauthor_any a v3).mono fun e v4 ⟨he, kk4⟩ => ⟨_, he, ?_⟩⟩
            have kc4 := kc3.trans kk4
            have cX4 := kk4.blk cX3 (fun h => h)
            have cY4 := kk4.blk cY3 (fun h => h)
            exact dofin kc4 gX gY cX4 rfl cY4 rfl (fun w2 kk a1 a2 => ⟨n1, n2, rfl, a1, a2, hkW.trans kk⟩)
      · intro n1 v1 hb1
        have kc1 := kc0.trans (hb1.kp (fun _ => False))
        have gX := Nat.le_trans kc0.size hb1.ge
        refine ⟨kc1, ?_⟩
        have cX1 := hb1.block
        refine ⟨?_, ?_⟩
        · refine ⟨(lname_any g hg0.1 v1).mono fun e v2 ⟨he, kk2⟩ => ⟨_, he, kc1.trans kk2, ?_⟩⟩
          have kc2 := kc1.trans kk2
          have cX2 := kk2.blk cX1 (fun h => h)
          refine ⟨?_, ?_⟩
          · refine ⟨(lauthor_any a v2).mono fun e v3 ⟨he, kk3⟩ => ⟨_, he, ?_⟩⟩
            have kc3 := kc2.trans kk3
            have cX3 := kk3.blk cX2 (fun h => h)
            intro n2 v4 hb4
            have kc4 := kc3.trans (hb4.kp (fun _ => False))
            have gY := Nat.le_trans kc3.size hb4.ge
            refine ⟨kc4, ?_⟩
            have cY4 := hb4.block
            have cX4 := (hb4.kp (fun _ => False)).blk cX3 (fun h => h)
            exact dofin kc4 gX gY cX4 rfl cY4 rfl (fun w2 kk a1 a2 => ⟨n1, n2, rfl, a1, a2, hkW.trans kk⟩)
          · intro n2 v3 hb3
            have kc3 := kc2.trans (hb3.kp (fun _ => False))
            have gY := Nat.le_trans kc2.size hb3.ge
            refine ⟨kc3, ?_⟩
            have cY3 := hb3.block
            have cX3 := (hb3.kp (fun _ => False)).blk cX2 (fun h => h)
            refine ⟨(lauthor_any a v3).mono fun e v4 ⟨he, kk4⟩ => ⟨_, he, ?_⟩⟩
            have kc4 := kc3.trans kk4
            have cX4 := kk4.blk cX3 (fun h => h)
            have cY4 := kk4.blk cY3 (fun h => h)
            exact dofin kc4 gX gY cX4 rfl cY4 rfl (fun w2 kk a1 a2 => ⟨n1, n2, rfl, a1, a2, hkW.trans kk⟩)
        · intro n2 v2 hb2
          have kc2 := kc1.trans (hb2.kp (fun _ => False))
          have gY := Nat.le_trans kc1.size hb2.ge
          refine ⟨kc2, ?_⟩
          have cY2 := hb2.block
          have cX2 := (hb2.kp (fun _ => False)).blk cX1 (fun h => h)
          refine ⟨(lname_any g hg0.1 v2).mono fun e v3 ⟨he, kk3⟩ => ⟨_, he, kc2.trans kk3, ?_⟩⟩
          have kc3 := kc2.trans kk3
          have cX3 := kk3.blk cX2 (fun h => h)
          have cY3 := kk3.blk cY2 (fun h => h)
          refine ⟨(lauthor_any a v3).mono fun e v4 ⟨he, kk4⟩ => ⟨_, he, ?_⟩⟩
          have kc4 := kc3.trans kk4
          have cX4 := kk4.blk cX3 (fun h => h)
          have cY4 := kk4.blk cY3 (fun h => h)
          exact dofin kc4 gX gY cX4 rfl cY4 rfl (fun w2 kk a1 a2 => ⟨n1, n2, rfl, a1, a2, hkW.trans kk⟩)
      · intro n2 v1 hb1
        have kc1 := kc0.trans (hb1.kp (fun _ => False))
        have gY := Nat.le_trans kc0.size hb1.ge
        refine ⟨kc1, ?_⟩
        have cY1 := hb1.block
        refine ⟨?_, ?_⟩
        · refine ⟨(lname_any g hg0.1 v1).mono fun e v2 ⟨he, kk2⟩ => ⟨_, he, kc1.trans kk2, ?_⟩⟩
          have kc2 := kc1.trans kk2
          have cY2 := kk2.blk cY1 (fun h => h)
          refine ⟨?_, ?_⟩
          · refine ⟨(lauthor_any a v2).mono fun e v3 ⟨he, kk3⟩ => ⟨_, he, ?_⟩⟩
            have kc3 := kc2.trans kk3
            have cY3 := kk3.blk cY2 (fun h => h)
            intro n1 v4 hb4
            have kc4 := kc3.trans (hb4.kp (fun _ => False))
            have gX := Nat.le_trans kc3.size hb4.ge
            refine ⟨kc4, ?_⟩
            have cX4 := hb4.block
            have cY4 := (hb4.kp (fun _ => False)).blk cY3 (fun h => h)
            exact dofin kc4 gX gY cX4 rfl cY4 rfl (fun w2 kk a1 a2 => ⟨n1, n2, rfl, a1, a2, hkW.trans kk⟩)
          · intro n1 v3 hb3
            have kc3 := kc2.trans (hb3.kp (fun _ => False))
            have gX := Nat.le_trans kc2.size hb3.ge
            refine ⟨kc3, ?_⟩
            have cX3 := hb3.block
            have cY3 := (hb3.kp (fun _ => False)).blk cY2 (fun h => h)
            refine ⟨(lauthor_any a v3).mono fun e v4 ⟨he, kk4⟩ => ⟨_, he, ?_⟩⟩
            have kc4 := kc3.trans kk4
            have cX4 := kk4.blk cX3 (fun h => h)
            have cY4 := kk4.blk cY3 (fun h => h)
            exact dofin kc4 gX gY cX4 rfl cY4 rfl (fun w2 kk a1 a2 => ⟨n1, n2, rfl, a1, a2, hkW.trans kk⟩)
        · intro n1 v2 hb2
          have kc2 := kc1.trans (hb2.kp (fun _ => False))
          have gX := Nat.le_trans kc1.size hb2.ge
          refine ⟨kc2, ?_⟩
          have cX2 := hb2.block
          have cY2 := (hb2.kp (fun _ => False)).blk cY1 (fun h => h)
          refine ⟨(lname_any g hg0.1 v2).mono fun e v3 ⟨he, kk3⟩ => ⟨_, he, kc2.trans kk3, ?_⟩⟩
          have kc3 := kc2.trans kk3
          have cX3 := kk3.blk cX2 (fun h => h)
          have cY3 := kk3.blk cY2 (fun h => h)
          refine ⟨(lauthor_any a v3).mono fun e v4 ⟨he, kk4⟩ => ⟨_, he, ?_⟩⟩
          have kc4 := kc3.trans kk4
          have cX4 := kk4.blk cX3 (fun h => h)
          have cY4 := kk4.blk cY3 (fun h => h)
          exact dofin kc4 gX gY cX4 rfl cY4 rfl (fun w2 kk a1 a2 => ⟨n1, n2, rfl, a1, a2, hkW.trans kk⟩)
    · intro n1 v0 hb0
      have kc0 := kW1.trans (hb0.kp (fun _ => False))
      have gX := Nat.le_trans kW1.size hb0.ge
      refine ⟨kc0, ?_⟩
      have cX0 := hb0.block
      refine ⟨?_, ?_⟩
      · refine ⟨(lid_any i v0).mono fun e v1 ⟨he, kk1⟩ => ⟨_, he, kc0.trans kk1, ?_⟩⟩
        have kc1 := kc0.trans kk1
        have cX1 := kk1.blk cX0 (fun h => h)
        refine ⟨?_, ?_⟩
        · refine ⟨(lname_any g hg0.1 v1).mono fun e v2 ⟨he, kk2⟩ => ⟨_, he, kc1.trans kk2, ?_⟩⟩
          have kc2 := kc1.trans kk2
          have cX2 := kk2.blk cX1 (fun h => h)
          refine ⟨?_, ?_⟩
          · refine ⟨(lauthor_any a v2).mono fun e v3 ⟨he, kk3⟩ => ⟨_, he, ?_⟩⟩
            have kc3 := kc2.trans kk3
            have cX3 := kk3.blk cX2 (fun h => h)
            intro n2 v4 hb4
            have kc4 := kc3.trans (hb4.kp (fun _ => False))
            have gY := Nat.le_trans kc3.size hb4.ge
            refine ⟨kc4, ?_⟩
            have cY4 := hb4.block
            have cX4 := (hb4.kp (fun _ => False)).blk cX3 (fun h => h)
            exact dofin kc4 gX gY cX4 rfl cY4 rfl (fun w2 kk a1 a2 => ⟨n1, n2, rfl, a1, a2, hkW.trans kk⟩)
          · intro n2 v3 hb3
            have kc3 := kc2.trans (hb3.kp (fun _ => False))
            have gY := Nat.le_trans kc2.size hb3.ge
            refine ⟨kc3, ?_⟩
            have cY3 := hb3.block
            have cX3 := (hb3.kp (fun _ => False)).blk cX2 (fun h => h)
            refine ⟨(lauthor_any a v3).mono fun e v4 ⟨he, kk4⟩ => ⟨_, he, ?_⟩⟩
            have kc4 := kc3.trans kk4
            have cX4 := kk4.blk cX3 (fun h => h)
            have cY4 := kk4.blk cY3 (fun h => h)
            exact dofin kc4 gX gY cX4 rfl cY4 rfl (fun w2 kk a1 a2 => ⟨n1, n2, rfl, a1, a2, hkW.trans kk⟩)
        · intro n2 v2 hb2
          have kc2 := kc1.trans (hb2.kp (fun _ => False))
          have gY := Nat.le_trans kc1.size hb2.ge
          refine ⟨kc2, ?_⟩
          have cY2 := hb2.block
          have cX2 := (hb2.kp (fun _ => False)).blk cX1 (fun h => h)
          refine ⟨(lname_any g hg0.1 v2).mono fun e v3 ⟨he, kk3⟩ => ⟨_, he, kc2.trans kk3, ?_⟩⟩
          have kc3 := kc2.trans kk3
          have cX3 := kk3.blk cX2 (fun h => h)
          have cY3 := kk3.blk cY2 (fun h => h)
          refine ⟨(lauthor_any a v3).mono fun e v4 ⟨he, kk4⟩ => ⟨_, he, ?_⟩⟩
          have kc4 := kc3.trans kk4
          have cX4 := kk4.blk cX3 (fun h => h)
          have cY4 := kk4.blk cY3 (fun h => h)
          exact dofin kc4 gX gY cX4 rfl cY4 rfl (fun w2 kk a1 a2 => ⟨n1, n2, rfl, a1, a2, hkW.trans kk⟩)
      · intro n2 v1 hb1
        have kc1 := kc0.trans (hb1.kp (fun _ => False))
        have gY := Nat.le_trans kc0.size hb1.ge
        refine ⟨kc1, ?_⟩
        have cY1 := hb1.block
        have cX1 := (hb1.kp (fun _ => False)).blk cX0 (fun h => h)
        refine ⟨(lid_any i v1).mono fun e v2 ⟨he, kk2⟩ => ⟨_, he, kc1.trans kk2, ?_⟩⟩
        have kc2 := kc1.trans kk2
        have cX2 := kk2.blk cX1 (fun h => h)
        have cY2 := kk2.blk cY1 (fun h => h)
        refine ⟨(lname_any g hg0.1 v2).mono fun e v3 ⟨he, kk3⟩ => ⟨_, he, kc2.trans kk3, ?_⟩⟩
        have kc3 := kc2.trans kk3
        have cX3 := kk3.blk cX2 (fun h => h)
        have cY3 := kk3.blk cY2 (fun h => h)
        refine ⟨(lauthor_any a v3).mono fun e v4 ⟨he, kk4⟩ => ⟨_, he, ?_⟩⟩
        have kc4 := kc3.trans kk4
        have cX4 := kk4.blk cX3 (fun h => h)
        have cY4 := kk4.blk cY3 (fun h => h)
        exact dofin kc4 gX gY cX4 rfl cY4 rfl (fun w2 kk a1 a2 => ⟨n1, n2, rfl, a1, a2, hkW.trans kk⟩)
    · intro n2 v0 hb0
      have kc0 := kW1.trans (hb0.kp (fun _ => False))
      have gY := Nat.le_trans kW1.size hb0.ge
      refine ⟨kc0, ?_⟩
      have cY0 := hb0.block
      refine ⟨?_, ?_⟩
      · refine ⟨(lid_any i v0).mono fun e v1 ⟨he, kk1⟩ => ⟨_, he, kc0.trans kk1, ?_⟩⟩
        have kc1 := kc0.trans kk1
        have cY1 := kk1.blk cY0 (fun h => h)
        refine ⟨?_, ?_⟩
        · refine ⟨(lname_any g hg0.1 v1).mono fun e v2 ⟨he, kk2⟩ => ⟨_, he, kc1.trans kk2, ?_⟩⟩
          have kc2 := kc1.trans kk2
          have cY2 := kk2.blk cY1 (fun h => h)
          refine ⟨?_, ?_⟩
          · refine ⟨(lauthor_any a v2).mono fun e v3 ⟨he, kk3⟩ => ⟨_, he, ?_⟩⟩
            have kc3 := kc2.trans kk3
            have cY3 := kk3.blk cY2 (fun h => h)
            intro n1 v4 hb4
            have kc4 := kc3.trans (hb4.kp (fun _ => False))
            have gX := Nat.le_trans kc3.size hb4.ge
            refine ⟨kc4, ?_⟩
            have cX4 := hb4.block
            have cY4 := (hb4.kp (fun _ => False)).blk cY3 (fun h => h)
            exact dofin kc4 gX gY cX4 rfl cY4 rfl (fun w2 kk a1 a2 => ⟨n1, n2, rfl, a1, a2, hkW.trans kk⟩)
          · intro n1 v3 hb3
            have kc3 := kc2.trans (hb3.kp (fun _ => False))
            have gX := Nat.le_trans kc2.size hb3.ge
            refine ⟨kc3, ?_⟩
            have cX3 := hb3.block
            have cY3 := (hb3.kp (fun _ => False)).blk cY2 (fun h => h)
            refine ⟨(lauthor_any a v3).mono fun e v4 ⟨he, kk4⟩ => ⟨_, he, ?_⟩⟩
            have kc4 := kc3.trans kk4
            have cX4 := kk4.blk cX3 (fun h => h)
            have cY4 := kk4.blk cY3 (fun h => h)
            exact dofin kc4 gX gY cX4 rfl cY4 rfl (fun w2 kk a1 a2 => ⟨n1, n2, rfl, a1, a2, hkW.trans kk⟩)
        · intro n1 v2 hb2
          have kc2 := kc1.trans (hb2.kp (fun _ => False))
          have gX := Nat.le_trans kc1.size hb2.ge
          refine ⟨kc2, ?_⟩
          have cX2 := hb2.block
          have cY2 := (hb2.kp (fun _ => False)).blk cY1 (fun h => h)
          refine ⟨(lname_any g hg0.1 v2).mono fun e v3 ⟨he, kk3⟩ => ⟨_, he, kc2.trans kk3, ?_⟩⟩
          have kc3 := kc2.trans kk3
          have cX3 := kk3.blk cX2 (fun h => h)
          have cY3 := kk3.blk cY2 (fun h => h)
          refine ⟨(lauthor_any a v3).mono fun e v4 ⟨he, kk4⟩ => ⟨_, he, ?_⟩⟩
          have kc4 := kc3.trans kk4
          have cX4 := kk4.blk cX3 (fun h => h)
          have cY4 := kk4.blk cY3 (fun h => h)
          exact dofin kc4 gX gY cX4 rfl cY4 rfl (fun w2 kk a1 a2 => ⟨n1, n2, rfl, a1, a2, hkW.trans kk⟩)
      · intro n1 v1 hb1
        have kc1 := kc0.trans (hb1.kp (fun _ => False))
        have gX := Nat.le_trans kc0.size hb1.ge
        refine ⟨kc1, ?_⟩
        have cX1 := hb1.block
        have cY1 := (hb1.kp (fun _ => False)).blk cY0 (fun h => h)
        refine ⟨(lid_any i v1).mono fun e v2 ⟨he, kk2⟩ => ⟨_, he, kc1.trans kk2, ?_⟩⟩
        have kc2 := kc1.trans kk2
        have cX2 := kk2.blk cX1 (fun h => h)
        have cY2 := kk2.blk cY1 (fun h => h)
        refine ⟨(lname_any g hg0.1 v2).mono fun e v3 ⟨he, kk3⟩ => ⟨_, he, kc2.trans kk3, ?_⟩⟩
        have kc3 := kc2.trans kk3
        have cX3 := kk3.blk cX2 (fun h => h)
        have cY3 := kk3.blk cY2 (fun h => h)
        refine ⟨(lauthor_any a v3).mono fun e v4 ⟨he, kk4⟩ => ⟨_, he, ?_⟩⟩
        have kc4 := kc3.trans kk4
        have cX4 := kk4.blk cX3 (fun h => h)
        have cY4 := kk4.blk cY3 (fun h => h)
        exact dofin kc4 gX gY cX4 rfl cY4 rfl (fun w2 kk a1 a2 => ⟨n1, n2, rfl, a1, a2, hkW.trans kk⟩)
  rintro xs x1 x2 w3 ⟨n1, n2, hv, c1, c2, k3⟩ hL
  simp only [List.cons.injEq, Value.string.injEq, Value.pointer.injEq, and_true] at hv
  obtain ⟨rfl, rfl, rfl⟩ := hv
  have ds : DS39 n n1 n2 [.int .u8 k, .int .u8 i, .int .u8 g, .int .u8 a, .int .i64 now, .string t] i a w3 := ⟨hL.cells 0 rfl, c1, c2⟩
  clear hW hL c1 c2
  have h3 := h.k0 k3
  have kd3 : KD w w3 := .k0 k3
  have hid := idN_ok hi0.1
  have hau := auN_ok ha0.1
  have hgs := nmG_sz g
  have ql : q.es.length ≤ 10000 := by have := r.ql; omega
  have om := r.mo (by omega)
  have htx := txO_sz t
  rw [txO_eq]
  have hm8 : 0 ≤ k.tmod 8 ∧ k.tmod 8 < 8 := by rw [Int.tmod_eq_emod_of_nonneg hk0]; omega
  have kp : ∀ {wa wb : World}, DS39 n n1 n2 [.int .u8 k, .int .u8 i, .int .u8 g, .int .u8 a, .int .i64 now, .string t] i a wa → KD wa wb → KeptL [n] wa wb := fun d kk => kk.kept (fun z hz => by
    rcases List.mem_singleton.1 hz with rfl
    exact ⟨_, _, _, d.1, rfl⟩)
  refine ⟨⟨by split <;> omega, by split <;> omega⟩, ?_⟩
  refine bsp_intro (fun hk => ?_) (fun hk0' => bsp_intro (fun hk => ?_) (fun hk1 => bsp_intro (fun hk => ?_) (fun hk2 => bsp_intro (fun hk => ?_) (fun hk3 => bsp_intro (fun hk => ?_) (fun hk4 => bsp_intro (fun hk => ?_) (fun hk5 => bsp_intro (fun hk => ?_) (fun hk6 => ?_)))))))
  · -- submit
    have hk : k.tmod 8 = 0 := by simpa using hk
    intro W4 hW4
    have k4 : K0 w3 W4 := hW4.kk rfl
    have d4 := ds.kd (.k0 k4)
    have h4 := h3.k0 k4
    clear hW4
    refine ⟨DS39 n n1 n2 _ i a, d4, nn_is rfl ⟨idN i, fun wx hx => AtL_block hx.2.1 rfl, now, fun wx hx => cell_at hx.1 rfl, nn_is rfl ⟨idN i, fun wx hx => AtL_block hx.2.1 rfl, now, fun wx hx => cell_at hx.1 rfl, ?_⟩⟩⟩
    refine ⟨(submit_any h4.mq r.qo (idN i) hid.1 (nmG g) (txO t) now (h4.gw hG)).mono fun e w5 ⟨he, hq5, k5⟩ => ?_⟩
    have kd5 := h4.mq.kd k5
    have h5 := h4.qop hq5 k5 (subQ_ms ..)
    refine ⟨_, he, d4.kd kd5, ⟨(xsubmit_any h5.mr om r.srt (idN i) hid.1 (nmG g) (txO t) now).mono fun e w6 ⟨he, hx, k6⟩ => ⟨_, he, kp d4 (kd5.trans (.mf k6)), ?_⟩⟩⟩
    have kd6 : KD w w6 := ((kd3.trans (.k0 k4)).trans kd5).trans (.mf k6)
    refine ⟨by rw [r.subE]; simp, ?_⟩
    rcases hx with ⟨hne, hM6⟩ | ⟨h0, L, P6, hp, hs, hM6⟩
    · exact ⟨_, M, P, h5.mop hM6 k6, r.sub_no hne, by unfold stpM; rw [hk]; exact .inr ⟨hne, rfl⟩, kd6⟩
    · exact ⟨_, _, P6, h5.mop hM6 k6, r.ins hid h0 hp hs, by unfold stpM; rw [hk]; exact .inl ⟨h0, L, hp, rfl⟩, kd6⟩
  · -- claim
    have hk : k.tmod 8 = 1 := by simpa using hk
    refine ⟨fun vs wx => ∃ (nq : Nat) (q' : Qu), vs = [.int .i64 (xclE M (nmG g) (auN a) now), .pointer (some ⟨nq, 0, none⟩)] ∧ wx.heap[nq]? = some (.cells (sbC (xclS M (nmG g) (auN a) now)).toArray 48 (0, 0)) ∧ SW w0 wx b mb eb m q' M P ∧ Rq n0 q' (xclM M (nmG g) (auN a) now) ∧ DS39 n n1 n2 [.int .u8 k, .int .u8 i, .int .u8 g, .int .u8 a, .int .i64 now, .string t] i a wx ∧ KD w wx, nn_is rfl ⟨auN a, AtL_block ds.2.2 rfl, ⟨(claim_any h3.mq r.qo (by omega) (nmG g) hgs (auN a) hau.1 now (h3.gw hG)).mono fun e w4 hcl => ?_⟩⟩, ?_⟩
    · rw [r.clE] at hcl
      rcases hcl with ⟨hne, he, k4⟩ | ⟨h0, x, hx, hmin, he, hq4, k4⟩
      · obtain ⟨eM, eS⟩ := xclM_no hne
        rw [eM, eS]
        refine ⟨sbz.id, sbz.g, sbz.tx, sbz.r, sbz.st, sbz.mo, sbz.de, sbz.rs, _, he, .of_k0 k4, fun nq W5 hW5 => ?_⟩
        have k5 := k4.trans (hW5.kk rfl : K0 w4 W5)
        exact ⟨nq, q, rfl, hW5.cells 1 rfl, h3.k0 k5, r, ds.kd (.k0 k5), kd3.trans (.k0 k5)⟩
      · obtain ⟨ex, rx⟩ := r.clm hau h0 hx hmin
        rw [← ex, h0]
        have kd4 := h3.mq.kd k4
        have h4 := h3.qop hq4 k4 rfl
        refine ⟨x.id, x.g, x.tx, x.r, x.st, x.mo, x.de, x.rs, _, he, kp ds kd4, fun nq W5 hW5 => ?_⟩
        have k5 : K0 w4 W5 := hW5.kk rfl
        exact ⟨nq, _, rfl, hW5.cells 1 rfl, h4.k0 k5, rx, (ds.kd kd4).kd (.k0 k5), (kd3.trans kd4).trans (.k0 k5)⟩
    rintro x3 x4 w5 ⟨nq, q', hv, cq, h5, r5, d5, kd5⟩ _
    simp only [List.cons.injEq, Value.int.injEq, Value.pointer.injEq, true_and, and_true] at hv
    obtain ⟨rfl, rfl⟩ := hv
    refine ⟨fun vs wx => ∃ (nm : Nat), vs = [.int .i64 (xclE M (nmG g) (auN a) now), .pointer (some ⟨nm, 0, none⟩)] ∧ wx.heap[nm]? = some (.cells (sbC (xclS M (nmG g) (auN a) now)).toArray 48 (0, 0)) ∧ wx.heap[nq]? = some (.cells (sbC (xclS M (nmG g) (auN a) now)).toArray 48 (0, 0)) ∧ SW w0 wx b mb eb m q' (xclM M (nmG g) (auN a) now) P ∧ KD w wx, nn_is rfl ⟨auN a, AtL_block d5.2.2 rfl, ⟨(xclaim_any h5.mr om (nmG g) (auN a) hau.1 now).mono fun e w6 ⟨he, hM6, k6⟩ => ?_⟩⟩, ?_⟩
    · have kd6 : KD w5 w6 := .mf k6
      refine ⟨(xclS M (nmG g) (auN a) now).id, (xclS M (nmG g) (auN a) now).g, (xclS M (nmG g) (auN a) now).tx, (xclS M (nmG g) (auN a) now).r, (xclS M (nmG g) (auN a) now).st, (xclS M (nmG g) (auN a) now).mo, (xclS M (nmG g) (auN a) now).de, (xclS M (nmG g) (auN a) now).rs, _, he, kp d5 kd6, fun nm W7 hW7 => ?_⟩
      have k7 : K0 w6 W7 := hW7.kk rfl
      exact ⟨nm, rfl, hW7.cells 1 rfl, k7.blk (kd6.2 _ _ _ _ cq rfl) (fun h => h), (h5.mop hM6 k6).k0 k7, (kd5.trans kd6).trans (.k0 k7)⟩
    rintro x6 x7 w8 ⟨nm, hv, cm, cq8, h8, kd8⟩ _
    simp only [List.cons.injEq, Value.int.injEq, Value.pointer.injEq, true_and, and_true] at hv
    obtain ⟨rfl, rfl⟩ := hv
    have oS := xclS_ok om (nmG g) (auN a) now
    have hstp : stpM k i g a now t M (xclM M (nmG g) (auN a) now) := by unfold stpM; rw [hk]; rfl
    generalize xclS M (nmG g) (auN a) now = S at cm cq8 oS
    refine nn_is rfl ⟨S.id, S.g, S.tx, S.r, S.st, S.mo, S.de, S.rs, AtL_block cq8 rfl, nn_is rfl ⟨S.id, S.g, S.tx, S.r, S.st, S.mo, S.de, S.rs, AtL_block cm rfl, _, sbEq oS oS, by simp, q', _, P, h8, r5.mono (by omega), hstp, kd8⟩⟩
  · -- release
    have hk : k.tmod 8 = 2 := by simpa using hk
    intro W4 hW4
    have k4 : K0 w3 W4 := hW4.kk rfl
    have d4 := ds.kd (.k0 k4)
    have h4 := h3.k0 k4
    clear hW4
    refine ⟨DS39 n n1 n2 _ i a, d4, nn_is rfl ⟨idN i, fun wx hx => AtL_block hx.2.1 rfl, nn_is rfl ⟨auN a, fun wx hx => AtL_block hx.2.2 rfl, now, fun wx hx => cell_at hx.1 rfl, nn_is rfl ⟨idN i, fun wx hx => AtL_block hx.2.1 rfl, nn_is rfl ⟨auN a, fun wx hx => AtL_block hx.2.2 rfl, now, fun wx hx => cell_at hx.1 rfl, ?_⟩⟩⟩⟩⟩
    refine ⟨(release_any h4.mq r.qo (idN i) hid.1 (nmG g) hgs (auN a) hau.1 now).mono fun e w5 ⟨he, hq5, k5⟩ => ?_⟩
    have kd5 := h4.mq.kd k5
    have h5 := h4.qop hq5 k5 (relQ_ms ..)
    refine ⟨_, he, d4.kd kd5, ⟨(xrelease_any h5.mr om (idN i) hid.1 (nmG g) (auN a) hau.1 now).mono fun e w6 ⟨he, hM6, k6⟩ => ⟨_, he, kp d4 (kd5.trans (.mf k6)), ?_⟩⟩⟩
    have kd6 : KD w w6 := ((kd3.trans (.k0 k4)).trans kd5).trans (.mf k6)
    exact ⟨by rw [r.rlE]; simp, _, _, P, h5.mop hM6 k6, (r.rel (idN i) (nmG g) (auN a) now).mono (by omega), by unfold stpM; rw [hk]; rfl, kd6⟩
  · -- approve
    have hk : k.tmod 8 = 3 := by simpa using hk
    obtain ⟨kk, ff, gg, hff, hcm⟩ := cmd_of (apE q (idN i) (nmG g) (auN a) now) hid.1 (nmG g)
    refine ⟨fun vs wx => ∃ (nc : Nat), vs = [.int .i64 (apE q (idN i) (nmG g) (auN a) now), .pointer (some ⟨nc, 0, none⟩)] ∧ wx.heap[nc]? = some (.cells (apC kk ff gg).toArray 42 (0, 0)) ∧ SW w0 wx b mb eb m (apQ q (idN i) (nmG g) (auN a) now 1 ⟨#[]⟩) M P ∧ DS39 n n1 n2 [.int .u8 k, .int .u8 i, .int .u8 g, .int .u8 a, .int .i64 now, .string t] i a wx ∧ KD w wx, nn_is rfl ⟨idN i, AtL_block ds.2.1 rfl, nn_is rfl ⟨auN a, AtL_block ds.2.2 rfl, ⟨(approve_any h3.mq r.qo ql (idN i) hid.1 (nmG g) hgs (auN a) hau.1 now).mono fun e w4 ⟨he, hq4, k4⟩ => ?_⟩⟩⟩, ?_⟩
    · rw [hcm] at he
      have kd4 := h3.mq.kd k4
      have h4 := h3.qop hq4 k4 (apQ_ms ..)
      refine ⟨kk, ff, gg, 0, false, none, 0, 0, ⟨#[]⟩, 0, 0, (fun _ => 0), _, he, kp ds kd4, fun nc W5 hW5 => ?_⟩
      have k5 : K0 w4 W5 := hW5.kk rfl
      exact ⟨nc, rfl, hW5.cells 1 rfl, h4.k0 k5, (ds.kd kd4).kd (.k0 k5), (kd3.trans kd4).trans (.k0 k5)⟩
    rintro x3 x4 w5 ⟨nc, hv, cc, h5, d5, kd5⟩ _
    simp only [List.cons.injEq, Value.int.injEq, Value.pointer.injEq, true_and, and_true] at hv
    obtain ⟨rfl, rfl⟩ := hv
    refine ⟨fun vs wx => vs = [.int .i64 (xdcE M (idN i) (nmG g) (auN a) 1 ⟨#[]⟩ now)] ∧ wx.heap[nc]? = some (.cells (apC kk ff gg).toArray 42 (0, 0)) ∧ SW w0 wx b mb eb m (apQ q (idN i) (nmG g) (auN a) now 1 ⟨#[]⟩) (xdcM M (idN i) (nmG g) (auN a) 1 ⟨#[]⟩ now) P ∧ DS39 n n1 n2 [.int .u8 k, .int .u8 i, .int .u8 g, .int .u8 a, .int .i64 now, .string t] i a wx ∧ KD w wx, nn_is rfl ⟨idN i, AtL_block d5.2.1 rfl, nn_is rfl ⟨auN a, AtL_block d5.2.2 rfl, ⟨(xdecide_any h5.mr om (idN i) hid.1 (nmG g) (auN a) hau.1 1 ⟨#[]⟩ (by decide) now).mono fun e w6 ⟨he, hM6, k6⟩ => ?_⟩⟩⟩, ?_⟩
    · have kd6 : KD w5 w6 := .mf k6
      exact ⟨_, he, kp d5 kd6, rfl, kd6.2 _ _ _ _ cc rfl, h5.mop hM6 k6, d5.kd kd6, kd5.trans kd6⟩
    rintro x6 w7 ⟨hv, cc7, h7, d7, kd7⟩ _ W8 hW8
    simp only [List.cons.injEq, Value.int.injEq, true_and, and_true] at hv
    subst hv
    have k8 : K0 w7 W8 := hW8.kk rfl
    have cc8 := k8.blk cc7 (fun h => h)
    have d8 := d7.kd (.k0 k8)
    have h8 := h7.k0 k8
    have kd8 := kd7.trans (.k0 k8)
    clear hW8
    rw [r.apE] at hcm ⊢
    have hbb : (xdcE M (idN i) (nmG g) (auN a) 1 ⟨#[]⟩ now == xdcE M (idN i) (nmG g) (auN a) 1 ⟨#[]⟩ now) = true := by simp
    simp only [hbb]
    refine ⟨fun wx => wx.heap[nc]? = some (.cells (apC kk ff gg).toArray 42 (0, 0)) ∧ DS39 n n1 n2 [.int .u8 k, .int .u8 i, .int .u8 g, .int .u8 a, .int .i64 now, .string t] i a wx, ⟨cc8, d8⟩, nn_is rfl ⟨kk, ff, gg, 0, false, none, 0, 0, ⟨#[]⟩, 0, 0, (fun _ => 0), gimp_intro fun _ wx hx => AtL_block hx.1 rfl, nn_is rfl ⟨idN i, gimp_intro fun _ wx hx => AtL_block hx.2.2.1 rfl, bsp_intro (fun _ => ?_) (fun h => by cases h)⟩⟩⟩
    refine ⟨(xcomm_any (idN i) (nmG g) (xdcE M (idN i) (nmG g) (auN a) 1 ⟨#[]⟩ now) W8).mono fun e w9 ⟨he, k9⟩ => ?_⟩
    rw [hcm] at he
    refine ⟨kk, ff, gg, 0, false, none, 0, 0, ⟨#[]⟩, 0, 0, (fun _ => 0), he, ⟨k9.blk cc8 (fun h => h), d8.kd (.k0 k9)⟩, ⟨(ceq_any kk ff hff gg w9).mono fun e w10 ⟨he, k10⟩ => ⟨_, he, .of_k0 (k9.trans k10), rfl, _, _, P, h8.k0 (k9.trans k10), r.ap hau |>.mono (by omega), by unfold stpM; rw [hk]; rfl, kd8.trans (.k0 (k9.trans k10))⟩⟩⟩
  · -- reject
    have hk : k.tmod 8 = 4 := by simpa using hk
    intro W4 hW4
    have k4 : K0 w3 W4 := hW4.kk rfl
    have d4 := ds.kd (.k0 k4)
    have h4 := h3.k0 k4
    clear hW4
    refine ⟨DS39 n n1 n2 _ i a, d4, nn_is rfl ⟨idN i, fun wx hx => AtL_block hx.2.1 rfl, nn_is rfl ⟨auN a, fun wx hx => AtL_block hx.2.2 rfl, now, fun wx hx => cell_at hx.1 rfl, nn_is rfl ⟨idN i, fun wx hx => AtL_block hx.2.1 rfl, nn_is rfl ⟨auN a, fun wx hx => AtL_block hx.2.2 rfl, now, fun wx hx => cell_at hx.1 rfl, ?_⟩⟩⟩⟩⟩
    refine ⟨(reject_any h4.mq r.qo ql (idN i) hid.1 (nmG g) hgs (auN a) hau.1 (txO t) now).mono fun e w5 ⟨he, hq5, k5⟩ => ?_⟩
    have kd5 := h4.mq.kd k5
    have h5 := h4.qop hq5 k5 (rejQ_ms ..)
    refine ⟨_, he, d4.kd kd5, ⟨(xdecide_any h5.mr om (idN i) hid.1 (nmG g) (auN a) hau.1 2 (txO t) (by omega) now).mono fun e w6 ⟨he, hM6, k6⟩ => ⟨_, he, kp d4 (kd5.trans (.mf k6)), ?_⟩⟩⟩
    have kd6 : KD w w6 := ((kd3.trans (.k0 k4)).trans kd5).trans (.mf k6)
    exact ⟨by rw [r.rjE]; simp, _, _, P, h5.mop hM6 k6, r.rj hau |>.mono (by omega), by unfold stpM; rw [hk]; rfl, kd6⟩
  · -- lapse
    have hk : k.tmod 8 = 5 := by simpa using hk
    intro W4 hW4
    have k4 : K0 w3 W4 := hW4.kk rfl
    have d4 := ds.kd (.k0 k4)
    have h4 := h3.k0 k4
    clear hW4
    have oL := xlpL_ok om now
    have hlL : (xlpL M now).length ≤ 1000000 := by
      have := r.el
      unfold xlpL
      split
      · rw [List.length_map]
        have := List.length_filter_le (lapP (now - M.days * 1440)) M.es
        omega
      · show 0 ≤ _; omega
    refine ⟨DS39 n n1 n2 _ i a, d4, now, fun wx hx => cell_at hx.1 rfl, now, fun wx hx => cell_at hx.1 rfl, ⟨(lapse_any h4.mq r.qo ql now (h4.gw hG)).mono fun e w5 hla => ?_⟩⟩
    have key : ∃ (p : Option Addr) (c : Nat) (q5 : Qu), e = .returned (.slice p (xlpL M now).length c) ∧ RowA sbC 54 w5 p (xlpL M now) ∧ (∀ g' o, p = some ⟨g', o, none⟩ → ∃ cc ff, w5.heap[g']? = some (.cells cc 48 ff)) ∧ SW w0 w5 b mb eb m q5 M P ∧ Rq n0 q5 (xlpM M now) ∧ KD W4 w5 := by
      rcases hla with ⟨hm, he, _, k5⟩ | ⟨hm, p, c, L, he, hp, hs, ho, hq5, k5⟩
      · have e1 : xlpL M now = [] := by unfold xlpL; rw [if_neg (by rw [hm]; decide)]
        have e2 : xlpM M now = M := by unfold xlpM; rw [if_neg (by rw [hm]; decide)]
        rw [e1, e2]
        exact ⟨none, 0, q, he, RowA.nil, (fun g' o e => by cases e), h4.k0 k5, r, .k0 k5⟩
      · obtain ⟨e1, r5⟩ := r.lap hm hp hs
        have hl : L.length = (xlpL M now).length := by rw [← e1, List.length_map]
        rw [e1, hl] at ho
        rw [hl] at he
        refine ⟨p, c, _, he, RowA.own ho sbC_length (by decide), fun g' o e => ?_, h4.qop hq5 k5 (finA_ms ..), r5, h4.mq.kd k5⟩
        subst e
        obtain ⟨cc, hcc⟩ := own_type ho (k := g') rfl
        exact ⟨cc, _, hcc⟩
    obtain ⟨p, c, q5, he, hR5, hT5, h5, r5, kd5⟩ := key
    refine ⟨_, _, _, he, d4.kd kd5, ⟨(xlapse_any h5.mr om now).mono fun e w6 ⟨⟨p6, c6, he, ho6⟩, hM6, k6⟩ => ?_⟩⟩
    have kd6 : KD w5 w6 := .mf k6
    have hR6 : RowA sbC 54 w6 p (xlpL M now) := fun jj y hy => by
      obtain ⟨bb, oo, h1, h2⟩ := hR5 jj y hy
      obtain ⟨cc, ff, hcc⟩ := hT5 bb oo h1
      exact ⟨bb, oo, h1, ⟨At_of _ _ fun jx u hu => k6.cell' (h2.cell hu) (mf_no hcc (by decide))⟩⟩
    refine ⟨_, _, _, he, ⟨(xsame_any (xlpL M now) p p6 c c6 w6 hR6 (RowA.own ho6 sbC_length (by decide)) hlL oL).mono fun e w7 ⟨he, k7⟩ => ⟨_, he, kp d4 ((kd5.trans kd6).trans (.k0 k7)), rfl, q5, _, P, (h5.mop hM6 k6).k0 k7, r5.mono (by omega), by unfold stpM; rw [hk]; rfl, (((kd3.trans (.k0 k4)).trans kd5).trans kd6).trans (.k0 k7)⟩⟩⟩
  · -- forget
    have hk : k.tmod 8 = 6 := by simpa using hk
    intro W4 hW4
    have k4 : K0 w3 W4 := hW4.kk rfl
    have d4 := ds.kd (.k0 k4)
    have h4 := h3.k0 k4
    clear hW4
    refine ⟨DS39 n n1 n2 _ i a, d4, now, fun wx hx => cell_at hx.1 rfl, now, fun wx hx => cell_at hx.1 rfl, ⟨(forget_any h4.mq r.qo ql now).mono fun e w5 ⟨⟨L, he, hp, hq5⟩, k5⟩ => ?_⟩⟩
    obtain ⟨hl, r5⟩ := r.fgt hp
    have kd5 := h4.mq.kd k5
    have h5 := h4.qop hq5 k5 (delA_ms ..)
    refine ⟨_, he, d4.kd kd5, ⟨(xforget_any h5.mr (by have := r.el; omega) now).mono fun e w6 ⟨he, ⟨P6, hM6⟩, k6⟩ => ⟨_, he, kp d4 (kd5.trans (.mf k6)), ?_⟩⟩⟩
    have kd6 : KD w w6 := ((kd3.trans (.k0 k4)).trans kd5).trans (.mf k6)
    exact ⟨by rw [hl]; simp, _, _, P6, h5.mop hM6 k6, r5.mono (by omega), by unfold stpM; rw [hk]; rfl, kd6⟩
  · -- the moderators
    have hk : k.tmod 8 = 7 := by
      simp only [beq_eq_false_iff_ne, ne_eq] at hk0' hk1 hk2 hk3 hk4 hk5 hk6
      omega
    have ha12 : (IntKind.i64.wrap a).tmod 12 = ((a.tmod 12).toNat : Int) := by
      rw [wr64 (by omega) (by omega), Int.tmod_eq_emod_of_nonneg ha0.1]
      omega
    rw [ha12]
    have hT : (a.tmod 12).toNat ≤ 11 := by rw [Int.tmod_eq_emod_of_nonneg ha0.1]; omega
    generalize hN : (a.tmod 12).toNat = N at hT
    refine ⟨fun vs wx => ∃ (j : Nat) (p : Option Addr) (c : Nat), vs = [.int .i64 (j : Int), .slice p j c] ∧ j ≤ N ∧ wx.ownsRow w3.heap.size 45 16 (.slice p j c) j ((moT i a j).flatMap auC) ∧ K0 w3 wx, fun vs _ => (match vs with | .int _ a :: _ => N - a.toNat | _ => 0), ⟨0, none, 0, rfl, by omega, World.ownsRow_nil _ _ _ _, .refl _ _⟩, ?_⟩
    rintro x3 p j c w4 ⟨j', p', c', hv, hj, ho, k4⟩ _
    simp only [List.cons.injEq, Value.int.injEq, Value.slice.injEq, true_and, and_true] at hv
    obtain ⟨rfl, rfl, rfl, rfl⟩ := hv
    refine bsp_intro (fun hlt n4 W5 hW5 => ?_) (fun hge => ?_)
    · have hlt : j < N := by simp at hlt; omega
      have k5 : K0 w4 W5 := hW5.kk rfl
      have hn5 : KeptL [n] W5 W5 := .refl _ _
      have cw := hW5.cells 0 rfl
      have hcell : ∀ ys : List Value, (ys = auC (auK i a (j : Int))) → (moT i a j).flatMap auC ++ ys = (moT i a (j + 1)).flatMap auC := fun ys e => by
        rw [e, moT_succ, List.flatMap_append, List.flatMap_cons, List.flatMap_nil, List.append_nil]
      have hwr : IntKind.i64.wrap (IntKind.i64.wrap (IntKind.i64.wrap i * (j : Int)) + IntKind.i64.wrap a) = i * (j : Int) + a := by
        have hij : 0 ≤ i * (j : Int) ∧ i * (j : Int) ≤ 255 * 11 := ⟨Int.mul_nonneg hi0.1 (by omega), Int.mul_le_mul hi0.2 (by omega) (by omega) (by decide)⟩
        rw [wr64 (x := i) (by omega) (by omega), wr64 (x := a) (by omega) (by omega), wr64 (x := i * (j : Int)) (by omega) (by omega), wr64 (by omega) (by omega)]
      rw [hwr]
      refine ⟨w3.heap.size, _, owns_kp ho k5 (fun _ _ h => h), by omega, by omega, Nat.le_trans k4.size k5.size, fun p6 c6 w6 ho6 hg6 _ => ?_⟩
      have kg := kp_grown hg6
      have k6 : K0 w3 w6 := (k4.trans k5).fresh kg (fun jj hjj e => by have := own_ge ho e; omega)
      rw [inc64 (by omega)]
      have ho6 : w6.ownsRow w3.heap.size 45 16 (.slice p6 (j + 1) c6) (j + 1) ((moT i a j).flatMap auC ++ auC (auK i a (j : Int))) := ho6
      rw [hcell _ rfl] at ho6
      refine ⟨.of_kp kg (fun z hz e => ?_), ⟨j + 1, p6, c6, rfl, hlt, ho6, k6⟩, by simp only [Int.toNat_natCast]; omega⟩
      rcases List.mem_singleton.1 hz with rfl
      have h1 := own_ge ho e
      have h2 := block_lt ds.1
      omega
    · have hjN : j = N := by simp at hge; omega
      subst hjN
      have hml : moT i a j = moL i a := by unfold moT moL; rw [hN]
      have hlen : (moL i a).length = j := by rw [moL_len, hN]
      rw [hml] at ho
      have h4 := h3.k0 k4
      have d4 := ds.kd (.k0 k4)
      have ho' : w4.ownsRow w3.heap.size 45 16 (.slice p (moL i a).length c) (moL i a).length ((moL i a).flatMap auC) := by rw [hlen]; exact ho
      have hR4 : RowA auC 16 w4 p (moL i a) := RowA.own ho' auC_length (by decide)
      have hlt4 : ∀ g' o, p = some ⟨g', o, none⟩ → g' < w4.heap.size := fun g' o e => by subst e; exact own_lt ho rfl
      have hb := fun z hz => (moL_ok (i := i) (a := a) z hz).1
      have hset := setModsQ_any h4.mq h4.qs (nmG g) (moL i a) p c hR4 hlt4 hb (h4.gw hG)
      rw [hlen] at hset
      refine ⟨hset.mono fun e w5 ⟨he, ⟨q5, hs5, hq5, hQ5⟩, k5⟩ => ?_⟩
      have kd5 := h4.mq.kd k5
      have h5 := h4.qopS hq5 hQ5 k5
      refine ⟨_, he, kp d4 kd5, ?_⟩
      have hR5 : RowA auC 16 w5 p (moL i a) := RowA.own (kd5.own ho' rfl) auC_length (by decide)
      have hxs := xset_any h5.mr (by have := r.gl; omega) (nmG g) (moL i a) p c hR5 hb
      rw [hlen] at hxs
      refine ⟨hxs.mono fun e w6 ⟨he, hx, k6⟩ => ⟨_, he, kp (d4.kd kd5) (.mf k6), by simp, ?_⟩⟩
      have kd6 : KD w w6 := ((kd3.trans (.k0 k4)).trans kd5).trans (.mf k6)
      rcases hx with ⟨hne, hM6⟩ | ⟨h0, X, P6, hp6, hs6, hM6⟩
      · have e5 : q5 = q := by
          rcases hs5 with ⟨_, e⟩ | ⟨e, _⟩ | ⟨e, _⟩
          · exact e
          · exact absurd e hne
          · exact absurd e hne
        subst e5
        exact ⟨_, M, P, h5.mop hM6 k6, r.mono (by omega), by unfold stpM; rw [hk]; exact .inr ⟨hne, rfl⟩, kd6⟩
      · exact ⟨_, _, P6, h5.mop hM6 k6, r.setr moL_ok hs5 h0 hp6 hs6, by unfold stpM; rw [hk]; exact .inl ⟨h0, X, hp6, hs6, rfl⟩, kd6⟩

end Go.Proofs.YtfacflbmlfbeeaaGreatDoor

/- The formulas of functions by the symbolic evaluator, and that each gives the call's contract. Written by a program (gen.py). No condition. -/
namespace Go.Proofs.YtfacflbmlfbeeaaGreatDoor
set_option maxRecDepth 100000
set_option linter.unusedVariables false

def VC_lplay (p : Option Addr) (n : Nat) (c : Nat) (mx : Int) (w : World) (R : Ending -> World -> Prop) : Prop := CallsS Tryz.prog 17 #[.int .i64 4, .int .i64 2] w fun (e : Ending) (w' : World) => ∃ (x : Option Addr) (x_1 : Option Addr), e = .returned (.tuple #[.pointer x, .pointer x_1]) /\ KeptL [] w w' /\ ∃ (I : List Value -> World -> Prop) (m : List Value -> World -> Nat), I [Value.int .i64 0] w' /\ ∀ (x_2 : Int) (w' : World), I [Value.int .i64 x_2] w' -> bsp (decide (x_2 < (↑n : Int)) && decide (x_2 < mx)) (nn true p fun (b o : Nat) => (0 <= x_2 /\ x_2 < (↑n : Int)) /\ ∃ (x_3 : Int) (x_4 : Int), ∃ (x_5 : Int) (x_6 : Int), ∃ (x_7 : Int) (x_8 : ByteArray), AtL w' b (o + x_2.toNat * 6) [Value.int .u8 x_3, .int .u8 x_4, .int .u8 x_5, .int .u8 x_6, .int .i64 x_7, .string x_8] /\ CallsS Tryz.prog 31 #[.pointer x, .pointer x_1, .agg
 #[.int .u8 x_3, .int .u8 x_4, .int .u8 x_5, .int .u8 x_6, .int .i64 x_7, .string x_8]] w' fun (e : Ending) (w'_1 : World) => ∃ (x_9 : Bool), e = .returned (.bool x_9) /\ KeptL [] w' w'_1 /\ bsp (!x_9) (R (.returned (.tuple #[.pointer x, .pointer x_1, .bool false])) w'_1) (I [Value.int .i64 (IntKind.i64.wrap (x_2 + 1))] w'_1 /\ m [Value.int .i64 (IntKind.i64.wrap (x_2 + 1))] w'_1 < m [Value.int .i64 x_2] w')) (R (.returned (.tuple #[.pointer x, .pointer x_1, .bool true])) w')
theorem vc_lplay (p : Option Addr) (n : Nat) (c : Nat) (mx : Int) (w : World) (R : Ending -> World -> Prop) (h : VC_lplay p n c mx w R) : Calls Tryz.prog 28 ([Value.slice p n c, .int .i64 mx] : List Value).toArray w R :=
 calls_of_exec2' (loops := [(3, [(9, Ck.int .i64)])]) (tails := []) (joins := []) (boxes := []) (rngs := []) (c := Tryz.f28.body.getD .skip) pur1_ok Tryz.func28 (by kernel_rfl) (by kernel_rfl) h

end Go.Proofs.YtfacflbmlfbeeaaGreatDoor

/- The formulas of functions by the symbolic evaluator, and that each gives the call's contract. Written by a program (gen.py). No condition. -/
namespace Go.Proofs.YtfacflbmlfbeeaaGreatDoor
set_option maxRecDepth 100000
set_option linter.unusedVariables false

end Go.Proofs.YtfacflbmlfbeeaaGreatDoor

/- The formulas of functions by the symbolic evaluator, and that each gives the call's contract. Written by a program (gen.py). No condition. -/
namespace Go.Proofs.YtfacflbmlfbeeaaGreatDoor
set_option maxRecDepth 100000
set_option linter.unusedVariables false

def VC_lleas (p : Option Addr) (n : Nat) (c : Nat) (now : Int) (lt : Int) (w : World) (R : Ending -> World -> Prop) : Prop := CallsS Tryz.prog 14 #[] w fun (e : Ending) (w' : World) => ∃ (x : Bool), e = .returned (.bool x) /\ KeptL [] w w' /\ bsp (!x) (R (.returned (.bool false)) w') (CallsS Tryz.prog 28 #[.slice p n c, .int .i64 20] w' fun (e : Ending) (w'_1 : World) => ∃ (x : Option Addr) (x_1 : Option Addr) (x_2 : Bool), e = .returned (.tuple #[.pointer x, .pointer x_1, .bool x_2]) /\ KeptL [] w' w'_1 /\ bsp (!!x_2) (CallsS Tryz.prog 36 #[.int .i64 now] w'_1 fun (e : Ending) (w' : World) => ∃ (x_3 : Bool), e = .returned (.bool x_3) /\ KeptL [] w'_1 w' /\ bsp (!(false || !x_3)) (CallsS Tryz.prog 36 #[.int .i64 (IntKind.i64.wrap (now + 200))] w' fun (e : Ending) (w'_2 : World) => ∃ (x_4 : Bool), e = .returned (.bool x_4) /\ KeptL [] w' w'_2 /\
 bsp (false || !x_4) (R (.returned (.bool x_2)) w'_2) (∀ (n : Nat) (W : World), Loc w.heap.size [Blk.mk n 45 [Value.int .u8 0, .int .u8 1, .int .u8 0, .int .u8 0, .int .u8 0, .int .u8 0, .int .u8 0, .int .u8 0, .int .u8 0, .int .u8 0, .int .u8 0, .int .u8 0, .int .u8 0, .int .u8 0, .int .u8 0, .int .u8 0, .int .u8 0, .int .u8 2, .int .u8 0, .int .u8 0, .int .u8 0, .int .u8 0, .int .u8 0, .int .u8 0, .int .u8 0, .int .u8 0, .int .u8 0, .int .u8 0, .int .u8 0, .int .u8 0, .int .u8 0, .int .u8 0, .int .u8 0, .int .u8 3, .int .u8 0, .int .u8 0, .int .u8 0, .int .u8 0, .int .u8 0, .int .u8 0, .int .u8 0, .int .u8 0, .int .u8 0, .int .u8 0, .int .u8 0, .int .u8 0, .int .u8 0, .int .u8 0] 2] w'_2 W -> CallsS Tryz.prog 38 #[.pointer x, .string (ByteArray.mk #[103]), .slice (some (Addr.mk n 0 none)) 3 3] W fun (e : Ending) (w' : World) => ∃ (x_5 : Int), e = .returned (.int .i64 x_5) /\
 KeptL [] W w' /\ ∃ (I : List Value -> World -> Prop) (m : List Value -> World -> Nat), I [Value.int .i64 1, .slice none 0 0] w' /\ ∀ (x_6 : Int) (p : Option Addr) (n c : Nat) (w' : World), I [Value.int .i64 x_6, .slice p n c] w' -> bsp (decide (x_6 <= 3)) (CallsS Tryz.prog 39 #[.pointer x, .string (ByteArray.mk #[103]), .agg #[.int .u8 0, .int .u8 (IntKind.u8.wrap x_6), .int .u8 0, .int .u8 0, .int .u8 0, .int .u8 0, .int .u8 0, .int .u8 0, .int .u8 0, .int .u8 0, .int .u8 0, .int .u8 0, .int .u8 0, .int .u8 0, .int .u8 0, .int .u8 0], .int .i64 now] w' fun (e : Ending) (w'_3 : World) => ∃ (f : Nat -> Int) (x_7 : ByteArray), ∃ (x_8 : ByteArray) (x_9 : Int), ∃ (x_10 : Int) (f_1 : Nat -> Int), ∃ (x_11 : Int) (x_12 : ByteArray) (x_13 : Int), e = .returned (.tuple #[.agg (arrI .u8 f 32 0 ++ ([Value.string x_7, .string x_8, .int .i64 x_9,
 .int .i64 x_10] ++ arrI .u8 f_1 16 0 ++ [Value.int .i64 x_11, .string x_12])).toArray, .int .i64 x_13]) /\ KeptL [] w' w'_3 /\ ∀ (n_1 : Nat), bsp (x_13 != 0) (∀ (W : World), Loc w.heap.size [Blk.mk n_1 48 (arrI .u8 f 32 0 ++ ([Value.string x_7, .string x_8, .int .i64 x_9, .int .i64 x_10] ++ arrI .u8 f_1 16 0 ++ [Value.int .i64 x_11, .string x_12])) (wrM 2)] w'_3 W -> R (.returned (.bool (x_13 == 8))) W) (∃ (x_14 : ByteArray), gimp (!x_10 != 0) (∀ (W : World), Loc w.heap.size [Blk.mk n_1 48 (arrI .u8 f 32 0 ++ ([Value.string x_7, .string x_8, .int .i64 x_9, .int .i64 x_10] ++ arrI .u8 f_1 16 0 ++ [Value.int .i64 x_11, .string x_12])) (wrM 2)] w'_3 W -> W.cell? (Addr.mk n_1 (0 + 32) none) = some (.string x_14)) /\ nn (!(x_10 != 0 || !x_14.toList == [(ByteArray.mk #[103]).get! 0]) && decide ((↑n : Int) > 0)) p fun (b o : Nat) => gimp
 (!(x_10 != 0 || !x_14.toList == [(ByteArray.mk #[103]).get! 0]) && decide ((↑n : Int) > 0)) (0 <= IntKind.i64.wrap ((↑n : Int) - 1) /\ IntKind.i64.wrap ((↑n : Int) - 1) < (↑n : Int)) /\ ∃ (f_2 : Nat -> Int) (x_15 : ByteArray), ∃ (x_16 : ByteArray) (x_17 : Int), ∃ (x_18 : Int) (f_3 : Nat -> Int), ∃ (x_19 : Int) (x_20 : ByteArray), gimp (!(x_10 != 0 || !x_14.toList == [(ByteArray.mk #[103]).get! 0]) && decide ((↑n : Int) > 0)) (∀ (W : World), Loc w.heap.size [Blk.mk n_1 48 (arrI .u8 f 32 0 ++ ([Value.string x_7, .string x_8, .int .i64 x_9, .int .i64 x_10] ++ arrI .u8 f_1 16 0 ++ [Value.int .i64 x_11, .string x_12])) (wrM 2)] w'_3 W -> AtL W b (o + (IntKind.i64.wrap ((↑n : Int) - 1)).toNat * 54) (arrI .u8 f_2 32 0 ++ ([Value.string x_15, .string x_16, .int .i64 x_17, .int .i64 x_18] ++ arrI .u8 f_3 16 0 ++ [Value.int .i64 x_19, .string x_20]))) /\ ∀ (W : World),
 Loc w.heap.size [Blk.mk n_1 48 (arrI .u8 f 32 0 ++ ([Value.string x_7, .string x_8, .int .i64 x_9, .int .i64 x_10] ++ arrI .u8 f_1 16 0 ++ [Value.int .i64 x_11, .string x_12])) (wrM 2)] w'_3 W -> bsp (!(x_10 != 0 || !x_14.toList == [(ByteArray.mk #[103]).get! 0])) (bsp (decide ((↑n : Int) > 0)) (CallsS Tryz.prog 40 #[.agg (arrI .u8 f_2 32 0 ++ ([Value.string x_15, .string x_16, .int .i64 x_17, .int .i64 x_18] ++ arrI .u8 f_3 16 0 ++ [Value.int .i64 x_19, .string x_20])).toArray, .agg (arrI .u8 f 32 0 ++ ([Value.string x_7, .string x_8, .int .i64 x_9, .int .i64 x_10] ++ arrI .u8 f_1 16 0 ++ [Value.int .i64 x_11, .string x_12])).toArray] W fun (e : Ending) (w'_4 : World) => ∃ (x_21 : Bool), e = .returned (.bool x_21) /\ KeptL [n_1] W w'_4 /\ bsp (false || true && !x_21) (R (.returned (.bool false)) w'_4) (∀ (n_2 : Nat) (W : World), Loc w.heap.size [Blk.mk n_2 48
 (arrI .u8 f 32 0 ++ ([Value.string x_7, .string x_8, .int .i64 x_9, .int .i64 x_10] ++ arrI .u8 f_1 16 0 ++ [Value.int .i64 x_11, .string x_12])) 2, Blk.mk n_1 48 (arrI .u8 f 32 0 ++ ([Value.string x_7, .string x_8, .int .i64 x_9, .int .i64 x_10] ++ arrI .u8 f_1 16 0 ++ [Value.int .i64 x_11, .string x_12])) 0] w'_4 W -> ∃ (base : Nat) (xs : List Value), W.ownsRow base 48 54 (.slice p n c) n xs /\ n + 1 <= 9223372036854775807 /\ (n + 1) * 120 <= 140737488355328 /\ base <= W.heap.size /\ ∀ (p' : Option Addr) (c' : Nat) (w'_5 : World), w'_5.ownsRow base 48 54 (.slice p' (n + 1) c') (n + 1) (xs ++ (arrI .u8 f 32 0 ++ ([Value.string x_7, .string x_8, .int .i64 x_9, .int .i64 x_10] ++ arrI .u8 f_1 16 0 ++ [Value.int .i64 x_11, .string x_12]))) -> W.grownBy w'_5 (Value.slice p n c).ownBlock -> AppL W p n c 1 p' c' -> KeptL [n_1] W w'_5 /\ CallsS Tryz.prog 41 #[.pointer x, .agg
 (arrI .u8 f 32 0).toArray, .string (ByteArray.mk #[103]), .int .i64 (IntKind.i64.wrap (now + (IntKind.i64.wrap lt).tmod 100))] w'_5 fun (e : Ending) (w'_6 : World) => ∃ (f_4 : Nat -> Int) (x : Bool), e = .returned (.tuple #[.agg (arrI .u8 f_4 16 0).toArray, .bool x]) /\ KeptL [n_1] w'_5 w'_6 /\ ∀ (n_3 : Nat), ∃ (r : Bool), gimp (!!x == decide ((IntKind.i64.wrap lt).tmod 100 < 60) && x) (EqP Tryz.prog 45 (.agg (arrI .u8 f_4 16 0).toArray) (.agg #[.int .u8 0, .int .u8 (IntKind.u8.wrap x_6), .int .u8 0, .int .u8 0, .int .u8 0, .int .u8 0, .int .u8 0, .int .u8 0, .int .u8 0, .int .u8 0, .int .u8 0, .int .u8 0, .int .u8 0, .int .u8 0, .int .u8 0, .int .u8 0]) r) /\ bsp (!x == decide ((IntKind.i64.wrap lt).tmod 100 < 60) || x && !r) (∀ (W : World), Loc w.heap.size [Blk.mk n_3 45 (arrI .u8 f_4 16 0) (wrM 2), Blk.mk n_1 48 (arrI .u8 f 32 0 ++ ([Value.string x_7, .string x_8, .int .i64 x_9,
 .int .i64 x_10] ++ arrI .u8 f_1 16 0 ++ [Value.int .i64 x_11, .string x_12])) 0] w'_6 W -> R (.returned (.bool false)) W) (∀ (W : World), Loc w.heap.size [Blk.mk n_3 45 (arrI .u8 f_4 16 0) (wrM 2), Blk.mk n_1 48 (arrI .u8 f 32 0 ++ ([Value.string x_7, .string x_8, .int .i64 x_9, .int .i64 x_10] ++ arrI .u8 f_1 16 0 ++ [Value.int .i64 x_11, .string x_12])) 0] w'_6 W -> I [Value.int .i64 (IntKind.i64.wrap (x_6 + 1)), .slice p' (n + 1) c'] W /\ m [Value.int .i64 (IntKind.i64.wrap (x_6 + 1)), .slice p' (n + 1) c'] W < m [Value.int .i64 x_6, .slice p n c] w'))) (KeptL [n_1] W W /\ ∀ (n_2 : Nat) (W_1 : World), Loc w.heap.size [Blk.mk n_2 48 (arrI .u8 f 32 0 ++ ([Value.string x_7, .string x_8, .int .i64 x_9, .int .i64 x_10] ++ arrI .u8 f_1 16 0 ++ [Value.int .i64 x_11, .string x_12])) 2, Blk.mk n_1 48 (arrI .u8 f 32 0 ++ ([Value.string x_7, .string x_8, .int .i64 x_9,
 .int .i64 x_10] ++ arrI .u8 f_1 16 0 ++ [Value.int .i64 x_11, .string x_12])) 0] W W_1 -> ∃ (base : Nat) (xs : List Value), W_1.ownsRow base 48 54 (.slice p n c) n xs /\ n + 1 <= 9223372036854775807 /\ (n + 1) * 120 <= 140737488355328 /\ base <= W_1.heap.size /\ ∀ (p' : Option Addr) (c' : Nat) (w'_4 : World), w'_4.ownsRow base 48 54 (.slice p' (n + 1) c') (n + 1) (xs ++ (arrI .u8 f 32 0 ++ ([Value.string x_7, .string x_8, .int .i64 x_9, .int .i64 x_10] ++ arrI .u8 f_1 16 0 ++ [Value.int .i64 x_11, .string x_12]))) -> W_1.grownBy w'_4 (Value.slice p n c).ownBlock -> AppL W_1 p n c 1 p' c' -> KeptL [n_1] W_1 w'_4 /\ CallsS Tryz.prog 41 #[.pointer x, .agg (arrI .u8 f 32 0).toArray, .string (ByteArray.mk #[103]), .int .i64 (IntKind.i64.wrap (now + (IntKind.i64.wrap lt).tmod 100))] w'_4 fun (e : Ending) (w'_5 : World) => ∃ (f_4 : Nat -> Int) (x : Bool), e = .returned (.tuple #[.agg
 (arrI .u8 f_4 16 0).toArray, .bool x]) /\ KeptL [n_1] w'_4 w'_5 /\ ∀ (n_3 : Nat), ∃ (r : Bool), gimp (!!x == decide ((IntKind.i64.wrap lt).tmod 100 < 60) && x) (EqP Tryz.prog 45 (.agg (arrI .u8 f_4 16 0).toArray) (.agg #[.int .u8 0, .int .u8 (IntKind.u8.wrap x_6), .int .u8 0, .int .u8 0, .int .u8 0, .int .u8 0, .int .u8 0, .int .u8 0, .int .u8 0, .int .u8 0, .int .u8 0, .int .u8 0, .int .u8 0, .int .u8 0, .int .u8 0, .int .u8 0]) r) /\ bsp (!x == decide ((IntKind.i64.wrap lt).tmod 100 < 60) || x && !r) (∀ (W : World), Loc w.heap.size [Blk.mk n_3 45 (arrI .u8 f_4 16 0) (wrM 2), Blk.mk n_1 48 (arrI .u8 f 32 0 ++ ([Value.string x_7, .string x_8, .int .i64 x_9, .int .i64 x_10] ++ arrI .u8 f_1 16 0 ++ [Value.int .i64 x_11, .string x_12])) 0] w'_5 W -> R (.returned (.bool false)) W) (∀ (W : World), Loc w.heap.size [Blk.mk n_3 45 (arrI .u8 f_4 16 0) (wrM 2), Blk.mk n_1 48
 (arrI .u8 f 32 0 ++ ([Value.string x_7, .string x_8, .int .i64 x_9, .int .i64 x_10] ++ arrI .u8 f_1 16 0 ++ [Value.int .i64 x_11, .string x_12])) 0] w'_5 W -> I [Value.int .i64 (IntKind.i64.wrap (x_6 + 1)), .slice p' (n + 1) c'] W /\ m [Value.int .i64 (IntKind.i64.wrap (x_6 + 1)), .slice p' (n + 1) c'] W < m [Value.int .i64 x_6, .slice p n c] w'))) (KeptL [n_1] W W /\ R (.returned (.bool false)) W))) (R (.returned (.bool true)) w'))) (KeptL [] w' w' /\ R (.returned (.bool x_2)) w')) (KeptL [] w'_1 w'_1 /\ KeptL [] w'_1 w'_1 /\ R (.returned (.bool x_2)) w'_1))
theorem vc_lleas (p : Option Addr) (n : Nat) (c : Nat) (now : Int) (lt : Int) (w : World) (R : Ending -> World -> Prop) (h : VC_lleas p n c now lt w R) : Calls Tryz.prog 9 ([Value.slice p n c, .int .i64 now, .int .u8 lt] : List Value).toArray w R :=
 calls_of_exec2' (loops := [(9, [(11, Ck.int .i64), (10, Ck.slice)])]) (tails := [(14, 20)]) (joins := []) (boxes := []) (rngs := []) (c := Tryz.f9.body.getD .skip) pur1_ok Tryz.func9 (by kernel_rfl) (by kernel_rfl) h

end Go.Proofs.YtfacflbmlfbeeaaGreatDoor

/- Chapter 39: the contracts of the law's play, of ModerationOperations and of ModerationLapses. Bytes are bytes; numbers can be written; the library's variable MaxLen holds a number. -/
namespace Go.Proofs.YtfacflbmlfbeeaaGreatDoor
open Go.RowKit Go.Sort Go.Maps

/-- What the first j operations make of the model. -/
def Chn (r d : Int) (L : List OpZ) : Nat → Mo → Prop
  | 0, M => M0 r d M
  | j + 1, M' => ∃ (M : Mo) (x : OpZ), Chn r d L j M ∧ L[j]? = some x ∧ stpM x.k x.i x.g x.a x.now x.t M M' ∧ M'.es.Pairwise fun x y => cfM x.s y.s < 0
theorem Chn.det {r d : Int} {L : List OpZ} : ∀ {j : Nat} {M N : Mo}, Chn r d L j M → Chn r d L j N → MoE M N
  | 0, _, _, h1, h2 => M0.moe h1 h2
  | j + 1, _, _, ⟨_, x, h1, hx, s1, p1⟩, ⟨_, y, h2, hy, s2, p2⟩ => by
    rw [hx] at hy
    cases hy
    exact (Chn.det h1 h2).step s1 s2 p1 p2
/-- What stands after some operations. -/
structure Pd (r d : Int) (L : List OpZ) (w w' : World) (b mb eb m j : Nat) (q : Qu) (M : Mo) (P : Pl) : Prop where
  sw : SW w w' b mb eb m q M P
  rq : Rq (2 + j) q M
  ch : Chn r d L j M
  st : St r d M
  nm : NmD M
theorem Pd.k0 {r d : Int} {L : List OpZ} {w w' w2 : World} {b mb eb m j : Nat} {q : Qu} {M : Mo} {P : Pl} (h : Pd r d L w w' b mb eb m j q M P) (k : K0 w' w2) : Pd r d L w w2 b mb eb m j q M P := ⟨h.sw.k0 k, h.rq, h.ch, h.st, h.nm⟩
set_option maxRecDepth 100000 in
set_option maxHeartbeats 4000000 in
/-- One operation more. -/
theorem Pd.do {r d : Int} {L : List OpZ} {w w' : World} {b mb eb m j : Nat} {q : Qu} {M : Mo} {P : Pl} (h : Pd r d L w w' b mb eb m j q M P) (hj : j ≤ 40) (hG : GW w) {x : OpZ} (hx : L[j]? = some x) (ho : x.R) :
    Calls Tryz.prog 31 #[.pointer (some ⟨b, 0, none⟩), .pointer (some ⟨m, 0, none⟩), .agg (([.int .u8 x.k, .int .u8 x.i, .int .u8 x.g, .int .u8 x.a, .int .i64 x.now, .string x.t] : List Value)).toArray] w' fun e w2 => e = .returned (.bool true) ∧ ∃ (q' : Qu) (M' : Mo) (P' : Pl), Pd r d L w w2 b mb eb m (j + 1) q' M' P' ∧ stpM x.k x.i x.g x.a x.now x.t M M' ∧ KD w' w2 :=
  (ldo_any h.sw h.rq (by omega) hG x.k x.i x.g x.a x.now x.t ho.k.1 ho.i ho.g ho.a).mono fun e w2 ⟨he, q', M', P', h2, r2, hs, kd⟩ => ⟨he, q', M', P', ⟨h2, r2, ⟨M, x, h.ch, hx, hs, r2.srt⟩, h.st.step h.rq.dis hs, h.nm.step hs⟩, hs, kd⟩
set_option maxRecDepth 100000 in
set_option maxHeartbeats 4000000 in
theorem lplay_any (p : Option Addr) (L : List OpZ) (c : Nat) (mx : Int) (w : World) (hR : RowA opC39 6 w p L) (hL : ∀ x ∈ L, x.R) (hl : L.length ≤ 4611686018427387904) (hmx : 0 ≤ mx ∧ mx ≤ 40) (hG : GW w) :
    Calls Tryz.prog 28 #[.slice p L.length c, .int .i64 mx] w fun e w' => ∃ (b mb eb m j : Nat) (q : Qu) (M : Mo) (P : Pl), e = .returned (.tuple #[.pointer (some ⟨b, 0, none⟩), .pointer (some ⟨m, 0, none⟩), .bool true]) ∧ Pd 4 2 L w w' b mb eb m j q M P ∧ j = min L.length mx.toNat := by
  refine vc_lplay p L.length c mx w _ ⟨(lstart_any 4 2 (by decide) w hG).mono fun e w1 ⟨b, mb, eb, m, q, M, P, he, h, r, h0, _⟩ => ⟨_, _, he, .of_k0 h.k, ?_⟩⟩
  refine ⟨fun vs w' => ∃ (j : Nat) (q : Qu) (M : Mo) (P : Pl), vs = [.int .i64 (j : Int)] ∧ j ≤ L.length ∧ j ≤ mx.toNat ∧ Pd 4 2 L w w' b mb eb m j q M P, fun vs _ => (match vs with | .int _ a :: _ => L.length - a.toNat | _ => 0), ⟨0, q, M, P, rfl, by omega, by omega, h, r, h0, h0.st (by decide), h0.nm⟩, ?_⟩
  rintro x2 w2 ⟨j, q2, M2, P2, hv, hj, hjm, h2⟩
  simp only [List.cons.injEq, Value.int.injEq, true_and, and_true] at hv
  subst hv
  refine bsp_intro (fun hlt => ?_) (fun hge => ?_)
  · have hlt : j < L.length ∧ (j : Int) < mx := by simp at hlt; omega
    obtain ⟨x, bb, o, hx, hp, hat⟩ := (hR.k0 h2.sw.k).get hlt.1
    have ho := hL x (List.mem_of_getElem? hx)
    rw [Int.toNat_natCast]
    refine nn_is hp ⟨⟨by omega, by omega⟩, x.k, x.i, x.g, x.a, x.now, x.t, hat, ⟨(h2.do (by omega) hG hx ho).mono fun e w3 ⟨he, q3, M3, P3, h3, _, kd⟩ => ⟨_, he, kd.kept (fun z hz => by cases hz), bsp_intro (fun h => by cases h) (fun _ => ?_)⟩⟩⟩
    rw [inc64 (by omega)]
    exact ⟨⟨j + 1, q3, M3, P3, rfl, hlt.1, by omega, h3⟩, by simp only [Int.toNat_natCast]; omega⟩
  · have hge : ¬ ((j : Int) < L.length ∧ (j : Int) < mx) := by
      simp only [Bool.and_eq_false_iff, decide_eq_false_iff_not] at hge
      omega
    exact ⟨b, mb, eb, m, j, q2, M2, P2, rfl, h2, by omega⟩
/-! ### Lapses -/
theorem SW.lapse {w0 w : World} {b mb eb m n : Nat} {q : Qu} {M : Mo} {P : Pl} (h : SW w0 w b mb eb m q M P) (r : Rq n q M) (hn : n ≤ 10000) (hG : GW w0) (now : Int) :
    Calls Tryz.prog 33 #[.pointer (some ⟨b, 0, none⟩), .int .i64 now] w fun e w' => ∃ (p : Option Addr) (c : Nat) (q5 : Qu), e = .returned (.slice p (xlpL M now).length c) ∧ RowA sbC 54 w' p (xlpL M now) ∧ (∀ g' o, p = some ⟨g', o, none⟩ → ∃ cc ff, w'.heap[g']? = some (.cells cc 48 ff)) ∧ SW w0 w' b mb eb m q5 M P ∧ Rq n q5 (xlpM M now) ∧ KD w w' :=
  (lapse_any h.mq r.qo (by have := r.ql; omega) now (h.gw hG)).mono fun e w5 hla => by
    rcases hla with ⟨hm, he, _, k5⟩ | ⟨hm, p, c, L, he, hp, hs, ho, hq5, k5⟩
    · have e1 : xlpL M now = [] := by unfold xlpL; rw [if_neg (by rw [hm]; decide)]
      have e2 : xlpM M now = M := by unfold xlpM; rw [if_neg (by rw [hm]; decide)]
      rw [e1, e2]
      exact ⟨none, 0, q, he, RowA.nil, (fun g' o e => by cases e), h.k0 k5, r, .k0 k5⟩
    · obtain ⟨e1, r5⟩ := r.lap hm hp hs
      have hl : L.length = (xlpL M now).length := by rw [← e1, List.length_map]
      rw [e1, hl] at ho
      rw [hl] at he
      refine ⟨p, c, _, he, RowA.own ho sbC_length (by decide), fun g' o e => ?_, h.qop hq5 k5 (finA_ms ..), r5, h.mq.kd k5⟩
      subst e
      obtain ⟨cc, hcc⟩ := own_type ho (k := g') rfl
      exact ⟨cc, _, hcc⟩
end Go.Proofs.YtfacflbmlfbeeaaGreatDoor

/- Chapter 39: the contract of ModerationLeases. Bytes are bytes; numbers can be written; the library's variable MaxLen holds a number. -/
namespace Go.Proofs.YtfacflbmlfbeeaaGreatDoor
open Go.RowKit Go.Sort Go.Maps

theorem A1s : ∀ z ∈ [A1 1, A1 2, A1 3], BY z ∧ NZ 16 z := fun z hz => by
  simp only [List.mem_cons, List.not_mem_nil, or_false] at hz
  rcases hz with rfl | rfl | rfl <;> exact A1_ok ⟨by decide, by decide⟩
theorem setA : setE kG [A1 1, A1 2, A1 3] = 0 := by
  unfold setE
  rw [if_neg (by rw [k_gn]; decide), if_neg (by decide), if_pos]
  decide +kernel
theorem srtA : ([A1 1, A1 2, A1 3] : List (Nat → Int)).Pairwise fun x y => cfA x y < 0 := by
  have h1 : cfA (A1 1) (A1 2) < 0 := by decide +kernel
  have h2 : cfA (A1 1) (A1 3) < 0 := by decide +kernel
  have h3 : cfA (A1 2) (A1 3) < 0 := by decide +kernel
  simp [h1, h2, h3]
def XA : MX := ⟨[A1 1, A1 2, A1 3], none, 0⟩
theorem isA {i : Nat} (hi : i < 3) : isMB XA (A1 ((i : Int) + 1)) = true := by
  unfold isMB XA
  rw [decide_eq_true_eq]
  have : i = 0 ∨ i = 1 ∨ i = 2 := by omega
  rcases this with rfl | rfl | rfl <;> decide +kernel
theorem xcl_8 {M : Mo} {g : ByteArray} {a : Nat → Int} {now : Int} (hm : minB now = true) (hb : isMB (M.md g) a = true) (h : xclE M g a now ≠ 0) : xclE M g a now = 8 := by
  unfold xclE at h ⊢
  rw [if_neg (by rw [hm]; decide), if_neg (by rw [hb]; decide)] at h ⊢
  split
  · rfl
  · rename_i hf
    rw [hf] at h
    exact absurd rfl h
theorem xclM_md (M : Mo) (g : ByteArray) (a : Nat → Int) (now : Int) (c : ByteArray) : (xclM M g a now).md c = M.md c := by
  unfold xclM
  split <;> rfl
theorem litA {i : Nat} (hi : i < 3) : ([.int .u8 0, .int .u8 (IntKind.u8.wrap ((i : Int) + 1)), .int .u8 0, .int .u8 0, .int .u8 0, .int .u8 0, .int .u8 0, .int .u8 0, .int .u8 0, .int .u8 0, .int .u8 0, .int .u8 0, .int .u8 0, .int .u8 0, .int .u8 0, .int .u8 0] : List Value) = arrI .u8 (A1 ((i : Int) + 1)) 16 0 := by
  have : i = 0 ∨ i = 1 ∨ i = 2 := by omega
  rcases this with rfl | rfl | rfl <;> rfl
set_option maxRecDepth 100000 in
set_option maxHeartbeats 16000000 in
theorem lleas_any (p : Option Addr) (L : List OpZ) (c : Nat) (now lt : Int) (hlt : 0 ≤ lt ∧ lt ≤ 255) (w : World) (hR : RowA opC39 6 w p L) (hL : ∀ x ∈ L, x.R) (hl : L.length ≤ 4611686018427387904) (hG : GW w) :
    Calls Tryz.prog 9 #[.slice p L.length c, .int .i64 now, .int .u8 lt] w fun e w' => e = .returned (.bool true) ∧ K0 w w' := by
  refine vc_lleas p L.length c now lt w _ ⟨(known_any w hG).mono fun e w1 ⟨he, k1⟩ => ⟨_, he, .of_k0 k1, bsp_intro (fun h => by cases h) (fun _ => ?_)⟩⟩
  have hG1 : GW w1 := hG.kp k1 (fun h => h)
  refine ⟨(lplay_any p L c 20 w1 (hR.k0 k1) hL hl (by decide) hG1).mono fun e w2 ⟨b, mb, eb, m, j, q, M, P, he, h2, hjm⟩ => ⟨_, _, _, he, .of_k0 h2.sw.k, bsp_intro (fun _ => ?_) (fun h => by cases h)⟩⟩
  have hj : j ≤ 20 := by omega
  clear hjm
  refine ⟨(xmin_any now w2).mono fun e w3 ⟨he, k3⟩ => ⟨_, he, .of_k0 k3, bsp_intro (fun hm => ?_) (fun _ => ⟨.refl _ _, rfl, k1.trans (h2.sw.k.trans k3)⟩)⟩⟩
  have hm : minB now = true := by simpa using hm
  have hn := minB_iff.1 hm
  rw [wr64 (x := now + 200) (by omega) (by omega)]
  refine ⟨(xmin_any (now + 200) w3).mono fun e w4 ⟨he, k4⟩ => ⟨_, he, .of_k0 k4, bsp_intro (fun _ => ⟨rfl, k1.trans (h2.sw.k.trans (k3.trans k4))⟩) (fun hm2 n W5 hW5 => ?_)⟩⟩
  have hm2 : minB (now + 200) = true := by simpa using hm2
  have hn2 := minB_iff.1 hm2
  have k5 : K0 w2 W5 := (k3.trans k4).trans (hW5.kk rfl)
  have h5 := h2.k0 k5
  have c5 := hW5.cells 0 rfl
  clear hW5
  refine ⟨(setModsQ_any h5.sw.mq h5.sw.qs kG [A1 1, A1 2, A1 3] (some ⟨n, 0, none⟩) 3 (row3 (a := A1 1) (b := A1 2) (c := A1 3) c5) (fun g o e => by cases e; exact block_lt c5) (fun z hz => (A1s z hz).1) (h5.sw.gw hG1)).mono fun e w6 ⟨he, ⟨q6, hs6, hq6, hQ6⟩, k6⟩ => ⟨_, he, (h5.sw.mq.kd k6).kept (fun z hz => by cases hz), ?_⟩⟩
  have h6 := h5.sw.qopS hq6 hQ6 k6
  have r6 := h5.rq.setr (X := XA) A1s hs6 setA (.refl _) srtA
  have hmd6 : ({ M with gs := gset M.gs kG XA } : Mo).md kG = XA := by rw [gset_md, if_pos rfl]
  have le6 : LeI ((0 : Nat) : Int) now kG { M with gs := gset M.gs kG XA } [] := LeI.z (M := { M with gs := gset M.gs kG XA }) h5.st.ho r6.srt r6.dis
  obtain ⟨D, hD, hD1, hD2⟩ : ∃ D : Int, (IntKind.i64.wrap lt).tmod 100 = D ∧ 0 ≤ D ∧ D < 100 := by
    refine ⟨_, rfl, ?_⟩
    rw [wr64 (x := lt) (by omega) (by omega), Int.tmod_eq_emod_of_nonneg hlt.1]
    omega
  rw [hD, wr64 (x := now + D) (by omega) (by omega)]
  refine ⟨fun vs wx => ∃ (i : Nat) (got : List Sb) (p : Option Addr) (c : Nat) (q' : Qu) (Mg : Mo), vs = [.int .i64 ((i : Int) + 1), .slice p got.length c] ∧ i ≤ 3 ∧ got.length = i ∧ SW w1 wx b mb eb m q' M P ∧ Rq (2 + j + 1) q' Mg ∧ LeI (i : Int) now kG Mg got ∧ Mg.md kG = XA ∧ (∀ s ∈ got, BY s.id ∧ s.g.size ≤ 1000) ∧ wx.ownsRow w6.heap.size 48 54 (.slice p got.length c) got.length (got.flatMap sbC) ∧ w6.heap.size ≤ wx.heap.size,
    fun vs _ => (match vs with | .int _ a :: _ => 4 - a.toNat | _ => 0), ⟨0, [], none, 0, q6, _, rfl, by omega, rfl, h6, r6, le6, hmd6, (fun s hs => by cases hs), World.ownsRow_nil _ _ _ _, Nat.le_refl _⟩, ?_⟩
  rintro x6 p7 n7 c7 w7 ⟨i, got, p', c', q7, Mg, hv, hi3, hgl, h7, r7, le7, hmd7, hgo, ho7, hsz7⟩
  simp only [List.cons.injEq, Value.int.injEq, Value.slice.injEq, true_and, and_true] at hv
  obtain ⟨rfl, rfl, rfl, rfl⟩ := hv
  refine bsp_intro (fun hlt3 => ?_) (fun _ => ⟨rfl, k1.trans h7.k⟩)
  have hi : i < 3 := by simp at hlt3; omega
  have hA := A1_ok (j := (i : Int) + 1) ⟨by omega, by omega⟩
  have hkG : kG.size ≤ 1073741824 := by decide
  have hlit := litA hi
  have hlit2 : (#[.int .u8 0, .int .u8 (IntKind.u8.wrap ((i : Int) + 1)), .int .u8 0, .int .u8 0, .int .u8 0, .int .u8 0, .int .u8 0, .int .u8 0, .int .u8 0, .int .u8 0, .int .u8 0, .int .u8 0, .int .u8 0, .int .u8 0, .int .u8 0, .int .u8 0] : Array Value) = (arrI .u8 (A1 ((i : Int) + 1)) 16 0).toArray := by rw [← hlit]
  rw [hlit2]
  have om := r7.mo (by omega)
  have hcl := claim_any h7.mq r7.qo (by have := r7.ql; omega) kG hkG (A1 ((i : Int) + 1)) hA.1 now (h7.gw hG1)
  rw [r7.clE] at hcl
  refine ⟨hcl.mono fun e w8 hcl => ?_⟩
  rcases hcl with ⟨hne, he, k8⟩ | ⟨h0, x, hx, hmin, he, hq8, k8⟩
  · have e8 := xcl_8 hm (by rw [hmd7]; exact isA hi) hne
    refine ⟨sbz.id, sbz.g, sbz.tx, sbz.r, sbz.st, sbz.mo, sbz.de, sbz.rs, _, he, .of_k0 k8, fun n1 => bsp_intro (fun _ W hW => ⟨by rw [e8]; rfl, k1.trans (h7.k.trans (k8.trans (hW.kk rfl)))⟩) (fun h => by rw [e8] at h; exact absurd h (by decide))⟩
  obtain ⟨ex, r8⟩ := r7.clm hA h0 hx hmin
  obtain ⟨hst, hg, hlast, le8, hfd⟩ := le7.step h0
  have oS := xclS_ok om kG (A1 ((i : Int) + 1)) now
  rw [← ex] at hst hg hlast le8 hfd oS
  have kd8 := h7.mq.kd k8
  have h8 := h7.qop hq8 k8 rfl
  have ho8 := kd8.own ho7 rfl
  have hmd8 : (xclM Mg kG (A1 ((i : Int) + 1)) now).md kG = XA := by rw [xclM_md, hmd7]
  have hky : x.ky = (idI x.id, kG) := by unfold Sb.ky; rw [hg]
  have hen : aget ({ q7 with es := aset q7.es x.ky ⟨x, true, A1 ((i : Int) + 1), now⟩ } : Qu).es (idI x.id, kG) = some ⟨x, true, A1 ((i : Int) + 1), now⟩ := by
    rw [← hky]
    exact (r8.fd x.ky).symm.trans hfd
  have hsz8 := Nat.le_trans hsz7 kd8.1
  refine ⟨x.id, x.g, x.tx, x.r, x.st, x.mo, x.de, x.rs, _, he, kd8.kept (fun z hz => by cases hz), fun n1 => bsp_intro (fun h => absurd h (by decide)) (fun _ => ⟨x.g, gimp_intro fun _ W hW => cell_at (hW.cells 0 rfl) rfl, ?_⟩)⟩
  have hcond : (!(x.st != 0 || !(x.g.toList == [(ByteArray.mk #[103]).get! 0]))) = true := by rw [hst, hg, ByteArray.toList_eq]; rfl
  rw [hcond]
  simp only [Bool.true_and]
  have hgx : x.g.size ≤ 1000 := by rw [hg]; decide
  have e1 : got.length + 1 = (got ++ [x]).length := by simp
  have e2 : (got ++ [x]).flatMap sbC = got.flatMap sbC ++ sbC x := by rw [List.flatMap_append]; simp [List.flatMap_cons]
  have hown := fun {k : Nat} (e : (Value.slice p7 got.length c7).ownBlock = some k) => own_lt ho8 e
  rcases Nat.eq_zero_or_pos got.length with hz | hpos
  case' inl =>
    have hd : decide ((got.length : Int) > 0) = false := decide_eq_false (by omega)
    rw [hd]
    refine nn_neg rfl fun _ _ => ⟨gimp_neg rfl, fun _ => 0, ⟨#[]⟩, ⟨#[]⟩, 0, 0, fun _ => 0, 0, ⟨#[]⟩, gimp_neg rfl, fun W hW => bsp_intro (fun _ => bsp_intro (fun h => by cases h) (fun _ => ⟨.refl _ _, fun n2 Wz hWt => ?_⟩)) (fun h => by cases h)⟩
    have kt : K0 w8 Wz := (hW.kk rfl : K0 w8 W).trans (hWt.kk rfl)
    have g1 : w8.heap.size ≤ n1 := hW.fresh 0 rfl rfl
    clear hW hWt hd hz
  case' inr =>
    have hd : decide ((got.length : Int) > 0) = true := decide_eq_true (by omega)
    rw [hd]
    obtain ⟨s, bb, o, hs, hpb, hat⟩ := (RowA.own ho8 sbC_length (by decide) : RowA sbC 54 w8 p7 got).get (k := got.length - 1) (by omega)
    have hw1 : IntKind.i64.wrap ((got.length : Int) - 1) = ((got.length - 1 : Nat) : Int) := by rw [wr64 (by omega) (by omega)]; omega
    rw [hw1, Int.toNat_natCast]
    have hgl2 : got.getLast? = some s := by rw [List.getLast?_eq_getElem?]; exact hs
    have hgs := hgo s (List.mem_of_getElem? hs)
    have hcf := hlast s hgl2
    refine nn_is hpb ⟨gimp_intro fun _ => ⟨by omega, by omega⟩, s.id, s.g, s.tx, s.r, s.st, s.mo, s.de, s.rs, gimp_intro fun _ W hW => hat.k0 (hW.kk rfl), fun W hW => bsp_intro (fun _ => bsp_intro (fun _ => ⟨(xbefore_any s x hgs.1 oS.id (by omega) (by omega) W).mono fun e w9 ⟨he, kb⟩ => ⟨_, he, .of_k0 kb, bsp_intro (fun h => by exfalso; rw [decide_eq_true hcf] at h; cases h) (fun _ n2 Wz hWt => ?_)⟩⟩) (fun h => by cases h)) (fun h => by cases h)⟩
    have kt : K0 w8 Wz := ((hW.kk rfl : K0 w8 W).trans kb).trans (hWt.kk rfl)
    have g1 : w8.heap.size ≤ n1 := hW.fresh 0 rfl rfl
    clear hW hWt hd hpos hs hpb hat hw1 hgl2 hgs hcf kb
  all_goals
    have hoz := owns_kp ho8 kt (fun _ _ h => h)
    have hz8 := h8.k0 kt
    refine ⟨w6.heap.size, _, hoz, by omega, by omega, Nat.le_trans hsz8 kt.size, fun p9 c9 w9 ho9 hg9 _ => ?_⟩
    have kg := kp_grown hg9
    have h9 := hz8.off kg (t := 48) (fun k hk => ⟨by have := own_ge hoz hk; have := h6.k.size; omega, by obtain ⟨cc, hcc⟩ := own_type hoz hk; exact ⟨cc, _, hcc⟩⟩) rfl rfl
    refine ⟨.of_kp kg (fun z hz e => by
      rcases List.mem_singleton.1 hz with rfl
      have := hown e
      omega), ⟨(holder_any h9.mq r8.qo x.id oS.id kG hkG (now + D)).mono fun e w10 ⟨he, k10⟩ => ⟨_, _, he, .of_k0 k10, fun n3 => ?_⟩⟩⟩
    have hB : hldB { q7 with es := aset q7.es x.ky ⟨x, true, A1 ((i : Int) + 1), now⟩ } x.id kG (now + D) = decide (D < 60) := by
      unfold hldB
      rw [en_some hen]
      have hmD : minB (now + D) = true := minB_iff.2 ⟨by omega, by omega⟩
      unfold inE
      rw [hmD, Bool.true_and, Bool.true_and, decide_eq_true (show now ≤ now + D by omega), Bool.true_and, show now + D - now = D by omega]
    have hA2 : D < 60 → hldA { q7 with es := aset q7.es x.ky ⟨x, true, A1 ((i : Int) + 1), now⟩ } x.id kG (now + D) = A1 ((i : Int) + 1) := fun hd => by
      unfold hldA
      rw [hB, if_pos (decide_eq_true hd), en_some hen]
    have hA3 : BY (hldA { q7 with es := aset q7.es x.ky ⟨x, true, A1 ((i : Int) + 1), now⟩ } x.id kG (now + D)) := by
      unfold hldA
      split
      · rw [en_some hen]; exact hA.1
      · exact by0
    rw [hB]
    refine ⟨_, gimp_intro fun _ => auEq hA3 hA.1, bsp_intro (fun hbad => ?_) (fun _ W hW => ⟨⟨i + 1, got ++ [x], p9, c9, _, _, ?_, hi, by rw [← e1, hgl], h9.k0 (k10.trans (hW.kk rfl)), r8, ?_, hmd8, fun s hs => ?_, ?_, ?_⟩, ?_⟩)⟩
    · exfalso
      by_cases hd : D < 60
      · rw [hA2 hd, decide_eq_true hd] at hbad
        simp at hbad
      · rw [decide_eq_false hd] at hbad
        simp at hbad
    · rw [wr64 (by omega) (by omega), ← e1]
      simp
    · have : ((i + 1 : Nat) : Int) = (i : Int) + 1 := by omega
      rw [this]
      exact le8
    · rcases List.mem_append.1 hs with hs | hs
      · exact hgo s hs
      · rcases List.mem_singleton.1 hs with rfl
        exact ⟨oS.id, hgx⟩
    · rw [← e1, e2]
      exact owns_kp ho9 (k10.trans (hW.kk rfl)) (fun _ _ h => h)
    · exact Nat.le_trans hsz8 (Nat.le_trans kt.size (Nat.le_trans kg.size (Nat.le_trans k10.size (hW.kk rfl : K0 w10 W).size)))
    · rw [wr64 (by omega) (by omega)]
      show 4 - ((i : Int) + 1 + 1).toNat < 4 - ((i : Int) + 1).toNat
      omega

end Go.Proofs.YtfacflbmlfbeeaaGreatDoor
