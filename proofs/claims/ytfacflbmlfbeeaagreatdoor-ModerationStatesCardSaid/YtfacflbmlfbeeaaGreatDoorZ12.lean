/- Chapter 39: the contract of the law's do: what the queue and the model answer is the same. Printed by mkdo39.py. Bytes are bytes; lists are not too long; the library's variable MaxLen holds a number. -/
import Derived.Test.YtfacflbmlfbeeaaGreatDoorZ11
import Derived.Test.YtfacflbmlfbeeaaGreatDoorProg
import Derived.Test.YtfacflbmlfbeeaaGreatDoorZ02
import Derived.Test.YtfacflbmlfbeeaaGreatDoorZ04
import Derived.Test.YtfacflbmlfbeeaaGreatDoorZ03
import Derived.KernelRfl
namespace Go.Proofs.YtfacflbmlfbeeaaGreatDoor
open Go.RowKit Go.Sort Go.Maps

theorem cmd_of (E : Int) {f : Nat → Int} (hf : BY f) (g : ByteArray) : ∃ (kk : Int) (ff : Nat → Int) (gg : ByteArray), BY ff ∧ cmdL E f g = apC kk ff gg := by
  unfold cmdL
  split
  · exact ⟨_, _, _, hf, rfl⟩
  · exact ⟨_, _, _, by0, rfl⟩
set_option maxRecDepth 100000 in
set_option maxHeartbeats 32000000 in
theorem ldo_any {w0 w : World} {b mb eb m n0 : Nat} {q : Qu} {M : Mo} {P : Pl} (h : SW w0 w b mb eb m q M P) (r : Rq n0 q M) (hn0 : n0 ≤ 5000) (hG : GW w0) (k i g a now : Int) (t : ByteArray) (hk0 : 0 ≤ k) (hi0 : 0 ≤ i ∧ i ≤ 255) (hg0 : 0 ≤ g ∧ g ≤ 255) (ha0 : 0 ≤ a ∧ a ≤ 255) :
    Calls Tryz.prog 31 #[.pointer (some ⟨b, 0, none⟩), .pointer (some ⟨m, 0, none⟩), .agg (([.int .u8 k, .int .u8 i, .int .u8 g, .int .u8 a, .int .i64 now, .string t] : List Value)).toArray] w fun e w' => e = .returned (.bool true) ∧ ∃ (q' : Qu) (M' : Mo) (P' : Pl), SW w0 w' b mb eb m q' M' P' ∧ Rq (n0 + 1) q' M' ∧ stpM k i g a now t M M' ∧ KD w w' := by
  refine vc_ldo b m k i g a now t w _ (fun n W hW => ?_)
  have kW : K0 w W := hW.kk rfl
  refine ⟨fun vs wx => ∃ n1 n2 : Nat, vs = [.string (nmG g), .pointer (some ⟨n1, 0, none⟩), .pointer (some ⟨n2, 0, none⟩)] ∧ wx.heap[n1]? = some (.cells (arrI .u8 (idN i) 32 0).toArray 32 (0, 0)) ∧ wx.heap[n2]? = some (.cells (arrI .u8 (auN a) 16 0).toArray 45 (0, 0)) ∧ K0 w wx, fun W1 hW1 => ?_, ?_⟩
  · have kW1' : K0 W W1 := hW1.kk rfl
    have hkW := kW.trans kW1'
    have hc := hW1.cells 0 rfl
    have hnW := block_lt hc
    simp only at hnW
    clear hW hW1
    have kW1 : K0 W1 W1 := .refl _ _
    refine ⟨fun wx => K0 W1 wx, kW1, i, fun wx k => cell_at (k.blk hc (fun h => h)) rfl, g, fun wx k => cell_at (k.blk hc (fun h => h)) rfl, a, fun wx k => cell_at (k.blk hc (fun h => h)) rfl, ?_⟩
    refine ⟨?_, ?_, ?_⟩
    · refine ⟨(lid_any i W1).mono fun e v0 ⟨he, kk0⟩ => ⟨_, he, kW1.trans kk0, ?_⟩⟩
      have kc0 := kW1.trans kk0
      refine ⟨?_, ?_, ?_⟩
      · refine ⟨(lname_any g hg0.1 v0).mono fun e v1 ⟨he, kk1⟩ => ⟨_, he, kc0.trans kk1, ?_⟩⟩
        have kc1 := kc0.trans kk1
        refine ⟨?_, ?_, ?_⟩
        · refine ⟨(lauthor_any a v1).mono fun e v2 ⟨he, kk2⟩ => ⟨_, he, ?_⟩⟩
          have kc2 := kc1.trans kk2
          refine ⟨?_, ?_⟩
          · intro n1 v3 hb3
            have kc3 := kc2.trans (hb3.kp (fun _ => False))
            have gX := Nat.le_trans kc2.size hb3.ge
            refine ⟨kc3, ?_⟩
            have cX3 := hb3.block
            intro n2 v4 hb4
            have kc4 := kc3.trans (hb4.kp (fun _ => False))
            have gY := Nat.le_trans kc3.size hb4.ge
            refine ⟨kc4, ?_⟩
            have cY4 := hb4.block
            have cX4 := (hb4.kp (fun _ => False)).blk cX3 (fun h => h)
            exact dofin kc4 gX gY cX4 rfl cY4 rfl (fun w2 kk a1 a2 => ⟨n1, n2, rfl, a1, a2, hkW.trans kk⟩)
          · intro n2 v3 hb3
            have kc3 := kc2.trans (hb3.kp (fun _ => False))
            have gY := Nat.le_trans kc2.size hb3.ge
            refine ⟨kc3, ?_⟩
            have cY3 := hb3.block
            intro n1 v4 hb4
            have kc4 := kc3.trans (hb4.kp (fun _ => False))
            have gX := Nat.le_trans kc3.size hb4.ge
            refine ⟨kc4, ?_⟩
            have cX4 := hb4.block
            have cY4 := (hb4.kp (fun _ => False)).blk cY3 (fun h => h)
            exact dofin kc4 gX gY cX4 rfl cY4 rfl (fun w2 kk a1 a2 => ⟨n1, n2, rfl, a1, a2, hkW.trans kk⟩)
        · intro n1 v2 hb2
          have kc2 := kc1.trans (hb2.kp (fun _ => False))
          have gX := Nat.le_trans kc1.size hb2.ge
          refine ⟨kc2, ?_⟩
          have cX2 := hb2.block
          refine ⟨?_, ?_⟩
          · refine ⟨(lauthor_any a v2).mono fun e v3 ⟨he, kk3⟩ => ⟨_, he, ?_⟩⟩
            have kc3 := kc2.trans kk3
            have cX3 := kk3.blk cX2 (fun h => h)
            intro n2 v4 hb4
            have kc4 := kc3.trans (hb4.kp (fun _ => False))
            have gY := Nat.le_trans kc3.size hb4.ge
            refine ⟨kc4, ?_⟩
            have cY4 := hb4.block
            have cX4 := (hb4.kp (fun _ => False)).blk cX3 (fun h => h)
            exact dofin kc4 gX gY cX4 rfl cY4 rfl (fun w2 kk a1 a2 => ⟨n1, n2, rfl, a1, a2, hkW.trans kk⟩)
          · intro n2 v3 hb3
            have kc3 := kc2.trans (hb3.kp (fun _ => False))
            have gY := Nat.le_trans kc2.size hb3.ge
            refine ⟨kc3, ?_⟩
            have cY3 := hb3.block
            have cX3 := (hb3.kp (fun _ => False)).blk cX2 (fun h => h)
            refine ⟨(lauthor_any a v3).mono fun e v4 ⟨he, kk4⟩ => ⟨_, he, ?_⟩⟩
            have kc4 := kc3.trans kk4
            have cX4 := kk4.blk cX3 (fun h => h)
            have cY4 := kk4.blk cY3 (fun h => h)
            exact dofin kc4 gX gY cX4 rfl cY4 rfl (fun w2 kk a1 a2 => ⟨n1, n2, rfl, a1, a2, hkW.trans kk⟩)
        · intro n2 v2 hb2
          have kc2 := kc1.trans (hb2.kp (fun _ => False))
          have gY := Nat.le_trans kc1.size hb2.ge
          refine ⟨kc2, ?_⟩
          have cY2 := hb2.block
          refine ⟨?_, ?_⟩
          · refine ⟨(lauthor_any a v2).mono fun e v3 ⟨he, kk3⟩ => ⟨_, he, ?_⟩⟩
            have kc3 := kc2.trans kk3
            have cY3 := kk3.blk cY2 (fun h => h)
            intro n1 v4 hb4
            have kc4 := kc3.trans (hb4.kp (fun _ => False))
            have gX := Nat.le_trans kc3.size hb4.ge
            refine ⟨kc4, ?_⟩
            have cX4 := hb4.block
            have cY4 := (hb4.kp (fun _ => False)).blk cY3 (fun h => h)
            exact dofin kc4 gX gY cX4 rfl cY4 rfl (fun w2 kk a1 a2 => ⟨n1, n2, rfl, a1, a2, hkW.trans kk⟩)
          · intro n1 v3 hb3
            have kc3 := kc2.trans (hb3.kp (fun _ => False))
            have gX := Nat.le_trans kc2.size hb3.ge
            refine ⟨kc3, ?_⟩
            have cX3 := hb3.block
            have cY3 := (hb3.kp (fun _ => False)).blk cY2 (fun h => h)
            refine ⟨(lauthor_any a v3).mono fun e v4 ⟨he, kk4⟩ => ⟨_, he, ?_⟩⟩
            have kc4 := kc3.trans kk4
            have cX4 := kk4.blk cX3 (fun h => h)
            have cY4 := kk4.blk cY3 (fun h => h)
            exact dofin kc4 gX gY cX4 rfl cY4 rfl (fun w2 kk a1 a2 => ⟨n1, n2, rfl, a1, a2, hkW.trans kk⟩)
      · intro n1 v1 hb1
        have kc1 := kc0.trans (hb1.kp (fun _ => False))
        have gX := Nat.le_trans kc0.size hb1.ge
        refine ⟨kc1, ?_⟩
        have cX1 := hb1.block
        refine ⟨?_, ?_⟩
        · refine ⟨(lname_any g hg0.1 v1).mono fun e v2 ⟨he, kk2⟩ => ⟨_, he, kc1.trans kk2, ?_⟩⟩
          have kc2 := kc1.trans kk2
          have cX2 := kk2.blk cX1 (fun h => h)
          refine ⟨?_, ?_⟩
          · refine ⟨(lauthor_any a v2).mono fun e v3 ⟨he, kk3⟩ => ⟨_, he, ?_⟩⟩
            have kc3 := kc2.trans kk3
            have cX3 := kk3.blk cX2 (fun h => h)
            intro n2 v4 hb4
            have kc4 := kc3.trans (hb4.kp (fun _ => False))
            have gY := Nat.le_trans kc3.size hb4.ge
            refine ⟨kc4, ?_⟩
            have cY4 := hb4.block
            have cX4 := (hb4.kp (fun _ => False)).blk cX3 (fun h => h)
            exact dofin kc4 gX gY cX4 rfl cY4 rfl (fun w2 kk a1 a2 => ⟨n1, n2, rfl, a1, a2, hkW.trans kk⟩)
          · intro n2 v3 hb3
            have kc3 := kc2.trans (hb3.kp (fun _ => False))
            have gY := Nat.le_trans kc2.size hb3.ge
            refine ⟨kc3, ?_⟩
            have cY3 := hb3.block
            have cX3 := (hb3.kp (fun _ => False)).blk cX2 (fun h => h)
            refine ⟨(lauthor_any a v3).mono fun e v4 ⟨he, kk4⟩ => ⟨_, he, ?_⟩⟩
            have kc4 := kc3.trans kk4
            have cX4 := kk4.blk cX3 (fun h => h)
            have cY4 := kk4.blk cY3 (fun h => h)
            exact dofin kc4 gX gY cX4 rfl cY4 rfl (fun w2 kk a1 a2 => ⟨n1, n2, rfl, a1, a2, hkW.trans kk⟩)
        · intro n2 v2 hb2
          have kc2 := kc1.trans (hb2.kp (fun _ => False))
          have gY := Nat.le_trans kc1.size hb2.ge
          refine ⟨kc2, ?_⟩
          have cY2 := hb2.block
          have cX2 := (hb2.kp (fun _ => False)).blk cX1 (fun h => h)
          refine ⟨(lname_any g hg0.1 v2).mono fun e v3 ⟨he, kk3⟩ => ⟨_, he, kc2.trans kk3, ?_⟩⟩
          have kc3 := kc2.trans kk3
          have cX3 := kk3.blk cX2 (fun h => h)
          have cY3 := kk3.blk cY2 (fun h => h)
          refine ⟨(lauthor_any a v3).mono fun e v4 ⟨he, kk4⟩ => ⟨_, he, ?_⟩⟩
          have kc4 := kc3.trans kk4
          have cX4 := kk4.blk cX3 (fun h => h)
          have cY4 := kk4.blk cY3 (fun h => h)
          exact dofin kc4 gX gY cX4 rfl cY4 rfl (fun w2 kk a1 a2 => ⟨n1, n2, rfl, a1, a2, hkW.trans kk⟩)
      · intro n2 v1 hb1
        have kc1 := kc0.trans (hb1.kp (fun _ => False))
        have gY := Nat.le_trans kc0.size hb1.ge
        refine ⟨kc1, ?_⟩
        have cY1 := hb1.block
        refine ⟨?_, ?_⟩
        · refine ⟨(lname_any g hg0.1 v1).mono fun e v2 ⟨he, kk2⟩ => ⟨_, he, kc1.trans kk2, ?_⟩⟩
          have kc2 := kc1.trans kk2
          have cY2 := kk2.blk cY1 (fun h => h)
          refine ⟨?_, ?_⟩
          · refine ⟨(lauthor_any a v2).mono fun e v3 ⟨he, kk3⟩ => ⟨_, he, ?_⟩⟩
            have kc3 := kc2.trans kk3
            have cY3 := kk3.blk cY2 (fun h => h)
            intro n1 v4 hb4
            have kc4 := kc3.trans (hb4.kp (fun _ => False))
            have gX := Nat.le_trans kc3.size hb4.ge
            refine ⟨kc4, ?_⟩
            have cX4 := hb4.block
            have cY4 := (hb4.kp (fun _ => False)).blk cY3 (fun h => h)
            exact dofin kc4 gX gY cX4 rfl cY4 rfl (fun w2 kk a1 a2 => ⟨n1, n2, rfl, a1, a2, hkW.trans kk⟩)
          · intro n1 v3 hb3
            have kc3 := kc2.trans (hb3.kp (fun _ => False))
            have gX := Nat.le_trans kc2.size hb3.ge
            refine ⟨kc3, ?_⟩
            have cX3 := hb3.block
            have cY3 := (hb3.kp (fun _ => False)).blk cY2 (fun h => h)
            refine ⟨(lauthor_any a v3).mono fun e v4 ⟨he, kk4⟩ => ⟨_, he, ?_⟩⟩
            have kc4 := kc3.trans kk4
            have cX4 := kk4.blk cX3 (fun h => h)
            have cY4 := kk4.blk cY3 (fun h => h)
            exact dofin kc4 gX gY cX4 rfl cY4 rfl (fun w2 kk a1 a2 => ⟨n1, n2, rfl, a1, a2, hkW.trans kk⟩)
        · intro n1 v2 hb2
          have kc2 := kc1.trans (hb2.kp (fun _ => False))
          have gX := Nat.le_trans kc1.size hb2.ge
          refine ⟨kc2, ?_⟩
          have cX2 := hb2.block
          have cY2 := (hb2.kp (fun _ => False)).blk cY1 (fun h => h)
          refine ⟨(lname_any g hg0.1 v2).mono fun e v3 ⟨he, kk3⟩ => ⟨_, he, kc2.trans kk3, ?_⟩⟩
          have kc3 := kc2.trans kk3
          have cX3 := kk3.blk cX2 (fun h => h)
          have cY3 := kk3.blk cY2 (fun h => h)
          refine ⟨(lauthor_any a v3).mono fun e v4 ⟨he, kk4⟩ => ⟨_, he, ?_⟩⟩
          have kc4 := kc3.trans kk4
          have cX4 := kk4.blk cX3 (fun h => h)
          have cY4 := kk4.blk cY3 (fun h => h)
          exact dofin kc4 gX gY cX4 rfl cY4 rfl (fun w2 kk a1 a2 => ⟨n1, n2, rfl, a1, a2, hkW.trans kk⟩)
    · intro n1 v0 hb0
      have kc0 := kW1.trans (hb0.kp (fun _ => False))
      have gX := Nat.le_trans kW1.size hb0.ge
      refine ⟨kc0, ?_⟩
      have cX0 := hb0.block
      refine ⟨?_, ?_⟩
      · refine ⟨(lid_any i v0).mono fun e v1 ⟨he, kk1⟩ => ⟨_, he, kc0.trans kk1, ?_⟩⟩
        have kc1 := kc0.trans kk1
        have cX1 := kk1.blk cX0 (fun h => h)
        refine ⟨?_, ?_⟩
        · refine ⟨(lname_any g hg0.1 v1).mono fun e v2 ⟨he, kk2⟩ => ⟨_, he, kc1.trans kk2, ?_⟩⟩
          have kc2 := kc1.trans kk2
          have cX2 := kk2.blk cX1 (fun h => h)
          refine ⟨?_, ?_⟩
          · refine ⟨(lauthor_any a v2).mono fun e v3 ⟨he, kk3⟩ => ⟨_, he, ?_⟩⟩
            have kc3 := kc2.trans kk3
            have cX3 := kk3.blk cX2 (fun h => h)
            intro n2 v4 hb4
            have kc4 := kc3.trans (hb4.kp (fun _ => False))
            have gY := Nat.le_trans kc3.size hb4.ge
            refine ⟨kc4, ?_⟩
            have cY4 := hb4.block
            have cX4 := (hb4.kp (fun _ => False)).blk cX3 (fun h => h)
            exact dofin kc4 gX gY cX4 rfl cY4 rfl (fun w2 kk a1 a2 => ⟨n1, n2, rfl, a1, a2, hkW.trans kk⟩)
          · intro n2 v3 hb3
            have kc3 := kc2.trans (hb3.kp (fun _ => False))
            have gY := Nat.le_trans kc2.size hb3.ge
            refine ⟨kc3, ?_⟩
            have cY3 := hb3.block
            have cX3 := (hb3.kp (fun _ => False)).blk cX2 (fun h => h)
            refine ⟨(lauthor_any a v3).mono fun e v4 ⟨he, kk4⟩ => ⟨_, he, ?_⟩⟩
            have kc4 := kc3.trans kk4
            have cX4 := kk4.blk cX3 (fun h => h)
            have cY4 := kk4.blk cY3 (fun h => h)
            exact dofin kc4 gX gY cX4 rfl cY4 rfl (fun w2 kk a1 a2 => ⟨n1, n2, rfl, a1, a2, hkW.trans kk⟩)
        · intro n2 v2 hb2
          have kc2 := kc1.trans (hb2.kp (fun _ => False))
          have gY := Nat.le_trans kc1.size hb2.ge
          refine ⟨kc2, ?_⟩
          have cY2 := hb2.block
          have cX2 := (hb2.kp (fun _ => False)).blk cX1 (fun h => h)
          refine ⟨(lname_any g hg0.1 v2).mono fun e v3 ⟨he, kk3⟩ => ⟨_, he, kc2.trans kk3, ?_⟩⟩
          have kc3 := kc2.trans kk3
          have cX3 := kk3.blk cX2 (fun h => h)
          have cY3 := kk3.blk cY2 (fun h => h)
          refine ⟨(lauthor_any a v3).mono fun e v4 ⟨he, kk4⟩ => ⟨_, he, ?_⟩⟩
          have kc4 := kc3.trans kk4
          have cX4 := kk4.blk cX3 (fun h => h)
          have cY4 := kk4.blk cY3 (fun h => h)
          exact dofin kc4 gX gY cX4 rfl cY4 rfl (fun w2 kk a1 a2 => ⟨n1, n2, rfl, a1, a2, hkW.trans kk⟩)
      · intro n2 v1 hb1
        have kc1 := kc0.trans (hb1.kp (fun _ => False))
        have gY := Nat.le_trans kc0.size hb1.ge
        refine ⟨kc1, ?_⟩
        have cY1 := hb1.block
        have cX1 := (hb1.kp (fun _ => False)).blk cX0 (fun h => h)
        refine ⟨(lid_any i v1).mono fun e v2 ⟨he, kk2⟩ => ⟨_, he, kc1.trans kk2, ?_⟩⟩
        have kc2 := kc1.trans kk2
        have cX2 := kk2.blk cX1 (fun h => h)
        have cY2 := kk2.blk cY1 (fun h => h)
        refine ⟨(lname_any g hg0.1 v2).mono fun e v3 ⟨he, kk3⟩ => ⟨_, he, kc2.trans kk3, ?_⟩⟩
        have kc3 := kc2.trans kk3
        have cX3 := kk3.blk cX2 (fun h => h)
        have cY3 := kk3.blk cY2 (fun h => h)
        refine ⟨(lauthor_any a v3).mono fun e v4 ⟨he, kk4⟩ => ⟨_, he, ?_⟩⟩
        have kc4 := kc3.trans kk4
        have cX4 := kk4.blk cX3 (fun h => h)
        have cY4 := kk4.blk cY3 (fun h => h)
        exact dofin kc4 gX gY cX4 rfl cY4 rfl (fun w2 kk a1 a2 => ⟨n1, n2, rfl, a1, a2, hkW.trans kk⟩)
    · intro n2 v0 hb0
      have kc0 := kW1.trans (hb0.kp (fun _ => False))
      have gY := Nat.le_trans kW1.size hb0.ge
      refine ⟨kc0, ?_⟩
      have cY0 := hb0.block
      refine ⟨?_, ?_⟩
      · refine ⟨(lid_any i v0).mono fun e v1 ⟨he, kk1⟩ => ⟨_, he, kc0.trans kk1, ?_⟩⟩
        have kc1 := kc0.trans kk1
        have cY1 := kk1.blk cY0 (fun h => h)
        refine ⟨?_, ?_⟩
        · refine ⟨(lname_any g hg0.1 v1).mono fun e v2 ⟨he, kk2⟩ => ⟨_, he, kc1.trans kk2, ?_⟩⟩
          have kc2 := kc1.trans kk2
          have cY2 := kk2.blk cY1 (fun h => h)
          refine ⟨?_, ?_⟩
          · refine ⟨(lauthor_any a v2).mono fun e v3 ⟨he, kk3⟩ => ⟨_, he, ?_⟩⟩
            have kc3 := kc2.trans kk3
            have cY3 := kk3.blk cY2 (fun h => h)
            intro n1 v4 hb4
            have kc4 := kc3.trans (hb4.kp (fun _ => False))
            have gX := Nat.le_trans kc3.size hb4.ge
            refine ⟨kc4, ?_⟩
            have cX4 := hb4.block
            have cY4 := (hb4.kp (fun _ => False)).blk cY3 (fun h => h)
            exact dofin kc4 gX gY cX4 rfl cY4 rfl (fun w2 kk a1 a2 => ⟨n1, n2, rfl, a1, a2, hkW.trans kk⟩)
          · intro n1 v3 hb3
            have kc3 := kc2.trans (hb3.kp (fun _ => False))
            have gX := Nat.le_trans kc2.size hb3.ge
            refine ⟨kc3, ?_⟩
            have cX3 := hb3.block
            have cY3 := (hb3.kp (fun _ => False)).blk cY2 (fun h => h)
            refine ⟨(lauthor_any a v3).mono fun e v4 ⟨he, kk4⟩ => ⟨_, he, ?_⟩⟩
            have kc4 := kc3.trans kk4
            have cX4 := kk4.blk cX3 (fun h => h)
            have cY4 := kk4.blk cY3 (fun h => h)
            exact dofin kc4 gX gY cX4 rfl cY4 rfl (fun w2 kk a1 a2 => ⟨n1, n2, rfl, a1, a2, hkW.trans kk⟩)
        · intro n1 v2 hb2
          have kc2 := kc1.trans (hb2.kp (fun _ => False))
          have gX := Nat.le_trans kc1.size hb2.ge
          refine ⟨kc2, ?_⟩
          have cX2 := hb2.block
          have cY2 := (hb2.kp (fun _ => False)).blk cY1 (fun h => h)
          refine ⟨(lname_any g hg0.1 v2).mono fun e v3 ⟨he, kk3⟩ => ⟨_, he, kc2.trans kk3, ?_⟩⟩
          have kc3 := kc2.trans kk3
          have cX3 := kk3.blk cX2 (fun h => h)
          have cY3 := kk3.blk cY2 (fun h => h)
          refine ⟨(lauthor_any a v3).mono fun e v4 ⟨he, kk4⟩ => ⟨_, he, ?_⟩⟩
          have kc4 := kc3.trans kk4
          have cX4 := kk4.blk cX3 (fun h => h)
          have cY4 := kk4.blk cY3 (fun h => h)
          exact dofin kc4 gX gY cX4 rfl cY4 rfl (fun w2 kk a1 a2 => ⟨n1, n2, rfl, a1, a2, hkW.trans kk⟩)
      · intro n1 v1 hb1
        have kc1 := kc0.trans (hb1.kp (fun _ => False))
        have gX := Nat.le_trans kc0.size hb1.ge
        refine ⟨kc1, ?_⟩
        have cX1 := hb1.block
        have cY1 := (hb1.kp (fun _ => False)).blk cY0 (fun h => h)
        refine ⟨(lid_any i v1).mono fun e v2 ⟨he, kk2⟩ => ⟨_, he, kc1.trans kk2, ?_⟩⟩
        have kc2 := kc1.trans kk2
        have cX2 := kk2.blk cX1 (fun h => h)
        have cY2 := kk2.blk cY1 (fun h => h)
        refine ⟨(lname_any g hg0.1 v2).mono fun e v3 ⟨he, kk3⟩ => ⟨_, he, kc2.trans kk3, ?_⟩⟩
        have kc3 := kc2.trans kk3
        have cX3 := kk3.blk cX2 (fun h => h)
        have cY3 := kk3.blk cY2 (fun h => h)
        refine ⟨(lauthor_any a v3).mono fun e v4 ⟨he, kk4⟩ => ⟨_, he, ?_⟩⟩
        have kc4 := kc3.trans kk4
        have cX4 := kk4.blk cX3 (fun h => h)
        have cY4 := kk4.blk cY3 (fun h => h)
        exact dofin kc4 gX gY cX4 rfl cY4 rfl (fun w2 kk a1 a2 => ⟨n1, n2, rfl, a1, a2, hkW.trans kk⟩)
  rintro xs x1 x2 w3 ⟨n1, n2, hv, c1, c2, k3⟩ hL
  simp only [List.cons.injEq, Value.string.injEq, Value.pointer.injEq, and_true] at hv
  obtain ⟨rfl, rfl, rfl⟩ := hv
  have ds : DS39 n n1 n2 [.int .u8 k, .int .u8 i, .int .u8 g, .int .u8 a, .int .i64 now, .string t] i a w3 := ⟨hL.cells 0 rfl, c1, c2⟩
  clear hW hL c1 c2
  have h3 := h.k0 k3
  have kd3 : KD w w3 := .k0 k3
  have hid := idN_ok hi0.1
  have hau := auN_ok ha0.1
  have hgs := nmG_sz g
  have ql : q.es.length ≤ 10000 := by have := r.ql; omega
  have om := r.mo (by omega)
  have htx := txO_sz t
  rw [txO_eq]
  have hm8 : 0 ≤ k.tmod 8 ∧ k.tmod 8 < 8 := by rw [Int.tmod_eq_emod_of_nonneg hk0]; omega
  have kp : ∀ {wa wb : World}, DS39 n n1 n2 [.int .u8 k, .int .u8 i, .int .u8 g, .int .u8 a, .int .i64 now, .string t] i a wa → KD wa wb → KeptL [n] wa wb := fun d kk => kk.kept (fun z hz => by
    rcases List.mem_singleton.1 hz with rfl
    exact ⟨_, _, _, d.1, rfl⟩)
  refine ⟨⟨by split <;> omega, by split <;> omega⟩, ?_⟩
  refine bsp_intro (fun hk => ?_) (fun hk0' => bsp_intro (fun hk => ?_) (fun hk1 => bsp_intro (fun hk => ?_) (fun hk2 => bsp_intro (fun hk => ?_) (fun hk3 => bsp_intro (fun hk => ?_) (fun hk4 => bsp_intro (fun hk => ?_) (fun hk5 => bsp_intro (fun hk => ?_) (fun hk6 => ?_)))))))
  · -- submit
    have hk : k.tmod 8 = 0 := by simpa using hk
    intro W4 hW4
    have k4 : K0 w3 W4 := hW4.kk rfl
    have d4 := ds.kd (.k0 k4)
    have h4 := h3.k0 k4
    clear hW4
    refine ⟨DS39 n n1 n2 _ i a, d4, nn_is rfl ⟨idN i, fun wx hx => AtL_block hx.2.1 rfl, now, fun wx hx => cell_at hx.1 rfl, nn_is rfl ⟨idN i, fun wx hx => AtL_block hx.2.1 rfl, now, fun wx hx => cell_at hx.1 rfl, ?_⟩⟩⟩
    refine ⟨(submit_any h4.mq r.qo (idN i) hid.1 (nmG g) (txO t) now (h4.gw hG)).mono fun e w5 ⟨he, hq5, k5⟩ => ?_⟩
    have kd5 := h4.mq.kd k5
    have h5 := h4.qop hq5 k5 (subQ_ms ..)
    refine ⟨_, he, d4.kd kd5, ⟨(xsubmit_any h5.mr om r.srt (idN i) hid.1 (nmG g) (txO t) now).mono fun e w6 ⟨he, hx, k6⟩ => ⟨_, he, kp d4 (kd5.trans (.mf k6)), ?_⟩⟩⟩
    have kd6 : KD w w6 := ((kd3.trans (.k0 k4)).trans kd5).trans (.mf k6)
    refine ⟨by rw [r.subE]; simp, ?_⟩
    rcases hx with ⟨hne, hM6⟩ | ⟨h0, L, P6, hp, hs, hM6⟩
    · exact ⟨_, M, P, h5.mop hM6 k6, r.sub_no hne, by unfold stpM; rw [hk]; exact .inr ⟨hne, rfl⟩, kd6⟩
    · exact ⟨_, _, P6, h5.mop hM6 k6, r.ins hid h0 hp hs, by unfold stpM; rw [hk]; exact .inl ⟨h0, L, hp, rfl⟩, kd6⟩
  · -- claim
    have hk : k.tmod 8 = 1 := by simpa using hk
    refine ⟨fun vs wx => ∃ (nq : Nat) (q' : Qu), vs = [.int .i64 (xclE M (nmG g) (auN a) now), .pointer (some ⟨nq, 0, none⟩)] ∧ wx.heap[nq]? = some (.cells (sbC (xclS M (nmG g) (auN a) now)).toArray 48 (0, 0)) ∧ SW w0 wx b mb eb m q' M P ∧ Rq n0 q' (xclM M (nmG g) (auN a) now) ∧ DS39 n n1 n2 [.int .u8 k, .int .u8 i, .int .u8 g, .int .u8 a, .int .i64 now, .string t] i a wx ∧ KD w wx, nn_is rfl ⟨auN a, AtL_block ds.2.2 rfl, ⟨(claim_any h3.mq r.qo (by omega) (nmG g) hgs (auN a) hau.1 now (h3.gw hG)).mono fun e w4 hcl => ?_⟩⟩, ?_⟩
    · rw [r.clE] at hcl
      rcases hcl with ⟨hne, he, k4⟩ | ⟨h0, x, hx, hmin, he, hq4, k4⟩
      · obtain ⟨eM, eS⟩ := xclM_no hne
        rw [eM, eS]
        refine ⟨sbz.id, sbz.g, sbz.tx, sbz.r, sbz.st, sbz.mo, sbz.de, sbz.rs, _, he, .of_k0 k4, fun nq W5 hW5 => ?_⟩
        have k5 := k4.trans (hW5.kk rfl : K0 w4 W5)
        exact ⟨nq, q, rfl, hW5.cells 1 rfl, h3.k0 k5, r, ds.kd (.k0 k5), kd3.trans (.k0 k5)⟩
      · obtain ⟨ex, rx⟩ := r.clm hau h0 hx hmin
        rw [← ex, h0]
        have kd4 := h3.mq.kd k4
        have h4 := h3.qop hq4 k4 rfl
        refine ⟨x.id, x.g, x.tx, x.r, x.st, x.mo, x.de, x.rs, _, he, kp ds kd4, fun nq W5 hW5 => ?_⟩
        have k5 : K0 w4 W5 := hW5.kk rfl
        exact ⟨nq, _, rfl, hW5.cells 1 rfl, h4.k0 k5, rx, (ds.kd kd4).kd (.k0 k5), (kd3.trans kd4).trans (.k0 k5)⟩
    rintro x3 x4 w5 ⟨nq, q', hv, cq, h5, r5, d5, kd5⟩ _
    simp only [List.cons.injEq, Value.int.injEq, Value.pointer.injEq, true_and, and_true] at hv
    obtain ⟨rfl, rfl⟩ := hv
    refine ⟨fun vs wx => ∃ (nm : Nat), vs = [.int .i64 (xclE M (nmG g) (auN a) now), .pointer (some ⟨nm, 0, none⟩)] ∧ wx.heap[nm]? = some (.cells (sbC (xclS M (nmG g) (auN a) now)).toArray 48 (0, 0)) ∧ wx.heap[nq]? = some (.cells (sbC (xclS M (nmG g) (auN a) now)).toArray 48 (0, 0)) ∧ SW w0 wx b mb eb m q' (xclM M (nmG g) (auN a) now) P ∧ KD w wx, nn_is rfl ⟨auN a, AtL_block d5.2.2 rfl, ⟨(xclaim_any h5.mr om (nmG g) (auN a) hau.1 now).mono fun e w6 ⟨he, hM6, k6⟩ => ?_⟩⟩, ?_⟩
    · have kd6 : KD w5 w6 := .mf k6
      refine ⟨(xclS M (nmG g) (auN a) now).id, (xclS M (nmG g) (auN a) now).g, (xclS M (nmG g) (auN a) now).tx, (xclS M (nmG g) (auN a) now).r, (xclS M (nmG g) (auN a) now).st, (xclS M (nmG g) (auN a) now).mo, (xclS M (nmG g) (auN a) now).de, (xclS M (nmG g) (auN a) now).rs, _, he, kp d5 kd6, fun nm W7 hW7 => ?_⟩
      have k7 : K0 w6 W7 := hW7.kk rfl
      exact ⟨nm, rfl, hW7.cells 1 rfl, k7.blk (kd6.2 _ _ _ _ cq rfl) (fun h => h), (h5.mop hM6 k6).k0 k7, (kd5.trans kd6).trans (.k0 k7)⟩
    rintro x6 x7 w8 ⟨nm, hv, cm, cq8, h8, kd8⟩ _
    simp only [List.cons.injEq, Value.int.injEq, Value.pointer.injEq, true_and, and_true] at hv
    obtain ⟨rfl, rfl⟩ := hv
    have oS := xclS_ok om (nmG g) (auN a) now
    have hstp : stpM k i g a now t M (xclM M (nmG g) (auN a) now) := by unfold stpM; rw [hk]; rfl
    generalize xclS M (nmG g) (auN a) now = S at cm cq8 oS
    refine nn_is rfl ⟨S.id, S.g, S.tx, S.r, S.st, S.mo, S.de, S.rs, AtL_block cq8 rfl, nn_is rfl ⟨S.id, S.g, S.tx, S.r, S.st, S.mo, S.de, S.rs, AtL_block cm rfl, _, sbEq oS oS, by simp, q', _, P, h8, r5.mono (by omega), hstp, kd8⟩⟩
  · -- release
    have hk : k.tmod 8 = 2 := by simpa using hk
    intro W4 hW4
    have k4 : K0 w3 W4 := hW4.kk rfl
    have d4 := ds.kd (.k0 k4)
    have h4 := h3.k0 k4
    clear hW4
    refine ⟨DS39 n n1 n2 _ i a, d4, nn_is rfl ⟨idN i, fun wx hx => AtL_block hx.2.1 rfl, nn_is rfl ⟨auN a, fun wx hx => AtL_block hx.2.2 rfl, now, fun wx hx => cell_at hx.1 rfl, nn_is rfl ⟨idN i, fun wx hx => AtL_block hx.2.1 rfl, nn_is rfl ⟨auN a, fun wx hx => AtL_block hx.2.2 rfl, now, fun wx hx => cell_at hx.1 rfl, ?_⟩⟩⟩⟩⟩
    refine ⟨(release_any h4.mq r.qo (idN i) hid.1 (nmG g) hgs (auN a) hau.1 now).mono fun e w5 ⟨he, hq5, k5⟩ => ?_⟩
    have kd5 := h4.mq.kd k5
    have h5 := h4.qop hq5 k5 (relQ_ms ..)
    refine ⟨_, he, d4.kd kd5, ⟨(xrelease_any h5.mr om (idN i) hid.1 (nmG g) (auN a) hau.1 now).mono fun e w6 ⟨he, hM6, k6⟩ => ⟨_, he, kp d4 (kd5.trans (.mf k6)), ?_⟩⟩⟩
    have kd6 : KD w w6 := ((kd3.trans (.k0 k4)).trans kd5).trans (.mf k6)
    exact ⟨by rw [r.rlE]; simp, _, _, P, h5.mop hM6 k6, (r.rel (idN i) (nmG g) (auN a) now).mono (by omega), by unfold stpM; rw [hk]; rfl, kd6⟩
  · -- approve
    have hk : k.tmod 8 = 3 := by simpa using hk
    obtain ⟨kk, ff, gg, hff, hcm⟩ := cmd_of (apE q (idN i) (nmG g) (auN a) now) hid.1 (nmG g)
    refine ⟨fun vs wx => ∃ (nc : Nat), vs = [.int .i64 (apE q (idN i) (nmG g) (auN a) now), .pointer (some ⟨nc, 0, none⟩)] ∧ wx.heap[nc]? = some (.cells (apC kk ff gg).toArray 42 (0, 0)) ∧ SW w0 wx b mb eb m (apQ q (idN i) (nmG g) (auN a) now 1 ⟨#[]⟩) M P ∧ DS39 n n1 n2 [.int .u8 k, .int .u8 i, .int .u8 g, .int .u8 a, .int .i64 now, .string t] i a wx ∧ KD w wx, nn_is rfl ⟨idN i, AtL_block ds.2.1 rfl, nn_is rfl ⟨auN a, AtL_block ds.2.2 rfl, ⟨(approve_any h3.mq r.qo ql (idN i) hid.1 (nmG g) hgs (auN a) hau.1 now).mono fun e w4 ⟨he, hq4, k4⟩ => ?_⟩⟩⟩, ?_⟩
    · rw [hcm] at he
      have kd4 := h3.mq.kd k4
      have h4 := h3.qop hq4 k4 (apQ_ms ..)
      refine ⟨kk, ff, gg, 0, false, none, 0, 0, ⟨#[]⟩, 0, 0, (fun _ => 0), _, he, kp ds kd4, fun nc W5 hW5 => ?_⟩
      have k5 : K0 w4 W5 := hW5.kk rfl
      exact ⟨nc, rfl, hW5.cells 1 rfl, h4.k0 k5, (ds.kd kd4).kd (.k0 k5), (kd3.trans kd4).trans (.k0 k5)⟩
    rintro x3 x4 w5 ⟨nc, hv, cc, h5, d5, kd5⟩ _
    simp only [List.cons.injEq, Value.int.injEq, Value.pointer.injEq, true_and, and_true] at hv
    obtain ⟨rfl, rfl⟩ := hv
    refine ⟨fun vs wx => vs = [.int .i64 (xdcE M (idN i) (nmG g) (auN a) 1 ⟨#[]⟩ now)] ∧ wx.heap[nc]? = some (.cells (apC kk ff gg).toArray 42 (0, 0)) ∧ SW w0 wx b mb eb m (apQ q (idN i) (nmG g) (auN a) now 1 ⟨#[]⟩) (xdcM M (idN i) (nmG g) (auN a) 1 ⟨#[]⟩ now) P ∧ DS39 n n1 n2 [.int .u8 k, .int .u8 i, .int .u8 g, .int .u8 a, .int .i64 now, .string t] i a wx ∧ KD w wx, nn_is rfl ⟨idN i, AtL_block d5.2.1 rfl, nn_is rfl ⟨auN a, AtL_block d5.2.2 rfl, ⟨(xdecide_any h5.mr om (idN i) hid.1 (nmG g) (auN a) hau.1 1 ⟨#[]⟩ (by decide) now).mono fun e w6 ⟨he, hM6, k6⟩ => ?_⟩⟩⟩, ?_⟩
    · have kd6 : KD w5 w6 := .mf k6
      exact ⟨_, he, kp d5 kd6, rfl, kd6.2 _ _ _ _ cc rfl, h5.mop hM6 k6, d5.kd kd6, kd5.trans kd6⟩
    rintro x6 w7 ⟨hv, cc7, h7, d7, kd7⟩ _ W8 hW8
    simp only [List.cons.injEq, Value.int.injEq, true_and, and_true] at hv
    subst hv
    have k8 : K0 w7 W8 := hW8.kk rfl
    have cc8 := k8.blk cc7 (fun h => h)
    have d8 := d7.kd (.k0 k8)
    have h8 := h7.k0 k8
    have kd8 := kd7.trans (.k0 k8)
    clear hW8
    rw [r.apE] at hcm ⊢
    have hbb : (xdcE M (idN i) (nmG g) (auN a) 1 ⟨#[]⟩ now == xdcE M (idN i) (nmG g) (auN a) 1 ⟨#[]⟩ now) = true := by simp
    simp only [hbb]
    refine ⟨fun wx => wx.heap[nc]? = some (.cells (apC kk ff gg).toArray 42 (0, 0)) ∧ DS39 n n1 n2 [.int .u8 k, .int .u8 i, .int .u8 g, .int .u8 a, .int .i64 now, .string t] i a wx, ⟨cc8, d8⟩, nn_is rfl ⟨kk, ff, gg, 0, false, none, 0, 0, ⟨#[]⟩, 0, 0, (fun _ => 0), gimp_intro fun _ wx hx => AtL_block hx.1 rfl, nn_is rfl ⟨idN i, gimp_intro fun _ wx hx => AtL_block hx.2.2.1 rfl, bsp_intro (fun _ => ?_) (fun h => by cases h)⟩⟩⟩
    refine ⟨(xcomm_any (idN i) (nmG g) (xdcE M (idN i) (nmG g) (auN a) 1 ⟨#[]⟩ now) W8).mono fun e w9 ⟨he, k9⟩ => ?_⟩
    rw [hcm] at he
    refine ⟨kk, ff, gg, 0, false, none, 0, 0, ⟨#[]⟩, 0, 0, (fun _ => 0), he, ⟨k9.blk cc8 (fun h => h), d8.kd (.k0 k9)⟩, ⟨(ceq_any kk ff hff gg w9).mono fun e w10 ⟨he, k10⟩ => ⟨_, he, .of_k0 (k9.trans k10), rfl, _, _, P, h8.k0 (k9.trans k10), r.ap hau |>.mono (by omega), by unfold stpM; rw [hk]; rfl, kd8.trans (.k0 (k9.trans k10))⟩⟩⟩
  · -- reject
    have hk : k.tmod 8 = 4 := by simpa using hk
    intro W4 hW4
    have k4 : K0 w3 W4 := hW4.kk rfl
    have d4 := ds.kd (.k0 k4)
    have h4 := h3.k0 k4
    clear hW4
    refine ⟨DS39 n n1 n2 _ i a, d4, nn_is rfl ⟨idN i, fun wx hx => AtL_block hx.2.1 rfl, nn_is rfl ⟨auN a, fun wx hx => AtL_block hx.2.2 rfl, now, fun wx hx => cell_at hx.1 rfl, nn_is rfl ⟨idN i, fun wx hx => AtL_block hx.2.1 rfl, nn_is rfl ⟨auN a, fun wx hx => AtL_block hx.2.2 rfl, now, fun wx hx => cell_at hx.1 rfl, ?_⟩⟩⟩⟩⟩
    refine ⟨(reject_any h4.mq r.qo ql (idN i) hid.1 (nmG g) hgs (auN a) hau.1 (txO t) now).mono fun e w5 ⟨he, hq5, k5⟩ => ?_⟩
    have kd5 := h4.mq.kd k5
    have h5 := h4.qop hq5 k5 (rejQ_ms ..)
    refine ⟨_, he, d4.kd kd5, ⟨(xdecide_any h5.mr om (idN i) hid.1 (nmG g) (auN a) hau.1 2 (txO t) (by omega) now).mono fun e w6 ⟨he, hM6, k6⟩ => ⟨_, he, kp d4 (kd5.trans (.mf k6)), ?_⟩⟩⟩
    have kd6 : KD w w6 := ((kd3.trans (.k0 k4)).trans kd5).trans (.mf k6)
    exact ⟨by rw [r.rjE]; simp, _, _, P, h5.mop hM6 k6, r.rj hau |>.mono (by omega), by unfold stpM; rw [hk]; rfl, kd6⟩
  · -- lapse
    have hk : k.tmod 8 = 5 := by simpa using hk
    intro W4 hW4
    have k4 : K0 w3 W4 := hW4.kk rfl
    have d4 := ds.kd (.k0 k4)
    have h4 := h3.k0 k4
    clear hW4
    have oL := xlpL_ok om now
    have hlL : (xlpL M now).length ≤ 1000000 := by
      have := r.el
      unfold xlpL
      split
      · rw [List.length_map]
        have := List.length_filter_le (lapP (now - M.days * 1440)) M.es
        omega
      · show 0 ≤ _; omega
    refine ⟨DS39 n n1 n2 _ i a, d4, now, fun wx hx => cell_at hx.1 rfl, now, fun wx hx => cell_at hx.1 rfl, ⟨(lapse_any h4.mq r.qo ql now (h4.gw hG)).mono fun e w5 hla => ?_⟩⟩
    have key : ∃ (p : Option Addr) (c : Nat) (q5 : Qu), e = .returned (.slice p (xlpL M now).length c) ∧ RowA sbC 54 w5 p (xlpL M now) ∧ (∀ g' o, p = some ⟨g', o, none⟩ → ∃ cc ff, w5.heap[g']? = some (.cells cc 48 ff)) ∧ SW w0 w5 b mb eb m q5 M P ∧ Rq n0 q5 (xlpM M now) ∧ KD W4 w5 := by
      rcases hla with ⟨hm, he, _, k5⟩ | ⟨hm, p, c, L, he, hp, hs, ho, hq5, k5⟩
      · have e1 : xlpL M now = [] := by unfold xlpL; rw [if_neg (by rw [hm]; decide)]
        have e2 : xlpM M now = M := by unfold xlpM; rw [if_neg (by rw [hm]; decide)]
        rw [e1, e2]
        exact ⟨none, 0, q, he, RowA.nil, (fun g' o e => by cases e), h4.k0 k5, r, .k0 k5⟩
      · obtain ⟨e1, r5⟩ := r.lap hm hp hs
        have hl : L.length = (xlpL M now).length := by rw [← e1, List.length_map]
        rw [e1, hl] at ho
        rw [hl] at he
        refine ⟨p, c, _, he, RowA.own ho sbC_length (by decide), fun g' o e => ?_, h4.qop hq5 k5 (finA_ms ..), r5, h4.mq.kd k5⟩
        subst e
        obtain ⟨cc, hcc⟩ := own_type ho (k := g') rfl
        exact ⟨cc, _, hcc⟩
    obtain ⟨p, c, q5, he, hR5, hT5, h5, r5, kd5⟩ := key
    refine ⟨_, _, _, he, d4.kd kd5, ⟨(xlapse_any h5.mr om now).mono fun e w6 ⟨⟨p6, c6, he, ho6⟩, hM6, k6⟩ => ?_⟩⟩
    have kd6 : KD w5 w6 := .mf k6
    have hR6 : RowA sbC 54 w6 p (xlpL M now) := fun jj y hy => by
      obtain ⟨bb, oo, h1, h2⟩ := hR5 jj y hy
      obtain ⟨cc, ff, hcc⟩ := hT5 bb oo h1
      exact ⟨bb, oo, h1, ⟨At_of _ _ fun jx u hu => k6.cell' (h2.cell hu) (mf_no hcc (by decide))⟩⟩
    refine ⟨_, _, _, he, ⟨(xsame_any (xlpL M now) p p6 c c6 w6 hR6 (RowA.own ho6 sbC_length (by decide)) hlL oL).mono fun e w7 ⟨he, k7⟩ => ⟨_, he, kp d4 ((kd5.trans kd6).trans (.k0 k7)), rfl, q5, _, P, (h5.mop hM6 k6).k0 k7, r5.mono (by omega), by unfold stpM; rw [hk]; rfl, (((kd3.trans (.k0 k4)).trans kd5).trans kd6).trans (.k0 k7)⟩⟩⟩
  · -- forget
    have hk : k.tmod 8 = 6 := by simpa using hk
    intro W4 hW4
    have k4 : K0 w3 W4 := hW4.kk rfl
    have d4 := ds.kd (.k0 k4)
    have h4 := h3.k0 k4
    clear hW4
    refine ⟨DS39 n n1 n2 _ i a, d4, now, fun wx hx => cell_at hx.1 rfl, now, fun wx hx => cell_at hx.1 rfl, ⟨(forget_any h4.mq r.qo ql now).mono fun e w5 ⟨⟨L, he, hp, hq5⟩, k5⟩ => ?_⟩⟩
    obtain ⟨hl, r5⟩ := r.fgt hp
    have kd5 := h4.mq.kd k5
    have h5 := h4.qop hq5 k5 (delA_ms ..)
    refine ⟨_, he, d4.kd kd5, ⟨(xforget_any h5.mr (by have := r.el; omega) now).mono fun e w6 ⟨he, ⟨P6, hM6⟩, k6⟩ => ⟨_, he, kp d4 (kd5.trans (.mf k6)), ?_⟩⟩⟩
    have kd6 : KD w w6 := ((kd3.trans (.k0 k4)).trans kd5).trans (.mf k6)
    exact ⟨by rw [hl]; simp, _, _, P6, h5.mop hM6 k6, r5.mono (by omega), by unfold stpM; rw [hk]; rfl, kd6⟩
  · -- the moderators
    have hk : k.tmod 8 = 7 := by
      simp only [beq_eq_false_iff_ne, ne_eq] at hk0' hk1 hk2 hk3 hk4 hk5 hk6
      omega
    have ha12 : (IntKind.i64.wrap a).tmod 12 = ((a.tmod 12).toNat : Int) := by
      rw [wr64 (by omega) (by omega), Int.tmod_eq_emod_of_nonneg ha0.1]
      omega
    rw [ha12]
    have hT : (a.tmod 12).toNat ≤ 11 := by rw [Int.tmod_eq_emod_of_nonneg ha0.1]; omega
    generalize hN : (a.tmod 12).toNat = N at hT
    refine ⟨fun vs wx => ∃ (j : Nat) (p : Option Addr) (c : Nat), vs = [.int .i64 (j : Int), .slice p j c] ∧ j ≤ N ∧ wx.ownsRow w3.heap.size 45 16 (.slice p j c) j ((moT i a j).flatMap auC) ∧ K0 w3 wx, fun vs _ => (match vs with | .int _ a :: _ => N - a.toNat | _ => 0), ⟨0, none, 0, rfl, by omega, World.ownsRow_nil _ _ _ _, .refl _ _⟩, ?_⟩
    rintro x3 p j c w4 ⟨j', p', c', hv, hj, ho, k4⟩ _
    simp only [List.cons.injEq, Value.int.injEq, Value.slice.injEq, true_and, and_true] at hv
    obtain ⟨rfl, rfl, rfl, rfl⟩ := hv
    refine bsp_intro (fun hlt n4 W5 hW5 => ?_) (fun hge => ?_)
    · have hlt : j < N := by simp at hlt; omega
      have k5 : K0 w4 W5 := hW5.kk rfl
      have hn5 : KeptL [n] W5 W5 := .refl _ _
      have cw := hW5.cells 0 rfl
      have hcell : ∀ ys : List Value, (ys = auC (auK i a (j : Int))) → (moT i a j).flatMap auC ++ ys = (moT i a (j + 1)).flatMap auC := fun ys e => by
        rw [e, moT_succ, List.flatMap_append, List.flatMap_cons, List.flatMap_nil, List.append_nil]
      have hwr : IntKind.i64.wrap (IntKind.i64.wrap (IntKind.i64.wrap i * (j : Int)) + IntKind.i64.wrap a) = i * (j : Int) + a := by
        have hij : 0 ≤ i * (j : Int) ∧ i * (j : Int) ≤ 255 * 11 := ⟨Int.mul_nonneg hi0.1 (by omega), Int.mul_le_mul hi0.2 (by omega) (by omega) (by decide)⟩
        rw [wr64 (x := i) (by omega) (by omega), wr64 (x := a) (by omega) (by omega), wr64 (x := i * (j : Int)) (by omega) (by omega), wr64 (by omega) (by omega)]
      rw [hwr]
      refine ⟨w3.heap.size, _, owns_kp ho k5 (fun _ _ h => h), by omega, by omega, Nat.le_trans k4.size k5.size, fun p6 c6 w6 ho6 hg6 _ => ?_⟩
      have kg := kp_grown hg6
      have k6 : K0 w3 w6 := (k4.trans k5).fresh kg (fun jj hjj e => by have := own_ge ho e; omega)
      rw [inc64 (by omega)]
      have ho6 : w6.ownsRow w3.heap.size 45 16 (.slice p6 (j + 1) c6) (j + 1) ((moT i a j).flatMap auC ++ auC (auK i a (j : Int))) := ho6
      rw [hcell _ rfl] at ho6
      refine ⟨.of_kp kg (fun z hz e => ?_), ⟨j + 1, p6, c6, rfl, hlt, ho6, k6⟩, by simp only [Int.toNat_natCast]; omega⟩
      rcases List.mem_singleton.1 hz with rfl
      have h1 := own_ge ho e
      have h2 := block_lt ds.1
      omega
    · have hjN : j = N := by simp at hge; omega
      subst hjN
      have hml : moT i a j = moL i a := by unfold moT moL; rw [hN]
      have hlen : (moL i a).length = j := by rw [moL_len, hN]
      rw [hml] at ho
      have h4 := h3.k0 k4
      have d4 := ds.kd (.k0 k4)
      have ho' : w4.ownsRow w3.heap.size 45 16 (.slice p (moL i a).length c) (moL i a).length ((moL i a).flatMap auC) := by rw [hlen]; exact ho
      have hR4 : RowA auC 16 w4 p (moL i a) := RowA.own ho' auC_length (by decide)
      have hlt4 : ∀ g' o, p = some ⟨g', o, none⟩ → g' < w4.heap.size := fun g' o e => by subst e; exact own_lt ho rfl
      have hb := fun z hz => (moL_ok (i := i) (a := a) z hz).1
      have hset := setModsQ_any h4.mq h4.qs (nmG g) (moL i a) p c hR4 hlt4 hb (h4.gw hG)
      rw [hlen] at hset
      refine ⟨hset.mono fun e w5 ⟨he, ⟨q5, hs5, hq5, hQ5⟩, k5⟩ => ?_⟩
      have kd5 := h4.mq.kd k5
      have h5 := h4.qopS hq5 hQ5 k5
      refine ⟨_, he, kp d4 kd5, ?_⟩
      have hR5 : RowA auC 16 w5 p (moL i a) := RowA.own (kd5.own ho' rfl) auC_length (by decide)
      have hxs := xset_any h5.mr (by have := r.gl; omega) (nmG g) (moL i a) p c hR5 hb
      rw [hlen] at hxs
      refine ⟨hxs.mono fun e w6 ⟨he, hx, k6⟩ => ⟨_, he, kp (d4.kd kd5) (.mf k6), by simp, ?_⟩⟩
      have kd6 : KD w w6 := ((kd3.trans (.k0 k4)).trans kd5).trans (.mf k6)
      rcases hx with ⟨hne, hM6⟩ | ⟨h0, X, P6, hp6, hs6, hM6⟩
      · have e5 : q5 = q := by
          rcases hs5 with ⟨_, e⟩ | ⟨e, _⟩ | ⟨e, _⟩
          · exact e
          · exact absurd e hne
          · exact absurd e hne
        subst e5
        exact ⟨_, M, P, h5.mop hM6 k6, r.mono (by omega), by unfold stpM; rw [hk]; exact .inr ⟨hne, rfl⟩, kd6⟩
      · exact ⟨_, _, P6, h5.mop hM6 k6, r.setr moL_ok hs5 h0 hp6 hs6, by unfold stpM; rw [hk]; exact .inl ⟨h0, X, hp6, hs6, rfl⟩, kd6⟩

end Go.Proofs.YtfacflbmlfbeeaaGreatDoor

/- The formulas of functions by the symbolic evaluator, and that each gives the call's contract. Written by a program (gen.py). No condition. -/
namespace Go.Proofs.YtfacflbmlfbeeaaGreatDoor
set_option maxRecDepth 100000
set_option linter.unusedVariables false

def VC_lplay (p : Option Addr) (n : Nat) (c : Nat) (mx : Int) (w : World) (R : Ending -> World -> Prop) : Prop := CallsS Tryz.prog 17 #[.int .i64 4, .int .i64 2] w fun (e : Ending) (w' : World) => ∃ (x : Option Addr) (x_1 : Option Addr), e = .returned (.tuple #[.pointer x, .pointer x_1]) /\ KeptL [] w w' /\ ∃ (I : List Value -> World -> Prop) (m : List Value -> World -> Nat), I [Value.int .i64 0] w' /\ ∀ (x_2 : Int) (w' : World), I [Value.int .i64 x_2] w' -> bsp (decide (x_2 < (↑n : Int)) && decide (x_2 < mx)) (nn true p fun (b o : Nat) => (0 <= x_2 /\ x_2 < (↑n : Int)) /\ ∃ (x_3 : Int) (x_4 : Int), ∃ (x_5 : Int) (x_6 : Int), ∃ (x_7 : Int) (x_8 : ByteArray), AtL w' b (o + x_2.toNat * 6) [Value.int .u8 x_3, .int .u8 x_4, .int .u8 x_5, .int .u8 x_6, .int .i64 x_7, .string x_8] /\ CallsS Tryz.prog 31 #[.pointer x, .pointer x_1, .agg
 #[.int .u8 x_3, .int .u8 x_4, .int .u8 x_5, .int .u8 x_6, .int .i64 x_7, .string x_8]] w' fun (e : Ending) (w'_1 : World) => ∃ (x_9 : Bool), e = .returned (.bool x_9) /\ KeptL [] w' w'_1 /\ bsp (!x_9) (R (.returned (.tuple #[.pointer x, .pointer x_1, .bool false])) w'_1) (I [Value.int .i64 (IntKind.i64.wrap (x_2 + 1))] w'_1 /\ m [Value.int .i64 (IntKind.i64.wrap (x_2 + 1))] w'_1 < m [Value.int .i64 x_2] w')) (R (.returned (.tuple #[.pointer x, .pointer x_1, .bool true])) w')
theorem vc_lplay (p : Option Addr) (n : Nat) (c : Nat) (mx : Int) (w : World) (R : Ending -> World -> Prop) (h : VC_lplay p n c mx w R) : Calls Tryz.prog 28 ([Value.slice p n c, .int .i64 mx] : List Value).toArray w R :=
 calls_of_exec2' (loops := [(3, [(9, Ck.int .i64)])]) (tails := []) (joins := []) (boxes := []) (rngs := []) (c := Tryz.f28.body.getD .skip) pur1_ok Tryz.func28 (by kernel_rfl) (by kernel_rfl) h

end Go.Proofs.YtfacflbmlfbeeaaGreatDoor

/- The formulas of functions by the symbolic evaluator, and that each gives the call's contract. Written by a program (gen.py). No condition. -/
namespace Go.Proofs.YtfacflbmlfbeeaaGreatDoor
set_option maxRecDepth 100000
set_option linter.unusedVariables false

end Go.Proofs.YtfacflbmlfbeeaaGreatDoor

/- The formulas of functions by the symbolic evaluator, and that each gives the call's contract. Written by a program (gen.py). No condition. -/
namespace Go.Proofs.YtfacflbmlfbeeaaGreatDoor
set_option maxRecDepth 100000
set_option linter.unusedVariables false

end Go.Proofs.YtfacflbmlfbeeaaGreatDoor

/- Chapter 39: the contracts of the law's play, of ModerationOperations and of ModerationLapses. Bytes are bytes; numbers can be written; the library's variable MaxLen holds a number. -/
namespace Go.Proofs.YtfacflbmlfbeeaaGreatDoor
open Go.RowKit Go.Sort Go.Maps

/-- What the first j operations make of the model. -/
def Chn (r d : Int) (L : List OpZ) : Nat → Mo → Prop
  | 0, M => M0 r d M
  | j + 1, M' => ∃ (M : Mo) (x : OpZ), Chn r d L j M ∧ L[j]? = some x ∧ stpM x.k x.i x.g x.a x.now x.t M M' ∧ M'.es.Pairwise fun x y => cfM x.s y.s < 0
theorem Chn.det {r d : Int} {L : List OpZ} : ∀ {j : Nat} {M N : Mo}, Chn r d L j M → Chn r d L j N → MoE M N
  | 0, _, _, h1, h2 => M0.moe h1 h2
  | j + 1, _, _, ⟨_, x, h1, hx, s1, p1⟩, ⟨_, y, h2, hy, s2, p2⟩ => by
    rw [hx] at hy
    cases hy
    exact (Chn.det h1 h2).step s1 s2 p1 p2
/-- What stands after some operations. -/
structure Pd (r d : Int) (L : List OpZ) (w w' : World) (b mb eb m j : Nat) (q : Qu) (M : Mo) (P : Pl) : Prop where
  sw : SW w w' b mb eb m q M P
  rq : Rq (2 + j) q M
  ch : Chn r d L j M
  st : St r d M
  nm : NmD M
theorem Pd.k0 {r d : Int} {L : List OpZ} {w w' w2 : World} {b mb eb m j : Nat} {q : Qu} {M : Mo} {P : Pl} (h : Pd r d L w w' b mb eb m j q M P) (k : K0 w' w2) : Pd r d L w w2 b mb eb m j q M P := ⟨h.sw.k0 k, h.rq, h.ch, h.st, h.nm⟩
set_option maxRecDepth 100000 in
set_option maxHeartbeats 4000000 in
/-- One operation more. -/
theorem Pd.do {r d : Int} {L : List OpZ} {w w' : World} {b mb eb m j : Nat} {q : Qu} {M : Mo} {P : Pl} (h : Pd r d L w w' b mb eb m j q M P) (hj : j ≤ 40) (hG : GW w) {x : OpZ} (hx : L[j]? = some x) (ho : x.R) :
    Calls Tryz.prog 31 #[.pointer (some ⟨b, 0, none⟩), .pointer (some ⟨m, 0, none⟩), .agg (([.int .u8 x.k, .int .u8 x.i, .int .u8 x.g, .int .u8 x.a, .int .i64 x.now, .string x.t] : List Value)).toArray] w' fun e w2 => e = .returned (.bool true) ∧ ∃ (q' : Qu) (M' : Mo) (P' : Pl), Pd r d L w w2 b mb eb m (j + 1) q' M' P' ∧ stpM x.k x.i x.g x.a x.now x.t M M' ∧ KD w' w2 :=
  (ldo_any h.sw h.rq (by omega) hG x.k x.i x.g x.a x.now x.t ho.k.1 ho.i ho.g ho.a).mono fun e w2 ⟨he, q', M', P', h2, r2, hs, kd⟩ => ⟨he, q', M', P', ⟨h2, r2, ⟨M, x, h.ch, hx, hs, r2.srt⟩, h.st.step h.rq.dis hs, h.nm.step hs⟩, hs, kd⟩
set_option maxRecDepth 100000 in
set_option maxHeartbeats 4000000 in
theorem lplay_any (p : Option Addr) (L : List OpZ) (c : Nat) (mx : Int) (w : World) (hR : RowA opC39 6 w p L) (hL : ∀ x ∈ L, x.R) (hl : L.length ≤ 4611686018427387904) (hmx : 0 ≤ mx ∧ mx ≤ 40) (hG : GW w) :
    Calls Tryz.prog 28 #[.slice p L.length c, .int .i64 mx] w fun e w' => ∃ (b mb eb m j : Nat) (q : Qu) (M : Mo) (P : Pl), e = .returned (.tuple #[.pointer (some ⟨b, 0, none⟩), .pointer (some ⟨m, 0, none⟩), .bool true]) ∧ Pd 4 2 L w w' b mb eb m j q M P ∧ j = min L.length mx.toNat := by
  refine vc_lplay p L.length c mx w _ ⟨(lstart_any 4 2 (by decide) w hG).mono fun e w1 ⟨b, mb, eb, m, q, M, P, he, h, r, h0, _⟩ => ⟨_, _, he, .of_k0 h.k, ?_⟩⟩
  refine ⟨fun vs w' => ∃ (j : Nat) (q : Qu) (M : Mo) (P : Pl), vs = [.int .i64 (j : Int)] ∧ j ≤ L.length ∧ j ≤ mx.toNat ∧ Pd 4 2 L w w' b mb eb m j q M P, fun vs _ => (match vs with | .int _ a :: _ => L.length - a.toNat | _ => 0), ⟨0, q, M, P, rfl, by omega, by omega, h, r, h0, h0.st (by decide), h0.nm⟩, ?_⟩
  rintro x2 w2 ⟨j, q2, M2, P2, hv, hj, hjm, h2⟩
  simp only [List.cons.injEq, Value.int.injEq, true_and, and_true] at hv
  subst hv
  refine bsp_intro (fun hlt => ?_) (fun hge => ?_)
  · have hlt : j < L.length ∧ (j : Int) < mx := by simp at hlt; omega
    obtain ⟨x, bb, o, hx, hp, hat⟩ := (hR.k0 h2.sw.k).get hlt.1
    have ho := hL x (List.mem_of_getElem? hx)
    rw [Int.toNat_natCast]
    refine nn_is hp ⟨⟨by omega, by omega⟩, x.k, x.i, x.g, x.a, x.now, x.t, hat, ⟨(h2.do (by omega) hG hx ho).mono fun e w3 ⟨he, q3, M3, P3, h3, _, kd⟩ => ⟨_, he, kd.kept (fun z hz => by cases hz), bsp_intro (fun h => by cases h) (fun _ => ?_)⟩⟩⟩
    rw [inc64 (by omega)]
    exact ⟨⟨j + 1, q3, M3, P3, rfl, hlt.1, by omega, h3⟩, by simp only [Int.toNat_natCast]; omega⟩
  · have hge : ¬ ((j : Int) < L.length ∧ (j : Int) < mx) := by
      simp only [Bool.and_eq_false_iff, decide_eq_false_iff_not] at hge
      omega
    exact ⟨b, mb, eb, m, j, q2, M2, P2, rfl, h2, by omega⟩
/-! ### Lapses -/
theorem SW.lapse {w0 w : World} {b mb eb m n : Nat} {q : Qu} {M : Mo} {P : Pl} (h : SW w0 w b mb eb m q M P) (r : Rq n q M) (hn : n ≤ 10000) (hG : GW w0) (now : Int) :
    Calls Tryz.prog 33 #[.pointer (some ⟨b, 0, none⟩), .int .i64 now] w fun e w' => ∃ (p : Option Addr) (c : Nat) (q5 : Qu), e = .returned (.slice p (xlpL M now).length c) ∧ RowA sbC 54 w' p (xlpL M now) ∧ (∀ g' o, p = some ⟨g', o, none⟩ → ∃ cc ff, w'.heap[g']? = some (.cells cc 48 ff)) ∧ SW w0 w' b mb eb m q5 M P ∧ Rq n q5 (xlpM M now) ∧ KD w w' :=
  (lapse_any h.mq r.qo (by have := r.ql; omega) now (h.gw hG)).mono fun e w5 hla => by
    rcases hla with ⟨hm, he, _, k5⟩ | ⟨hm, p, c, L, he, hp, hs, ho, hq5, k5⟩
    · have e1 : xlpL M now = [] := by unfold xlpL; rw [if_neg (by rw [hm]; decide)]
      have e2 : xlpM M now = M := by unfold xlpM; rw [if_neg (by rw [hm]; decide)]
      rw [e1, e2]
      exact ⟨none, 0, q, he, RowA.nil, (fun g' o e => by cases e), h.k0 k5, r, .k0 k5⟩
    · obtain ⟨e1, r5⟩ := r.lap hm hp hs
      have hl : L.length = (xlpL M now).length := by rw [← e1, List.length_map]
      rw [e1, hl] at ho
      rw [hl] at he
      refine ⟨p, c, _, he, RowA.own ho sbC_length (by decide), fun g' o e => ?_, h.qop hq5 k5 (finA_ms ..), r5, h.mq.kd k5⟩
      subst e
      obtain ⟨cc, hcc⟩ := own_type ho (k := g') rfl
      exact ⟨cc, _, hcc⟩
end Go.Proofs.YtfacflbmlfbeeaaGreatDoor

/- The formulas of functions by the symbolic evaluator, and that each gives the call's contract. Written by a program (gen.py). No condition. -/
namespace Go.Proofs.YtfacflbmlfbeeaaGreatDoor
set_option maxRecDepth 100000
set_option linter.unusedVariables false

def VC_lstate (b : Nat) (m : Nat) (now : Int) (w : World) (R : Ending -> World -> Prop) : Prop := ∃ (I : List Value -> World -> Prop) (m_1 : List Value -> World -> Nat), I [Value.int .i64 0] w /\ ∀ (x : Int) (w' : World), I [Value.int .i64 x] w' -> bsp (decide (x < 7)) (CallsS Tryz.prog 30 #[.int .u8 (IntKind.u8.wrap x)] w' fun (e : Ending) (w'_1 : World) => ∃ (x_1 : ByteArray), e = .returned (.string x_1) /\ KeptL [] w' w'_1 /\ ∃ (I_1 : List Value -> World -> Prop) (m_2 : List Value -> World -> Nat), I_1 [Value.int .i64 (-1)] w'_1 /\ ∀ (x_2 : Int) (w'_2 : World), I_1 [Value.int .i64 x_2] w'_2 -> bsp (decide (x_2 <= 4)) (CallsS Tryz.prog 57 #[.pointer (some (Addr.mk m 0 none)), .string x_1, .int .i64 x_2] w'_2 fun (e : Ending) (w' : World) => ∃ (p : Option Addr) (n : Nat) (c : Nat), e = .returned (.slice p n c) /\ KeptL [] w'_2 w' /\ CallsS Tryz.prog 32
 #[.pointer (some (Addr.mk b 0 none)), .string x_1, .int .i64 x_2] w' fun (e : Ending) (w'_3 : World) => ∃ (p_1 : Option Addr) (n_1 : Nat) (c_1 : Nat), e = .returned (.slice p_1 n_1 c_1) /\ KeptL [] w' w'_3 /\ CallsS Tryz.prog 34 #[.slice p_1 n_1 c_1, .slice p n c] w'_3 fun (e : Ending) (w' : World) => ∃ (x : Bool), e = .returned (.bool x) /\ KeptL [] w'_3 w' /\ bsp (!!x) (CallsS Tryz.prog 15 #[.pointer (some (Addr.mk b 0 none)), .string x_1, .int .i64 x_2] w' fun (e : Ending) (w'_4 : World) => ∃ (x : Int), e = .returned (.int .i64 x) /\ KeptL [] w' w'_4 /\ bsp (false || x != (↑n : Int)) (R (.returned (.bool false)) w'_4) (I_1 [Value.int .i64 (IntKind.i64.wrap (x_2 + 1))] w'_4 /\ m_2 [Value.int .i64 (IntKind.i64.wrap (x_2 + 1))] w'_4 < m_2 [Value.int .i64 x_2] w'_2)) (KeptL [] w' w' /\ R (.returned (.bool false)) w'))
 (CallsS Tryz.prog 16 #[.pointer (some (Addr.mk b 0 none)), .string x_1] w'_2 fun (e : Ending) (w'_3 : World) => ∃ (p : Option Addr) (n : Nat) (c : Nat), e = .returned (.slice p n c) /\ KeptL [] w'_2 w'_3 /\ CallsS Tryz.prog 55 #[.pointer (some (Addr.mk m 0 none)), .string x_1] w'_3 fun (e : Ending) (w'_4 : World) => ∃ (p_1 : Option Addr) (n_1 : Nat) (c : Nat), e = .returned (.slice p_1 n_1 c) /\ KeptL [] w'_3 w'_4 /\ bsp ((↑n : Int) != (↑n_1 : Int)) (R (.returned (.bool false)) w'_4) (∃ (I_2 : List Value -> World -> Prop) (m : List Value -> World -> Nat), I_2 [Value.int .i64 0] w'_4 /\ ∀ (x_3 : Int) (w'_5 : World), I_2 [Value.int .i64 x_3] w'_5 -> bsp (decide (x_3 < (↑n : Int))) (nn true p fun (b o : Nat) => (0 <= x_3 /\ x_3 < (↑n : Int)) /\ ∃ (f : Nat -> Int), (∀ (W : World), Loc w.heap.size [] w'_5 W -> AtL W b (o + x_3.toNat * 16) (arrI .u8 f 16 0)) /\
 nn true p_1 fun (b o : Nat) => (0 <= x_3 /\ x_3 < (↑n_1 : Int)) /\ ∃ (f_1 : Nat -> Int), (∀ (W : World), Loc w.heap.size [] w'_5 W -> AtL W b (o + x_3.toNat * 16) (arrI .u8 f_1 16 0)) /\ ∃ (r : Bool), EqP Tryz.prog 45 (.agg (arrI .u8 f 16 0).toArray) (.agg (arrI .u8 f_1 16 0).toArray) r /\ bsp (!r) (∀ (W : World), Loc w.heap.size [] w'_5 W -> R (.returned (.bool false)) W) (∀ (W : World), Loc w.heap.size [] w'_5 W -> I_2 [Value.int .i64 (IntKind.i64.wrap (x_3 + 1))] W /\ m [Value.int .i64 (IntKind.i64.wrap (x_3 + 1))] W < m [Value.int .i64 x_3] w'_5)) (I [Value.int .i64 (IntKind.i64.wrap (x + 1))] w'_5 /\ m_1 [Value.int .i64 (IntKind.i64.wrap (x + 1))] w'_5 < m_1 [Value.int .i64 x] w')))) (∃ (I : List Value -> World -> Prop) (m_2 : List Value -> World -> Nat), I [Value.int .i64 0] w' /\ ∀ (x : Int) (w' : World), I [Value.int .i64 x] w' -> ∃ (p : Option Addr) (n : Nat),
 ∃ (c : Nat), w'.cell? (Addr.mk m (0 + 3) none) = some (.slice p n c) /\ bsp (decide (x < (↑n : Int))) (∃ (p : Option Addr) (n : Nat) (c : Nat), w'.cell? (Addr.mk m (0 + 3) none) = some (.slice p n c) /\ nn true p fun (b_1 o : Nat) => (0 <= x /\ x < (↑n : Int)) /\ ∃ (f : Nat -> Int) (x_1 : ByteArray), ∃ (x_2 : ByteArray) (x_3 : Int), ∃ (x_4 : Int) (f_1 : Nat -> Int), ∃ (x_5 : Int) (x_6 : ByteArray), ∃ (x_7 : Bool) (f_2 : Nat -> Int) (x_8 : Int), AtL w' b_1 (o + x.toNat * 72) (arrI .u8 f 32 0 ++ ([Value.string x_1, .string x_2, .int .i64 x_3, .int .i64 x_4] ++ arrI .u8 f_1 16 0 ++ ([Value.int .i64 x_5, .string x_6, .bool x_7] ++ arrI .u8 f_2 16 0 ++ [Value.int .i64 x_8]))) /\ ∀ (n : Nat) (W : World), Loc w.heap.size [Blk.mk n 91 (arrI .u8 f 32 0 ++ ([Value.string x_1,
 .string x_2, .int .i64 x_3, .int .i64 x_4] ++ arrI .u8 f_1 16 0 ++ ([Value.int .i64 x_5, .string x_6, .bool x_7] ++ arrI .u8 f_2 16 0 ++ [Value.int .i64 x_8]))) (wrM 2)] w' W -> CallsS Tryz.prog 21 #[.pointer (some (Addr.mk b 0 none)), .agg (arrI .u8 f 32 0).toArray, .string x_1] W fun (e : Ending) (w'_1 : World) => ∃ (f_3 : Nat -> Int) (x_9 : ByteArray), ∃ (x_10 : ByteArray) (x_11 : Int), ∃ (x_12 : Int) (f_4 : Nat -> Int), ∃ (x_13 : Int) (x_14 : ByteArray) (x_15 : Bool), e = .returned (.tuple #[.agg (arrI .u8 f_3 32 0 ++ ([Value.string x_9, .string x_10, .int .i64 x_11, .int .i64 x_12] ++ arrI .u8 f_4 16 0 ++ [Value.int .i64 x_13, .string x_14])).toArray, .bool x_15]) /\ KeptL [n] W w'_1 /\ ∀ (n_1 : Nat) (W : World), Loc w.heap.size [Blk.mk n_1 48 (arrI .u8 f_3 32 0 ++ ([Value.string x_9, .string x_10, .int .i64 x_11,
 .int .i64 x_12] ++ arrI .u8 f_4 16 0 ++ [Value.int .i64 x_13, .string x_14])) (wrM 2), Blk.mk n 91 (arrI .u8 f 32 0 ++ ([Value.string x_1, .string x_2, .int .i64 x_3, .int .i64 x_4] ++ arrI .u8 f_1 16 0 ++ ([Value.int .i64 x_5, .string x_6, .bool x_7] ++ arrI .u8 f_2 16 0 ++ [Value.int .i64 x_8]))) 0] w'_1 W -> CallsS Tryz.prog 41 #[.pointer (some (Addr.mk b 0 none)), .agg (arrI .u8 f 32 0).toArray, .string x_1, .int .i64 now] W fun (e : Ending) (w'_2 : World) => ∃ (f_5 : Nat -> Int) (x_16 : Bool), e = .returned (.tuple #[.agg (arrI .u8 f_5 16 0).toArray, .bool x_16]) /\ KeptL [n_1, n] W w'_2 /\ ∀ (n_2 : Nat) (W : World), Loc w.heap.size [Blk.mk n_2 45 (arrI .u8 f_5 16 0) (wrM 2), Blk.mk n_1 48 (arrI .u8 f_3 32 0 ++ ([Value.string x_9, .string x_10, .int .i64 x_11, .int .i64 x_12] ++ arrI .u8 f_4 16 0 ++ [Value.int .i64 x_13, .string x_14])) 0, Blk.mk n 91
 (arrI .u8 f 32 0 ++ ([Value.string x_1, .string x_2, .int .i64 x_3, .int .i64 x_4] ++ arrI .u8 f_1 16 0 ++ ([Value.int .i64 x_5, .string x_6, .bool x_7] ++ arrI .u8 f_2 16 0 ++ [Value.int .i64 x_8]))) 0] w'_2 W -> CallsS Tryz.prog 60 #[.agg (arrI .u8 f 32 0 ++ ([Value.string x_1, .string x_2, .int .i64 x_3, .int .i64 x_4] ++ arrI .u8 f_1 16 0 ++ ([Value.int .i64 x_5, .string x_6, .bool x_7] ++ arrI .u8 f_2 16 0 ++ [Value.int .i64 x_8]))).toArray, .int .i64 now] W fun (e : Ending) (w'_3 : World) => ∃ (f_6 : Nat -> Int) (x_17 : Bool), e = .returned (.tuple #[.agg (arrI .u8 f_6 16 0).toArray, .bool x_17]) /\ KeptL [n_2, n_1, n] W w'_3 /\ ∀ (n_3 : Nat) (W : World), Loc w.heap.size [Blk.mk n_3 45 (arrI .u8 f_6 16 0) (wrM 2), Blk.mk n_2 45 (arrI .u8 f_5 16 0) 0, Blk.mk n_1 48 (arrI .u8 f_3 32 0 ++ ([Value.string x_9, .string x_10, .int .i64 x_11,
 .int .i64 x_12] ++ arrI .u8 f_4 16 0 ++ [Value.int .i64 x_13, .string x_14])) 0, Blk.mk n 91 (arrI .u8 f 32 0 ++ ([Value.string x_1, .string x_2, .int .i64 x_3, .int .i64 x_4] ++ arrI .u8 f_1 16 0 ++ ([Value.int .i64 x_5, .string x_6, .bool x_7] ++ arrI .u8 f_2 16 0 ++ [Value.int .i64 x_8]))) 0] w'_3 W -> CallsS Tryz.prog 36 #[.int .i64 now] W fun (e : Ending) (w'_4 : World) => ∃ (x_18 : Bool), e = .returned (.bool x_18) /\ KeptL [n_3, n_2, n_1, n] W w'_4 /\ bsp (!x_18) (∃ (f_7 : Nat -> Int) (x_19 : ByteArray), ∃ (x_20 : ByteArray) (x_21 : Int), ∃ (x_22 : Int) (f_8 : Nat -> Int), ∃ (x_23 : Int) (x_24 : ByteArray), gimp (!!x_15) (∀ (W : World), Loc w.heap.size [Blk.mk n_3 45 [Value.int .u8 0, .int .u8 0, .int .u8 0, .int .u8 0, .int .u8 0, .int .u8 0, .int .u8 0, .int .u8 0, .int .u8 0, .int .u8 0, .int .u8 0, .int .u8 0, .int .u8 0, .int .u8 0, .int .u8 0, .int .u8 0]
 (wrM 0), Blk.mk n_2 45 (arrI .u8 f_5 16 0) 0, Blk.mk n_1 48 (arrI .u8 f_3 32 0 ++ ([Value.string x_9, .string x_10, .int .i64 x_11, .int .i64 x_12] ++ arrI .u8 f_4 16 0 ++ [Value.int .i64 x_13, .string x_14])) 0, Blk.mk n 91 (arrI .u8 f 32 0 ++ ([Value.string x_1, .string x_2, .int .i64 x_3, .int .i64 x_4] ++ arrI .u8 f_1 16 0 ++ ([Value.int .i64 x_5, .string x_6, .bool x_7] ++ arrI .u8 f_2 16 0 ++ [Value.int .i64 x_8]))) 0] w'_4 W -> AtL W n 0 (arrI .u8 f_7 32 0 ++ ([Value.string x_19, .string x_20, .int .i64 x_21, .int .i64 x_22] ++ arrI .u8 f_8 16 0 ++ [Value.int .i64 x_23, .string x_24]))) /\ ∃ (r : Bool), gimp (!!x_15) (EqP Tryz.prog 48 (.agg (arrI .u8 f_3 32 0 ++ ([Value.string x_9, .string x_10, .int .i64 x_11, .int .i64 x_12] ++ arrI .u8 f_4 16 0 ++ [Value.int .i64 x_13, .string x_14])).toArray) (.agg (arrI .u8 f_7 32 0 ++ ([Value.string x_19, .string x_20, .int .i64 x_21,
 .int .i64 x_22] ++ arrI .u8 f_8 16 0 ++ [Value.int .i64 x_23, .string x_24])).toArray) r) /\ ∃ (r_1 : Bool), gimp (!(!x_15 || !r)) (EqP Tryz.prog 45 (.agg (arrI .u8 f_5 16 0).toArray) (.agg #[.int .u8 0, .int .u8 0, .int .u8 0, .int .u8 0, .int .u8 0, .int .u8 0, .int .u8 0, .int .u8 0, .int .u8 0, .int .u8 0, .int .u8 0, .int .u8 0, .int .u8 0, .int .u8 0, .int .u8 0, .int .u8 0]) r_1) /\ bsp (!x_15 || !r || !r_1 || !x_16 == false) (∀ (W : World), Loc w.heap.size [Blk.mk n_3 45 [Value.int .u8 0, .int .u8 0, .int .u8 0, .int .u8 0, .int .u8 0, .int .u8 0, .int .u8 0, .int .u8 0, .int .u8 0, .int .u8 0, .int .u8 0, .int .u8 0, .int .u8 0, .int .u8 0, .int .u8 0, .int .u8 0] (wrM 0), Blk.mk n_2 45 (arrI .u8 f_5 16 0) 0, Blk.mk n_1 48 (arrI .u8 f_3 32 0 ++ ([Value.string x_9, .string x_10, .int .i64 x_11, .int .i64 x_12] ++ arrI .u8 f_4 16 0 ++ [Value.int .i64 x_13, .string x_14])) 0,
 Blk.mk n 91 (arrI .u8 f 32 0 ++ ([Value.string x_1, .string x_2, .int .i64 x_3, .int .i64 x_4] ++ arrI .u8 f_1 16 0 ++ ([Value.int .i64 x_5, .string x_6, .bool x_7] ++ arrI .u8 f_2 16 0 ++ [Value.int .i64 x_8]))) 0] w'_4 W -> R (.returned (.bool false)) W) (∀ (W : World), Loc w.heap.size [Blk.mk n_3 45 [Value.int .u8 0, .int .u8 0, .int .u8 0, .int .u8 0, .int .u8 0, .int .u8 0, .int .u8 0, .int .u8 0, .int .u8 0, .int .u8 0, .int .u8 0, .int .u8 0, .int .u8 0, .int .u8 0, .int .u8 0, .int .u8 0] (wrM 0), Blk.mk n_2 45 (arrI .u8 f_5 16 0) 0, Blk.mk n_1 48 (arrI .u8 f_3 32 0 ++ ([Value.string x_9, .string x_10, .int .i64 x_11, .int .i64 x_12] ++ arrI .u8 f_4 16 0 ++ [Value.int .i64 x_13, .string x_14])) 0, Blk.mk n 91 (arrI .u8 f 32 0 ++ ([Value.string x_1, .string x_2, .int .i64 x_3, .int .i64 x_4] ++ arrI .u8 f_1 16 0 ++ ([Value.int .i64 x_5, .string x_6,
 .bool x_7] ++ arrI .u8 f_2 16 0 ++ [Value.int .i64 x_8]))) 0] w'_4 W -> I [Value.int .i64 (IntKind.i64.wrap (x + 1))] W /\ m_2 [Value.int .i64 (IntKind.i64.wrap (x + 1))] W < m_2 [Value.int .i64 x] w')) (∃ (f : Nat -> Int) (x_19 : ByteArray), ∃ (x_20 : ByteArray) (x_21 : Int), ∃ (x_22 : Int) (f_7 : Nat -> Int), ∃ (x_23 : Int) (x_24 : ByteArray), gimp (!!x_15) (AtL w'_4 n 0 (arrI .u8 f 32 0 ++ ([Value.string x_19, .string x_20, .int .i64 x_21, .int .i64 x_22] ++ arrI .u8 f_7 16 0 ++ [Value.int .i64 x_23, .string x_24]))) /\ ∃ (r : Bool), gimp (!!x_15) (EqP Tryz.prog 48 (.agg (arrI .u8 f_3 32 0 ++ ([Value.string x_9, .string x_10, .int .i64 x_11, .int .i64 x_12] ++ arrI .u8 f_4 16 0 ++ [Value.int .i64 x_13, .string x_14])).toArray) (.agg (arrI .u8 f 32 0 ++ ([Value.string x_19, .string x_20, .int .i64 x_21, .int .i64 x_22] ++ arrI .u8 f_7 16 0 ++ [Value.int .i64 x_23,
 .string x_24])).toArray) r) /\ ∃ (r_1 : Bool), gimp (!(!x_15 || !r)) (EqP Tryz.prog 45 (.agg (arrI .u8 f_5 16 0).toArray) (.agg (arrI .u8 f_6 16 0).toArray) r_1) /\ bsp (!x_15 || !r || !r_1 || !x_16 == x_17) (R (.returned (.bool false)) w'_4) (I [Value.int .i64 (IntKind.i64.wrap (x + 1))] w'_4 /\ m_2 [Value.int .i64 (IntKind.i64.wrap (x + 1))] w'_4 < m_2 [Value.int .i64 x] w'))) (CallsS Tryz.prog 21 #[.pointer (some (Addr.mk b 0 none)), .agg #[.int .u8 9, .int .u8 0, .int .u8 0, .int .u8 0, .int .u8 0, .int .u8 0, .int .u8 0, .int .u8 0, .int .u8 0, .int .u8 0, .int .u8 0, .int .u8 0, .int .u8 0, .int .u8 0, .int .u8 0, .int .u8 0, .int .u8 0, .int .u8 0, .int .u8 0, .int .u8 0, .int .u8 0, .int .u8 0, .int .u8 0, .int .u8 0, .int .u8 0, .int .u8 0, .int .u8 0, .int .u8 0, .int .u8 0, .int .u8 0, .int .u8 0, .int .u8 0], .string (ByteArray.mk #[103])]
 w' fun (e : Ending) (w'_1 : World) => ∃ (f : Nat -> Int) (x : ByteArray), ∃ (x_1 : ByteArray) (x_2 : Int), ∃ (x_3 : Int) (f_1 : Nat -> Int), ∃ (x_4 : Int) (x_5 : ByteArray) (x_6 : Bool), e = .returned (.tuple #[.agg (arrI .u8 f 32 0 ++ ([Value.string x, .string x_1, .int .i64 x_2, .int .i64 x_3] ++ arrI .u8 f_1 16 0 ++ [Value.int .i64 x_4, .string x_5])).toArray, .bool x_6]) /\ KeptL [] w' w'_1 /\ ∀ (n : Nat) (W : World), Loc w.heap.size [Blk.mk n 48 (arrI .u8 f 32 0 ++ ([Value.string x, .string x_1, .int .i64 x_2, .int .i64 x_3] ++ arrI .u8 f_1 16 0 ++ [Value.int .i64 x_4, .string x_5])) (wrM 2)] w'_1 W -> R (.returned (.bool !x_6)) W))
theorem vc_lstate (b : Nat) (m : Nat) (now : Int) (w : World) (R : Ending -> World -> Prop) (h : VC_lstate b m now w R) : Calls Tryz.prog 42 ([Value.pointer (some { block := b, off := 0 }), .pointer (some { block := m, off := 0 }), .int .i64 now] : List Value).toArray w R :=
 calls_of_exec2' (loops := [(2, [(7, Ck.int .i64)]), (6, [(9, Ck.int .i64)]), (15, [(13, Ck.int .i64)]), (20, [(14, Ck.int .i64)])]) (tails := []) (joins := []) (boxes := []) (rngs := []) (c := Tryz.f42.body.getD .skip) pur1_ok Tryz.func42 (by kernel_rfl) (by kernel_rfl) h

def VC_lstates (p : Option Addr) (n : Nat) (c : Nat) (now : Int) (w : World) (R : Ending -> World -> Prop) : Prop := CallsS Tryz.prog 14 #[] w fun (e : Ending) (w' : World) => ∃ (x : Bool), e = .returned (.bool x) /\ KeptL [] w w' /\ bsp (!x) (R (.returned (.bool false)) w') (CallsS Tryz.prog 28 #[.slice p n c, .int .i64 30] w' fun (e : Ending) (w'_1 : World) => ∃ (x : Option Addr) (x_1 : Option Addr) (x_2 : Bool), e = .returned (.tuple #[.pointer x, .pointer x_1, .bool x_2]) /\ KeptL [] w' w'_1 /\ bsp x_2 (CallsS Tryz.prog 42 #[.pointer x, .pointer x_1, .int .i64 now] w'_1 fun (e : Ending) (w' : World) => ∃ (x : Bool), e = .returned (.bool x) /\ KeptL [] w'_1 w' /\ R (.returned (.bool (true && x))) w') (KeptL [] w'_1 w'_1 /\ R (.returned (.bool false)) w'_1))
theorem vc_lstates (p : Option Addr) (n : Nat) (c : Nat) (now : Int) (w : World) (R : Ending -> World -> Prop) (h : VC_lstates p n c now w R) : Calls Tryz.prog 10 ([Value.slice p n c, .int .i64 now] : List Value).toArray w R :=
 calls_of_exec2' (loops := []) (tails := []) (joins := []) (boxes := []) (rngs := []) (c := Tryz.f10.body.getD .skip) pur1_ok Tryz.func10 (by kernel_rfl) (by kernel_rfl) h

end Go.Proofs.YtfacflbmlfbeeaaGreatDoor

/- Chapter 39: the contracts of the law's state and of ModerationStates. Bytes are bytes; numbers can be written; the library's variable MaxLen holds a number. -/
namespace Go.Proofs.YtfacflbmlfbeeaaGreatDoor
open Go.RowKit Go.Sort Go.Maps

/-- No identity begins with a byte other than zero. -/
def IdZ (M : Mo) : Prop := ∀ y ∈ M.es, y.s.id 0 = 0
theorem IdZ.up {M : Mo} (h : IdZ M) (k : Ky) {f : En → En} (hf : ∀ y, (f y).s.id = y.s.id) : IdZ (M.up k f) := fun z hz => by
  obtain ⟨y, hy, rfl⟩ := List.mem_map.1 hz
  split
  · rw [hf]; exact h y hy
  · exact h y hy
theorem IdZ.step {k i g a now : Int} {t : ByteArray} {M M' : Mo} (h : IdZ M) (hs : stpM k i g a now t M M') : IdZ M' := by
  unfold stpM at hs
  split at hs
  · rcases hs with ⟨_, L, hp, rfl⟩ | ⟨_, rfl⟩
    · intro y hy
      rcases List.mem_cons.1 (hp.subset hy) with rfl | hy
      · rfl
      · exact h y hy
    · exact h
  · subst hs; unfold xclM; split
    · exact h.up _ fun _ => rfl
    · exact h
  · subst hs; unfold xrlM; split
    · exact h.up _ fun _ => rfl
    · exact h
  · subst hs; unfold xdcM; split
    · exact h.up _ fun _ => rfl
    · exact h
  · subst hs; unfold xdcM; split
    · exact h.up _ fun _ => rfl
    · exact h
  · subst hs; unfold xlpM; split
    · intro z hz
      obtain ⟨y, hy, rfl⟩ := List.mem_map.1 hz
      unfold lpF
      split
      · exact h y hy
      · exact h y hy
    · exact h
  · subst hs
    intro y hy
    exact h y (List.mem_filter.1 hy).1
  · rcases hs with ⟨_, X, _, _, rfl⟩ | ⟨_, rfl⟩ <;> exact h
theorem Chn.idz {r d : Int} {L : List OpZ} : ∀ {j : Nat} {M : Mo}, Chn r d L j M → IdZ M
  | 0, M, h => fun y hy => by
    have h : M0 r d M := h
    rw [h.es] at hy; cases hy
  | j + 1, _, ⟨M, x, h, hx, hs, _⟩ => (Chn.idz h).step hs
theorem fdL_no {M : Mo} (h : IdZ M) : fdL M.es (idI (k39 9), kG) = none := by
  cases hf : fdL M.es (idI (k39 9), kG) with
  | none => rfl
  | some y =>
    have hm := List.mem_of_find?_eq_some hf
    have hk : y.s.ky = (idI (k39 9), kG) := by simpa using List.find?_some hf
    have h1 := congrArg (fun l : List Int => l[0]?) (Prod.mk.inj hk).1
    have h2 := h y hm
    simp [idI, k39] at h1
    omega
theorem inE_le {y : En} {now : Int} (h : inE y now = true) : y.le = true := by
  unfold inE at h
  simp at h
  exact h.1
theorem w8_nn (x : Int) : 0 ≤ IntKind.u8.wrap x := by unfold IntKind.wrap; simp [IntKind.bits, IntKind.signed]; omega
set_option maxRecDepth 100000 in
set_option maxHeartbeats 16000000 in
theorem lstate_any {w0 w : World} {b mb eb m n0 : Nat} {q : Qu} {M : Mo} {P : Pl} (h : SW w0 w b mb eb m q M P) (r : Rq n0 q M) (hn0 : n0 ≤ 5000) (hz : IdZ M) (hG : GW w0) (now : Int) :
    Calls Tryz.prog 42 #[.pointer (some ⟨b, 0, none⟩), .pointer (some ⟨m, 0, none⟩), .int .i64 now] w fun e w' => e = .returned (.bool true) ∧ K0 w w' := by
  have hel := r.el
  have hgl := r.gl
  have om := r.mo (by omega)
  have lsl : ∀ g st, (M.ls g st).length ≤ 5000 := fun g st => by
    unfold Mo.ls
    rw [List.length_map]
    have := List.length_filter_le (lsP g st) M.es
    omega
  have lso : ∀ g st, ∀ x ∈ M.ls g st, x.OK := fun g st x hx => by
    unfold Mo.ls at hx
    obtain ⟨y, hy, rfl⟩ := List.mem_map.1 hx
    exact (om.es y (List.mem_filter.1 hy).1).1.s
  refine vc_lstate b m now w _ ?_
  refine ⟨fun vs wx => ∃ i : Nat, vs = [.int .i64 (i : Int)] ∧ i ≤ 7 ∧ K0 w wx, fun vs _ => (match vs with | .int _ a :: _ => 7 - a.toNat | _ => 0), ⟨0, rfl, by omega, .refl _ _⟩, ?_⟩
  rintro x1 w1 ⟨i, hv, hi, k1⟩
  simp only [List.cons.injEq, Value.int.injEq, true_and, and_true] at hv
  subst hv
  refine bsp_intro (fun hlt => ?_) (fun hge => ?_)
  · have hlt : i < 7 := by simp at hlt; omega
    refine ⟨(lname_any (IntKind.u8.wrap (i : Int)) (w8_nn _) w1).mono fun e w2 ⟨he, k2⟩ => ⟨_, he, .of_k0 k2, ?_⟩⟩
    have hgs := nmG_sz (IntKind.u8.wrap (i : Int))
    generalize nmG (IntKind.u8.wrap (i : Int)) = g at hgs
    have k02 := k1.trans k2
    refine ⟨fun vs wx => ∃ j : Nat, vs = [.int .i64 ((j : Int) - 1)] ∧ j ≤ 6 ∧ K0 w wx, fun vs _ => (match vs with | .int _ a :: _ => 6 - (a + 1).toNat | _ => 0), ⟨0, rfl, by omega, k02⟩, ?_⟩
    rintro x2 w3 ⟨j, hv, hj, k3⟩
    simp only [List.cons.injEq, Value.int.injEq, true_and, and_true] at hv
    subst hv
    have h3 := h.k0 k3
    refine bsp_intro (fun hlt2 => ?_) (fun hge2 => ?_)
    · have hlt2 : j < 6 := by simp at hlt2; omega
      refine ⟨(xlist_any h3.mr (by omega) g ((j : Int) - 1)).mono fun e w4 ⟨⟨p4, c4, he, ho4⟩, k4⟩ => ⟨_, _, _, he, .of_k0 k4, ?_⟩⟩
      have h4 := h3.k0 k4
      refine ⟨(h4.list r (by omega) hG g ((j : Int) - 1)).mono fun e w5 ⟨⟨p5, c5, he, ho5⟩, k5⟩ => ⟨_, _, _, he, .of_k0 k5, ?_⟩⟩
      have h5 := h4.k0 k5
      refine ⟨(xsame_any (M.ls g ((j : Int) - 1)) p5 p4 c5 c4 w5 (RowA.own ho5 sbC_length (by decide)) ((RowA.own ho4 sbC_length (by decide)).k0 k5) (by have := lsl g ((j : Int) - 1); omega) (lso g ((j : Int) - 1))).mono fun e w6 ⟨he, k6⟩ => ⟨_, he, .of_k0 k6, bsp_intro (fun _ => ?_) (fun h => by cases h)⟩⟩
      have h6 := h5.k0 k6
      refine ⟨(h6.count r (by omega) hG g ((j : Int) - 1)).mono fun e w7 ⟨he, k7⟩ => ⟨_, he, .of_k0 k7, bsp_intro (fun h => by simp at h) (fun _ => ?_)⟩⟩
      rw [wr64 (by omega) (by omega)]
      exact ⟨⟨j + 1, by simp, hlt2, (((k3.trans k4).trans k5).trans k6).trans k7⟩, by show 6 - ((j : Int) - 1 + 1 + 1).toNat < 6 - ((j : Int) - 1 + 1).toNat; omega⟩
    refine ⟨(h3.mods r g hgs).mono fun e w4 ⟨⟨p4, c4, he, ho4⟩, k4⟩ => ⟨_, _, _, he, .of_k0 k4, ?_⟩⟩
    have h4 := h3.k0 k4
    refine ⟨(xmods_any h4.mr (by omega) g).mono fun e w5 ⟨he, k5⟩ => ⟨_, _, _, he, .of_k0 k5, bsp_intro (fun h => by simp at h) (fun _ => ?_)⟩⟩
    have h5 := h4.k0 k5
    have hmd := om.md g
    have hR4 : RowA auC 16 w5 p4 (M.md g).l := (RowA.own ho4 auC_length (by decide)).k0 k5
    have hR5 := h5.mr.rowM g
    refine ⟨fun vs wx => ∃ j : Nat, vs = [.int .i64 (j : Int)] ∧ j ≤ (M.md g).l.length ∧ K0 w5 wx, fun vs _ => (match vs with | .int _ a :: _ => (M.md g).l.length - a.toNat | _ => 0), ⟨0, rfl, by omega, .refl _ _⟩, ?_⟩
    rintro x3 w6 ⟨jj, hv, hjj, k6⟩
    simp only [List.cons.injEq, Value.int.injEq, true_and, and_true] at hv
    subst hv
    refine bsp_intro (fun hlt3 => ?_) (fun _ => ?_)
    · have hlt3 : jj < (M.md g).l.length := by simp at hlt3; omega
      obtain ⟨y, b1, o1, hy, hp1, hat1⟩ := (hR4.k0 k6).get hlt3
      obtain ⟨y2, b2, o2, hy2, hp2, hat2⟩ := (hR5.k0 k6).get hlt3
      rw [hy] at hy2
      cases hy2
      have hby := hmd.1 y (List.mem_of_getElem? hy)
      rw [Int.toNat_natCast]
      refine nn_is hp1 ⟨⟨by omega, by omega⟩, y, fun W hW => hat1.k0 (hW.kk rfl), nn_is hp2 ⟨⟨by omega, by omega⟩, y, fun W hW => hat2.k0 (hW.kk rfl), _, auEq hby hby, bsp_intro (fun h => by simp at h) (fun _ W hW => ?_)⟩⟩
      rw [inc64 (by omega)]
      exact ⟨⟨jj + 1, rfl, hlt3, k6.trans (hW.kk rfl)⟩, by simp only [Int.toNat_natCast]; omega⟩
    · rw [inc64 (by omega)]
      exact ⟨⟨i + 1, rfl, hlt, ((k3.trans k4).trans k5).trans k6⟩, by simp only [Int.toNat_natCast]; omega⟩
  refine ⟨fun vs wx => ∃ i : Nat, vs = [.int .i64 (i : Int)] ∧ i ≤ M.es.length ∧ K0 w wx, fun vs _ => (match vs with | .int _ a :: _ => M.es.length - a.toNat | _ => 0), ⟨0, rfl, by omega, k1⟩, ?_⟩
  rintro x2 w2 ⟨ii, hv, hii, k2⟩
  simp only [List.cons.injEq, Value.int.injEq, true_and, and_true] at hv
  subst hv
  have h2 := h.k0 k2
  refine ⟨_, _, _, h2.mr.cE, bsp_intro (fun hlt => ?_) (fun _ => ?_)⟩
  · have hlt : ii < M.es.length := by simp at hlt; omega
    obtain ⟨y, bb, o, hy, hp, hat⟩ := h2.mr.rowE.get hlt
    have hym := List.mem_of_getElem? hy
    have oy := (om.es y hym).1
    have hyg := (om.es y hym).2
    have hfd : fdL M.es y.s.ky = some y := (fd_iff r.dis).2 ⟨hym, rfl⟩
    have hWin : hdW y now = inE y now := by
      unfold hdW
      cases hin : inE y now with
      | false => simp
      | true => rw [r.le y hym (inE_le hin)]; rfl
    rw [Int.toNat_natCast]
    refine ⟨_, _, _, h2.mr.cE, nn_is hp ⟨⟨by omega, by omega⟩, y.s.id, y.s.g, y.s.tx, y.s.r, y.s.st, y.s.mo, y.s.de, y.s.rs, y.le, y.ho, y.si, hat, fun n W3 hW3 => ?_⟩⟩
    have k3 := k2.trans (hW3.kk rfl : K0 w2 W3)
    have a3 := hW3.cells 0 rfl
    clear hW3
    have hget := (h.k0 k3).get r y.s.id oy.s.id y.s.g (by omega)
    rw [show (idI y.s.id, y.s.g) = y.s.ky from rfl, hfd] at hget
    refine ⟨hget.mono fun e w4 ⟨he, k4⟩ => ⟨y.s.id, y.s.g, y.s.tx, y.s.r, y.s.st, y.s.mo, y.s.de, y.s.rs, true, he, .of_k0 k4, fun n1 W5 hW5 => ?_⟩⟩
    have k5 := (k3.trans k4).trans (hW5.kk rfl : K0 w4 W5)
    clear hW5
    refine ⟨((h.k0 k5).hld r y.s.id oy.s.id y.s.g (by omega) now hfd).mono fun e w6 ⟨he, k6⟩ => ⟨_, _, he, .of_k0 k6, fun n2 W7 hW7 => ?_⟩⟩
    have k7 := (k5.trans k6).trans (hW7.kk rfl : K0 w6 W7)
    clear hW7
    refine ⟨(xholder_any y now oy.si W7).mono fun e w8 ⟨he, k8⟩ => ⟨_, _, he, .of_k0 k8, fun n3 W9 hW9 => ?_⟩⟩
    have k9 := (k7.trans k8).trans (hW9.kk rfl : K0 w8 W9)
    have a9 := hW9.cells 3 rfl
    clear hW9
    refine ⟨(xmin_any now W9).mono fun e w10 ⟨he, k10⟩ => ⟨_, he, .of_k0 k10, ?_⟩⟩
    have k11 := k9.trans k10
    have hfA : BY (if (minB now && inE y now) = true then y.ho else fun _ => 0) := by
      split
      · exact oy.ho
      · exact by0
    refine bsp_intro (fun hm => ?_) (fun hm => ?_)
    · have hm : minB now = false := minB_ft hm
      have e0 : (if (minB now && inE y now) = true then y.ho else fun _ => 0) = fun _ => 0 := by rw [hm]; rfl
      refine ⟨y.s.id, y.s.g, y.s.tx, y.s.r, y.s.st, y.s.mo, y.s.de, y.s.rs, gimp_intro fun _ W hW => AtL_block (hW.cells 3 rfl) rfl, _, gimp_intro fun _ => sbEq oy.s oy.s, _, gimp_intro fun _ => auEq hfA by0, bsp_intro (fun hbad => ?_) (fun _ W hW => ?_)⟩
      · exfalso
        rw [e0, hm] at hbad
        simp at hbad
      · rw [inc64 (by omega)]
        exact ⟨⟨ii + 1, rfl, hlt, hW.k0 k11⟩, by simp only [Int.toNat_natCast]; omega⟩
    · have hm : minB now = true := minB_ff hm
      have e0 : (if (minB now && inE y now) = true then y.ho else fun _ => 0) = hdA y now := by
        unfold hdA
        rw [hm, hWin, Bool.true_and]
      refine ⟨y.s.id, y.s.g, y.s.tx, y.s.r, y.s.st, y.s.mo, y.s.de, y.s.rs, gimp_intro fun _ => AtL_block (k10.blk a9 (fun h => h)) rfl, _, gimp_intro fun _ => sbEq oy.s oy.s, _, gimp_intro fun _ => auEq hfA (hdA_by oy now), bsp_intro (fun hbad => ?_) (fun _ => ?_)⟩
      · exfalso
        rw [e0, hWin, hm] at hbad
        simp at hbad
      · rw [inc64 (by omega)]
        exact ⟨⟨ii + 1, rfl, hlt, k11⟩, by simp only [Int.toNat_natCast]; omega⟩
  · have hget := h2.get r (k39 9) (k39_BY (by decide)) kG (by decide)
    rw [fdL_no hz] at hget
    refine ⟨hget.mono fun e w3 ⟨he, k3⟩ => ⟨enz.s.id, enz.s.g, enz.s.tx, enz.s.r, enz.s.st, enz.s.mo, enz.s.de, enz.s.rs, false, he, .of_k0 k3, fun n W hW => ⟨rfl, (k2.trans k3).trans (hW.kk rfl)⟩⟩⟩
theorem lstates_any (p : Option Addr) (L : List OpZ) (c : Nat) (now : Int) (w : World) (hR : RowA opC39 6 w p L) (hL : ∀ x ∈ L, x.R) (hl : L.length ≤ 4611686018427387904) (hG : GW w) :
    Calls Tryz.prog 10 #[.slice p L.length c, .int .i64 now] w fun e w' => e = .returned (.bool true) ∧ K0 w w' := by
  refine vc_lstates p L.length c now w _ ⟨(known_any w hG).mono fun e w1 ⟨he, k1⟩ => ⟨_, he, .of_k0 k1, bsp_intro (fun h => by cases h) (fun _ => ?_)⟩⟩
  have hG1 : GW w1 := hG.kp k1 (fun h => h)
  refine ⟨(lplay_any p L c 30 w1 (hR.k0 k1) hL hl (by decide) hG1).mono fun e w2 ⟨b, mb, eb, m, j, q, M, P, he, h2, hjm⟩ => ⟨_, _, _, he, .of_k0 h2.sw.k, bsp_intro (fun _ => ?_) (fun h => by cases h)⟩⟩
  exact ⟨(lstate_any h2.sw h2.rq (by omega) h2.ch.idz hG1 now).mono fun e w3 ⟨he, k3⟩ => ⟨_, he, .of_k0 k3, rfl, k1.trans (h2.sw.k.trans k3)⟩⟩

end Go.Proofs.YtfacflbmlfbeeaaGreatDoor
